/-
  Top: TopDeep: whatever the input, the law answers true (part 42)
-/
import Derived.Test.YtpjdgifhhnjclaaGreatDoorM28
set_option linter.unusedVariables false
set_option linter.unusedSimpArgs false
set_option maxHeartbeats 4000000
set_option maxRecDepth 10000
namespace Go.Ex
open Go.Proofs
attribute [local irreducible] CH CsP word kindT
section
variable {I:In}{M:Loc}{g:Gt}{N:Int}{t:Bool}{n:Int}
def rwK3(x:RS):KV:=match x.o with
 |none=>.val (.slice none 0 0)
 |some (b,c)=>.osl 903 b x.ps.length c
def rwC3(x:RS):Chs:=match x.o with
 |none=>[]
 |some (b,c)=>[(903,b,.arr 63 ptrR x.ps c)]
theorem Wd.headB'{I:In}{M:Loc}{cE:List Nat}{hE h0:Heap}{cap:List Nat}{its:List It}{b:Nat}{x:Nd}(W:Wd I M cE hE h0 cap (.one (some ⟨b,0,none⟩) x::its)):∃ b',b'=b:=⟨b,rfl⟩
theorem file_con(ok:InOk I)(H:Hyp I M g N)(hn:0≤n∧n≤I.L)(hN:32*(I.L+1-n)+23≤N):Con I M 56 [] (fileS I g t n) t n 1:=fun br h hs hB=>by
 refine eP (rep:=rep) (m:=1) (ex:=[0,2,3,4,5,6,7,8,19,31,42,51]) (cu:=[]) (args:=[.own 900 br 0]) tO Tryz.func56 rfl (by decide) (rs:=[.tmp 2]) rfl rfl rfl hs ?_
 have W:=Wd.start ok hB
 have hl:=ok.len
 ((repeat' ((conv=>whnf);(first|(refine CK.box 901 _ (fun h1 hs=>open_k hs rfl 1) ?_;intro bo hbo)|(refine CK.want W (by decide) ⟨by omega,by omega⟩ rfl rfl (fun hx=>?_) (fun hx hm=>?_);rotate_left)|(refine CK.con W (name_con ok ⟨by omega,by omega⟩) rfl rfl (fun x hx=>?_) (fun x m bq h' hx hm1 hm2=>?_);rotate_left;(conv=>whnf);intro W)|fail)));all_goals (try (conv=>whnf)))
 all_goals first|(simp [fileS,bnd,want, *];done)|skip
 obtain⟨xn,e0⟩:∃ y,y=x:=⟨_,rfl⟩
 subst e0
 obtain⟨m0,e0⟩:∃ y,y=m:=⟨_,rfl⟩
 subst e0
 obtain⟨bn,e0⟩:=W.headB'
 subst e0
 obtain⟨R,hR⟩:∃ R,impGo I g t (fuel I (m0+1)) [] (m0+1)=R:=⟨_,rfl⟩
 have hRS:fileS I g t n=bnd R fun l m=>bnd (declGo I g t (fuel I m) [] m) fun k m'=>.ok (.mk 1 (-1) n m' [xn,listN 2 l m,listN 2 k m']) m':=by simp [fileS,bnd,want, *]
 rw [hRS]
 refine lgn tO [5] (fun x:RS=>[(5,rwK3 x)]) (fun x=>⟨x.h,blks (rdC I M br t x.m++(901,bo,nodeB 1 (-1) n 0 nilS)::rwC3 x),rdC I M br t x.m++(901,bo,nodeB 1 (-1) n 0 nilS)::rwC3 x⟩)
  (fun μ x=>Wd I M [br] h x.h (blks (rdC I M br t x.m++(901,bo,nodeB 1 (-1) n 0 nilS)::rwC3 x)) [.many x.ps x.l,.one (some ⟨bn,0,none⟩) xn]∧((n+1)≤x.m∧x.m≤I.L∧(x.l.length:Int)≤x.m-(n+1)∧I.L+1-x.m≤μ)∧impGo I g t μ x.l x.m=R∧(x.o=none→x.ps=[])∧x.ps.length=x.l.length∧∀ b c,x.o=some (b,c)→x.ps.length≤c) ?_
 conv=>whnf
 refine⟨fun h1 hs=>?_,?_⟩
 ·refine⟨fuel I (m0+1),⟨h1,0,(m0+1),none,[],[]⟩,⟨(((W.anew (hs.lB.less (RenC.blks (ks:=[900,901]) (L:=[(900,br,rdB I M t ((m0+1))),(901,bo,nodeB 1 (-1) n 0 nilS)]) (by show RenC (_::_) (_::_) (_::_);exact⟨⟨_,rfl,SC.rfl⟩,rfl,⟨_,rfl,SC.rfl⟩,rfl,trivial⟩)))).add (i:=.many [] []) ⟨TsI.nil,trivial⟩)).of (fun e he=>?_),⟨by dsimp only;omega,by dsimp only;omega,by dsimp only;simp only [List.length_nil];omega,by dsimp only [fuel];omega⟩,hR,fun _=>rfl,rfl,fun b c e=>(by cases e)⟩,?_,hs.again [900,901] (by show RenC (_::_) (_::_) (_::_);exact⟨⟨_,rfl,SC.rfl⟩,rfl,⟨_,rfl,SC.rfl⟩,rfl,trivial⟩)⟩
  ·simp only [List.mem_cons,List.not_mem_nil,or_false] at he ⊢
   rcases he with rfl|rfl
   all_goals simp
  ·refine And.intro ⟨_,rfl,by first|rfl|(simp [den,den1,denC,rwK3];done)|(simp [den,den1,denC,rwK3];omega)⟩ ?_
   (repeat (refine And.intro ⟨_,rfl,rfl⟩ ?_));exact trivial
 clear W hR hRS
 rintro μ ⟨h1,w0,mm,o2,ps,l⟩ ⟨W,⟨r0,r1,r2,r3⟩,r4,r5,r6,r7⟩
 dsimp only at W r0 r1 r2 r3 r4 r5 r6 r7
 obtain⟨f,rfl⟩:∃ f,μ=f+1:=⟨μ-1,by omega⟩
 simp only [impGo] at r4
 rcases o2 with _|⟨b2,c2⟩
 ·have e0:=r5 rfl
  subst e0
  have e1:l=[]:=List.eq_nil_of_length_eq_zero (by simpa using r6.symm)
  subst e1
  dsimp only [rwC3,rwK3] at W ⊢
  ((repeat' ((conv=>whnf);(first|(refine VC.mk (by (first|omega|(and_intros<;>first|omega|rfl|(simp only [maxLen];omega)|(simp only [List.length_append,List.length_take,List.length_replicate,List.length_cons,List.length_nil];omega)))) ?_)|(refine Br.mk ?_ ?_<;>intro hb<;>(try replace hb:=Classical.not_not.1 hb)<;>(try exact absurd hb (show ¬ (ByteArray.mk _=ByteArray.mk _) from by decide))<;>(try (have hlt:=wlt hb (by decide)))<;>(try (contradiction)))|(refine New.mk ?_;intro b hb)|(refine New2.mk ?_;intro b c hb hbc)|(refine SR.same ?_)|(apply CK.pure;(case hh=>(intro h1 hs;first|exact next_k W.ok W.base hs rfl)))|(refine CK.con W (H (.group) _ _ (by simp only [need,rank];omega) ⟨by omega,by omega⟩ (by (simp only [fpre];omega))) rfl rfl (fun x hx=>?_) (fun x m bq h' hx hm1 hm2=>?_);rotate_left;(try dsimp only [fstr] at hm1);(conv=>whnf);intro W)|(refine CK.want W (by decide) ⟨by omega,by omega⟩ rfl rfl (fun hx=>?_) (fun hx hm=>?_);rotate_left)|(refine CK.listZ W rfl rfl (by decide) ?_;intro b h' W)|fail)));all_goals (try (conv=>whnf)))
  all_goals first
   | (try replace hb:=eq_true hb
      simp [bnd,want, *] at r4
      intro h2 hs
      refine⟨f,⟨h2,0,_,some (b,c),[]++[some ⟨bq,0,none⟩],[]++[_]⟩,⟨((W.more (ps:=[]) (l:=[]) (by repeat (first|exact List.Mem.head _|apply List.Mem.tail)) (by repeat (first|exact List.Mem.head _|apply List.Mem.tail))).anew (hs.lB.less (RenC.blks (ks:=[900,901,24]) (L:=rdC I M br t _++(901,bo,nodeB 1 (-1) n 0 nilS)::rwC3 ⟨h2,0,0,some (b,c),[]++[some ⟨bq,0,none⟩],[]⟩) (by show RenC (_::_) (_::_) (_::_);exact⟨⟨_,rfl,SC.rfl⟩,rfl,⟨_,rfl,SC.rfl⟩,rfl,⟨_,rfl,SC.arr (by simp)⟩,rfl,trivial⟩)))).of (fun e he=>?_),⟨by dsimp only;omega,by dsimp only;omega,by dsimp only;simp only [List.length_append,List.length_cons,List.length_nil];omega,by dsimp only;omega⟩,r4,fun e=>(by cases e),by simp [r6],fun b0 c0 e=>by cases e;simpa using hbc⟩,Nat.lt_succ_self f,?_,hs.again [900,901,24] (by show RenC (_::_) (_::_) (_::_);exact⟨⟨_,rfl,SC.rfl⟩,rfl,⟨_,rfl,SC.rfl⟩,rfl,⟨_,rfl,SC.arr (by simp)⟩,rfl,trivial⟩)⟩
      ·simp only [List.mem_cons,List.not_mem_nil,or_false] at he ⊢
       rcases he with rfl|he
       ·exact .inl rfl
       ·rcases he with rfl|rfl
        all_goals simp
      ·refine And.intro ⟨_,rfl,by first|rfl|(simp [den,den1,denC,rwK3];done)|(simp [den,den1,denC,rwK3];omega)⟩ ?_
       (repeat (refine And.intro ⟨_,rfl,rfl⟩ ?_));exact trivial)
   |(simp [bnd,want, *] at r4;rw [←r4];first|done|(simp [bnd,want, *];done))
   |(simp [bnd,want, *] at r4;subst r4;first|done|(simp [bnd,want, *];done))
   |contradiction
   |skip
  rw [if_neg (by assumption)] at r4
  subst r4
  rw [bnd_ok]
  obtain⟨bi,hbi⟩:=W.headB'
  subst hbi
  generalize hxi:listN 2 [] mm=xi at W ⊢
  have hmm:n+1≤mm:=by omega
  clear hxi r2 r3 r5 r6 r7 f r0
  obtain⟨R,hR⟩:∃ R,declGo I g t (fuel I mm) [] mm=R:=⟨_,rfl⟩
  have hRS:(bnd (declGo I g t (fuel I mm) [] mm) fun k m'=>(.ok (.mk 1 (-1) n m' [xn,xi,listN 2 k m']) m':Out Nd))=bnd R fun k m'=>.ok (.mk 1 (-1) n m' [xn,xi,listN 2 k m']) m':=by simp only [hR]
  rw [hRS]
  refine lgn tO [6] (fun x:RS=>[(6,rwK3 x)]) (fun x=>⟨x.h,blks (rdC I M br t x.m++(901,bo,nodeB 1 (-1) n 0 nilS)::rwC3 x),rdC I M br t x.m++(901,bo,nodeB 1 (-1) n 0 nilS)::rwC3 x⟩)
   (fun μ x=>Wd I M [br] h x.h (blks (rdC I M br t x.m++(901,bo,nodeB 1 (-1) n 0 nilS)::rwC3 x)) [.many x.ps x.l,.one (some ⟨bi,0,none⟩) xi,.one (some ⟨bn,0,none⟩) xn]∧(mm≤x.m∧x.m≤I.L∧(x.l.length:Int)≤x.m-mm∧I.L+1-x.m≤μ)∧declGo I g t μ x.l x.m=R∧(x.o=none→x.ps=[])∧x.ps.length=x.l.length∧∀ b c,x.o=some (b,c)→x.ps.length≤c) ?_
  conv=>whnf
  refine⟨fun h1 hs=>?_,?_⟩
  ·refine⟨fuel I mm,⟨h1,0,mm,none,[],[]⟩,⟨(((W.anew (hs.lB.less (RenC.blks (ks:=[900,901]) (L:=[(900,br,rdB I M t (mm)),(901,bo,nodeB 1 (-1) n 0 nilS)]) (by show RenC (_::_) (_::_) (_::_);exact⟨⟨_,rfl,SC.rfl⟩,rfl,⟨_,rfl,SC.rfl⟩,rfl,trivial⟩)))).add (i:=.many [] []) ⟨TsI.nil,trivial⟩)).of (fun e he=>?_),⟨by dsimp only;omega,by dsimp only;omega,by dsimp only;simp only [List.length_nil];omega,by dsimp only [fuel];omega⟩,hR,fun _=>rfl,rfl,fun b c e=>(by cases e)⟩,?_,hs.again [900,901] (by show RenC (_::_) (_::_) (_::_);exact⟨⟨_,rfl,SC.rfl⟩,rfl,⟨_,rfl,SC.rfl⟩,rfl,trivial⟩)⟩
   ·simp only [List.mem_cons,List.not_mem_nil,or_false] at he ⊢
    rcases he with rfl|rfl|rfl
    all_goals simp
   ·refine And.intro ⟨_,rfl,by first|rfl|(simp [den,den1,denC,rwK3];done)|(simp [den,den1,denC,rwK3];omega)⟩ ?_
    (repeat (refine And.intro ⟨_,rfl,rfl⟩ ?_));exact trivial
  clear W hR hRS
  rintro μ ⟨h1,w0,mm,o2,ps,l⟩ ⟨W,⟨r0,r1,r2,r3⟩,r4,r5,r6,r7⟩
  dsimp only at W r0 r1 r2 r3 r4 r5 r6 r7
  obtain⟨f,rfl⟩:∃ f,μ=f+1:=⟨μ-1,by omega⟩
  simp only [declGo] at r4
  rcases o2 with _|⟨b2,c2⟩
  ·have e0:=r5 rfl
   subst e0
   have e1:l=[]:=List.eq_nil_of_length_eq_zero (by simpa using r6.symm)
   subst e1
   dsimp only [rwC3,rwK3] at W ⊢
   ((repeat' ((conv=>whnf);(first|(refine VC.mk (by (first|omega|(and_intros<;>first|omega|rfl|(simp only [maxLen];omega)|(simp only [List.length_append,List.length_take,List.length_replicate,List.length_cons,List.length_nil];omega)))) ?_)|(refine Br.mk ?_ ?_<;>intro hb<;>(try replace hb:=Classical.not_not.1 hb)<;>(try exact absurd hb (show ¬ (ByteArray.mk _=ByteArray.mk _) from by decide))<;>(try (have hlt:=wlt hb (by decide)))<;>(try (contradiction)))|(refine New.mk ?_;intro b hb)|(refine New2.mk ?_;intro b c hb hbc)|(refine SR.same ?_)|(apply CK.pure;(case hh=>(intro h1 hs;first|exact next_k W.ok W.base hs rfl)))|(refine CK.con W (H (.group) _ _ (by simp only [need,rank];omega) ⟨by omega,by omega⟩ (by (simp only [fpre];omega))) rfl rfl (fun x hx=>?_) (fun x m bq h' hx hm1 hm2=>?_);rotate_left;(try dsimp only [fstr] at hm1);(conv=>whnf);intro W)|(refine CK.con W (H (.fn) _ _ (by simp only [need,rank];omega) ⟨by omega,by omega⟩ (by exact trivial)) rfl rfl (fun x hx=>?_) (fun x m bq h' hx hm1 hm2=>?_);rotate_left;(try dsimp only [fstr] at hm1);(conv=>whnf);intro W)|(refine CK.want W (by decide) ⟨by omega,by omega⟩ rfl rfl (fun hx=>?_) (fun hx hm=>?_);rotate_left)|(refine CK.cO 901 W rfl rfl rfl (fun h hs hm=>hs.ne (k:=901) (k':=900) rfl rfl (by decide) (List.mem_singleton.1 hm)) rfl rfl rfl rfl rfl rfl (rC W (by repeat (first|exact List.Mem.head _|apply List.Mem.tail)) (rC W (by repeat (first|exact List.Mem.head _|apply List.Mem.tail)) (rC W (by repeat (first|exact List.Mem.head _|apply List.Mem.tail)) (rN)))) (by simp [leK]) (by simp) ?_;intro h';(conv=>whnf);intro W)|(refine CK.listZ W rfl rfl (by decide) ?_;intro b h' W)|fail)));all_goals (try (conv=>whnf)))
   all_goals first
    | (try replace hb:=eq_true hb
       simp [bnd,want, *] at r4
       intro h2 hs
       refine⟨f,⟨h2,0,_,some (b,c),[]++[some ⟨bq,0,none⟩],[]++[_]⟩,⟨((W.more (ps:=[]) (l:=[]) (by repeat (first|exact List.Mem.head _|apply List.Mem.tail)) (by repeat (first|exact List.Mem.head _|apply List.Mem.tail))).anew (hs.lB.less (RenC.blks (ks:=[900,901,50]) (L:=rdC I M br t _++(901,bo,nodeB 1 (-1) n 0 nilS)::rwC3 ⟨h2,0,0,some (b,c),[]++[some ⟨bq,0,none⟩],[]⟩) (by show RenC (_::_) (_::_) (_::_);exact⟨⟨_,rfl,SC.rfl⟩,rfl,⟨_,rfl,SC.rfl⟩,rfl,⟨_,rfl,SC.arr (by simp)⟩,rfl,trivial⟩)))).of (fun e he=>?_),⟨by dsimp only;omega,by dsimp only;omega,by dsimp only;simp only [List.length_append,List.length_cons,List.length_nil];omega,by dsimp only;omega⟩,r4,fun e=>(by cases e),by simp [r6],fun b0 c0 e=>by cases e;simpa using hbc⟩,Nat.lt_succ_self f,?_,hs.again [900,901,50] (by show RenC (_::_) (_::_) (_::_);exact⟨⟨_,rfl,SC.rfl⟩,rfl,⟨_,rfl,SC.rfl⟩,rfl,⟨_,rfl,SC.arr (by simp)⟩,rfl,trivial⟩)⟩
       ·simp only [List.mem_cons,List.not_mem_nil,or_false] at he ⊢
        rcases he with rfl|he
        ·exact .inl rfl
        ·rcases he with rfl|rfl|rfl
         all_goals simp
       ·refine And.intro ⟨_,rfl,by first|rfl|(simp [den,den1,denC,rwK3];done)|(simp [den,den1,denC,rwK3];omega)⟩ ?_
        (repeat (refine And.intro ⟨_,rfl,rfl⟩ ?_));exact trivial)
    | (try replace hb:=eq_true hb
       simp [bnd,want, *] at r4
       intro h2 hs
       refine⟨f,⟨h2,0,_,some (b,c),[]++[some ⟨bq,0,none⟩],[]++[_]⟩,⟨((W.more (ps:=[]) (l:=[]) (by repeat (first|exact List.Mem.head _|apply List.Mem.tail)) (by repeat (first|exact List.Mem.head _|apply List.Mem.tail))).anew (hs.lB.less (RenC.blks (ks:=[900,901,57]) (L:=rdC I M br t _++(901,bo,nodeB 1 (-1) n 0 nilS)::rwC3 ⟨h2,0,0,some (b,c),[]++[some ⟨bq,0,none⟩],[]⟩) (by show RenC (_::_) (_::_) (_::_);exact⟨⟨_,rfl,SC.rfl⟩,rfl,⟨_,rfl,SC.rfl⟩,rfl,⟨_,rfl,SC.arr (by simp)⟩,rfl,trivial⟩)))).of (fun e he=>?_),⟨by dsimp only;omega,by dsimp only;omega,by dsimp only;simp only [List.length_append,List.length_cons,List.length_nil];omega,by dsimp only;omega⟩,r4,fun e=>(by cases e),by simp [r6],fun b0 c0 e=>by cases e;simpa using hbc⟩,Nat.lt_succ_self f,?_,hs.again [900,901,57] (by show RenC (_::_) (_::_) (_::_);exact⟨⟨_,rfl,SC.rfl⟩,rfl,⟨_,rfl,SC.rfl⟩,rfl,⟨_,rfl,SC.arr (by simp)⟩,rfl,trivial⟩)⟩
       ·simp only [List.mem_cons,List.not_mem_nil,or_false] at he ⊢
        rcases he with rfl|he
        ·exact .inl rfl
        ·rcases he with rfl|rfl|rfl
         all_goals simp
       ·refine And.intro ⟨_,rfl,by first|rfl|(simp [den,den1,denC,rwK3];done)|(simp [den,den1,denC,rwK3];omega)⟩ ?_
        (repeat (refine And.intro ⟨_,rfl,rfl⟩ ?_));exact trivial)
    |(simp [bnd,want, *] at r4;rw [←r4];first|done|(simp [bnd,want, *];done))
    |(simp [bnd,want, *] at r4;subst r4;first|done|(simp [bnd,want, *];done))
    |(refine⟨fun h' hs=>W.fin hs rfl (by repeat (first|exact List.Mem.head _|apply List.Mem.tail)) ?_ ⟨by omega,by omega⟩⟩;simp [bnd,want, *] at r4;rw [←r4];first|done|(simp [bnd,want, *];done))
    |contradiction
  ·have hcp:=r7 _ _ rfl
   dsimp only [rwC3,rwK3] at W hcp ⊢
   ((repeat' ((conv=>whnf);(first|(refine VC.mk (by (first|omega|(and_intros<;>first|omega|rfl|(simp only [maxLen];omega)|(simp only [List.length_append,List.length_take,List.length_replicate,List.length_cons,List.length_nil];omega)))) ?_)|(refine Br.mk ?_ ?_<;>intro hb<;>(try replace hb:=Classical.not_not.1 hb)<;>(try exact absurd hb (show ¬ (ByteArray.mk _=ByteArray.mk _) from by decide))<;>(try (have hlt:=wlt hb (by decide)))<;>(try (contradiction)))|(refine New.mk ?_;intro b hb)|(refine NewO.mk ?_;intro b c hb hbc)|(refine SR.same ?_)|(apply CK.pure;(case hh=>(intro h1 hs;first|exact next_k W.ok W.base hs rfl)))|(refine CK.con W (H (.group) _ _ (by simp only [need,rank];omega) ⟨by omega,by omega⟩ (by (simp only [fpre];omega))) rfl rfl (fun x hx=>?_) (fun x m bq h' hx hm1 hm2=>?_);rotate_left;(try dsimp only [fstr] at hm1);(conv=>whnf);intro W)|(refine CK.con W (H (.fn) _ _ (by simp only [need,rank];omega) ⟨by omega,by omega⟩ (by exact trivial)) rfl rfl (fun x hx=>?_) (fun x m bq h' hx hm1 hm2=>?_);rotate_left;(try dsimp only [fstr] at hm1);(conv=>whnf);intro W)|(refine CK.want W (by decide) ⟨by omega,by omega⟩ rfl rfl (fun hx=>?_) (fun hx hm=>?_);rotate_left)|(refine CK.cO 901 W rfl rfl rfl (fun h hs hm=>hs.ne (k:=901) (k':=900) rfl rfl (by decide) (List.mem_singleton.1 hm)) rfl rfl rfl rfl rfl rfl (rC W (by repeat (first|exact List.Mem.head _|apply List.Mem.tail)) (rC W (by repeat (first|exact List.Mem.head _|apply List.Mem.tail)) (rC W (by repeat (first|exact List.Mem.head _|apply List.Mem.tail)) (rN)))) (by simp [leK]) (by simp) ?_;intro h';(conv=>whnf);intro W)|(refine CK.listO W rfl rfl rfl rfl (by rfl) rfl (W.manyOf (by repeat (first|exact List.Mem.head _|apply List.Mem.tail))) (by decide) ?_;intro b h';(conv=>whnf);intro W)|fail)));all_goals (try (conv=>whnf)))
   all_goals first
    | (try replace hb:=eq_true hb
       simp [bnd,want, *] at r4
       intro h2 hs
       refine⟨f,⟨h2,0,_,some (b,c),ps++[some ⟨bq,0,none⟩],l++[_]⟩,⟨((W.more (ps:=ps) (l:=l) (by repeat (first|exact List.Mem.head _|apply List.Mem.tail)) (by repeat (first|exact List.Mem.head _|apply List.Mem.tail))).anew (hs.lB.less (RenC.blks (ks:=[900,901,50]) (L:=rdC I M br t _++(901,bo,nodeB 1 (-1) n 0 nilS)::rwC3 ⟨h2,0,0,some (b,c),ps++[some ⟨bq,0,none⟩],[]⟩) (by show RenC (_::_) (_::_) (_::_);exact⟨⟨_,rfl,SC.rfl⟩,rfl,⟨_,rfl,SC.rfl⟩,rfl,⟨_,rfl,SC.arr (by simp)⟩,rfl,trivial⟩)))).of (fun e he=>?_),⟨by dsimp only;omega,by dsimp only;omega,by dsimp only;simp only [List.length_append,List.length_cons,List.length_nil];omega,by dsimp only;omega⟩,r4,fun e=>(by cases e),by simp [r6],fun b0 c0 e=>by cases e;simpa using hbc⟩,Nat.lt_succ_self f,?_,hs.again [900,901,50] (by show RenC (_::_) (_::_) (_::_);exact⟨⟨_,rfl,SC.rfl⟩,rfl,⟨_,rfl,SC.rfl⟩,rfl,⟨_,rfl,SC.arr (by simp)⟩,rfl,trivial⟩)⟩
       ·simp only [List.mem_cons,List.not_mem_nil,or_false] at he ⊢
        rcases he with rfl|he
        ·exact .inl rfl
        ·rcases he with rfl|rfl|rfl
         all_goals simp
       ·refine And.intro ⟨_,rfl,by first|rfl|(simp [den,den1,denC,rwK3];done)|(simp [den,den1,denC,rwK3];omega)⟩ ?_
        (repeat (refine And.intro ⟨_,rfl,rfl⟩ ?_));exact trivial)
    | (try replace hb:=eq_true hb
       simp [bnd,want, *] at r4
       intro h2 hs
       refine⟨f,⟨h2,0,_,some (b,c),ps++[some ⟨bq,0,none⟩],l++[_]⟩,⟨((W.more (ps:=ps) (l:=l) (by repeat (first|exact List.Mem.head _|apply List.Mem.tail)) (by repeat (first|exact List.Mem.head _|apply List.Mem.tail))).anew (hs.lB.less (RenC.blks (ks:=[900,901,57]) (L:=rdC I M br t _++(901,bo,nodeB 1 (-1) n 0 nilS)::rwC3 ⟨h2,0,0,some (b,c),ps++[some ⟨bq,0,none⟩],[]⟩) (by show RenC (_::_) (_::_) (_::_);exact⟨⟨_,rfl,SC.rfl⟩,rfl,⟨_,rfl,SC.rfl⟩,rfl,⟨_,rfl,SC.arr (by simp)⟩,rfl,trivial⟩)))).of (fun e he=>?_),⟨by dsimp only;omega,by dsimp only;omega,by dsimp only;simp only [List.length_append,List.length_cons,List.length_nil];omega,by dsimp only;omega⟩,r4,fun e=>(by cases e),by simp [r6],fun b0 c0 e=>by cases e;simpa using hbc⟩,Nat.lt_succ_self f,?_,hs.again [900,901,57] (by show RenC (_::_) (_::_) (_::_);exact⟨⟨_,rfl,SC.rfl⟩,rfl,⟨_,rfl,SC.rfl⟩,rfl,⟨_,rfl,SC.arr (by simp)⟩,rfl,trivial⟩)⟩
       ·simp only [List.mem_cons,List.not_mem_nil,or_false] at he ⊢
        rcases he with rfl|he
        ·exact .inl rfl
        ·rcases he with rfl|rfl|rfl
         all_goals simp
       ·refine And.intro ⟨_,rfl,by first|rfl|(simp [den,den1,denC,rwK3];done)|(simp [den,den1,denC,rwK3];omega)⟩ ?_
        (repeat (refine And.intro ⟨_,rfl,rfl⟩ ?_));exact trivial)
    |(simp [bnd,want, *] at r4;rw [←r4];first|done|(simp [bnd,want, *];done))
    |(simp [bnd,want, *] at r4;subst r4;first|done|(simp [bnd,want, *];done))
    |(refine⟨fun h' hs=>W.fin hs rfl (by repeat (first|exact List.Mem.head _|apply List.Mem.tail)) ?_ ⟨by omega,by omega⟩⟩;simp [bnd,want, *] at r4;rw [←r4];first|done|(simp [bnd,want, *];done))
    |contradiction
 ·have hcp:=r7 _ _ rfl
  dsimp only [rwC3,rwK3] at W hcp ⊢
  ((repeat' ((conv=>whnf);(first|(refine VC.mk (by (first|omega|(and_intros<;>first|omega|rfl|(simp only [maxLen];omega)|(simp only [List.length_append,List.length_take,List.length_replicate,List.length_cons,List.length_nil];omega)))) ?_)|(refine Br.mk ?_ ?_<;>intro hb<;>(try replace hb:=Classical.not_not.1 hb)<;>(try exact absurd hb (show ¬ (ByteArray.mk _=ByteArray.mk _) from by decide))<;>(try (have hlt:=wlt hb (by decide))))|(refine New.mk ?_;intro b hb)|(refine NewO.mk ?_;intro b c hb hbc)|(refine SR.same ?_)|(apply CK.pure;(case hh=>(intro h1 hs;first|exact next_k W.ok W.base hs rfl)))|(refine CK.con W (H (.group) _ _ (by simp only [need,rank];omega) ⟨by omega,by omega⟩ (by (simp only [fpre];omega))) rfl rfl (fun x hx=>?_) (fun x m bq h' hx hm1 hm2=>?_);rotate_left;(try dsimp only [fstr] at hm1);(conv=>whnf);intro W)|(refine CK.want W (by decide) ⟨by omega,by omega⟩ rfl rfl (fun hx=>?_) (fun hx hm=>?_);rotate_left)|(refine CK.listO W rfl rfl rfl rfl (by rfl) rfl (W.manyOf (by repeat (first|exact List.Mem.head _|apply List.Mem.tail))) (by decide) ?_;intro b h';(conv=>whnf);intro W)|fail)));all_goals (try (conv=>whnf)))
  all_goals first
   | (try replace hb:=eq_true hb
      simp [bnd,want, *] at r4
      intro h2 hs
      refine⟨f,⟨h2,0,_,some (b,c),ps++[some ⟨bq,0,none⟩],l++[_]⟩,⟨((W.more (ps:=ps) (l:=l) (by repeat (first|exact List.Mem.head _|apply List.Mem.tail)) (by repeat (first|exact List.Mem.head _|apply List.Mem.tail))).anew (hs.lB.less (RenC.blks (ks:=[900,901,24]) (L:=rdC I M br t _++(901,bo,nodeB 1 (-1) n 0 nilS)::rwC3 ⟨h2,0,0,some (b,c),ps++[some ⟨bq,0,none⟩],[]⟩) (by show RenC (_::_) (_::_) (_::_);exact⟨⟨_,rfl,SC.rfl⟩,rfl,⟨_,rfl,SC.rfl⟩,rfl,⟨_,rfl,SC.arr (by simp)⟩,rfl,trivial⟩)))).of (fun e he=>?_),⟨by dsimp only;omega,by dsimp only;omega,by dsimp only;simp only [List.length_append,List.length_cons,List.length_nil];omega,by dsimp only;omega⟩,r4,fun e=>(by cases e),by simp [r6],fun b0 c0 e=>by cases e;simpa using hbc⟩,Nat.lt_succ_self f,?_,hs.again [900,901,24] (by show RenC (_::_) (_::_) (_::_);exact⟨⟨_,rfl,SC.rfl⟩,rfl,⟨_,rfl,SC.rfl⟩,rfl,⟨_,rfl,SC.arr (by simp)⟩,rfl,trivial⟩)⟩
      ·simp only [List.mem_cons,List.not_mem_nil,or_false] at he ⊢
       rcases he with rfl|he
       ·exact .inl rfl
       ·rcases he with rfl|rfl
        all_goals simp
      ·refine And.intro ⟨_,rfl,by first|rfl|(simp [den,den1,denC,rwK3];done)|(simp [den,den1,denC,rwK3];omega)⟩ ?_
       (repeat (refine And.intro ⟨_,rfl,rfl⟩ ?_));exact trivial)
   |(simp [bnd,want, *] at r4;rw [←r4];first|done|(simp [bnd,want, *];done))
   |(simp [bnd,want, *] at r4;subst r4;first|done|(simp [bnd,want, *];done))
   |contradiction
   |skip
  rw [if_neg (by assumption)] at r4
  subst r4
  rw [bnd_ok]
  obtain⟨bi,hbi⟩:=W.headB'
  subst hbi
  generalize hxi:listN 2 l mm=xi at W ⊢
  have hmm:n+1≤mm:=by omega
  clear hxi r2 r3 r5 r6 r7 f r0
  obtain⟨R,hR⟩:∃ R,declGo I g t (fuel I mm) [] mm=R:=⟨_,rfl⟩
  have hRS:(bnd (declGo I g t (fuel I mm) [] mm) fun k m'=>(.ok (.mk 1 (-1) n m' [xn,xi,listN 2 k m']) m':Out Nd))=bnd R fun k m'=>.ok (.mk 1 (-1) n m' [xn,xi,listN 2 k m']) m':=by simp only [hR]
  rw [hRS]
  refine lgn tO [6] (fun x:RS=>[(6,rwK3 x)]) (fun x=>⟨x.h,blks (rdC I M br t x.m++(901,bo,nodeB 1 (-1) n 0 nilS)::rwC3 x),rdC I M br t x.m++(901,bo,nodeB 1 (-1) n 0 nilS)::rwC3 x⟩)
   (fun μ x=>Wd I M [br] h x.h (blks (rdC I M br t x.m++(901,bo,nodeB 1 (-1) n 0 nilS)::rwC3 x)) [.many x.ps x.l,.one (some ⟨bi,0,none⟩) xi,.one (some ⟨bn,0,none⟩) xn]∧(mm≤x.m∧x.m≤I.L∧(x.l.length:Int)≤x.m-mm∧I.L+1-x.m≤μ)∧declGo I g t μ x.l x.m=R∧(x.o=none→x.ps=[])∧x.ps.length=x.l.length∧∀ b c,x.o=some (b,c)→x.ps.length≤c) ?_
  conv=>whnf
  refine⟨fun h1 hs=>?_,?_⟩
  ·refine⟨fuel I mm,⟨h1,0,mm,none,[],[]⟩,⟨(((W.anew (hs.lB.less (RenC.blks (ks:=[900,901]) (L:=[(900,br,rdB I M t (mm)),(901,bo,nodeB 1 (-1) n 0 nilS)]) (by show RenC (_::_) (_::_) (_::_);exact⟨⟨_,rfl,SC.rfl⟩,rfl,⟨_,rfl,SC.rfl⟩,rfl,trivial⟩)))).add (i:=.many [] []) ⟨TsI.nil,trivial⟩)).of (fun e he=>?_),⟨by dsimp only;omega,by dsimp only;omega,by dsimp only;simp only [List.length_nil];omega,by dsimp only [fuel];omega⟩,hR,fun _=>rfl,rfl,fun b c e=>(by cases e)⟩,?_,hs.again [900,901] (by show RenC (_::_) (_::_) (_::_);exact⟨⟨_,rfl,SC.rfl⟩,rfl,⟨_,rfl,SC.rfl⟩,rfl,trivial⟩)⟩
   ·simp only [List.mem_cons,List.not_mem_nil,or_false] at he ⊢
    rcases he with rfl|rfl|rfl
    all_goals simp
   ·refine And.intro ⟨_,rfl,by first|rfl|(simp [den,den1,denC,rwK3];done)|(simp [den,den1,denC,rwK3];omega)⟩ ?_
    (repeat (refine And.intro ⟨_,rfl,rfl⟩ ?_));exact trivial
  clear W hR hRS
  rintro μ ⟨h1,w0,mm,o2,ps,l⟩ ⟨W,⟨r0,r1,r2,r3⟩,r4,r5,r6,r7⟩
  dsimp only at W r0 r1 r2 r3 r4 r5 r6 r7
  obtain⟨f,rfl⟩:∃ f,μ=f+1:=⟨μ-1,by omega⟩
  simp only [declGo] at r4
  rcases o2 with _|⟨b2,c2⟩
  ·have e0:=r5 rfl
   subst e0
   have e1:l=[]:=List.eq_nil_of_length_eq_zero (by simpa using r6.symm)
   subst e1
   dsimp only [rwC3,rwK3] at W ⊢
   ((repeat' ((conv=>whnf);(first|(refine VC.mk (by (first|omega|(and_intros<;>first|omega|rfl|(simp only [maxLen];omega)|(simp only [List.length_append,List.length_take,List.length_replicate,List.length_cons,List.length_nil];omega)))) ?_)|(refine Br.mk ?_ ?_<;>intro hb<;>(try replace hb:=Classical.not_not.1 hb)<;>(try exact absurd hb (show ¬ (ByteArray.mk _=ByteArray.mk _) from by decide))<;>(try (have hlt:=wlt hb (by decide)))<;>(try (contradiction)))|(refine New.mk ?_;intro b hb)|(refine New2.mk ?_;intro b c hb hbc)|(refine SR.same ?_)|(apply CK.pure;(case hh=>(intro h1 hs;first|exact next_k W.ok W.base hs rfl)))|(refine CK.con W (H (.group) _ _ (by simp only [need,rank];omega) ⟨by omega,by omega⟩ (by (simp only [fpre];omega))) rfl rfl (fun x hx=>?_) (fun x m bq h' hx hm1 hm2=>?_);rotate_left;(try dsimp only [fstr] at hm1);(conv=>whnf);intro W)|(refine CK.con W (H (.fn) _ _ (by simp only [need,rank];omega) ⟨by omega,by omega⟩ (by exact trivial)) rfl rfl (fun x hx=>?_) (fun x m bq h' hx hm1 hm2=>?_);rotate_left;(try dsimp only [fstr] at hm1);(conv=>whnf);intro W)|(refine CK.want W (by decide) ⟨by omega,by omega⟩ rfl rfl (fun hx=>?_) (fun hx hm=>?_);rotate_left)|(refine CK.cO 901 W rfl rfl rfl (fun h hs hm=>hs.ne (k:=901) (k':=900) rfl rfl (by decide) (List.mem_singleton.1 hm)) rfl rfl rfl rfl rfl rfl (rC W (by repeat (first|exact List.Mem.head _|apply List.Mem.tail)) (rC W (by repeat (first|exact List.Mem.head _|apply List.Mem.tail)) (rC W (by repeat (first|exact List.Mem.head _|apply List.Mem.tail)) (rN)))) (by simp [leK]) (by simp) ?_;intro h';(conv=>whnf);intro W)|(refine CK.listZ W rfl rfl (by decide) ?_;intro b h' W)|fail)));all_goals (try (conv=>whnf)))
   all_goals first
    | (try replace hb:=eq_true hb
       simp [bnd,want, *] at r4
       intro h2 hs
       refine⟨f,⟨h2,0,_,some (b,c),[]++[some ⟨bq,0,none⟩],[]++[_]⟩,⟨((W.more (ps:=[]) (l:=[]) (by repeat (first|exact List.Mem.head _|apply List.Mem.tail)) (by repeat (first|exact List.Mem.head _|apply List.Mem.tail))).anew (hs.lB.less (RenC.blks (ks:=[900,901,50]) (L:=rdC I M br t _++(901,bo,nodeB 1 (-1) n 0 nilS)::rwC3 ⟨h2,0,0,some (b,c),[]++[some ⟨bq,0,none⟩],[]⟩) (by show RenC (_::_) (_::_) (_::_);exact⟨⟨_,rfl,SC.rfl⟩,rfl,⟨_,rfl,SC.rfl⟩,rfl,⟨_,rfl,SC.arr (by simp)⟩,rfl,trivial⟩)))).of (fun e he=>?_),⟨by dsimp only;omega,by dsimp only;omega,by dsimp only;simp only [List.length_append,List.length_cons,List.length_nil];omega,by dsimp only;omega⟩,r4,fun e=>(by cases e),by simp [r6],fun b0 c0 e=>by cases e;simpa using hbc⟩,Nat.lt_succ_self f,?_,hs.again [900,901,50] (by show RenC (_::_) (_::_) (_::_);exact⟨⟨_,rfl,SC.rfl⟩,rfl,⟨_,rfl,SC.rfl⟩,rfl,⟨_,rfl,SC.arr (by simp)⟩,rfl,trivial⟩)⟩
       ·simp only [List.mem_cons,List.not_mem_nil,or_false] at he ⊢
        rcases he with rfl|he
        ·exact .inl rfl
        ·rcases he with rfl|rfl|rfl
         all_goals simp
       ·refine And.intro ⟨_,rfl,by first|rfl|(simp [den,den1,denC,rwK3];done)|(simp [den,den1,denC,rwK3];omega)⟩ ?_
        (repeat (refine And.intro ⟨_,rfl,rfl⟩ ?_));exact trivial)
    | (try replace hb:=eq_true hb
       simp [bnd,want, *] at r4
       intro h2 hs
       refine⟨f,⟨h2,0,_,some (b,c),[]++[some ⟨bq,0,none⟩],[]++[_]⟩,⟨((W.more (ps:=[]) (l:=[]) (by repeat (first|exact List.Mem.head _|apply List.Mem.tail)) (by repeat (first|exact List.Mem.head _|apply List.Mem.tail))).anew (hs.lB.less (RenC.blks (ks:=[900,901,57]) (L:=rdC I M br t _++(901,bo,nodeB 1 (-1) n 0 nilS)::rwC3 ⟨h2,0,0,some (b,c),[]++[some ⟨bq,0,none⟩],[]⟩) (by show RenC (_::_) (_::_) (_::_);exact⟨⟨_,rfl,SC.rfl⟩,rfl,⟨_,rfl,SC.rfl⟩,rfl,⟨_,rfl,SC.arr (by simp)⟩,rfl,trivial⟩)))).of (fun e he=>?_),⟨by dsimp only;omega,by dsimp only;omega,by dsimp only;simp only [List.length_append,List.length_cons,List.length_nil];omega,by dsimp only;omega⟩,r4,fun e=>(by cases e),by simp [r6],fun b0 c0 e=>by cases e;simpa using hbc⟩,Nat.lt_succ_self f,?_,hs.again [900,901,57] (by show RenC (_::_) (_::_) (_::_);exact⟨⟨_,rfl,SC.rfl⟩,rfl,⟨_,rfl,SC.rfl⟩,rfl,⟨_,rfl,SC.arr (by simp)⟩,rfl,trivial⟩)⟩
       ·simp only [List.mem_cons,List.not_mem_nil,or_false] at he ⊢
        rcases he with rfl|he
        ·exact .inl rfl
        ·rcases he with rfl|rfl|rfl
         all_goals simp
       ·refine And.intro ⟨_,rfl,by first|rfl|(simp [den,den1,denC,rwK3];done)|(simp [den,den1,denC,rwK3];omega)⟩ ?_
        (repeat (refine And.intro ⟨_,rfl,rfl⟩ ?_));exact trivial)
    |(simp [bnd,want, *] at r4;rw [←r4];first|done|(simp [bnd,want, *];done))
    |(simp [bnd,want, *] at r4;subst r4;first|done|(simp [bnd,want, *];done))
    |(refine⟨fun h' hs=>W.fin hs rfl (by repeat (first|exact List.Mem.head _|apply List.Mem.tail)) ?_ ⟨by omega,by omega⟩⟩;simp [bnd,want, *] at r4;rw [←r4];first|done|(simp [bnd,want, *];done))
    |contradiction
  ·have hcp:=r7 _ _ rfl
   dsimp only [rwC3,rwK3] at W hcp ⊢
   ((repeat' ((conv=>whnf);(first|(refine VC.mk (by (first|omega|(and_intros<;>first|omega|rfl|(simp only [maxLen];omega)|(simp only [List.length_append,List.length_take,List.length_replicate,List.length_cons,List.length_nil];omega)))) ?_)|(refine Br.mk ?_ ?_<;>intro hb<;>(try replace hb:=Classical.not_not.1 hb)<;>(try exact absurd hb (show ¬ (ByteArray.mk _=ByteArray.mk _) from by decide))<;>(try (have hlt:=wlt hb (by decide)))<;>(try (contradiction)))|(refine New.mk ?_;intro b hb)|(refine NewO.mk ?_;intro b c hb hbc)|(refine SR.same ?_)|(apply CK.pure;(case hh=>(intro h1 hs;first|exact next_k W.ok W.base hs rfl)))|(refine CK.con W (H (.group) _ _ (by simp only [need,rank];omega) ⟨by omega,by omega⟩ (by (simp only [fpre];omega))) rfl rfl (fun x hx=>?_) (fun x m bq h' hx hm1 hm2=>?_);rotate_left;(try dsimp only [fstr] at hm1);(conv=>whnf);intro W)|(refine CK.con W (H (.fn) _ _ (by simp only [need,rank];omega) ⟨by omega,by omega⟩ (by exact trivial)) rfl rfl (fun x hx=>?_) (fun x m bq h' hx hm1 hm2=>?_);rotate_left;(try dsimp only [fstr] at hm1);(conv=>whnf);intro W)|(refine CK.want W (by decide) ⟨by omega,by omega⟩ rfl rfl (fun hx=>?_) (fun hx hm=>?_);rotate_left)|(refine CK.cO 901 W rfl rfl rfl (fun h hs hm=>hs.ne (k:=901) (k':=900) rfl rfl (by decide) (List.mem_singleton.1 hm)) rfl rfl rfl rfl rfl rfl (rC W (by repeat (first|exact List.Mem.head _|apply List.Mem.tail)) (rC W (by repeat (first|exact List.Mem.head _|apply List.Mem.tail)) (rC W (by repeat (first|exact List.Mem.head _|apply List.Mem.tail)) (rN)))) (by simp [leK]) (by simp) ?_;intro h';(conv=>whnf);intro W)|(refine CK.listO W rfl rfl rfl rfl (by rfl) rfl (W.manyOf (by repeat (first|exact List.Mem.head _|apply List.Mem.tail))) (by decide) ?_;intro b h';(conv=>whnf);intro W)|fail)));all_goals (try (conv=>whnf)))
   all_goals first
    | (try replace hb:=eq_true hb
       simp [bnd,want, *] at r4
       intro h2 hs
       refine⟨f,⟨h2,0,_,some (b,c),ps++[some ⟨bq,0,none⟩],l++[_]⟩,⟨((W.more (ps:=ps) (l:=l) (by repeat (first|exact List.Mem.head _|apply List.Mem.tail)) (by repeat (first|exact List.Mem.head _|apply List.Mem.tail))).anew (hs.lB.less (RenC.blks (ks:=[900,901,50]) (L:=rdC I M br t _++(901,bo,nodeB 1 (-1) n 0 nilS)::rwC3 ⟨h2,0,0,some (b,c),ps++[some ⟨bq,0,none⟩],[]⟩) (by show RenC (_::_) (_::_) (_::_);exact⟨⟨_,rfl,SC.rfl⟩,rfl,⟨_,rfl,SC.rfl⟩,rfl,⟨_,rfl,SC.arr (by simp)⟩,rfl,trivial⟩)))).of (fun e he=>?_),⟨by dsimp only;omega,by dsimp only;omega,by dsimp only;simp only [List.length_append,List.length_cons,List.length_nil];omega,by dsimp only;omega⟩,r4,fun e=>(by cases e),by simp [r6],fun b0 c0 e=>by cases e;simpa using hbc⟩,Nat.lt_succ_self f,?_,hs.again [900,901,50] (by show RenC (_::_) (_::_) (_::_);exact⟨⟨_,rfl,SC.rfl⟩,rfl,⟨_,rfl,SC.rfl⟩,rfl,⟨_,rfl,SC.arr (by simp)⟩,rfl,trivial⟩)⟩
       ·simp only [List.mem_cons,List.not_mem_nil,or_false] at he ⊢
        rcases he with rfl|he
        ·exact .inl rfl
        ·rcases he with rfl|rfl|rfl
         all_goals simp
       ·refine And.intro ⟨_,rfl,by first|rfl|(simp [den,den1,denC,rwK3];done)|(simp [den,den1,denC,rwK3];omega)⟩ ?_
        (repeat (refine And.intro ⟨_,rfl,rfl⟩ ?_));exact trivial)
    | (try replace hb:=eq_true hb
       simp [bnd,want, *] at r4
       intro h2 hs
       refine⟨f,⟨h2,0,_,some (b,c),ps++[some ⟨bq,0,none⟩],l++[_]⟩,⟨((W.more (ps:=ps) (l:=l) (by repeat (first|exact List.Mem.head _|apply List.Mem.tail)) (by repeat (first|exact List.Mem.head _|apply List.Mem.tail))).anew (hs.lB.less (RenC.blks (ks:=[900,901,57]) (L:=rdC I M br t _++(901,bo,nodeB 1 (-1) n 0 nilS)::rwC3 ⟨h2,0,0,some (b,c),ps++[some ⟨bq,0,none⟩],[]⟩) (by show RenC (_::_) (_::_) (_::_);exact⟨⟨_,rfl,SC.rfl⟩,rfl,⟨_,rfl,SC.rfl⟩,rfl,⟨_,rfl,SC.arr (by simp)⟩,rfl,trivial⟩)))).of (fun e he=>?_),⟨by dsimp only;omega,by dsimp only;omega,by dsimp only;simp only [List.length_append,List.length_cons,List.length_nil];omega,by dsimp only;omega⟩,r4,fun e=>(by cases e),by simp [r6],fun b0 c0 e=>by cases e;simpa using hbc⟩,Nat.lt_succ_self f,?_,hs.again [900,901,57] (by show RenC (_::_) (_::_) (_::_);exact⟨⟨_,rfl,SC.rfl⟩,rfl,⟨_,rfl,SC.rfl⟩,rfl,⟨_,rfl,SC.arr (by simp)⟩,rfl,trivial⟩)⟩
       ·simp only [List.mem_cons,List.not_mem_nil,or_false] at he ⊢
        rcases he with rfl|he
        ·exact .inl rfl
        ·rcases he with rfl|rfl|rfl
         all_goals simp
       ·refine And.intro ⟨_,rfl,by first|rfl|(simp [den,den1,denC,rwK3];done)|(simp [den,den1,denC,rwK3];omega)⟩ ?_
        (repeat (refine And.intro ⟨_,rfl,rfl⟩ ?_));exact trivial)
    |(simp [bnd,want, *] at r4;rw [←r4];first|done|(simp [bnd,want, *];done))
    |(simp [bnd,want, *] at r4;subst r4;first|done|(simp [bnd,want, *];done))
    |(refine⟨fun h' hs=>W.fin hs rfl (by repeat (first|exact List.Mem.head _|apply List.Mem.tail)) ?_ ⟨by omega,by omega⟩⟩;simp [bnd,want, *] at r4;rw [←r4];first|done|(simp [bnd,want, *];done))
    |contradiction
end
end Go.Ex
