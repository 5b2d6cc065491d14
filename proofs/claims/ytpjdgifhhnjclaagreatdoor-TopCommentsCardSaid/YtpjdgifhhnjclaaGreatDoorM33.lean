/-
  Top: TopComments: whatever the input, the law answers true (part 33)
-/
import Derived.WideLaws
import Derived.Test.YtpjdgifhhnjclaaGreatDoorM25
import Derived.Test.YtpjdgifhhnjclaaGreatDoorM26
import Derived.Test.YtpjdgifhhnjclaaGreatDoorM30
import Derived.Test.YtpjdgifhhnjclaaGreatDoorM32
set_option linter.unusedVariables false
set_option linter.unusedSimpArgs false
set_option maxHeartbeats 4000000
set_option maxRecDepth 10000
namespace Go.Ex
open Go.Proofs
attribute [local irreducible] CH X2 word B9
section
variable {I:In}{M:O6}{g:Gt}{N:Int}{t:Bool}{n:Int}
def U1(x:RS):KV:=match x.o with
 |none=>.val (.slice none 0 0)
 |some (b,c)=>.osl 903 b x.ps.length c
def bQ(x:RS):L8:=match x.o with
 |none=>[]
 |some (b,c)=>[(903,b,.arr 63 E1 x.ps c)]
theorem Wd.headB'{I:In}{M:O6}{cE:List Nat}{hE h0:A3}{cap:List Nat}{its:List It}{b:Nat}{x:Nd}(W:Wd I M cE hE h0 cap (.one (some ⟨b,0,none⟩) x::its)):∃ b',b'=b:=⟨b,rfl⟩
theorem Iu(ok:C6 I)(H:O8 I M g N)(hn:0≤n∧n≤I.L)(hN:32*(I.L+1-n)+23≤N):N3 I M 56 [] (jQ I g t n) t n 1:=fun br h hs hB=>by
 refine O9 1 [0,2,3,4,5,6,7,8,19,31,42,51] [] [.own 900 br 0] Tryz.func56 rfl hs ?_
 have W:=Wd.start ok hB
 have hl:=ok.len
 ((repeat' (conv=>whnf);first|(refine CK.box 901 _ (fun h1 hs=>D9 hs rfl 1) ?_;intro bo hbo)|(refine CK.want W (by decide) (by omega) rfl rfl (fun hx=>?_) (fun hx hm=>?_);rotate_left)|(refine CK.con W (Q6 ok (by omega)) rfl rfl (fun x hx=>?_) (fun x m bq h' hx hm1 hm2=>?_);rotate_left;(conv=>whnf);intro W)|fail);all_goals try conv=>whnf)
 all_goals first|(simp [jQ,bnd,want, *];done)|skip
 obtain⟨xn,e0⟩:∃ y,y=x:=⟨_,rfl⟩
 subst e0
 obtain⟨m0,e0⟩:∃ y,y=m:=⟨_,rfl⟩
 subst e0
 obtain⟨bn,e0⟩:=W.headB'
 subst e0
 obtain⟨R,hR⟩:∃ R,gY I g t (F6 I (m0+1)) [] (m0+1)=R:=⟨_,rfl⟩
 have hRS:jQ I g t n=bnd R fun l m=>bnd (R8 I g t (F6 I m) [] m) fun k m'=>.ok (.mk 1 (-1) n m' [xn,K3 2 l m,K3 2 k m']) m':=by simp [jQ,bnd,want, *]
 rw [hRS]
 refine gG tO [5] (fun x:RS=>[(5,U1 x)]) (fun x=>⟨x.h,blks (G5 I M br t x.m++(901,bo,D6 1 (-1) n 0 Q5)::bQ x),G5 I M br t x.m++(901,bo,D6 1 (-1) n 0 Q5)::bQ x⟩)
  (fun μ x=>Wd I M [br] h x.h (blks (G5 I M br t x.m++(901,bo,D6 1 (-1) n 0 Q5)::bQ x)) [.many x.ps x.l,.one (some ⟨bn,0,none⟩) xn]∧((n+1)≤x.m∧x.m≤I.L∧(x.l.length:Int)≤x.m-(n+1)∧I.L+1-x.m≤μ)∧gY I g t μ x.l x.m=R∧(x.o=none→x.ps=[])∧x.ps.length=x.l.length∧∀ b c,x.o=some (b,c)→x.ps.length≤c) ?_
 conv=>whnf
 refine⟨fun h1 hs=>?_,?_⟩
 ·refine⟨F6 I (m0+1),⟨h1,0,(m0+1),none,[],[]⟩,⟨(((W.anew (hs.lB.less (F3.blks (ks:=[900,901]) (L:=[(900,br,H5 I M t ((m0+1))),(901,bo,D6 1 (-1) n 0 Q5)]) (B4 rfl rfl (B4 rfl rfl E8))))).add (i:=.many [] []) ⟨L3.nil,trivial⟩)).of (fun e he=>?_),⟨by dsimp only;omega,by dsimp only;omega,by dsimp only;simp only [List.length_nil];omega,by dsimp only [F6];omega⟩,hR,fun _=>rfl,rfl,fun b c e=>(by cases e)⟩,?_,hs.again [900,901] (B4 rfl rfl (B4 rfl rfl E8))⟩
  ·simp only [mL,or_false] at he ⊢
   rcases he with rfl|rfl
   all_goals simp
  ·refine And.intro ⟨_,rfl,by first|rfl|(simp [B0,A1,A0,U1];done)|(simp [B0,A1,A0,U1];omega)⟩ ?_
   (repeat (refine And.intro ⟨_,rfl,rfl⟩ ?_));exact trivial
 clear W hR hRS
 rintro μ ⟨h1,w0,mm,o2,ps,l⟩ ⟨W,⟨r0,r1,r2,r3⟩,r4,r5,r6,r7⟩
 dsimp only at W r0 r1 r2 r3 r4 r5 r6 r7
 obtain⟨f,rfl⟩:∃ f,μ=f+1:=⟨μ-1,by omega⟩
 simp only [gY] at r4
 rcases o2 with _|⟨b2,c2⟩
 ·have e0:=r5 rfl
  subst e0
  have e1:l=[]:=List.eq_nil_of_length_eq_zero (by simpa using r6.symm)
  subst e1
  dsimp only [bQ,U1] at W ⊢
  ((repeat' (conv=>whnf);first|(refine VC.mk (by (first|omega|(and_intros<;>first|omega|rfl|(simp only [maxLen];omega)|(simp only [lL];omega)))) ?_)|(refine Br.mk ?_ ?_<;>intro hb<;>(try replace hb:=nN hb)<;>(try exact absurd hb (by decide))<;>(try (have hlt:=T9 hb (by decide)))<;>(try (contradiction)))|(refine E5.mk ?_;intro b hb)|(refine aH.mk ?_;intro b c hb hbc)|(refine SR.same ?_)|(refine A7 ?_ fun h1 hs=>E0 W.ok W.base hs rfl)|(refine CK.con W (H (.group) _ _ (by simp only [C5,A6];omega) (by omega) (by (simp only [bL];omega))) rfl rfl (fun x hx=>?_) (fun x m bq h' hx hm1 hm2=>?_);rotate_left;(try dsimp only [D1] at hm1);(conv=>whnf);intro W)|(refine CK.want W (by decide) (by omega) rfl rfl (fun hx=>?_) (fun hx hm=>?_);rotate_left)|(refine CK.listZ W rfl rfl (by decide) ?_;intro b h' W)|fail);all_goals try conv=>whnf)
  all_goals first
   | (try replace hb:=eq_true hb
      simp [bnd,want, *] at r4
      intro h2 hs
      refine⟨f,⟨h2,0,_,some (b,c),[]++[some ⟨bq,0,none⟩],[]++[_]⟩,⟨((W.more (ps:=[]) (l:=[]) (by repeat constructor) (by repeat constructor)).anew (hs.lB.less (F3.blks (ks:=[900,901,24]) (L:=G5 I M br t _++(901,bo,D6 1 (-1) n 0 Q5)::bQ ⟨h2,0,0,some (b,c),[]++[some ⟨bq,0,none⟩],[]⟩) (B4 rfl rfl (B4 rfl rfl (F9 rfl (SC.arr (by simp)) rfl E8)))))).of (fun e he=>?_),⟨by dsimp only;omega,by dsimp only;omega,by dsimp only;simp only [lC2];omega,by dsimp only;omega⟩,r4,fun e=>(by cases e),by simp [r6],fun b0 c0 e=>by cases e;simpa using hbc⟩,Nat.lt_succ_self f,?_,hs.again [900,901,24] (B4 rfl rfl (B4 rfl rfl (F9 rfl (SC.arr (by simp)) rfl E8)))⟩
      ·simp only [mL,or_false] at he ⊢
       rcases he with rfl|he
       ·exact .inl rfl
       ·rcases he with rfl|rfl
        all_goals simp
      ·refine And.intro ⟨_,rfl,by first|rfl|(simp [B0,A1,A0,U1];done)|(simp [B0,A1,A0,U1];omega)⟩ ?_
       (repeat (refine And.intro ⟨_,rfl,rfl⟩ ?_));exact trivial)
   |(simp [bnd,want, *] at r4;rw [←r4];first|done|(simp [bnd,want, *];done))
   |(simp [bnd,want, *] at r4;subst r4;first|done|(simp [bnd,want, *];done))
   |contradiction
   |skip
  rw [if_neg (by assumption)] at r4
  subst r4
  rw [E2]
  obtain⟨bi,hbi⟩:=W.headB'
  subst hbi
  generalize hxi:K3 2 [] mm=xi at W ⊢
  have hmm:n+1≤mm:=by omega
  clear hxi r2 r3 r5 r6 r7 f r0
  obtain⟨R,hR⟩:∃ R,R8 I g t (F6 I mm) [] mm=R:=⟨_,rfl⟩
  have hRS:(bnd (R8 I g t (F6 I mm) [] mm) fun k m'=>(.ok (.mk 1 (-1) n m' [xn,xi,K3 2 k m']) m':G3 Nd))=bnd R fun k m'=>.ok (.mk 1 (-1) n m' [xn,xi,K3 2 k m']) m':=by simp only [hR]
  rw [hRS]
  refine gG tO [6] (fun x:RS=>[(6,U1 x)]) (fun x=>⟨x.h,blks (G5 I M br t x.m++(901,bo,D6 1 (-1) n 0 Q5)::bQ x),G5 I M br t x.m++(901,bo,D6 1 (-1) n 0 Q5)::bQ x⟩)
   (fun μ x=>Wd I M [br] h x.h (blks (G5 I M br t x.m++(901,bo,D6 1 (-1) n 0 Q5)::bQ x)) [.many x.ps x.l,.one (some ⟨bi,0,none⟩) xi,.one (some ⟨bn,0,none⟩) xn]∧(mm≤x.m∧x.m≤I.L∧(x.l.length:Int)≤x.m-mm∧I.L+1-x.m≤μ)∧R8 I g t μ x.l x.m=R∧(x.o=none→x.ps=[])∧x.ps.length=x.l.length∧∀ b c,x.o=some (b,c)→x.ps.length≤c) ?_
  conv=>whnf
  refine⟨fun h1 hs=>?_,?_⟩
  ·refine⟨F6 I mm,⟨h1,0,mm,none,[],[]⟩,⟨(((W.anew (hs.lB.less (F3.blks (ks:=[900,901]) (L:=[(900,br,H5 I M t (mm)),(901,bo,D6 1 (-1) n 0 Q5)]) (B4 rfl rfl (B4 rfl rfl E8))))).add (i:=.many [] []) ⟨L3.nil,trivial⟩)).of (fun e he=>?_),⟨by dsimp only;omega,by dsimp only;omega,by dsimp only;simp only [List.length_nil];omega,by dsimp only [F6];omega⟩,hR,fun _=>rfl,rfl,fun b c e=>(by cases e)⟩,?_,hs.again [900,901] (B4 rfl rfl (B4 rfl rfl E8))⟩
   ·simp only [mL,or_false] at he ⊢
    rcases he with rfl|rfl|rfl
    all_goals simp
   ·refine And.intro ⟨_,rfl,by first|rfl|(simp [B0,A1,A0,U1];done)|(simp [B0,A1,A0,U1];omega)⟩ ?_
    (repeat (refine And.intro ⟨_,rfl,rfl⟩ ?_));exact trivial
  clear W hR hRS
  rintro μ ⟨h1,w0,mm,o2,ps,l⟩ ⟨W,⟨r0,r1,r2,r3⟩,r4,r5,r6,r7⟩
  dsimp only at W r0 r1 r2 r3 r4 r5 r6 r7
  obtain⟨f,rfl⟩:∃ f,μ=f+1:=⟨μ-1,by omega⟩
  simp only [R8] at r4
  rcases o2 with _|⟨b2,c2⟩
  ·have e0:=r5 rfl
   subst e0
   have e1:l=[]:=List.eq_nil_of_length_eq_zero (by simpa using r6.symm)
   subst e1
   dsimp only [bQ,U1] at W ⊢
   ((repeat' (conv=>whnf);first|(refine VC.mk (by (first|omega|(and_intros<;>first|omega|rfl|(simp only [maxLen];omega)|(simp only [lL];omega)))) ?_)|(refine Br.mk ?_ ?_<;>intro hb<;>(try replace hb:=nN hb)<;>(try exact absurd hb (by decide))<;>(try (have hlt:=T9 hb (by decide)))<;>(try (contradiction)))|(refine E5.mk ?_;intro b hb)|(refine aH.mk ?_;intro b c hb hbc)|(refine SR.same ?_)|(refine A7 ?_ fun h1 hs=>E0 W.ok W.base hs rfl)|(refine CK.con W (H (.group) _ _ (by simp only [C5,A6];omega) (by omega) (by (simp only [bL];omega))) rfl rfl (fun x hx=>?_) (fun x m bq h' hx hm1 hm2=>?_);rotate_left;(try dsimp only [D1] at hm1);(conv=>whnf);intro W)|(refine F2 W (H .fn _ _ (by simp only [C5,A6];omega) (by omega) trivial) rfl rfl (fun x m bq h' hx hm1 hm2=>?_) fun x hx=>?_;(try dsimp only [D1] at hm1);(conv=>whnf);intro W)|(refine CK.want W (by decide) (by omega) rfl rfl (fun hx=>?_) (fun hx hm=>?_);rotate_left)|(refine CK.cO 901 W rfl rfl rfl (fun h hs hm=>hs.ne (k:=901) (k':=900) rfl rfl (by decide) (List.mem_singleton.1 hm)) rfl rfl rfl rfl rfl rfl (rC W (by repeat constructor) (rC W (by repeat constructor) (rC W (by repeat constructor) (rN)))) (by simp [O5]) (by simp) ?_;intro h';(conv=>whnf);intro W)|(refine CK.listZ W rfl rfl (by decide) ?_;intro b h' W)|fail);all_goals try conv=>whnf)
   all_goals first
    | (try replace hb:=eq_true hb
       simp [bnd,want, *] at r4
       intro h2 hs
       refine⟨f,⟨h2,0,_,some (b,c),[]++[some ⟨bq,0,none⟩],[]++[_]⟩,⟨((W.more (ps:=[]) (l:=[]) (by repeat constructor) (by repeat constructor)).anew (hs.lB.less (F3.blks (ks:=[900,901,50]) (L:=G5 I M br t _++(901,bo,D6 1 (-1) n 0 Q5)::bQ ⟨h2,0,0,some (b,c),[]++[some ⟨bq,0,none⟩],[]⟩) (B4 rfl rfl (B4 rfl rfl (F9 rfl (SC.arr (by simp)) rfl E8)))))).of (fun e he=>?_),⟨by dsimp only;omega,by dsimp only;omega,by dsimp only;simp only [lC2];omega,by dsimp only;omega⟩,r4,fun e=>(by cases e),by simp [r6],fun b0 c0 e=>by cases e;simpa using hbc⟩,Nat.lt_succ_self f,?_,hs.again [900,901,50] (B4 rfl rfl (B4 rfl rfl (F9 rfl (SC.arr (by simp)) rfl E8)))⟩
       ·simp only [mL,or_false] at he ⊢
        rcases he with rfl|he
        ·exact .inl rfl
        ·rcases he with rfl|rfl|rfl
         all_goals simp
       ·refine And.intro ⟨_,rfl,by first|rfl|(simp [B0,A1,A0,U1];done)|(simp [B0,A1,A0,U1];omega)⟩ ?_
        (repeat (refine And.intro ⟨_,rfl,rfl⟩ ?_));exact trivial)
    | (try replace hb:=eq_true hb
       simp [bnd,want, *] at r4
       intro h2 hs
       refine⟨f,⟨h2,0,_,some (b,c),[]++[some ⟨bq,0,none⟩],[]++[_]⟩,⟨((W.more (ps:=[]) (l:=[]) (by repeat constructor) (by repeat constructor)).anew (hs.lB.less (F3.blks (ks:=[900,901,57]) (L:=G5 I M br t _++(901,bo,D6 1 (-1) n 0 Q5)::bQ ⟨h2,0,0,some (b,c),[]++[some ⟨bq,0,none⟩],[]⟩) (B4 rfl rfl (B4 rfl rfl (F9 rfl (SC.arr (by simp)) rfl E8)))))).of (fun e he=>?_),⟨by dsimp only;omega,by dsimp only;omega,by dsimp only;simp only [lC2];omega,by dsimp only;omega⟩,r4,fun e=>(by cases e),by simp [r6],fun b0 c0 e=>by cases e;simpa using hbc⟩,Nat.lt_succ_self f,?_,hs.again [900,901,57] (B4 rfl rfl (B4 rfl rfl (F9 rfl (SC.arr (by simp)) rfl E8)))⟩
       ·simp only [mL,or_false] at he ⊢
        rcases he with rfl|he
        ·exact .inl rfl
        ·rcases he with rfl|rfl|rfl
         all_goals simp
       ·refine And.intro ⟨_,rfl,by first|rfl|(simp [B0,A1,A0,U1];done)|(simp [B0,A1,A0,U1];omega)⟩ ?_
        (repeat (refine And.intro ⟨_,rfl,rfl⟩ ?_));exact trivial)
    |(simp [bnd,want, *] at r4;rw [←r4];first|done|(simp [bnd,want, *];done))
    |(simp [bnd,want, *] at r4;subst r4;first|done|(simp [bnd,want, *];done))
    |(refine W.fn rfl (by repeat constructor) ?_ (by omega);simp [bnd,want, *] at r4;rw [←r4];first|done|(simp [bnd,want, *];done))
    |contradiction
  ·have hcp:=r7 _ _ rfl
   dsimp only [bQ,U1] at W hcp ⊢
   ((repeat' (conv=>whnf);first|(refine VC.mk (by (first|omega|(and_intros<;>first|omega|rfl|(simp only [maxLen];omega)|(simp only [lL];omega)))) ?_)|(refine Br.mk ?_ ?_<;>intro hb<;>(try replace hb:=nN hb)<;>(try exact absurd hb (by decide))<;>(try (have hlt:=T9 hb (by decide)))<;>(try (contradiction)))|(refine E5.mk ?_;intro b hb)|(refine X0.mk ?_;intro b c hb hbc)|(refine SR.same ?_)|(refine A7 ?_ fun h1 hs=>E0 W.ok W.base hs rfl)|(refine CK.con W (H (.group) _ _ (by simp only [C5,A6];omega) (by omega) (by (simp only [bL];omega))) rfl rfl (fun x hx=>?_) (fun x m bq h' hx hm1 hm2=>?_);rotate_left;(try dsimp only [D1] at hm1);(conv=>whnf);intro W)|(refine F2 W (H .fn _ _ (by simp only [C5,A6];omega) (by omega) trivial) rfl rfl (fun x m bq h' hx hm1 hm2=>?_) fun x hx=>?_;(try dsimp only [D1] at hm1);(conv=>whnf);intro W)|(refine CK.want W (by decide) (by omega) rfl rfl (fun hx=>?_) (fun hx hm=>?_);rotate_left)|(refine CK.cO 901 W rfl rfl rfl (fun h hs hm=>hs.ne (k:=901) (k':=900) rfl rfl (by decide) (List.mem_singleton.1 hm)) rfl rfl rfl rfl rfl rfl (rC W (by repeat constructor) (rC W (by repeat constructor) (rC W (by repeat constructor) (rN)))) (by simp [O5]) (by simp) ?_;intro h';(conv=>whnf);intro W)|(refine CK.listO W rfl rfl rfl rfl (by rfl) rfl (W.manyOf (by repeat constructor)) (by decide) ?_;intro b h';(conv=>whnf);intro W)|fail);all_goals try conv=>whnf)
   all_goals first
    | (try replace hb:=eq_true hb
       simp [bnd,want, *] at r4
       intro h2 hs
       refine⟨f,⟨h2,0,_,some (b,c),ps++[some ⟨bq,0,none⟩],l++[_]⟩,⟨((W.more (ps:=ps) (l:=l) (by repeat constructor) (by repeat constructor)).anew (hs.lB.less (F3.blks (ks:=[900,901,50]) (L:=G5 I M br t _++(901,bo,D6 1 (-1) n 0 Q5)::bQ ⟨h2,0,0,some (b,c),ps++[some ⟨bq,0,none⟩],[]⟩) (B4 rfl rfl (B4 rfl rfl (F9 rfl (SC.arr (by simp)) rfl E8)))))).of (fun e he=>?_),⟨by dsimp only;omega,by dsimp only;omega,by dsimp only;simp only [lC2];omega,by dsimp only;omega⟩,r4,fun e=>(by cases e),by simp [r6],fun b0 c0 e=>by cases e;simpa using hbc⟩,Nat.lt_succ_self f,?_,hs.again [900,901,50] (B4 rfl rfl (B4 rfl rfl (F9 rfl (SC.arr (by simp)) rfl E8)))⟩
       ·simp only [mL,or_false] at he ⊢
        rcases he with rfl|he
        ·exact .inl rfl
        ·rcases he with rfl|rfl|rfl
         all_goals simp
       ·refine And.intro ⟨_,rfl,by first|rfl|(simp [B0,A1,A0,U1];done)|(simp [B0,A1,A0,U1];omega)⟩ ?_
        (repeat (refine And.intro ⟨_,rfl,rfl⟩ ?_));exact trivial)
    | (try replace hb:=eq_true hb
       simp [bnd,want, *] at r4
       intro h2 hs
       refine⟨f,⟨h2,0,_,some (b,c),ps++[some ⟨bq,0,none⟩],l++[_]⟩,⟨((W.more (ps:=ps) (l:=l) (by repeat constructor) (by repeat constructor)).anew (hs.lB.less (F3.blks (ks:=[900,901,57]) (L:=G5 I M br t _++(901,bo,D6 1 (-1) n 0 Q5)::bQ ⟨h2,0,0,some (b,c),ps++[some ⟨bq,0,none⟩],[]⟩) (B4 rfl rfl (B4 rfl rfl (F9 rfl (SC.arr (by simp)) rfl E8)))))).of (fun e he=>?_),⟨by dsimp only;omega,by dsimp only;omega,by dsimp only;simp only [lC2];omega,by dsimp only;omega⟩,r4,fun e=>(by cases e),by simp [r6],fun b0 c0 e=>by cases e;simpa using hbc⟩,Nat.lt_succ_self f,?_,hs.again [900,901,57] (B4 rfl rfl (B4 rfl rfl (F9 rfl (SC.arr (by simp)) rfl E8)))⟩
       ·simp only [mL,or_false] at he ⊢
        rcases he with rfl|he
        ·exact .inl rfl
        ·rcases he with rfl|rfl|rfl
         all_goals simp
       ·refine And.intro ⟨_,rfl,by first|rfl|(simp [B0,A1,A0,U1];done)|(simp [B0,A1,A0,U1];omega)⟩ ?_
        (repeat (refine And.intro ⟨_,rfl,rfl⟩ ?_));exact trivial)
    |(simp [bnd,want, *] at r4;rw [←r4];first|done|(simp [bnd,want, *];done))
    |(simp [bnd,want, *] at r4;subst r4;first|done|(simp [bnd,want, *];done))
    |(refine W.fn rfl (by repeat constructor) ?_ (by omega);simp [bnd,want, *] at r4;rw [←r4];first|done|(simp [bnd,want, *];done))
    |contradiction
 ·have hcp:=r7 _ _ rfl
  dsimp only [bQ,U1] at W hcp ⊢
  ((repeat' (conv=>whnf);first|(refine VC.mk (by (first|omega|(and_intros<;>first|omega|rfl|(simp only [maxLen];omega)|(simp only [lL];omega)))) ?_)|(refine Br.mk ?_ ?_<;>intro hb<;>(try replace hb:=nN hb)<;>(try exact absurd hb (by decide))<;>(try (have hlt:=T9 hb (by decide))))|(refine E5.mk ?_;intro b hb)|(refine X0.mk ?_;intro b c hb hbc)|(refine SR.same ?_)|(refine A7 ?_ fun h1 hs=>E0 W.ok W.base hs rfl)|(refine CK.con W (H (.group) _ _ (by simp only [C5,A6];omega) (by omega) (by (simp only [bL];omega))) rfl rfl (fun x hx=>?_) (fun x m bq h' hx hm1 hm2=>?_);rotate_left;(try dsimp only [D1] at hm1);(conv=>whnf);intro W)|(refine CK.want W (by decide) (by omega) rfl rfl (fun hx=>?_) (fun hx hm=>?_);rotate_left)|(refine CK.listO W rfl rfl rfl rfl (by rfl) rfl (W.manyOf (by repeat constructor)) (by decide) ?_;intro b h';(conv=>whnf);intro W)|fail);all_goals try conv=>whnf)
  all_goals first
   | (try replace hb:=eq_true hb
      simp [bnd,want, *] at r4
      intro h2 hs
      refine⟨f,⟨h2,0,_,some (b,c),ps++[some ⟨bq,0,none⟩],l++[_]⟩,⟨((W.more (ps:=ps) (l:=l) (by repeat constructor) (by repeat constructor)).anew (hs.lB.less (F3.blks (ks:=[900,901,24]) (L:=G5 I M br t _++(901,bo,D6 1 (-1) n 0 Q5)::bQ ⟨h2,0,0,some (b,c),ps++[some ⟨bq,0,none⟩],[]⟩) (B4 rfl rfl (B4 rfl rfl (F9 rfl (SC.arr (by simp)) rfl E8)))))).of (fun e he=>?_),⟨by dsimp only;omega,by dsimp only;omega,by dsimp only;simp only [lC2];omega,by dsimp only;omega⟩,r4,fun e=>(by cases e),by simp [r6],fun b0 c0 e=>by cases e;simpa using hbc⟩,Nat.lt_succ_self f,?_,hs.again [900,901,24] (B4 rfl rfl (B4 rfl rfl (F9 rfl (SC.arr (by simp)) rfl E8)))⟩
      ·simp only [mL,or_false] at he ⊢
       rcases he with rfl|he
       ·exact .inl rfl
       ·rcases he with rfl|rfl
        all_goals simp
      ·refine And.intro ⟨_,rfl,by first|rfl|(simp [B0,A1,A0,U1];done)|(simp [B0,A1,A0,U1];omega)⟩ ?_
       (repeat (refine And.intro ⟨_,rfl,rfl⟩ ?_));exact trivial)
   |(simp [bnd,want, *] at r4;rw [←r4];first|done|(simp [bnd,want, *];done))
   |(simp [bnd,want, *] at r4;subst r4;first|done|(simp [bnd,want, *];done))
   |contradiction
   |skip
  rw [if_neg (by assumption)] at r4
  subst r4
  rw [E2]
  obtain⟨bi,hbi⟩:=W.headB'
  subst hbi
  generalize hxi:K3 2 l mm=xi at W ⊢
  have hmm:n+1≤mm:=by omega
  clear hxi r2 r3 r5 r6 r7 f r0
  obtain⟨R,hR⟩:∃ R,R8 I g t (F6 I mm) [] mm=R:=⟨_,rfl⟩
  have hRS:(bnd (R8 I g t (F6 I mm) [] mm) fun k m'=>(.ok (.mk 1 (-1) n m' [xn,xi,K3 2 k m']) m':G3 Nd))=bnd R fun k m'=>.ok (.mk 1 (-1) n m' [xn,xi,K3 2 k m']) m':=by simp only [hR]
  rw [hRS]
  refine gG tO [6] (fun x:RS=>[(6,U1 x)]) (fun x=>⟨x.h,blks (G5 I M br t x.m++(901,bo,D6 1 (-1) n 0 Q5)::bQ x),G5 I M br t x.m++(901,bo,D6 1 (-1) n 0 Q5)::bQ x⟩)
   (fun μ x=>Wd I M [br] h x.h (blks (G5 I M br t x.m++(901,bo,D6 1 (-1) n 0 Q5)::bQ x)) [.many x.ps x.l,.one (some ⟨bi,0,none⟩) xi,.one (some ⟨bn,0,none⟩) xn]∧(mm≤x.m∧x.m≤I.L∧(x.l.length:Int)≤x.m-mm∧I.L+1-x.m≤μ)∧R8 I g t μ x.l x.m=R∧(x.o=none→x.ps=[])∧x.ps.length=x.l.length∧∀ b c,x.o=some (b,c)→x.ps.length≤c) ?_
  conv=>whnf
  refine⟨fun h1 hs=>?_,?_⟩
  ·refine⟨F6 I mm,⟨h1,0,mm,none,[],[]⟩,⟨(((W.anew (hs.lB.less (F3.blks (ks:=[900,901]) (L:=[(900,br,H5 I M t (mm)),(901,bo,D6 1 (-1) n 0 Q5)]) (B4 rfl rfl (B4 rfl rfl E8))))).add (i:=.many [] []) ⟨L3.nil,trivial⟩)).of (fun e he=>?_),⟨by dsimp only;omega,by dsimp only;omega,by dsimp only;simp only [List.length_nil];omega,by dsimp only [F6];omega⟩,hR,fun _=>rfl,rfl,fun b c e=>(by cases e)⟩,?_,hs.again [900,901] (B4 rfl rfl (B4 rfl rfl E8))⟩
   ·simp only [mL,or_false] at he ⊢
    rcases he with rfl|rfl|rfl
    all_goals simp
   ·refine And.intro ⟨_,rfl,by first|rfl|(simp [B0,A1,A0,U1];done)|(simp [B0,A1,A0,U1];omega)⟩ ?_
    (repeat (refine And.intro ⟨_,rfl,rfl⟩ ?_));exact trivial
  clear W hR hRS
  rintro μ ⟨h1,w0,mm,o2,ps,l⟩ ⟨W,⟨r0,r1,r2,r3⟩,r4,r5,r6,r7⟩
  dsimp only at W r0 r1 r2 r3 r4 r5 r6 r7
  obtain⟨f,rfl⟩:∃ f,μ=f+1:=⟨μ-1,by omega⟩
  simp only [R8] at r4
  rcases o2 with _|⟨b2,c2⟩
  ·have e0:=r5 rfl
   subst e0
   have e1:l=[]:=List.eq_nil_of_length_eq_zero (by simpa using r6.symm)
   subst e1
   dsimp only [bQ,U1] at W ⊢
   ((repeat' (conv=>whnf);first|(refine VC.mk (by (first|omega|(and_intros<;>first|omega|rfl|(simp only [maxLen];omega)|(simp only [lL];omega)))) ?_)|(refine Br.mk ?_ ?_<;>intro hb<;>(try replace hb:=nN hb)<;>(try exact absurd hb (by decide))<;>(try (have hlt:=T9 hb (by decide)))<;>(try (contradiction)))|(refine E5.mk ?_;intro b hb)|(refine aH.mk ?_;intro b c hb hbc)|(refine SR.same ?_)|(refine A7 ?_ fun h1 hs=>E0 W.ok W.base hs rfl)|(refine CK.con W (H (.group) _ _ (by simp only [C5,A6];omega) (by omega) (by (simp only [bL];omega))) rfl rfl (fun x hx=>?_) (fun x m bq h' hx hm1 hm2=>?_);rotate_left;(try dsimp only [D1] at hm1);(conv=>whnf);intro W)|(refine F2 W (H .fn _ _ (by simp only [C5,A6];omega) (by omega) trivial) rfl rfl (fun x m bq h' hx hm1 hm2=>?_) fun x hx=>?_;(try dsimp only [D1] at hm1);(conv=>whnf);intro W)|(refine CK.want W (by decide) (by omega) rfl rfl (fun hx=>?_) (fun hx hm=>?_);rotate_left)|(refine CK.cO 901 W rfl rfl rfl (fun h hs hm=>hs.ne (k:=901) (k':=900) rfl rfl (by decide) (List.mem_singleton.1 hm)) rfl rfl rfl rfl rfl rfl (rC W (by repeat constructor) (rC W (by repeat constructor) (rC W (by repeat constructor) (rN)))) (by simp [O5]) (by simp) ?_;intro h';(conv=>whnf);intro W)|(refine CK.listZ W rfl rfl (by decide) ?_;intro b h' W)|fail);all_goals try conv=>whnf)
   all_goals first
    | (try replace hb:=eq_true hb
       simp [bnd,want, *] at r4
       intro h2 hs
       refine⟨f,⟨h2,0,_,some (b,c),[]++[some ⟨bq,0,none⟩],[]++[_]⟩,⟨((W.more (ps:=[]) (l:=[]) (by repeat constructor) (by repeat constructor)).anew (hs.lB.less (F3.blks (ks:=[900,901,50]) (L:=G5 I M br t _++(901,bo,D6 1 (-1) n 0 Q5)::bQ ⟨h2,0,0,some (b,c),[]++[some ⟨bq,0,none⟩],[]⟩) (B4 rfl rfl (B4 rfl rfl (F9 rfl (SC.arr (by simp)) rfl E8)))))).of (fun e he=>?_),⟨by dsimp only;omega,by dsimp only;omega,by dsimp only;simp only [lC2];omega,by dsimp only;omega⟩,r4,fun e=>(by cases e),by simp [r6],fun b0 c0 e=>by cases e;simpa using hbc⟩,Nat.lt_succ_self f,?_,hs.again [900,901,50] (B4 rfl rfl (B4 rfl rfl (F9 rfl (SC.arr (by simp)) rfl E8)))⟩
       ·simp only [mL,or_false] at he ⊢
        rcases he with rfl|he
        ·exact .inl rfl
        ·rcases he with rfl|rfl|rfl
         all_goals simp
       ·refine And.intro ⟨_,rfl,by first|rfl|(simp [B0,A1,A0,U1];done)|(simp [B0,A1,A0,U1];omega)⟩ ?_
        (repeat (refine And.intro ⟨_,rfl,rfl⟩ ?_));exact trivial)
    | (try replace hb:=eq_true hb
       simp [bnd,want, *] at r4
       intro h2 hs
       refine⟨f,⟨h2,0,_,some (b,c),[]++[some ⟨bq,0,none⟩],[]++[_]⟩,⟨((W.more (ps:=[]) (l:=[]) (by repeat constructor) (by repeat constructor)).anew (hs.lB.less (F3.blks (ks:=[900,901,57]) (L:=G5 I M br t _++(901,bo,D6 1 (-1) n 0 Q5)::bQ ⟨h2,0,0,some (b,c),[]++[some ⟨bq,0,none⟩],[]⟩) (B4 rfl rfl (B4 rfl rfl (F9 rfl (SC.arr (by simp)) rfl E8)))))).of (fun e he=>?_),⟨by dsimp only;omega,by dsimp only;omega,by dsimp only;simp only [lC2];omega,by dsimp only;omega⟩,r4,fun e=>(by cases e),by simp [r6],fun b0 c0 e=>by cases e;simpa using hbc⟩,Nat.lt_succ_self f,?_,hs.again [900,901,57] (B4 rfl rfl (B4 rfl rfl (F9 rfl (SC.arr (by simp)) rfl E8)))⟩
       ·simp only [mL,or_false] at he ⊢
        rcases he with rfl|he
        ·exact .inl rfl
        ·rcases he with rfl|rfl|rfl
         all_goals simp
       ·refine And.intro ⟨_,rfl,by first|rfl|(simp [B0,A1,A0,U1];done)|(simp [B0,A1,A0,U1];omega)⟩ ?_
        (repeat (refine And.intro ⟨_,rfl,rfl⟩ ?_));exact trivial)
    |(simp [bnd,want, *] at r4;rw [←r4];first|done|(simp [bnd,want, *];done))
    |(simp [bnd,want, *] at r4;subst r4;first|done|(simp [bnd,want, *];done))
    |(refine W.fn rfl (by repeat constructor) ?_ (by omega);simp [bnd,want, *] at r4;rw [←r4];first|done|(simp [bnd,want, *];done))
    |contradiction
  ·have hcp:=r7 _ _ rfl
   dsimp only [bQ,U1] at W hcp ⊢
   ((repeat' (conv=>whnf);first|(refine VC.mk (by (first|omega|(and_intros<;>first|omega|rfl|(simp only [maxLen];omega)|(simp only [lL];omega)))) ?_)|(refine Br.mk ?_ ?_<;>intro hb<;>(try replace hb:=nN hb)<;>(try exact absurd hb (by decide))<;>(try (have hlt:=T9 hb (by decide)))<;>(try (contradiction)))|(refine E5.mk ?_;intro b hb)|(refine X0.mk ?_;intro b c hb hbc)|(refine SR.same ?_)|(refine A7 ?_ fun h1 hs=>E0 W.ok W.base hs rfl)|(refine CK.con W (H (.group) _ _ (by simp only [C5,A6];omega) (by omega) (by (simp only [bL];omega))) rfl rfl (fun x hx=>?_) (fun x m bq h' hx hm1 hm2=>?_);rotate_left;(try dsimp only [D1] at hm1);(conv=>whnf);intro W)|(refine F2 W (H .fn _ _ (by simp only [C5,A6];omega) (by omega) trivial) rfl rfl (fun x m bq h' hx hm1 hm2=>?_) fun x hx=>?_;(try dsimp only [D1] at hm1);(conv=>whnf);intro W)|(refine CK.want W (by decide) (by omega) rfl rfl (fun hx=>?_) (fun hx hm=>?_);rotate_left)|(refine CK.cO 901 W rfl rfl rfl (fun h hs hm=>hs.ne (k:=901) (k':=900) rfl rfl (by decide) (List.mem_singleton.1 hm)) rfl rfl rfl rfl rfl rfl (rC W (by repeat constructor) (rC W (by repeat constructor) (rC W (by repeat constructor) (rN)))) (by simp [O5]) (by simp) ?_;intro h';(conv=>whnf);intro W)|(refine CK.listO W rfl rfl rfl rfl (by rfl) rfl (W.manyOf (by repeat constructor)) (by decide) ?_;intro b h';(conv=>whnf);intro W)|fail);all_goals try conv=>whnf)
   all_goals first
    | (try replace hb:=eq_true hb
       simp [bnd,want, *] at r4
       intro h2 hs
       refine⟨f,⟨h2,0,_,some (b,c),ps++[some ⟨bq,0,none⟩],l++[_]⟩,⟨((W.more (ps:=ps) (l:=l) (by repeat constructor) (by repeat constructor)).anew (hs.lB.less (F3.blks (ks:=[900,901,50]) (L:=G5 I M br t _++(901,bo,D6 1 (-1) n 0 Q5)::bQ ⟨h2,0,0,some (b,c),ps++[some ⟨bq,0,none⟩],[]⟩) (B4 rfl rfl (B4 rfl rfl (F9 rfl (SC.arr (by simp)) rfl E8)))))).of (fun e he=>?_),⟨by dsimp only;omega,by dsimp only;omega,by dsimp only;simp only [lC2];omega,by dsimp only;omega⟩,r4,fun e=>(by cases e),by simp [r6],fun b0 c0 e=>by cases e;simpa using hbc⟩,Nat.lt_succ_self f,?_,hs.again [900,901,50] (B4 rfl rfl (B4 rfl rfl (F9 rfl (SC.arr (by simp)) rfl E8)))⟩
       ·simp only [mL,or_false] at he ⊢
        rcases he with rfl|he
        ·exact .inl rfl
        ·rcases he with rfl|rfl|rfl
         all_goals simp
       ·refine And.intro ⟨_,rfl,by first|rfl|(simp [B0,A1,A0,U1];done)|(simp [B0,A1,A0,U1];omega)⟩ ?_
        (repeat (refine And.intro ⟨_,rfl,rfl⟩ ?_));exact trivial)
    | (try replace hb:=eq_true hb
       simp [bnd,want, *] at r4
       intro h2 hs
       refine⟨f,⟨h2,0,_,some (b,c),ps++[some ⟨bq,0,none⟩],l++[_]⟩,⟨((W.more (ps:=ps) (l:=l) (by repeat constructor) (by repeat constructor)).anew (hs.lB.less (F3.blks (ks:=[900,901,57]) (L:=G5 I M br t _++(901,bo,D6 1 (-1) n 0 Q5)::bQ ⟨h2,0,0,some (b,c),ps++[some ⟨bq,0,none⟩],[]⟩) (B4 rfl rfl (B4 rfl rfl (F9 rfl (SC.arr (by simp)) rfl E8)))))).of (fun e he=>?_),⟨by dsimp only;omega,by dsimp only;omega,by dsimp only;simp only [lC2];omega,by dsimp only;omega⟩,r4,fun e=>(by cases e),by simp [r6],fun b0 c0 e=>by cases e;simpa using hbc⟩,Nat.lt_succ_self f,?_,hs.again [900,901,57] (B4 rfl rfl (B4 rfl rfl (F9 rfl (SC.arr (by simp)) rfl E8)))⟩
       ·simp only [mL,or_false] at he ⊢
        rcases he with rfl|he
        ·exact .inl rfl
        ·rcases he with rfl|rfl|rfl
         all_goals simp
       ·refine And.intro ⟨_,rfl,by first|rfl|(simp [B0,A1,A0,U1];done)|(simp [B0,A1,A0,U1];omega)⟩ ?_
        (repeat (refine And.intro ⟨_,rfl,rfl⟩ ?_));exact trivial)
    |(simp [bnd,want, *] at r4;rw [←r4];first|done|(simp [bnd,want, *];done))
    |(simp [bnd,want, *] at r4;subst r4;first|done|(simp [bnd,want, *];done))
    |(refine W.fn rfl (by repeat constructor) ?_ (by omega);simp [bnd,want, *] at r4;rw [←r4];first|done|(simp [bnd,want, *];done))
    |contradiction
end
end Go.Ex
namespace Go.Ex
open Go.Proofs
section
variable {I:In}{M:O6}{g:Gt}{N:Int}{t:Bool}{n:Int}
theorem Bu(ok:C6 I)(H:O8 I M g N)(hs0:n<I.L)(hn:0≤n∧n≤I.L)(hN:32*(I.L+1-n)+2≤N):N3 I M 205 [] (W9 I g t n) t n 1:=by
 by_cases w0:word I (n+1)=(⟨#[123]⟩:ByteArray)
 ·exact Rd ok H hs0 w0 hn hN
 by_cases w1:word I (n+1)=(⟨#[114,97,110,103,101]⟩:ByteArray)
 ·exact Qd ok H hs0 w1 hn hN
 by_cases w2:word I (n+1)=(⟨#[59]⟩:ByteArray)
 ·exact Pd ok H hs0 w2 hn hN
 exact Hi ok H hs0 w0 w1 w2 hn hN
theorem Qr(ok:C6 I)(H:O8 I M g N):O8 I M (step I g) (N+1):=fun F t n hN hn hp=>by
 have hN:C5 I F n≤N:=by omega
 cases F with
 |binary k=>exact Xi ok H hp hn hN
 |expr=>exact Ku ok H hn hN
 |unary=>exact Zl ok H hn hN
 |operand=>exact Pc ok H hn hN
 |primary=>exact Hc ok H hn hN
 |exprs=>exact Pp ok H hn hN
 |element=>exact Ee ok H hn hN
 |value=>exact Vl ok H hn hN
 |elements=>exact zS ok H hn hN
 |typ=>exact Wv ok H hn hN
 |anyType=>exact Bf ok H hn hN
 |typeName=>exact xX ok H hn hN
 |signature=>exact uO ok H hn hN
 |params=>exact Gh ok H hn hN
 |param=>exact Xn ok H hn hN
 |tparams=>exact Ra ok H hn hN
 |names=>exact Do ok H hn hN
 |union=>exact Xl ok H hn hN
 |block=>exact Iq ok H hn hN
 |stmts=>exact Pm ok H hn hN
 |anyStmts=>exact Ha ok H hn hN
 |stmt=>exact Nr ok H hn hN
 |simple=>exact Kg ok H hn hN
 |ifs=>exact Hx ok H hp hn hN
 |switches=>exact yC ok H hp hn hN
 |selects=>exact Yb ok H hp hn hN
 |fors=>exact Bu ok H hp hn hN
 |declared=>exact zX ok H hp hn hN
 |started=>exact Nb ok H hp hn hN
 |returned=>exact yV ok H hp hn hN
 |branch=>exact Ui ok H hp hn hN
 |group=>exact Cp ok H hp hn hN
 |valueSpec=>exact uJ ok H hn hN
 |constSpec=>exact uW ok H hn hN
 |importSpec=>exact sT ok H hn hN
 |typeSpec=>exact xV ok H hn hN
 |fn=>exact AM ok H hn hN
 |file=>exact Iu ok H hn hN
 |field=>exact Mp ok H hn hN
 |elem=>exact Qu ok H hn hN
 |types=>exact Bm ok H hn hN
theorem Gl(ok:C6 I):∀ f:Nat,O8 I M (G I f) f
 |0=>fun F t n hN hn hp=>absurd hN (by
  have:0≤A6 F:=by cases F<;>simp [A6]
  unfold C5
  omega)
 |f+1=>Qr ok (Gl ok f)
end
end Go.Ex
namespace Go.Ex
open Go.Proofs
theorem Fr:Tryz.prog.underlying 20=some (.interface (Tryz.prog.methodsAt 20)):=by kernel_rfl
theorem CF:(Tryz.prog.methodsAt 20).isEmpty=true:=by kernel_rfl
theorem Ws{κ:KV→Prop}(h:κ (.prop True)):Ij Tryz.prog .eql 20 (.val .nilIface) (Ed .nilIface) κ:=⟨True,fun u v w=>by
 show (do eqGuard .eql 20 u v .nilIface .nilIface;binOp .eql 20 .nilIface .nilIface:Sem Value).run Tryz.prog w = _
 have e1:Sem.run Tryz.prog (Op.equalIn Op.maxDepth 20 .nilIface .nilIface) w = .ok true w:=run_equalIn_nil_nil w 9999 20 Fr
 have e2:Sem.run Tryz.prog (Op.eqGuardIn Op.maxDepth 20 .nilIface .nilIface) w = .ok false w:=by
  show Sem.run Tryz.prog (Op.eqGuardIn (9999+1) 20 .nilIface .nilIface) w = _
  unfold Op.eqGuardIn
  simp [underlying,Fr,CF]
 simp [eqGuard,binOp,go_sem,Op.equal,e1,e2,A0],h⟩
theorem vV{t:Nat}{x:Value}{κ:KV→Prop}(h:κ (.prop False)):Ij Tryz.prog .eql 20 (.val (.iface t x)) (Ed .nilIface) κ:=⟨False,fun u v w=>by
 show (do eqGuard .eql 20 u v (.iface t x) .nilIface;binOp .eql 20 (.iface t x) .nilIface:Sem Value).run Tryz.prog w = _
 have e1:Sem.run Tryz.prog (Op.equalIn Op.maxDepth 20 (.iface t x) .nilIface) w = .ok false w:=run_equalIn_held_nil w 9999 20 t x Fr
 simp [eqGuard,binOp,go_sem,Op.equal,e1,A0],h⟩
theorem HS.base{h h1 hf:A3}{c c1:List Nat}{ch:L8}(hl:G1 h c h1 c1)(hs:HS ⟨h1,c1,ch⟩ hf):HS ⟨h,c,ch⟩ hf:=
 ⟨Nat.le_trans hl.size hs.size,fun b hb hn=>(hs.frame b (Nat.lt_of_lt_of_le hb hl.size) fun hm=>(hl.cap b hm).elim hn fun h2=>absurd (show b<h.size from hb) (by omega)).trans (hl.same b hb hn),
  fun e he=>by
   obtain⟨h1,h2,h3⟩:=hs.chunk e he
   refine⟨h1,?_,h3⟩
   rcases h2 with h2|h2
   ·exact .inl (Nat.le_trans hl.size h2)
   ·exact (hl.cap _ h2).symm,hs.apart⟩
section
variable {I:In}{M:O6}{br:Nat}{E:Value→A3→Prop}{S:St}{κ:KV→St→Prop}{f:Nat}{args:List KV}{r:L8}
theorem CK.treeR{o:G3 Nd}{str:Int}{t:Bool}{n:Int}(hcon:N3 I M f [] o t n str)(hB:J4 I M S.h0 S.cap)(hc:X1 S.ch (G5 I M br t n++r))(ha:args.map A1=[ptr br])
 (he:∀ x n' t' h',o = .err x→(0≤x∧x≤I.L)→HS ⟨S.h0,S.cap,G5 I M br t' n'++r⟩ h'→E (.iface 118 (.int .i64 x)) h')
 (hk:∀ x n' p h',o = .ok x n'→(n+str≤n'∧n'≤I.L)→G1 S.h0 S.cap h' (blks (G5 I M br t n'++r))→Q2 S.h0.size h' (blks (G5 I M br t n'++r)) p x→κ (.val (.pointer p)) ⟨h',blks (G5 I M br t n'++r),G5 I M br t n'++r⟩):CK Tryz.prog E f args [] S κ:=by
 refine CK.turnP (G5 I M br t n) r (fun h=>bN I M br [br] h o) (fun h u q' h'=>∃ x n' p,o = .ok x n'∧(n+str≤n'∧n'≤I.L)∧u = .pointer p∧q'=G5 I M br t n'∧Q2 h.size h' [br] p x) hc (fun h hs hs'=>?_) (fun h v h' hs hs' h1=>?_) (fun h u q' h' hs hs1 hs2 h1=>?_)
 ·rw [show args.map A1++([]:List KV).map A0=args.map A1 by simp,ha]
  refine (hcon br h hs' (hB.at hs fun c h1=>?_)).mono (fun v h' h1=>h1) fun v h' ⟨x,n',p,h1,h2,h3,h4,h5,h6⟩=>⟨_,h5,x,n',p,h1,h2,h4,rfl,h6⟩
  rw [List.mem_singleton.1 h1]
  exact G9 (hc.mem (900,br,H5 I M t n) (by simp [G5]))
 ·obtain⟨x,n',t',h2,h3,h4,h5⟩:=h1
  subst h3
  exact he x n' t' h' h2 h4 (hs.join hc h5)
 ·obtain⟨x,n',p,h2,h3,h4,rfl,h6⟩:=h1
  refine⟨.val (.pointer p),_,h4.symm,hs2.anew,hk x n' p h' h2 h3 hs2.lB (h6.recap (fun c hm=>?_) hs.size)⟩
  obtain⟨e,he1,rfl⟩:=oH hm
  rcases List.mem_append.1 he1 with he1|he1
  ·left
   have:e=(900,br,H5 I M t n'):=List.mem_singleton.1 he1
   rw [this]
   exact List.mem_singleton.2 rfl
  ·right
   exact (hs.chunk e (hc.mem e (List.mem_append.2 (.inr he1)))).1
theorem CK.failT{t:Bool}{n:Int}(hc:X1 S.ch (G5 I M br t n++r))(ha:args.map A1=[ptr br])(hn:0≤n∧n≤I.L)
 (he:∀ n' t' h',HS ⟨S.h0,S.cap,G5 I M br t' n'++r⟩ h'→E (.iface 118 (.int .i64 n)) h'):CK Tryz.prog E 59 args [] S κ:=by
 refine CK.turnP (G5 I M br t n) r (fun h=>bN I M br [br] h (.err n:G3 Unit)) (fun h u q' h'=>False) hc (fun h hs hs'=>?_) (fun h v h' hs hs' h1=>?_) (fun h u q' h' hs hs1 hs2 h1=>h1.elim)
 ·rw [show args.map A1++([]:List KV).map A0=args.map A1 by simp,ha]
  exact (Ae hs' hn).mono (fun v h' h1=>h1) fun v h' h1=>h1.elim
 ·obtain⟨x,n',t',h2,h3,h4,h5⟩:=h1
  cases h2
  subst h3
  exact he n' t' h' (hs.join hc h5)
end
def Im(br b2 b4 b5:Nat)(p:Option Addr)(e a:Int):L8:=[(5,b5,.box 28 [.val (.int .i64 e),.val (.int .i64 a)]),(4,b4,.box 63 [.val (.pointer p)]),(2,b2,.box 78 [.own 900 br 0])]
theorem Gm{w:World}{S:St}(hs:HS S w.heap)(b2 b4 b5:Nat):CallsD Tryz.prog 52 #[ptr b2,ptr b4,ptr b5] .returning w fun e u' w'=>e = .returned (.tuple #[])∧u' = .returning∧HS S w'.heap∧SE w w':=by
 refine tP (rep:=rep) (m:=1) (ex:=[0,1,2,4,5,6,8,10,11,24]) (cu:=[]) (args:=[.own 2 b2 0,.own 4 b4 0,.own 5 b5 0]) (v:=.val .nilIface) (u1:=.returning) (κ:=fun S'=>S'=S) tO Tryz.func52 rfl rfl rfl (by decide) rfl hs (fun c₀ cs hu=>.inr ⟨by simp [recoverD,hu],rfl,rfl⟩) ?_ (fun S' w' h1 h2 h3=>⟨rfl,rfl,h1▸h2,h3⟩)
 ((repeat' (conv=>whnf);first|(refine Br.mk ?_ ?_<;>intro hb<;>(try (contradiction)))|(refine Ws ?_)|fail);all_goals try conv=>whnf)
def Ey(I:In)(x:Int):Int:=if x<I.L then (B1 C4.dflt I.toks x).frm else I.s.size
theorem Xf{I:In}{M:O6}{h:A3}{w:World}{br b2 b4 b5:Nat}{p:Option Addr}{t:Bool}{n x:Int}(hB:J4 I M h [br])(hs:HS ⟨h,[br],G5 I M br t n++Im br b2 b4 b5 p 0 0⟩ w.heap)(hx:0≤x∧x≤I.L)(hl:I.L≤1000000) :
 CallsD Tryz.prog 52 #[ptr b2,ptr b4,ptr b5] (.panicking [{ v:=.iface 118 (.int .i64 x),recovered:=false }]) w fun e u' w'=>e = .returned (.tuple #[])∧u' = .panicking [{ v:=.iface 118 (.int .i64 x),recovered:=true }]∧HS ⟨h,[br],G5 I M br t n++Im br b2 b4 b5 none 7 (Ey I x)⟩ w'.heap∧SE w w':=by
 have hT:=hB.toks
 have hn:=hT.sl.len_eq
 have hL:I.L=I.toks.length:=rfl
 refine tP (rep:=rep) (m:=1) (ex:=[0,1,2,4,5,6,8,10,11,24]) (cu:=[]) (args:=[.own 2 b2 0,.own 4 b4 0,.own 5 b5 0]) (v:=.val (.iface 118 (.int .i64 x))) (u1:=.panicking [{ v:=.iface 118 (.int .i64 x),recovered:=true }]) (κ:=fun S'=>∀ h',HS S' h'→HS ⟨h,[br],G5 I M br t n++Im br b2 b4 b5 none 7 (Ey I x)⟩ h') tO Tryz.func52 rfl rfl rfl (by decide) rfl hs (fun c₀ cs hu=>.inl (by simp [recoverD,hu];rfl)) ?_ (fun S' w' h1 h2 h3=>⟨rfl,rfl,h1 _ h2,h3⟩)
 by_cases hxt:x<M.tn
 ·have hpl:=hT.sl.plain (by omega)
  have e:Ey I x=(B1 C4.dflt I.toks x).frm:=if_pos (by omega)
  rw [e]
  ((repeat' (conv=>whnf);first|(refine VC.mk (by omega) ?_)|(refine Br.mk ?_ ?_<;>intro hb<;>(try (exfalso;omega)))|(refine vV ?_)|(refine C1.held hT rfl (by omega) (by omega) rfl ?_)|fail);all_goals try conv=>whnf)
  all_goals exact fun h' hs=>hs
 ·have e:Ey I x=I.s.size:=if_neg (by omega)
  rw [e]
  ((repeat' (conv=>whnf);first|(refine VC.mk (by omega) ?_)|(refine Br.mk ?_ ?_<;>intro hb<;>(try (exfalso;omega)))|(refine vV ?_)|fail);all_goals try conv=>whnf)
  all_goals exact fun h' hs=>hs
end Go.Ex
