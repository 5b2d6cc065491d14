/-
  Top: TopDeep: whatever the input, the law answers true (part 33)
-/
import Derived.Test.YtpjdgifhhnjclaaGreatDoorM29
set_option linter.unusedVariables false
set_option linter.unusedSimpArgs false
set_option maxHeartbeats 4000000
set_option maxRecDepth 10000
namespace Go.Ex
open Go.Proofs
attribute [local irreducible] CH CsP word kindT
section
variable {I:In}{M:Loc}{g:Gt}{N:Int}{t:Bool}{n:Int}
theorem anyStmts_con(ok:InOk I)(H:Hyp I M g N)(hn:0≤n∧n≤I.L)(hN:32*(I.L+1-n)+21≤N):Con I M 101 [] (anyStmtsS I g t n) t n 0:=fun br h hs hB=>by
 refine eP (rep:=rep) (m:=1) (ex:=[0,2,3,4,19,22,40]) (cu:=[]) (args:=[.own 900 br 0]) tO Tryz.func101 rfl (by decide) (rs:=[.tmp 2]) rfl rfl rfl hs ?_
 have W:=Wd.start ok hB
 have hl:=ok.len
 (try (conv=>whnf))
 obtain⟨R,hR⟩:∃ R,stGo I g t (fuel I n) [] n=R:=⟨_,rfl⟩
 have hRS:anyStmtsS I g t n=bnd R fun l m=>.ok (listN 13 l m) m:=by simp only [anyStmtsS,bnd_ok,hR]
 rw [hRS]
 refine lgn tO [3] (fun x:RS=>[(3,rwK x)]) (fun x=>⟨x.h,blks (rdC I M br t x.m++rwC x),rdC I M br t x.m++rwC x⟩)
  (fun μ x=>Wd I M [br] h x.h (blks (rdC I M br t x.m++rwC x)) [.many x.ps x.l]∧(n≤x.m∧x.m≤I.L∧(x.l.length:Int)≤x.m-n∧I.L+1-x.m≤μ)∧stGo I g t μ x.l x.m=R∧(x.o=none→x.ps=[])∧x.ps.length=x.l.length∧∀ b c,x.o=some (b,c)→x.ps.length≤c) ?_
 conv=>whnf
 refine⟨fun h1 hs=>?_,?_⟩
 ·refine⟨fuel I n,⟨h1,0,n,none,[],[]⟩,⟨(((W.anew (hs.lB.less (blk1 (k:=900) rfl))).add (i:=.many [] []) ⟨TsI.nil,trivial⟩)).of (fun e he=>he),⟨by dsimp only;omega,by dsimp only;omega,by dsimp only;simp only [List.length_nil];omega,by dsimp only [fuel];omega⟩,hR,fun _=>rfl,rfl,fun b c e=>(by cases e)⟩,?_,rd_at hs (k:=900) rfl⟩
  refine And.intro ⟨_,rfl,by first|rfl|(simp [den,den1,denC,rwK];done)|(simp [den,den1,denC,rwK];omega)⟩ ?_
  (repeat (refine And.intro ⟨_,rfl,rfl⟩ ?_));exact trivial
 clear W hR hRS
 rintro μ ⟨h1,w0,mm,o2,ps,l⟩ ⟨W,⟨r0,r1,r2,r3⟩,r4,r5,r6,r7⟩
 dsimp only at W r0 r1 r2 r3 r4 r5 r6 r7
 obtain⟨f,rfl⟩:∃ f,μ=f+1:=⟨μ-1,by omega⟩
 simp only [stGo] at r4
 rcases o2 with _|⟨b2,c2⟩
 ·have e0:=r5 rfl
  subst e0
  have e1:l=[]:=List.eq_nil_of_length_eq_zero (by simpa using r6.symm)
  subst e1
  dsimp only [rwC,rwK] at W ⊢
  ((repeat' ((conv=>whnf);(first|(refine Ar.fit (by omega) ?_)|(refine VC.mk (by (first|omega|(and_intros<;>first|omega|rfl|(simp only [maxLen];omega)|(simp only [List.length_append,List.length_take,List.length_replicate,List.length_cons,List.length_nil];omega)))) ?_)|(refine Br.mk ?_ ?_<;>intro hb<;>(try replace hb:=Classical.not_not.1 hb)<;>(try exact absurd hb (show ¬ (ByteArray.mk _=ByteArray.mk _) from by decide))<;>(try (have hlt:=wlt hb (by decide)))<;>(try (contradiction)))|(refine New.mk ?_;intro b hb)|(refine New2.mk ?_;intro b c hb hbc)|(refine SR.same ?_)|(apply CK.pure;(case hh=>(intro h1 hs;first|exact next_k W.ok W.base hs rfl)))|(refine CK.says (.prop _) (fun h1 hs=>ended_k W.ok W.base hs rfl) ?_)|(refine CK.con W (H (.stmt) _ _ (by simp only [need,rank];omega) ⟨by omega,by omega⟩ (by exact trivial)) rfl rfl (fun x hx=>?_) (fun x m bq h' hx hm1 hm2=>?_);rotate_left;(try dsimp only [fstr] at hm1);(conv=>whnf);intro W)|(refine CK.sure W (none_con 49 (by decide) ⟨by omega,by omega⟩) rfl rfl ?_;intro bq h';(conv=>whnf);intro W)|(refine CK.want W (by decide) ⟨by omega,by omega⟩ rfl rfl (fun hx=>?_) (fun hx hm=>?_);rotate_left)|(refine CK.listZ W rfl rfl (by decide) ?_;intro b h' W)|fail)));all_goals (try (conv=>whnf)))
  all_goals first
   |(refine⟨fun h' hs=>W.fin hs rfl (by repeat (first|exact List.Mem.head _|apply List.Mem.tail)) (by simp [bnd,want, *] at r4;rw [←r4];simp [bnd,want, *]) ⟨by omega,by omega⟩⟩)
   |(simp [bnd,want, *] at r4;rw [←r4];simp [bnd,want, *];done)
   |(simp [bnd,want, *] at r4;subst r4;simp [bnd,want, *];done)
   | (try replace hb:=eq_true hb
      simp [bnd,want, *] at r4
      intro h2 hs
      refine⟨f,⟨h2,0,_,some (b,c),[]++[some ⟨bq,0,none⟩],[]++[_]⟩,⟨((W.more (ps:=[]) (l:=[]) (by repeat (first|exact List.Mem.head _|apply List.Mem.tail)) (by repeat (first|exact List.Mem.head _|apply List.Mem.tail))).anew (hs.lB.less (RenC.blks (ks:=[900,11]) (L:=rdC I M br t _++rwC ⟨h2,0,0,some (b,c),[]++[some ⟨bq,0,none⟩],[]⟩) (by show RenC (_::_) (_::_) (_::_);exact⟨⟨_,rfl,SC.rfl⟩,rfl,⟨_,rfl,SC.arr (by simp)⟩,rfl,trivial⟩)))).of (fun e he=>?_),⟨by dsimp only;omega,by dsimp only;omega,by dsimp only;simp only [List.length_append,List.length_cons,List.length_nil];omega,by dsimp only;omega⟩,r4,fun e=>(by cases e),by simp [r6],fun b0 c0 e=>by cases e;simpa using hbc⟩,Nat.lt_succ_self f,?_,hs.again [900,11] (by show RenC (_::_) (_::_) (_::_);exact⟨⟨_,rfl,SC.rfl⟩,rfl,⟨_,rfl,SC.arr (by simp)⟩,rfl,trivial⟩)⟩
      ·simp only [List.mem_cons,List.not_mem_nil,or_false] at he ⊢
       exact .inl he
      ·refine And.intro ⟨_,rfl,by first|rfl|(simp [den,den1,denC,rwK];done)|(simp [den,den1,denC,rwK];omega)⟩ ?_
       (repeat (refine And.intro ⟨_,rfl,rfl⟩ ?_));exact trivial)
   | (simp [bnd,want, *] at r4
      intro h2 hs
      refine⟨f,⟨h2,0,_,some (b,c),[]++[some ⟨bq,0,none⟩],[]++[_]⟩,⟨((W.more (ps:=[]) (l:=[]) (by repeat (first|exact List.Mem.head _|apply List.Mem.tail)) (by repeat (first|exact List.Mem.head _|apply List.Mem.tail))).anew (hs.lB.less (RenC.blks (ks:=[900,11]) (L:=rdC I M br t _++rwC ⟨h2,0,0,some (b,c),[]++[some ⟨bq,0,none⟩],[]⟩) (by show RenC (_::_) (_::_) (_::_);exact⟨⟨_,rfl,SC.rfl⟩,rfl,⟨_,rfl,SC.arr (by simp)⟩,rfl,trivial⟩)))).of (fun e he=>?_),⟨by dsimp only;omega,by dsimp only;omega,by dsimp only;simp only [List.length_append,List.length_cons,List.length_nil];omega,by dsimp only;omega⟩,r4,fun e=>(by cases e),by simp [r6],fun b0 c0 e=>by cases e;simpa using hbc⟩,Nat.lt_succ_self f,?_,hs.again [900,11] (by show RenC (_::_) (_::_) (_::_);exact⟨⟨_,rfl,SC.rfl⟩,rfl,⟨_,rfl,SC.arr (by simp)⟩,rfl,trivial⟩)⟩
      ·simp only [List.mem_cons,List.not_mem_nil,or_false] at he ⊢
       exact .inl he
      ·refine And.intro ⟨_,rfl,by first|rfl|(simp [den,den1,denC,rwK];done)|(simp [den,den1,denC,rwK];omega)⟩ ?_
       (repeat (refine And.intro ⟨_,rfl,rfl⟩ ?_));exact trivial)
   | (try replace hb:=eq_true hb
      simp [bnd,want, *] at r4
      intro h2 hs
      refine⟨f,⟨h2,0,_,some (b,c),[]++[some ⟨bq,0,none⟩],[]++[_]⟩,⟨((W.more (ps:=[]) (l:=[]) (by repeat (first|exact List.Mem.head _|apply List.Mem.tail)) (by repeat (first|exact List.Mem.head _|apply List.Mem.tail))).anew (hs.lB.less (RenC.blks (ks:=[900,47]) (L:=rdC I M br t _++rwC ⟨h2,0,0,some (b,c),[]++[some ⟨bq,0,none⟩],[]⟩) (by show RenC (_::_) (_::_) (_::_);exact⟨⟨_,rfl,SC.rfl⟩,rfl,⟨_,rfl,SC.arr (by simp)⟩,rfl,trivial⟩)))).of (fun e he=>?_),⟨by dsimp only;omega,by dsimp only;omega,by dsimp only;simp only [List.length_append,List.length_cons,List.length_nil];omega,by dsimp only;omega⟩,r4,fun e=>(by cases e),by simp [r6],fun b0 c0 e=>by cases e;simpa using hbc⟩,Nat.lt_succ_self f,?_,hs.again [900,47] (by show RenC (_::_) (_::_) (_::_);exact⟨⟨_,rfl,SC.rfl⟩,rfl,⟨_,rfl,SC.arr (by simp)⟩,rfl,trivial⟩)⟩
      ·simp only [List.mem_cons,List.not_mem_nil,or_false] at he ⊢
       exact .inl he
      ·refine And.intro ⟨_,rfl,by first|rfl|(simp [den,den1,denC,rwK];done)|(simp [den,den1,denC,rwK];omega)⟩ ?_
       (repeat (refine And.intro ⟨_,rfl,rfl⟩ ?_));exact trivial)
   | (simp [bnd,want, *] at r4
      intro h2 hs
      refine⟨f,⟨h2,0,_,some (b,c),[]++[some ⟨bq,0,none⟩],[]++[_]⟩,⟨((W.more (ps:=[]) (l:=[]) (by repeat (first|exact List.Mem.head _|apply List.Mem.tail)) (by repeat (first|exact List.Mem.head _|apply List.Mem.tail))).anew (hs.lB.less (RenC.blks (ks:=[900,47]) (L:=rdC I M br t _++rwC ⟨h2,0,0,some (b,c),[]++[some ⟨bq,0,none⟩],[]⟩) (by show RenC (_::_) (_::_) (_::_);exact⟨⟨_,rfl,SC.rfl⟩,rfl,⟨_,rfl,SC.arr (by simp)⟩,rfl,trivial⟩)))).of (fun e he=>?_),⟨by dsimp only;omega,by dsimp only;omega,by dsimp only;simp only [List.length_append,List.length_cons,List.length_nil];omega,by dsimp only;omega⟩,r4,fun e=>(by cases e),by simp [r6],fun b0 c0 e=>by cases e;simpa using hbc⟩,Nat.lt_succ_self f,?_,hs.again [900,47] (by show RenC (_::_) (_::_) (_::_);exact⟨⟨_,rfl,SC.rfl⟩,rfl,⟨_,rfl,SC.arr (by simp)⟩,rfl,trivial⟩)⟩
      ·simp only [List.mem_cons,List.not_mem_nil,or_false] at he ⊢
       exact .inl he
      ·refine And.intro ⟨_,rfl,by first|rfl|(simp [den,den1,denC,rwK];done)|(simp [den,den1,denC,rwK];omega)⟩ ?_
       (repeat (refine And.intro ⟨_,rfl,rfl⟩ ?_));exact trivial)
   |contradiction
 ·have hcp:=r7 _ _ rfl
  dsimp only [rwC,rwK] at W hcp ⊢
  ((repeat' ((conv=>whnf);(first|(refine Ar.fit (by omega) ?_)|(refine VC.mk (by (first|omega|(and_intros<;>first|omega|rfl|(simp only [maxLen];omega)|(simp only [List.length_append,List.length_take,List.length_replicate,List.length_cons,List.length_nil];omega)))) ?_)|(refine Br.mk ?_ ?_<;>intro hb<;>(try replace hb:=Classical.not_not.1 hb)<;>(try exact absurd hb (show ¬ (ByteArray.mk _=ByteArray.mk _) from by decide))<;>(try (have hlt:=wlt hb (by decide))))|(refine New.mk ?_;intro b hb)|(refine NewO.mk ?_;intro b c hb hbc)|(refine SR.same ?_)|(apply CK.pure;(case hh=>(intro h1 hs;first|exact next_k W.ok W.base hs rfl)))|(refine CK.says (.prop _) (fun h1 hs=>ended_k W.ok W.base hs rfl) ?_)|(refine CK.con W (H (.stmt) _ _ (by simp only [need,rank];omega) ⟨by omega,by omega⟩ (by exact trivial)) rfl rfl (fun x hx=>?_) (fun x m bq h' hx hm1 hm2=>?_);rotate_left;(try dsimp only [fstr] at hm1);(conv=>whnf);intro W)|(refine CK.sure W (none_con 49 (by decide) ⟨by omega,by omega⟩) rfl rfl ?_;intro bq h';(conv=>whnf);intro W)|(refine CK.want W (by decide) ⟨by omega,by omega⟩ rfl rfl (fun hx=>?_) (fun hx hm=>?_);rotate_left)|(refine CK.listO W rfl rfl rfl rfl (by rfl) rfl (W.manyOf (by repeat (first|exact List.Mem.head _|apply List.Mem.tail))) (by decide) ?_;intro b h';(conv=>whnf);intro W)|fail)));all_goals (try (conv=>whnf)))
  all_goals first
   |(refine⟨fun h' hs=>W.fin hs rfl (by repeat (first|exact List.Mem.head _|apply List.Mem.tail)) (by simp [bnd,want, *] at r4;rw [←r4];simp [bnd,want, *]) ⟨by omega,by omega⟩⟩)
   |(simp [bnd,want, *] at r4;rw [←r4];simp [bnd,want, *];done)
   |(simp [bnd,want, *] at r4;subst r4;simp [bnd,want, *];done)
   | (try replace hb:=eq_true hb
      simp [bnd,want, *] at r4
      intro h2 hs
      refine⟨f,⟨h2,0,_,some (b,c),ps++[some ⟨bq,0,none⟩],l++[_]⟩,⟨((W.more (ps:=ps) (l:=l) (by repeat (first|exact List.Mem.head _|apply List.Mem.tail)) (by repeat (first|exact List.Mem.head _|apply List.Mem.tail))).anew (hs.lB.less (RenC.blks (ks:=[900,11]) (L:=rdC I M br t _++rwC ⟨h2,0,0,some (b,c),ps++[some ⟨bq,0,none⟩],[]⟩) (by show RenC (_::_) (_::_) (_::_);exact⟨⟨_,rfl,SC.rfl⟩,rfl,⟨_,rfl,SC.arr (by simp)⟩,rfl,trivial⟩)))).of (fun e he=>?_),⟨by dsimp only;omega,by dsimp only;omega,by dsimp only;simp only [List.length_append,List.length_cons,List.length_nil];omega,by dsimp only;omega⟩,r4,fun e=>(by cases e),by simp [r6],fun b0 c0 e=>by cases e;simpa using hbc⟩,Nat.lt_succ_self f,?_,hs.again [900,11] (by show RenC (_::_) (_::_) (_::_);exact⟨⟨_,rfl,SC.rfl⟩,rfl,⟨_,rfl,SC.arr (by simp)⟩,rfl,trivial⟩)⟩
      ·simp only [List.mem_cons,List.not_mem_nil,or_false] at he ⊢
       exact .inl he
      ·refine And.intro ⟨_,rfl,by first|rfl|(simp [den,den1,denC,rwK];done)|(simp [den,den1,denC,rwK];omega)⟩ ?_
       (repeat (refine And.intro ⟨_,rfl,rfl⟩ ?_));exact trivial)
   | (simp [bnd,want, *] at r4
      intro h2 hs
      refine⟨f,⟨h2,0,_,some (b,c),ps++[some ⟨bq,0,none⟩],l++[_]⟩,⟨((W.more (ps:=ps) (l:=l) (by repeat (first|exact List.Mem.head _|apply List.Mem.tail)) (by repeat (first|exact List.Mem.head _|apply List.Mem.tail))).anew (hs.lB.less (RenC.blks (ks:=[900,11]) (L:=rdC I M br t _++rwC ⟨h2,0,0,some (b,c),ps++[some ⟨bq,0,none⟩],[]⟩) (by show RenC (_::_) (_::_) (_::_);exact⟨⟨_,rfl,SC.rfl⟩,rfl,⟨_,rfl,SC.arr (by simp)⟩,rfl,trivial⟩)))).of (fun e he=>?_),⟨by dsimp only;omega,by dsimp only;omega,by dsimp only;simp only [List.length_append,List.length_cons,List.length_nil];omega,by dsimp only;omega⟩,r4,fun e=>(by cases e),by simp [r6],fun b0 c0 e=>by cases e;simpa using hbc⟩,Nat.lt_succ_self f,?_,hs.again [900,11] (by show RenC (_::_) (_::_) (_::_);exact⟨⟨_,rfl,SC.rfl⟩,rfl,⟨_,rfl,SC.arr (by simp)⟩,rfl,trivial⟩)⟩
      ·simp only [List.mem_cons,List.not_mem_nil,or_false] at he ⊢
       exact .inl he
      ·refine And.intro ⟨_,rfl,by first|rfl|(simp [den,den1,denC,rwK];done)|(simp [den,den1,denC,rwK];omega)⟩ ?_
       (repeat (refine And.intro ⟨_,rfl,rfl⟩ ?_));exact trivial)
   | (try replace hb:=eq_true hb
      simp [bnd,want, *] at r4
      intro h2 hs
      refine⟨f,⟨h2,0,_,some (b,c),ps++[some ⟨bq,0,none⟩],l++[_]⟩,⟨((W.more (ps:=ps) (l:=l) (by repeat (first|exact List.Mem.head _|apply List.Mem.tail)) (by repeat (first|exact List.Mem.head _|apply List.Mem.tail))).anew (hs.lB.less (RenC.blks (ks:=[900,47]) (L:=rdC I M br t _++rwC ⟨h2,0,0,some (b,c),ps++[some ⟨bq,0,none⟩],[]⟩) (by show RenC (_::_) (_::_) (_::_);exact⟨⟨_,rfl,SC.rfl⟩,rfl,⟨_,rfl,SC.arr (by simp)⟩,rfl,trivial⟩)))).of (fun e he=>?_),⟨by dsimp only;omega,by dsimp only;omega,by dsimp only;simp only [List.length_append,List.length_cons,List.length_nil];omega,by dsimp only;omega⟩,r4,fun e=>(by cases e),by simp [r6],fun b0 c0 e=>by cases e;simpa using hbc⟩,Nat.lt_succ_self f,?_,hs.again [900,47] (by show RenC (_::_) (_::_) (_::_);exact⟨⟨_,rfl,SC.rfl⟩,rfl,⟨_,rfl,SC.arr (by simp)⟩,rfl,trivial⟩)⟩
      ·simp only [List.mem_cons,List.not_mem_nil,or_false] at he ⊢
       exact .inl he
      ·refine And.intro ⟨_,rfl,by first|rfl|(simp [den,den1,denC,rwK];done)|(simp [den,den1,denC,rwK];omega)⟩ ?_
       (repeat (refine And.intro ⟨_,rfl,rfl⟩ ?_));exact trivial)
   | (simp [bnd,want, *] at r4
      intro h2 hs
      refine⟨f,⟨h2,0,_,some (b,c),ps++[some ⟨bq,0,none⟩],l++[_]⟩,⟨((W.more (ps:=ps) (l:=l) (by repeat (first|exact List.Mem.head _|apply List.Mem.tail)) (by repeat (first|exact List.Mem.head _|apply List.Mem.tail))).anew (hs.lB.less (RenC.blks (ks:=[900,47]) (L:=rdC I M br t _++rwC ⟨h2,0,0,some (b,c),ps++[some ⟨bq,0,none⟩],[]⟩) (by show RenC (_::_) (_::_) (_::_);exact⟨⟨_,rfl,SC.rfl⟩,rfl,⟨_,rfl,SC.arr (by simp)⟩,rfl,trivial⟩)))).of (fun e he=>?_),⟨by dsimp only;omega,by dsimp only;omega,by dsimp only;simp only [List.length_append,List.length_cons,List.length_nil];omega,by dsimp only;omega⟩,r4,fun e=>(by cases e),by simp [r6],fun b0 c0 e=>by cases e;simpa using hbc⟩,Nat.lt_succ_self f,?_,hs.again [900,47] (by show RenC (_::_) (_::_) (_::_);exact⟨⟨_,rfl,SC.rfl⟩,rfl,⟨_,rfl,SC.arr (by simp)⟩,rfl,trivial⟩)⟩
      ·simp only [List.mem_cons,List.not_mem_nil,or_false] at he ⊢
       exact .inl he
      ·refine And.intro ⟨_,rfl,by first|rfl|(simp [den,den1,denC,rwK];done)|(simp [den,den1,denC,rwK];omega)⟩ ?_
       (repeat (refine And.intro ⟨_,rfl,rfl⟩ ?_));exact trivial)
   |contradiction
end
end Go.Ex
namespace Go.Ex
open Go.Proofs
attribute [local irreducible] CH CsP word kindT
section
variable {I:In}{M:Loc}{g:Gt}{N:Int}{t:Bool}{n:Int}
set_option maxHeartbeats 8000000 in
theorem clauses1_con(ok:InOk I)(H:Hyp I M g N){br fo b3 b4 b5:Nat}{kind:Int}{one:Int→Out Nd}(hkd:leK kind=0)(Hone:∀ m,n+1≤m→m≤I.L→Con I M fo [] (one m) false m 1)(hn:0≤n∧n≤I.L)(hN:32*(I.L+1-n)≤N) :
 Con1B I M br 233 [ptr b3,ptr b4,ptr b5] [(b3,.box 78 [.val (ptr br)]),(b4,.box 5 [.val (.int .u8 kind)]),(b5,.box 119 [.val (.func (.func fo) ⟨[ptr br]⟩ ⟨[]⟩)])] (clausesS I g kind one n) false n 1:=fun h hs hB hbx=>by
 refine eP (rep:=rep) (m:=3) (ex:=[0,1,2,3,4,5,6,7,12,17]) (cu:=[]) (args:=[.val (ptr b3),.val (ptr b4),.val (ptr b5)]) tO Tryz.func233 rfl (by decide) (rs:=[.tmp 3]) rfl rfl rfl hs ?_
 have W:=(Wd.start ok hB).add (i:=.bxs [(b3,.box 78 [.val (ptr br)]),(b4,.box 5 [.val (.int .u8 kind)]),(b5,.box 119 [.val (.func (.func fo) ⟨[ptr br]⟩ ⟨[]⟩)])]) hbx
 have hl:=ok.len
 ((repeat' ((conv=>whnf);(first|(refine PLoad.box W (by repeat (first|exact List.Mem.head _|apply List.Mem.tail)) (by repeat (first|exact List.Mem.head _|apply List.Mem.tail)) ?_)|(refine CK.want W (by decide) ⟨by omega,by omega⟩ rfl rfl (fun hx=>?_) (fun hx hm=>?_);rotate_left)|fail)));all_goals (try (conv=>whnf)))
 case refine_1=>simp [clausesS,bnd,want, *]
 obtain⟨R,hR⟩:∃ R,clGo I g kind one (fuel I (n+1)) [] (n+1)=R:=⟨_,rfl⟩
 have hRS:clausesS I g kind one n=bnd R fun l m=>bnd (want I (⟨#[125]⟩:ByteArray) m) fun _ m'=>.ok (listN 25 l m) m':=by simp only [clausesS,want,if_pos hx,bnd_ok,hR]
 rw [hRS]
 refine lgn tO [4] (fun x:RS=>[(4,rwK x)]) (fun x=>⟨x.h,blks (rdC I M br false x.m++rwC x),rdC I M br false x.m++rwC x⟩)
  (fun μ x=>Wd I M [br] h x.h (blks (rdC I M br false x.m++rwC x)) [.many x.ps x.l,.bxs [(b3,.box 78 [.val (ptr br)]),(b4,.box 5 [.val (.int .u8 kind)]),(b5,.box 119 [.val (.func (.func fo) ⟨[ptr br]⟩ ⟨[]⟩)])]]∧(n≤x.m∧x.m≤I.L∧(x.l.length:Int)≤x.m-n∧I.L+1-x.m≤μ)∧clGo I g kind one μ x.l x.m=R∧(x.o=none→x.ps=[])∧x.ps.length=x.l.length∧∀ b c,x.o=some (b,c)→x.ps.length≤c) ?_
 conv=>whnf
 refine⟨fun h1 hs=>?_,?_⟩
 ·refine⟨fuel I (n+1),⟨h1,0,(n+1),none,[],[]⟩,⟨(((W.anew (hs.lB.less (blk1 (k:=900) rfl))).add (i:=.many [] []) ⟨TsI.nil,trivial⟩)).of (fun e he=>he),⟨by dsimp only;omega,by dsimp only;omega,by dsimp only;simp only [List.length_nil];omega,by dsimp only [fuel];omega⟩,hR,fun _=>rfl,rfl,fun b c e=>(by cases e)⟩,?_,rd_at hs (k:=900) rfl⟩
  refine And.intro ⟨_,rfl,by first|rfl|(simp [den,den1,denC,rwK];done)|(simp [den,den1,denC,rwK];omega)⟩ ?_
  (repeat (refine And.intro ⟨_,rfl,rfl⟩ ?_));exact trivial
 clear W hR hRS
 rintro μ ⟨h1,w0,mm,o2,ps,l⟩ ⟨W,⟨r0,r1,r2,r3⟩,r4,r5,r6,r7⟩
 dsimp only at W r0 r1 r2 r3 r4 r5 r6 r7
 obtain⟨f,rfl⟩:∃ f,μ=f+1:=⟨μ-1,by omega⟩
 simp only [clGo] at r4
 rcases o2 with _|⟨b2,c2⟩
 ·have e0:=r5 rfl
  subst e0
  have e1:l=[]:=List.eq_nil_of_length_eq_zero (by simpa using r6.symm)
  subst e1
  dsimp only [rwC,rwK] at W ⊢
  ((repeat' ((conv=>whnf);(first|(refine dW (id:=11) tO mixed (.pull 0 [9,10] (.pull 2 [7,8,9,10] (.pull 3 [6,7,8,9,10] (.pull 4 [5,6,7,8,9,10] (.br 1 5 (.one 5 (.one 6 (.one 7 (.one 8 (.one 9 (.pull 10 [] .done)))))) (.br 1 6 (.one 6 (.one 7 (.one 8 (.one 9 (.pull 10 [] .done))))) (.pull 1 [7,8,9,10] (.one 7 (.one 8 (.one 9 (.pull 10 [] .done))))))))))) (by kernel_rfl) (by kernel_rfl) ?_)|(refine VC.mk (by (first|omega|(and_intros<;>first|omega|rfl|(simp only [maxLen];omega)|(simp only [List.length_append,List.length_take,List.length_replicate,List.length_cons,List.length_nil];omega)))) ?_)|(refine Br.mk ?_ ?_<;>intro hb<;>(try replace hb:=Classical.not_not.1 hb)<;>(try exact absurd hb (show ¬ (ByteArray.mk _=ByteArray.mk _) from by decide))<;>(try (have hlt:=wlt hb (by decide)))<;>(try (contradiction)))|(refine New.mk ?_;intro b hb)|(refine New2.mk ?_;intro b c hb hbc)|(refine SR.same ?_)|(refine Two.mk ?_ ?_)|(apply CK.pure;(case hh=>(intro h1 hs;first|exact next_k W.ok W.base hs rfl)))|(refine PLoad.box W (by repeat (first|exact List.Mem.head _|apply List.Mem.tail)) (by repeat (first|exact List.Mem.head _|apply List.Mem.tail)) ?_)|(refine CK.box 901 _ (fun h1 hs=>open_k hs rfl _) ?_;intro bo hbo)|(refine CK.maybe W.ok W.base (by decide) rfl rfl (fun hx hm=>?_) (fun hx=>?_))|(refine CK.sure W (none_con 0 (by decide) ⟨by omega,by omega⟩) rfl rfl ?_;intro bq h';(conv=>whnf);intro W)|(refine CK.want W (by decide) ⟨by omega,by omega⟩ rfl rfl (fun hx=>?_) (fun hx hm=>?_);rotate_left)|(refine CK.con W (Hone _ (by omega) (by omega)) rfl rfl (fun x hx=>?_) (fun x m bq h' hx hm1 hm2=>?_);rotate_left;(conv=>whnf);intro W)|(refine CK.con W (H (.stmts) _ _ (by simp only [need,rank];omega) ⟨by omega,by omega⟩ (by exact trivial)) rfl rfl (fun x hx=>?_) (fun x m bq h' hx hm1 hm2=>?_);rotate_left;(try dsimp only [fstr] at hm1);(conv=>whnf);intro W)|(refine CK.cO 901 W rfl rfl rfl (fun h hs hm=>hs.ne (k:=901) (k':=900) rfl rfl (by decide) (List.mem_singleton.1 hm)) rfl rfl rfl rfl rfl rfl (rC W (by repeat (first|exact List.Mem.head _|apply List.Mem.tail)) (rC W (by repeat (first|exact List.Mem.head _|apply List.Mem.tail)) (rN))) (by rw [hkd];exact Nat.zero_le _) (by simp) ?_;intro h';(conv=>whnf);intro W)|(refine CK.listZ W rfl rfl (by decide) ?_;intro b h' W)|fail)));all_goals (try (conv=>whnf)))
  all_goals first
   |(refine⟨fun h' hs=>W.fin hs rfl (by repeat (first|exact List.Mem.head _|apply List.Mem.tail)) ?_ ⟨by omega,by omega⟩⟩;simp [bnd,want, *] at r4;rw [←r4];first|done|(simp [bnd,want, *];done))
   |(simp [bnd,want, *] at r4;rw [←r4];first|done|(simp [bnd,want, *];done))
   |(simp [bnd,want, *] at r4;subst r4;first|done|(simp [bnd,want, *];done))
   | (try replace hb:=eq_true hb
      simp [bnd,want, *] at r4
      intro h2 hs
      refine⟨f,⟨h2,0,_,some (b,c),[]++[some ⟨bo,0,none⟩],[]++[_]⟩,⟨((W.more (ps:=[]) (l:=[]) (by repeat (first|exact List.Mem.head _|apply List.Mem.tail)) (by repeat (first|exact List.Mem.head _|apply List.Mem.tail))).anew (hs.lB.less (RenC.blks (ks:=[900,35]) (L:=rdC I M br false _++rwC ⟨h2,0,0,some (b,c),[]++[some ⟨bo,0,none⟩],[]⟩) (by show RenC (_::_) (_::_) (_::_);exact⟨⟨_,rfl,SC.rfl⟩,rfl,⟨_,rfl,SC.arr (by simp)⟩,rfl,trivial⟩)))).of (fun e he=>?_),⟨by dsimp only;omega,by dsimp only;omega,by dsimp only;simp only [List.length_append,List.length_cons,List.length_nil];omega,by dsimp only;omega⟩,r4,fun e=>(by cases e),by simp [r6],fun b0 c0 e=>by cases e;simpa using hbc⟩,Nat.lt_succ_self f,?_,hs.again [900,35] (by show RenC (_::_) (_::_) (_::_);exact⟨⟨_,rfl,SC.rfl⟩,rfl,⟨_,rfl,SC.arr (by simp)⟩,rfl,trivial⟩)⟩
      ·simp only [List.mem_cons,List.not_mem_nil,or_false] at he ⊢
       rcases he with rfl|rfl
       ·exact .inl rfl
       ·simp
      ·refine And.intro ⟨_,rfl,by first|rfl|(simp [den,den1,denC,rwK];done)|(simp [den,den1,denC,rwK];omega)⟩ ?_
       (repeat (refine And.intro ⟨_,rfl,rfl⟩ ?_));exact trivial)
   | (simp [bnd,want, *] at r4
      intro h2 hs
      refine⟨f,⟨h2,0,_,some (b,c),[]++[some ⟨bo,0,none⟩],[]++[_]⟩,⟨((W.more (ps:=[]) (l:=[]) (by repeat (first|exact List.Mem.head _|apply List.Mem.tail)) (by repeat (first|exact List.Mem.head _|apply List.Mem.tail))).anew (hs.lB.less (RenC.blks (ks:=[900,35]) (L:=rdC I M br false _++rwC ⟨h2,0,0,some (b,c),[]++[some ⟨bo,0,none⟩],[]⟩) (by show RenC (_::_) (_::_) (_::_);exact⟨⟨_,rfl,SC.rfl⟩,rfl,⟨_,rfl,SC.arr (by simp)⟩,rfl,trivial⟩)))).of (fun e he=>?_),⟨by dsimp only;omega,by dsimp only;omega,by dsimp only;simp only [List.length_append,List.length_cons,List.length_nil];omega,by dsimp only;omega⟩,r4,fun e=>(by cases e),by simp [r6],fun b0 c0 e=>by cases e;simpa using hbc⟩,Nat.lt_succ_self f,?_,hs.again [900,35] (by show RenC (_::_) (_::_) (_::_);exact⟨⟨_,rfl,SC.rfl⟩,rfl,⟨_,rfl,SC.arr (by simp)⟩,rfl,trivial⟩)⟩
      ·simp only [List.mem_cons,List.not_mem_nil,or_false] at he ⊢
       rcases he with rfl|rfl
       ·exact .inl rfl
       ·simp
      ·refine And.intro ⟨_,rfl,by first|rfl|(simp [den,den1,denC,rwK];done)|(simp [den,den1,denC,rwK];omega)⟩ ?_
       (repeat (refine And.intro ⟨_,rfl,rfl⟩ ?_));exact trivial)
   |contradiction
 ·have hcp:=r7 _ _ rfl
  dsimp only [rwC,rwK] at W hcp ⊢
  ((repeat' ((conv=>whnf);(first|(refine dW (id:=11) tO mixed (.pull 0 [9,10] (.pull 2 [7,8,9,10] (.pull 3 [6,7,8,9,10] (.pull 4 [5,6,7,8,9,10] (.br 1 5 (.one 5 (.one 6 (.one 7 (.one 8 (.one 9 (.pull 10 [] .done)))))) (.br 1 6 (.one 6 (.one 7 (.one 8 (.one 9 (.pull 10 [] .done))))) (.pull 1 [7,8,9,10] (.one 7 (.one 8 (.one 9 (.pull 10 [] .done))))))))))) (by kernel_rfl) (by kernel_rfl) ?_)|(refine VC.mk (by (first|omega|(and_intros<;>first|omega|rfl|(simp only [maxLen];omega)|(simp only [List.length_append,List.length_take,List.length_replicate,List.length_cons,List.length_nil];omega)))) ?_)|(refine Br.mk ?_ ?_<;>intro hb<;>(try replace hb:=Classical.not_not.1 hb)<;>(try exact absurd hb (show ¬ (ByteArray.mk _=ByteArray.mk _) from by decide))<;>(try (have hlt:=wlt hb (by decide))))|(refine New.mk ?_;intro b hb)|(refine NewO.mk ?_;intro b c hb hbc)|(refine SR.same ?_)|(refine Two.mk ?_ ?_)|(apply CK.pure;(case hh=>(intro h1 hs;first|exact next_k W.ok W.base hs rfl)))|(refine PLoad.box W (by repeat (first|exact List.Mem.head _|apply List.Mem.tail)) (by repeat (first|exact List.Mem.head _|apply List.Mem.tail)) ?_)|(refine CK.box 901 _ (fun h1 hs=>open_k hs rfl _) ?_;intro bo hbo)|(refine CK.maybe W.ok W.base (by decide) rfl rfl (fun hx hm=>?_) (fun hx=>?_))|(refine CK.sure W (none_con 0 (by decide) ⟨by omega,by omega⟩) rfl rfl ?_;intro bq h';(conv=>whnf);intro W)|(refine CK.want W (by decide) ⟨by omega,by omega⟩ rfl rfl (fun hx=>?_) (fun hx hm=>?_);rotate_left)|(refine CK.con W (Hone _ (by omega) (by omega)) rfl rfl (fun x hx=>?_) (fun x m bq h' hx hm1 hm2=>?_);rotate_left;(conv=>whnf);intro W)|(refine CK.con W (H (.stmts) _ _ (by simp only [need,rank];omega) ⟨by omega,by omega⟩ (by exact trivial)) rfl rfl (fun x hx=>?_) (fun x m bq h' hx hm1 hm2=>?_);rotate_left;(try dsimp only [fstr] at hm1);(conv=>whnf);intro W)|(refine CK.cO 901 W rfl rfl rfl (fun h hs hm=>hs.ne (k:=901) (k':=900) rfl rfl (by decide) (List.mem_singleton.1 hm)) rfl rfl rfl rfl rfl rfl (rC W (by repeat (first|exact List.Mem.head _|apply List.Mem.tail)) (rC W (by repeat (first|exact List.Mem.head _|apply List.Mem.tail)) (rN))) (by rw [hkd];exact Nat.zero_le _) (by simp) ?_;intro h';(conv=>whnf);intro W)|(refine CK.listO W rfl rfl rfl rfl (by rfl) rfl (W.manyOf (by repeat (first|exact List.Mem.head _|apply List.Mem.tail))) (by decide) ?_;intro b h';(conv=>whnf);intro W)|fail)));all_goals (try (conv=>whnf)))
  all_goals first
   |(refine⟨fun h' hs=>W.fin hs rfl (by repeat (first|exact List.Mem.head _|apply List.Mem.tail)) ?_ ⟨by omega,by omega⟩⟩;simp [bnd,want, *] at r4;rw [←r4];first|done|(simp [bnd,want, *];done))
   |(simp [bnd,want, *] at r4;rw [←r4];first|done|(simp [bnd,want, *];done))
   |(simp [bnd,want, *] at r4;subst r4;first|done|(simp [bnd,want, *];done))
   | (try replace hb:=eq_true hb
      simp [bnd,want, *] at r4
      intro h2 hs
      refine⟨f,⟨h2,0,_,some (b,c),ps++[some ⟨bo,0,none⟩],l++[_]⟩,⟨((W.more (ps:=ps) (l:=l) (by repeat (first|exact List.Mem.head _|apply List.Mem.tail)) (by repeat (first|exact List.Mem.head _|apply List.Mem.tail))).anew (hs.lB.less (RenC.blks (ks:=[900,35]) (L:=rdC I M br false _++rwC ⟨h2,0,0,some (b,c),ps++[some ⟨bo,0,none⟩],[]⟩) (by show RenC (_::_) (_::_) (_::_);exact⟨⟨_,rfl,SC.rfl⟩,rfl,⟨_,rfl,SC.arr (by simp)⟩,rfl,trivial⟩)))).of (fun e he=>?_),⟨by dsimp only;omega,by dsimp only;omega,by dsimp only;simp only [List.length_append,List.length_cons,List.length_nil];omega,by dsimp only;omega⟩,r4,fun e=>(by cases e),by simp [r6],fun b0 c0 e=>by cases e;simpa using hbc⟩,Nat.lt_succ_self f,?_,hs.again [900,35] (by show RenC (_::_) (_::_) (_::_);exact⟨⟨_,rfl,SC.rfl⟩,rfl,⟨_,rfl,SC.arr (by simp)⟩,rfl,trivial⟩)⟩
      ·simp only [List.mem_cons,List.not_mem_nil,or_false] at he ⊢
       rcases he with rfl|rfl
       ·exact .inl rfl
       ·simp
      ·refine And.intro ⟨_,rfl,by first|rfl|(simp [den,den1,denC,rwK];done)|(simp [den,den1,denC,rwK];omega)⟩ ?_
       (repeat (refine And.intro ⟨_,rfl,rfl⟩ ?_));exact trivial)
   | (simp [bnd,want, *] at r4
      intro h2 hs
      refine⟨f,⟨h2,0,_,some (b,c),ps++[some ⟨bo,0,none⟩],l++[_]⟩,⟨((W.more (ps:=ps) (l:=l) (by repeat (first|exact List.Mem.head _|apply List.Mem.tail)) (by repeat (first|exact List.Mem.head _|apply List.Mem.tail))).anew (hs.lB.less (RenC.blks (ks:=[900,35]) (L:=rdC I M br false _++rwC ⟨h2,0,0,some (b,c),ps++[some ⟨bo,0,none⟩],[]⟩) (by show RenC (_::_) (_::_) (_::_);exact⟨⟨_,rfl,SC.rfl⟩,rfl,⟨_,rfl,SC.arr (by simp)⟩,rfl,trivial⟩)))).of (fun e he=>?_),⟨by dsimp only;omega,by dsimp only;omega,by dsimp only;simp only [List.length_append,List.length_cons,List.length_nil];omega,by dsimp only;omega⟩,r4,fun e=>(by cases e),by simp [r6],fun b0 c0 e=>by cases e;simpa using hbc⟩,Nat.lt_succ_self f,?_,hs.again [900,35] (by show RenC (_::_) (_::_) (_::_);exact⟨⟨_,rfl,SC.rfl⟩,rfl,⟨_,rfl,SC.arr (by simp)⟩,rfl,trivial⟩)⟩
      ·simp only [List.mem_cons,List.not_mem_nil,or_false] at he ⊢
       rcases he with rfl|rfl
       ·exact .inl rfl
       ·simp
      ·refine And.intro ⟨_,rfl,by first|rfl|(simp [den,den1,denC,rwK];done)|(simp [den,den1,denC,rwK];omega)⟩ ?_
       (repeat (refine And.intro ⟨_,rfl,rfl⟩ ?_));exact trivial)
   |contradiction
end
end Go.Ex
namespace Go.Ex
open Go.Proofs
attribute [local irreducible] CH CsP word kindT
section
variable {I:In}{M:Loc}{g:Gt}{N:Int}{t:Bool}{n:Int}
theorem clauses_con(ok:InOk I)(H:Hyp I M g N){br fo:Nat}{kind:Int}{one:Int→Out Nd}(hkd:leK kind=0)(Hone:∀ m,n+1≤m→m≤I.L→Con I M fo [] (one m) false m 1)(hn:0≤n∧n≤I.L)(hN:32*(I.L+1-n)≤N) :
 Con1 I M br 224 [.int .u8 kind,.func (.func fo) ⟨[ptr br]⟩ ⟨[]⟩] (clausesS I g kind one n) t n 1:=fun h hs hB=>by
 refine eP (rep:=rep) (m:=3) (ex:=[3,4,5,6]) (cu:=[]) (args:=[.own 900 br 0,.val (.int .u8 kind),.val (.func (.func fo) ⟨[ptr br]⟩ ⟨[]⟩)]) tO Tryz.func224 rfl (by decide) (rs:=[.tmp 6]) rfl rfl rfl hs ?_
 have W:=Wd.start ok hB
 have hl:=ok.len
 ((repeat' ((conv=>whnf);(first|(refine VC.mk (by omega) ?_)|(refine New.mk ?_;intro b hb)|(refine CK.inline (rep:=rep) tO Tryz.func98 rfl (by decide) (rs:=[.tmp 4]) rfl 4 [4,5,6] [] rfl rfl rfl ?_)|(refine CK.conB W (clauses1_con ok H hkd Hone hn hN) rfl rfl (fun h hs=>BxOk.one hs (kb:=3) rfl rfl rfl (SC.box rfl) (BxOk.one hs (kb:=4) rfl rfl rfl SC.rfl (BxOk.one hs (kb:=5) rfl rfl rfl SC.rfl BxOk.nil))) (fun x hx=>?_) (fun x m bq h' hx hm1 hm2=>?_);rotate_left;(conv=>whnf);intro W)|fail)));all_goals (try (conv=>whnf)))
 all_goals first|(refine⟨fun h' hs=>W.fin hs rfl (by repeat (first|exact List.Mem.head _|apply List.Mem.tail)) ?_ ⟨by omega,by omega⟩⟩;(simp [bnd,bnd,want, *];done))|(simp [bnd,bnd,want, *];done)|contradiction
theorem selects_con(ok:InOk I)(H:Hyp I M g N)(hs0:n<I.L)(hn:0≤n∧n≤I.L)(hN:32*(I.L+1-n)+2≤N):Con I M 204 [] (selectsS I g t n) t n 1:=fun br h hs hB=>by
 refine eP (rep:=rep) (m:=1) (ex:=[0,2,3]) (cu:=[]) (args:=[.own 900 br 0]) tO Tryz.func204 rfl (by decide) (rs:=[.tmp 2]) rfl rfl rfl hs ?_
 have W:=Wd.start ok hB
 have hl:=ok.len
 ((repeat' ((conv=>whnf);(first|(refine Ar.fit (by omega) ?_)|(refine VC.mk (by (first|omega|(and_intros<;>first|rfl|(simp only [maxLen];omega)))) ?_)|(refine New.mk ?_;intro b hb)|(refine CK.box 901 _ (fun h1 hs=>open_k hs rfl 63) ?_;intro bo hbo)|(refine CK.cO 901 W rfl rfl rfl (fun h hs hm=>hs.ne (k:=901) (k':=900) rfl rfl (by decide) (List.mem_singleton.1 hm)) rfl rfl rfl rfl rfl rfl (rC W (by repeat (first|exact List.Mem.head _|apply List.Mem.tail)) (rN)) (by simp [leK]) (by simp) ?_;intro h';(conv=>whnf);intro W)|(refine CK.con1 W (clauses_con (N:=N) ok H (by decide) (fun m hm1 hm2=>H .simple _ m (by simp only [need,rank];omega) ⟨by omega,hm2⟩ trivial) ⟨by omega,by omega⟩ (by omega)) rfl rfl (fun x hx=>?_) (fun x m bq h' hx hm1 hm2=>?_);rotate_left;(conv=>whnf);intro W)|fail)));all_goals (try (conv=>whnf)))
 all_goals first|(refine⟨fun h' hs=>W.fin hs rfl (by repeat (first|exact List.Mem.head _|apply List.Mem.tail)) ?_ ⟨by omega,by omega⟩⟩;(simp [selectsS,bnd,want, *];done))|(simp [selectsS,bnd,want, *];done)|contradiction
end
end Go.Ex
