/-
  Top: TopDeep: whatever the input, the law answers true (part 41)
-/
import Derived.Test.YtpjdgifhhnjclaaGreatDoorM40
set_option linter.unusedVariables false
set_option linter.unusedSimpArgs false
set_option maxHeartbeats 4000000
set_option maxRecDepth 10000
namespace Go.Ex
open Go.Proofs
attribute [local irreducible] CH CsP word kindT
structure TS where
 h:Heap
 m:Int
 b:Nat
 x:Nd
theorem Wd.headB{I:In}{M:Loc}{cE:List Nat}{hE h0:Heap}{cap:List Nat}{its:List It}{b:Nat}{x:Nd}(W:Wd I M cE hE h0 cap (.one (some ⟨b,0,none⟩) x::its)):∃ b',b'=b:=⟨b,rfl⟩
abbrev tsC(I:In)(M:Loc)(br b1:Nat)(t:Bool)(x:TS):Chs:=rdC I M br t x.m++[(1,b1,.box 78 [.own 900 br 0])]
section
variable {I:In}{M:Loc}{g:Gt}{N:Int}{t:Bool}{n:Int}
theorem primary_con(ok:InOk I)(H:Hyp I M g N)(hn:0≤n∧n≤I.L)(hN:32*(I.L+1-n)+7≤N):Con I M 170 [] (primaryS I g t n) t n 1:=fun br h hs hB=>by
 refine eP (rep:=rep) (m:=1) (ex:=[1,2,3,4,5,6,21,27,33,39]) (cu:=[]) (args:=[.own 900 br 0]) tO Tryz.func170 rfl (by decide) (rs:=[.tmp 2]) rfl rfl rfl hs ?_
 have W:=Wd.start ok hB
 have hl:=ok.len
 ((repeat' ((conv=>whnf);(first|(refine VC.mk (by omega) ?_)|(refine New.mk ?_;intro b hb)|(refine CK.con W (H (.operand) _ _ (by simp only [need,rank];omega) ⟨by omega,by omega⟩ (by exact trivial)) rfl rfl (fun x hx=>?_) (fun x m bq h' hx hm1 hm2=>?_);rotate_left;(try dsimp only [fstr] at hm1);(conv=>whnf);intro W)|fail)));all_goals (try (conv=>whnf)))
 case refine_1=>simp [primaryS,bnd, *]
 obtain⟨R,hR⟩:∃ R,primGo I g t n (fuel I m) x m=R:=⟨_,rfl⟩
 have hRS:primaryS I g t n=R:=by simp only [primaryS,hx,bnd_ok,hR]
 rw [hRS]
 refine lgn tO [4] (fun x:TS=>[(4,.val (.pointer (some ⟨x.b,0,none⟩)))]) (fun x=>⟨x.h,blks (tsC I M br b t x),tsC I M br b t x⟩)
  (fun μ x=>Wd I M [br] h x.h (blks (tsC I M br b t x)) [.one (some ⟨x.b,0,none⟩) x.x]∧(n+1≤x.m∧x.m≤I.L∧I.L+1-x.m≤μ)∧primGo I g t n μ x.x x.m=R) ?_
 conv=>whnf
 refine⟨fun h1 hs=>?_,?_⟩
 ·refine⟨fuel I m,⟨h1,m,bq,x⟩,⟨(W.anew (hs.lB.less (RenC.blks (ks:=[900,1]) (L:=tsC I M br b t ⟨h1,m,bq,x⟩) (by show RenC (_::_) (_::_) (_::_);exact⟨⟨_,rfl,SC.rfl⟩,rfl,⟨_,rfl,SC.rfl⟩,rfl,trivial⟩)))).of (fun e he=>?_),⟨by dsimp only;omega,hm2,by dsimp only [fuel];omega⟩,hR⟩,?_,hs.again [900,1] (by show RenC (_::_) (_::_) (_::_);exact⟨⟨_,rfl,SC.rfl⟩,rfl,⟨_,rfl,SC.rfl⟩,rfl,trivial⟩)⟩
  ·simp only [List.mem_cons,List.not_mem_nil,or_false] at he ⊢
   exact he
  ·refine And.intro ⟨_,rfl,by first|rfl|(simp [den,den1,denC];done)⟩ ?_
   (repeat (refine And.intro ⟨_,rfl,rfl⟩ ?_));exact trivial
 clear hm1 hm2 W hR hRS hx
 revert b
 intro b1 hb1
 rintro μ ⟨h1,mm,bx,x0⟩ ⟨W,⟨r0,r1,r2⟩,r4⟩
 dsimp only [tsC] at W r0 r1 r2 r4 ⊢
 obtain⟨f,rfl⟩:∃ f,μ=f+1:=⟨μ-1,by omega⟩
 simp only [primGo] at r4
 by_cases w0:word I mm=(⟨#[46]⟩:ByteArray)
 ·have hlt:=wlt w0 (by decide)
  rw [if_pos w0] at r4
  ((repeat' ((conv=>whnf);(first|(refine VC.mk (by (first|omega|(and_intros<;>first|rfl|(simp only [maxLen];omega)))) ?_)|(refine Br.mk ?_ ?_<;>intro hb<;>(try replace hb:=Classical.not_not.1 hb)<;>(try exact absurd hb (show ¬ (ByteArray.mk _=ByteArray.mk _) from by decide))<;>(try (exact absurd rfl hb)))|(refine New.mk ?_;intro b hb)|(apply CK.pure;(case hh=>(intro h1 hs;first|exact next_e W.ok W.base hs rfl (by assumption))))|(refine CK.conN 17 15 (.tup []) W (dot_conN W.ok H _ _ _ (by omega) ⟨by omega,by omega⟩ (by omega)) rfl rfl rfl rfl rfl rfl rfl (fun h hs=>⟨fun hm=>hs.ne (k:=17) (k':=900) rfl rfl (by decide) (List.mem_singleton.1 hm),fun hm=>hs.ne (k:=15) (k':=900) rfl rfl (by decide) (List.mem_singleton.1 hm)⟩) (by repeat (exact List.Mem.head _)) rfl (fun x hx=>?_) (fun x' m' h' hx hm1 hm2=>?_);rotate_left;(conv=>whnf);intro W)|fail)));all_goals (try (conv=>whnf)))
  all_goals first
   |(rw [←r4,hx];rfl)
   | (rw [hx,bnd_ok] at r4
      obtain⟨bb,hbb⟩:=W.headB
      subst hbb
      intro h2 hs
      refine⟨f,⟨h2,m',bb,x'⟩,⟨(W.anew (hs.lB.less (RenC.blks (ks:=[900,1]) (L:=[(900,br,rdB I M t (m')),(1,b1,.box 78 [.own 900 br 0])]) (by show RenC (_::_) (_::_) (_::_);exact⟨⟨_,rfl,SC.rfl⟩,rfl,⟨_,rfl,SC.rfl⟩,rfl,trivial⟩)))).of (fun e he=>?_),⟨by dsimp only;omega,by dsimp only;omega,by dsimp only;omega⟩,r4⟩,Nat.lt_succ_self f,?_,hs.again [900,1] (L:=[(900,br,rdB I M t (m')),(1,b1,.box 78 [.own 900 br 0])]) (by show RenC (_::_) (_::_) (_::_);exact⟨⟨_,rfl,SC.rfl⟩,rfl,⟨_,rfl,SC.rfl⟩,rfl,trivial⟩)⟩
      ·exact List.mem_cons.2 (.inl (List.mem_singleton.1 he))
      ·refine And.intro ⟨_,rfl,by first|rfl|(simp [den,den1,denC];done)⟩ ?_
       (repeat (refine And.intro ⟨_,rfl,rfl⟩ ?_));exact trivial)
   | (rw [hx,bnd_ok] at r4
      obtain⟨bb,hbb⟩:=W.headB
      subst hbb
      intro h2 hs
      refine⟨f,⟨h2,m,bb,(.mk 39 (-1) n m [x0,x])⟩,⟨(W.anew (hs.lB.less (RenC.blks (ks:=[900,1]) (L:=[(900,br,rdB I M t (m)),(1,b1,.box 78 [.own 900 br 0])]) (by show RenC (_::_) (_::_) (_::_);exact⟨⟨_,rfl,SC.rfl⟩,rfl,⟨_,rfl,SC.rfl⟩,rfl,trivial⟩)))).of (fun e he=>?_),⟨by dsimp only;omega,by dsimp only;omega,by dsimp only;omega⟩,r4⟩,Nat.lt_succ_self f,?_,hs.again [900,1] (L:=[(900,br,rdB I M t (m)),(1,b1,.box 78 [.own 900 br 0])]) (by show RenC (_::_) (_::_) (_::_);exact⟨⟨_,rfl,SC.rfl⟩,rfl,⟨_,rfl,SC.rfl⟩,rfl,trivial⟩)⟩
      ·exact List.mem_cons.2 (.inl (List.mem_singleton.1 he))
      ·refine And.intro ⟨_,rfl,by first|rfl|(simp [den,den1,denC];done)⟩ ?_
       (repeat (refine And.intro ⟨_,rfl,rfl⟩ ?_));exact trivial)
   |(exfalso;have:=w3.2;contradiction)
   |(exfalso;apply w3;constructor<;>assumption)
   |(refine⟨fun h' hs=>W.fin hs rfl (by repeat (first|exact List.Mem.head _|apply List.Mem.tail)) ?_ ⟨by omega,by omega⟩⟩;exact r4.symm)
 by_cases w1:word I mm=(⟨#[40]⟩:ByteArray)
 ·have hlt:=wlt w1 (by decide)
  rw [if_neg w0,if_pos w1] at r4
  ((repeat' ((conv=>whnf);(first|(refine VC.mk (by (first|omega|(and_intros<;>first|rfl|(simp only [maxLen];omega)))) ?_)|(refine Br.mk ?_ ?_<;>intro hb<;>(try replace hb:=Classical.not_not.1 hb)<;>(try exact absurd hb (show ¬ (ByteArray.mk _=ByteArray.mk _) from by decide))<;>(try (exact absurd rfl hb)))|(refine New.mk ?_;intro b hb)|(apply CK.pure;(case hh=>(intro h1 hs;first|exact next_e W.ok W.base hs rfl (by assumption))))|(refine CK.conN 17 15 (.own 17 _ 0) W (call_conN W.ok H _ _ _ (by omega) ⟨by omega,by omega⟩ (by omega)) rfl rfl rfl rfl rfl rfl rfl (fun h hs=>⟨fun hm=>hs.ne (k:=17) (k':=900) rfl rfl (by decide) (List.mem_singleton.1 hm),fun hm=>hs.ne (k:=15) (k':=900) rfl rfl (by decide) (List.mem_singleton.1 hm)⟩) (by repeat (exact List.Mem.head _)) rfl (fun x hx=>?_) (fun x' m' h' hx hm1 hm2=>?_);rotate_left;(conv=>whnf);intro W)|(refine CK.inline (rep:=rep) tO Tryz.func98 rfl (by decide) (rs:=[.tmp 4]) rfl 4 [4,5,6] [] rfl rfl rfl ?_)|(refine CK.inline (rep:=rep) tO Tryz.func192 rfl (by decide) (rs:=[.tmp 2]) rfl 4 [2] [] rfl rfl rfl ?_)|fail)));all_goals (try (conv=>whnf)))
  all_goals first
   |(rw [←r4,hx];rfl)
   | (rw [hx,bnd_ok] at r4
      obtain⟨bb,hbb⟩:=W.headB
      subst hbb
      intro h2 hs
      refine⟨f,⟨h2,m',bb,x'⟩,⟨(W.anew (hs.lB.less (RenC.blks (ks:=[900,1]) (L:=[(900,br,rdB I M t (m')),(1,b1,.box 78 [.own 900 br 0])]) (by show RenC (_::_) (_::_) (_::_);exact⟨⟨_,rfl,SC.rfl⟩,rfl,⟨_,rfl,SC.rfl⟩,rfl,trivial⟩)))).of (fun e he=>?_),⟨by dsimp only;omega,by dsimp only;omega,by dsimp only;omega⟩,r4⟩,Nat.lt_succ_self f,?_,hs.again [900,1] (L:=[(900,br,rdB I M t (m')),(1,b1,.box 78 [.own 900 br 0])]) (by show RenC (_::_) (_::_) (_::_);exact⟨⟨_,rfl,SC.rfl⟩,rfl,⟨_,rfl,SC.rfl⟩,rfl,trivial⟩)⟩
      ·exact List.mem_cons.2 (.inl (List.mem_singleton.1 he))
      ·refine And.intro ⟨_,rfl,by first|rfl|(simp [den,den1,denC];done)⟩ ?_
       (repeat (refine And.intro ⟨_,rfl,rfl⟩ ?_));exact trivial)
   | (rw [hx,bnd_ok] at r4
      obtain⟨bb,hbb⟩:=W.headB
      subst hbb
      intro h2 hs
      refine⟨f,⟨h2,m,bb,(.mk 39 (-1) n m [x0,x])⟩,⟨(W.anew (hs.lB.less (RenC.blks (ks:=[900,1]) (L:=[(900,br,rdB I M t (m)),(1,b1,.box 78 [.own 900 br 0])]) (by show RenC (_::_) (_::_) (_::_);exact⟨⟨_,rfl,SC.rfl⟩,rfl,⟨_,rfl,SC.rfl⟩,rfl,trivial⟩)))).of (fun e he=>?_),⟨by dsimp only;omega,by dsimp only;omega,by dsimp only;omega⟩,r4⟩,Nat.lt_succ_self f,?_,hs.again [900,1] (L:=[(900,br,rdB I M t (m)),(1,b1,.box 78 [.own 900 br 0])]) (by show RenC (_::_) (_::_) (_::_);exact⟨⟨_,rfl,SC.rfl⟩,rfl,⟨_,rfl,SC.rfl⟩,rfl,trivial⟩)⟩
      ·exact List.mem_cons.2 (.inl (List.mem_singleton.1 he))
      ·refine And.intro ⟨_,rfl,by first|rfl|(simp [den,den1,denC];done)⟩ ?_
       (repeat (refine And.intro ⟨_,rfl,rfl⟩ ?_));exact trivial)
   |(exfalso;have:=w3.2;contradiction)
   |(exfalso;apply w3;constructor<;>assumption)
   |(refine⟨fun h' hs=>W.fin hs rfl (by repeat (first|exact List.Mem.head _|apply List.Mem.tail)) ?_ ⟨by omega,by omega⟩⟩;exact r4.symm)
 by_cases w2:word I mm=(⟨#[91]⟩:ByteArray)
 ·have hlt:=wlt w2 (by decide)
  rw [if_neg w0,if_neg w1,if_pos w2] at r4
  ((repeat' ((conv=>whnf);(first|(refine VC.mk (by (first|omega|(and_intros<;>first|rfl|(simp only [maxLen];omega)))) ?_)|(refine Br.mk ?_ ?_<;>intro hb<;>(try replace hb:=Classical.not_not.1 hb)<;>(try exact absurd hb (show ¬ (ByteArray.mk _=ByteArray.mk _) from by decide))<;>(try (exact absurd rfl hb)))|(refine New.mk ?_;intro b hb)|(apply CK.pure;(case hh=>(intro h1 hs;first|exact next_e W.ok W.base hs rfl (by assumption))))|(refine CK.conN 17 15 (.own 17 _ 0) W (index_conN W.ok H _ _ _ (by omega) ⟨by omega,by omega⟩ (by omega)) rfl rfl rfl rfl rfl rfl rfl (fun h hs=>⟨fun hm=>hs.ne (k:=17) (k':=900) rfl rfl (by decide) (List.mem_singleton.1 hm),fun hm=>hs.ne (k:=15) (k':=900) rfl rfl (by decide) (List.mem_singleton.1 hm)⟩) (by repeat (exact List.Mem.head _)) rfl (fun x hx=>?_) (fun x' m' h' hx hm1 hm2=>?_);rotate_left;(conv=>whnf);intro W)|(refine CK.inline (rep:=rep) tO Tryz.func98 rfl (by decide) (rs:=[.tmp 4]) rfl 4 [4,5,6] [] rfl rfl rfl ?_)|(refine CK.inline (rep:=rep) tO Tryz.func194 rfl (by decide) (rs:=[.tmp 2]) rfl 4 [2] [] rfl rfl rfl ?_)|fail)));all_goals (try (conv=>whnf)))
  all_goals first
   |(rw [←r4,hx];rfl)
   | (rw [hx,bnd_ok] at r4
      obtain⟨bb,hbb⟩:=W.headB
      subst hbb
      intro h2 hs
      refine⟨f,⟨h2,m',bb,x'⟩,⟨(W.anew (hs.lB.less (RenC.blks (ks:=[900,1]) (L:=[(900,br,rdB I M t (m')),(1,b1,.box 78 [.own 900 br 0])]) (by show RenC (_::_) (_::_) (_::_);exact⟨⟨_,rfl,SC.rfl⟩,rfl,⟨_,rfl,SC.rfl⟩,rfl,trivial⟩)))).of (fun e he=>?_),⟨by dsimp only;omega,by dsimp only;omega,by dsimp only;omega⟩,r4⟩,Nat.lt_succ_self f,?_,hs.again [900,1] (L:=[(900,br,rdB I M t (m')),(1,b1,.box 78 [.own 900 br 0])]) (by show RenC (_::_) (_::_) (_::_);exact⟨⟨_,rfl,SC.rfl⟩,rfl,⟨_,rfl,SC.rfl⟩,rfl,trivial⟩)⟩
      ·exact List.mem_cons.2 (.inl (List.mem_singleton.1 he))
      ·refine And.intro ⟨_,rfl,by first|rfl|(simp [den,den1,denC];done)⟩ ?_
       (repeat (refine And.intro ⟨_,rfl,rfl⟩ ?_));exact trivial)
   | (rw [hx,bnd_ok] at r4
      obtain⟨bb,hbb⟩:=W.headB
      subst hbb
      intro h2 hs
      refine⟨f,⟨h2,m,bb,(.mk 39 (-1) n m [x0,x])⟩,⟨(W.anew (hs.lB.less (RenC.blks (ks:=[900,1]) (L:=[(900,br,rdB I M t (m)),(1,b1,.box 78 [.own 900 br 0])]) (by show RenC (_::_) (_::_) (_::_);exact⟨⟨_,rfl,SC.rfl⟩,rfl,⟨_,rfl,SC.rfl⟩,rfl,trivial⟩)))).of (fun e he=>?_),⟨by dsimp only;omega,by dsimp only;omega,by dsimp only;omega⟩,r4⟩,Nat.lt_succ_self f,?_,hs.again [900,1] (L:=[(900,br,rdB I M t (m)),(1,b1,.box 78 [.own 900 br 0])]) (by show RenC (_::_) (_::_) (_::_);exact⟨⟨_,rfl,SC.rfl⟩,rfl,⟨_,rfl,SC.rfl⟩,rfl,trivial⟩)⟩
      ·exact List.mem_cons.2 (.inl (List.mem_singleton.1 he))
      ·refine And.intro ⟨_,rfl,by first|rfl|(simp [den,den1,denC];done)⟩ ?_
       (repeat (refine And.intro ⟨_,rfl,rfl⟩ ?_));exact trivial)
   |(exfalso;have:=w3.2;contradiction)
   |(exfalso;apply w3;constructor<;>assumption)
   |(refine⟨fun h' hs=>W.fin hs rfl (by repeat (first|exact List.Mem.head _|apply List.Mem.tail)) ?_ ⟨by omega,by omega⟩⟩;exact r4.symm)
 by_cases w3:word I mm=(⟨#[123]⟩:ByteArray)∧filledN t x0
 ·have w4:=w3.1
  have hlt:=wlt w4 (by decide)
  rw [if_neg w0,if_neg w1,if_neg w2,if_pos w3] at r4
  ((repeat' ((conv=>whnf);(first|(refine dW (id:=14) tO mixed (.pull 2 [3,4,5] (.tri 0 1 3 (.br 1 3 (.one 3 (.one 4 (.one 5 .done))) (.br 1 4 (.one 4 (.one 5 .done)) (.pull 1 [5] (.one 5 .done)))) (.br 0 3 (.one 3 (.one 4 (.one 5 .done))) (.br 0 4 (.one 4 (.one 5 .done)) (.pull 0 [5] (.one 5 .done)))) (.tri 0 1 4 (.br 1 4 (.one 4 (.one 5 .done)) (.pull 1 [5] (.one 5 .done))) (.br 0 4 (.one 4 (.one 5 .done)) (.pull 0 [5] (.one 5 .done))) (.pull 0 [5] (.pull 1 [5] (.one 5 .done)))))) (by kernel_rfl) (by kernel_rfl) ?_)|(refine VC.mk (by (first|omega|(and_intros<;>first|rfl|(simp only [maxLen];omega)))) ?_)|(refine Br.mk ?_ ?_<;>intro hb<;>(try replace hb:=Classical.not_not.1 hb)<;>(try exact absurd hb (show ¬ (ByteArray.mk _=ByteArray.mk _) from by decide))<;>(try (exact absurd rfl hb)))|(refine New.mk ?_;intro b hb)|(refine Two.mk ?_ ?_)|(refine Tri.mk ?_ ?_ ?_)|(apply CK.pure;(case hh=>(intro h1 hs;first|exact next_e W.ok W.base hs rfl (by assumption))))|(refine CK.says (.prop _) (fun h1 hs=>filled_k W (by repeat (first|exact List.Mem.head _|apply List.Mem.tail)) hs rfl) ?_)|(refine CK.con W (H (.elements) _ _ (by simp only [need,rank];omega) ⟨by omega,by omega⟩ (by exact trivial)) rfl rfl (fun x hx=>?_) (fun x m bq h' hx hm1 hm2=>?_);rotate_left;(try dsimp only [fstr] at hm1);(conv=>whnf);intro W)|(refine CK.close1O 17 15 W rfl rfl rfl rfl rfl rfl rfl (fun h hs=>⟨fun hm=>hs.ne (k:=17) (k':=900) rfl rfl (by decide) (List.mem_singleton.1 hm),fun hm=>hs.ne (k:=15) (k':=900) rfl rfl (by decide) (List.mem_singleton.1 hm)⟩) rfl rfl rfl rfl rfl rfl rfl (rC W (by repeat (first|exact List.Mem.head _|apply List.Mem.tail)) (rN)) (rC W (by repeat (first|exact List.Mem.head _|apply List.Mem.tail)) (rN)) (by simp [leK]) (by simp) ?_;intro h';(conv=>whnf);intro W)|fail)));all_goals (try (conv=>whnf)))
  all_goals first
   |(rw [←r4,hx];rfl)
   | (rw [hx,bnd_ok] at r4
      obtain⟨bb,hbb⟩:=W.headB
      subst hbb
      intro h2 hs
      refine⟨f,⟨h2,m',bb,x'⟩,⟨(W.anew (hs.lB.less (RenC.blks (ks:=[900,1]) (L:=[(900,br,rdB I M t (m')),(1,b1,.box 78 [.own 900 br 0])]) (by show RenC (_::_) (_::_) (_::_);exact⟨⟨_,rfl,SC.rfl⟩,rfl,⟨_,rfl,SC.rfl⟩,rfl,trivial⟩)))).of (fun e he=>?_),⟨by dsimp only;omega,by dsimp only;omega,by dsimp only;omega⟩,r4⟩,Nat.lt_succ_self f,?_,hs.again [900,1] (L:=[(900,br,rdB I M t (m')),(1,b1,.box 78 [.own 900 br 0])]) (by show RenC (_::_) (_::_) (_::_);exact⟨⟨_,rfl,SC.rfl⟩,rfl,⟨_,rfl,SC.rfl⟩,rfl,trivial⟩)⟩
      ·exact List.mem_cons.2 (.inl (List.mem_singleton.1 he))
      ·refine And.intro ⟨_,rfl,by first|rfl|(simp [den,den1,denC];done)⟩ ?_
       (repeat (refine And.intro ⟨_,rfl,rfl⟩ ?_));exact trivial)
   | (rw [hx,bnd_ok] at r4
      obtain⟨bb,hbb⟩:=W.headB
      subst hbb
      intro h2 hs
      refine⟨f,⟨h2,m,bb,(.mk 39 (-1) n m [x0,x])⟩,⟨(W.anew (hs.lB.less (RenC.blks (ks:=[900,1]) (L:=[(900,br,rdB I M t (m)),(1,b1,.box 78 [.own 900 br 0])]) (by show RenC (_::_) (_::_) (_::_);exact⟨⟨_,rfl,SC.rfl⟩,rfl,⟨_,rfl,SC.rfl⟩,rfl,trivial⟩)))).of (fun e he=>?_),⟨by dsimp only;omega,by dsimp only;omega,by dsimp only;omega⟩,r4⟩,Nat.lt_succ_self f,?_,hs.again [900,1] (L:=[(900,br,rdB I M t (m)),(1,b1,.box 78 [.own 900 br 0])]) (by show RenC (_::_) (_::_) (_::_);exact⟨⟨_,rfl,SC.rfl⟩,rfl,⟨_,rfl,SC.rfl⟩,rfl,trivial⟩)⟩
      ·exact List.mem_cons.2 (.inl (List.mem_singleton.1 he))
      ·refine And.intro ⟨_,rfl,by first|rfl|(simp [den,den1,denC];done)⟩ ?_
       (repeat (refine And.intro ⟨_,rfl,rfl⟩ ?_));exact trivial)
   |(exfalso;have:=w3.2;contradiction)
   |(exfalso;apply w3;constructor<;>assumption)
   |(refine⟨fun h' hs=>W.fin hs rfl (by repeat (first|exact List.Mem.head _|apply List.Mem.tail)) ?_ ⟨by omega,by omega⟩⟩;exact r4.symm)
 ·rw [if_neg w0,if_neg w1,if_neg w2,if_neg w3] at r4
  ((repeat' ((conv=>whnf);(first|(refine VC.mk (by (first|omega|(and_intros<;>first|rfl|(simp only [maxLen];omega)))) ?_)|(refine Br.mk ?_ ?_<;>intro hb<;>(try replace hb:=Classical.not_not.1 hb)<;>(try exact absurd hb (show ¬ (ByteArray.mk _=ByteArray.mk _) from by decide))<;>(try (have hlt:=wlt hb (by decide)))<;>(try (contradiction)))|(refine New.mk ?_;intro b hb)|(apply CK.pure;(case hh=>(intro h1 hs;first|exact next_k W.ok W.base hs rfl)))|(refine CK.says (.prop _) (fun h1 hs=>filled_k W (by repeat (first|exact List.Mem.head _|apply List.Mem.tail)) hs rfl) ?_)|fail)));all_goals (try (conv=>whnf)))
  all_goals first
   |(rw [←r4,hx];rfl)
   | (rw [hx,bnd_ok] at r4
      obtain⟨bb,hbb⟩:=W.headB
      subst hbb
      intro h2 hs
      refine⟨f,⟨h2,m',bb,x'⟩,⟨(W.anew (hs.lB.less (RenC.blks (ks:=[900,1]) (L:=[(900,br,rdB I M t (m')),(1,b1,.box 78 [.own 900 br 0])]) (by show RenC (_::_) (_::_) (_::_);exact⟨⟨_,rfl,SC.rfl⟩,rfl,⟨_,rfl,SC.rfl⟩,rfl,trivial⟩)))).of (fun e he=>?_),⟨by dsimp only;omega,by dsimp only;omega,by dsimp only;omega⟩,r4⟩,Nat.lt_succ_self f,?_,hs.again [900,1] (L:=[(900,br,rdB I M t (m')),(1,b1,.box 78 [.own 900 br 0])]) (by show RenC (_::_) (_::_) (_::_);exact⟨⟨_,rfl,SC.rfl⟩,rfl,⟨_,rfl,SC.rfl⟩,rfl,trivial⟩)⟩
      ·exact List.mem_cons.2 (.inl (List.mem_singleton.1 he))
      ·refine And.intro ⟨_,rfl,by first|rfl|(simp [den,den1,denC];done)⟩ ?_
       (repeat (refine And.intro ⟨_,rfl,rfl⟩ ?_));exact trivial)
   | (rw [hx,bnd_ok] at r4
      obtain⟨bb,hbb⟩:=W.headB
      subst hbb
      intro h2 hs
      refine⟨f,⟨h2,m,bb,(.mk 39 (-1) n m [x0,x])⟩,⟨(W.anew (hs.lB.less (RenC.blks (ks:=[900,1]) (L:=[(900,br,rdB I M t (m)),(1,b1,.box 78 [.own 900 br 0])]) (by show RenC (_::_) (_::_) (_::_);exact⟨⟨_,rfl,SC.rfl⟩,rfl,⟨_,rfl,SC.rfl⟩,rfl,trivial⟩)))).of (fun e he=>?_),⟨by dsimp only;omega,by dsimp only;omega,by dsimp only;omega⟩,r4⟩,Nat.lt_succ_self f,?_,hs.again [900,1] (L:=[(900,br,rdB I M t (m)),(1,b1,.box 78 [.own 900 br 0])]) (by show RenC (_::_) (_::_) (_::_);exact⟨⟨_,rfl,SC.rfl⟩,rfl,⟨_,rfl,SC.rfl⟩,rfl,trivial⟩)⟩
      ·exact List.mem_cons.2 (.inl (List.mem_singleton.1 he))
      ·refine And.intro ⟨_,rfl,by first|rfl|(simp [den,den1,denC];done)⟩ ?_
       (repeat (refine And.intro ⟨_,rfl,rfl⟩ ?_));exact trivial)
   |(exfalso;have:=w3.2;contradiction)
   |(exfalso;apply w3;constructor<;>assumption)
   |(refine⟨fun h' hs=>W.fin hs rfl (by repeat (first|exact List.Mem.head _|apply List.Mem.tail)) ?_ ⟨by omega,by omega⟩⟩;exact r4.symm)
end
end Go.Ex
