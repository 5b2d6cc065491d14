/-
  Top: TopComments: whatever the input, the law answers true (part 27)
-/
import Derived.Test.YtpjdgifhhnjclaaGreatDoorM24
set_option linter.unusedVariables false
set_option linter.unusedSimpArgs false
set_option maxHeartbeats 4000000
set_option maxRecDepth 10000
namespace Go.Ex
open Go.Proofs
attribute [local irreducible] CH X2 word B9
section
variable {I:In}{M:O6}{g:Gt}{N:Int}{t:Bool}{n:Int}
theorem Ha(ok:C6 I)(H:O8 I M g N)(hn:0≤n∧n≤I.L)(hN:32*(I.L+1-n)+21≤N):N3 I M 101 [] (V4 I g t n) t n 0:=fun br h hs hB=>by
 refine O9 1 [0,2,3,4,19,22,40] [] [.own 900 br 0] Tryz.func101 rfl hs ?_
 have W:=Wd.start ok hB
 have hl:=ok.len
 (try (conv=>whnf))
 obtain⟨R,hR⟩:∃ R,lP I g t (F6 I n) [] n=R:=⟨_,rfl⟩
 have hRS:V4 I g t n=bnd R fun l m=>.ok (K3 13 l m) m:=by simp only [V4,E2,hR]
 rw [hRS]
 refine gG tO [3] (fun x:RS=>[(3,T7 x)]) (fun x=>⟨x.h,blks (G5 I M br t x.m++dE x),G5 I M br t x.m++dE x⟩)
  (fun μ x=>Wd I M [br] h x.h (blks (G5 I M br t x.m++dE x)) [.many x.ps x.l]∧(n≤x.m∧x.m≤I.L∧(x.l.length:Int)≤x.m-n∧I.L+1-x.m≤μ)∧lP I g t μ x.l x.m=R∧(x.o=none→x.ps=[])∧x.ps.length=x.l.length∧∀ b c,x.o=some (b,c)→x.ps.length≤c) ?_
 conv=>whnf
 refine⟨fun h1 hs=>?_,?_⟩
 ·refine⟨F6 I n,⟨h1,0,n,none,[],[]⟩,⟨(((W.anew (hs.lB.less (oI (k:=900) rfl))).add (i:=.many [] []) ⟨L3.nil,trivial⟩)).of (fun e he=>he),⟨by dsimp only;omega,by dsimp only;omega,by dsimp only;simp only [List.length_nil];omega,by dsimp only [F6];omega⟩,hR,fun _=>rfl,rfl,fun b c e=>(by cases e)⟩,?_,L9 hs (k:=900) rfl⟩
  refine And.intro ⟨_,rfl,by first|rfl|(simp [B0,A1,A0,T7];done)|(simp [B0,A1,A0,T7];omega)⟩ ?_
  (repeat (refine And.intro ⟨_,rfl,rfl⟩ ?_));exact trivial
 clear W hR hRS
 rintro μ ⟨h1,w0,mm,o2,ps,l⟩ ⟨W,⟨r0,r1,r2,r3⟩,r4,r5,r6,r7⟩
 dsimp only at W r0 r1 r2 r3 r4 r5 r6 r7
 obtain⟨f,rfl⟩:∃ f,μ=f+1:=⟨μ-1,by omega⟩
 simp only [lP] at r4
 rcases o2 with _|⟨b2,c2⟩
 ·have e0:=r5 rfl
  subst e0
  have e1:l=[]:=List.eq_nil_of_length_eq_zero (by simpa using r6.symm)
  subst e1
  dsimp only [dE,T7] at W ⊢
  ((repeat' (conv=>whnf);first|(refine Ar.fit (by omega) ?_)|(refine VC.mk (by (first|omega|(and_intros<;>first|omega|rfl|(simp only [maxLen];omega)|(simp only [lL];omega)))) ?_)|(refine Br.mk ?_ ?_<;>intro hb<;>(try replace hb:=nN hb)<;>(try exact absurd hb (by decide))<;>(try (have hlt:=T9 hb (by decide)))<;>(try (contradiction)))|(refine E5.mk ?_;intro b hb)|(refine aH.mk ?_;intro b c hb hbc)|(refine SR.same ?_)|(refine A7 ?_ fun h1 hs=>E0 W.ok W.base hs rfl)|(refine CK.says (.prop _) (fun h1 hs=>mM W.ok W.base hs rfl) ?_)|(refine F2 W (H .stmt _ _ (by simp only [C5,A6];omega) (by omega) trivial) rfl rfl (fun x m bq h' hx hm1 hm2=>?_) fun x hx=>?_;(try dsimp only [D1] at hm1);(conv=>whnf);intro W)|(refine CK.sure W (G0 49 (by decide) (by omega)) rfl rfl ?_;intro bq h';(conv=>whnf);intro W)|(refine CK.want W (by decide) (by omega) rfl rfl (fun hx=>?_) (fun hx hm=>?_);rotate_left)|(refine CK.listZ W rfl rfl (by decide) ?_;intro b h' W)|fail);all_goals try conv=>whnf)
  all_goals first
   |(refine⟨fun h' hs=>W.fin hs rfl (by repeat constructor) (by simp [bnd,want, *] at r4;rw [←r4];simp [bnd,want, *]) (by omega)⟩)
   |(simp [bnd,want, *] at r4;rw [←r4];simp [bnd,want, *];done)
   |(simp [bnd,want, *] at r4;subst r4;simp [bnd,want, *];done)
   | (try replace hb:=eq_true hb
      simp [bnd,want, *] at r4
      intro h2 hs
      refine⟨f,⟨h2,0,_,some (b,c),[]++[some ⟨bq,0,none⟩],[]++[_]⟩,⟨((W.more (ps:=[]) (l:=[]) (by repeat constructor) (by repeat constructor)).anew (hs.lB.less (F3.blks (ks:=[900,11]) (L:=G5 I M br t _++dE ⟨h2,0,0,some (b,c),[]++[some ⟨bq,0,none⟩],[]⟩) (B4 rfl rfl (F9 rfl (SC.arr (by simp)) rfl E8))))).of (fun e he=>?_),⟨by dsimp only;omega,by dsimp only;omega,by dsimp only;simp only [lC2];omega,by dsimp only;omega⟩,r4,fun e=>(by cases e),by simp [r6],fun b0 c0 e=>by cases e;simpa using hbc⟩,Nat.lt_succ_self f,?_,hs.again [900,11] (B4 rfl rfl (F9 rfl (SC.arr (by simp)) rfl E8))⟩
      ·simp only [mL,or_false] at he ⊢
       exact .inl he
      ·refine And.intro ⟨_,rfl,by first|rfl|(simp [B0,A1,A0,T7];done)|(simp [B0,A1,A0,T7];omega)⟩ ?_
       (repeat (refine And.intro ⟨_,rfl,rfl⟩ ?_));exact trivial)
   | (simp [bnd,want, *] at r4
      intro h2 hs
      refine⟨f,⟨h2,0,_,some (b,c),[]++[some ⟨bq,0,none⟩],[]++[_]⟩,⟨((W.more (ps:=[]) (l:=[]) (by repeat constructor) (by repeat constructor)).anew (hs.lB.less (F3.blks (ks:=[900,11]) (L:=G5 I M br t _++dE ⟨h2,0,0,some (b,c),[]++[some ⟨bq,0,none⟩],[]⟩) (B4 rfl rfl (F9 rfl (SC.arr (by simp)) rfl E8))))).of (fun e he=>?_),⟨by dsimp only;omega,by dsimp only;omega,by dsimp only;simp only [lC2];omega,by dsimp only;omega⟩,r4,fun e=>(by cases e),by simp [r6],fun b0 c0 e=>by cases e;simpa using hbc⟩,Nat.lt_succ_self f,?_,hs.again [900,11] (B4 rfl rfl (F9 rfl (SC.arr (by simp)) rfl E8))⟩
      ·simp only [mL,or_false] at he ⊢
       exact .inl he
      ·refine And.intro ⟨_,rfl,by first|rfl|(simp [B0,A1,A0,T7];done)|(simp [B0,A1,A0,T7];omega)⟩ ?_
       (repeat (refine And.intro ⟨_,rfl,rfl⟩ ?_));exact trivial)
   | (try replace hb:=eq_true hb
      simp [bnd,want, *] at r4
      intro h2 hs
      refine⟨f,⟨h2,0,_,some (b,c),[]++[some ⟨bq,0,none⟩],[]++[_]⟩,⟨((W.more (ps:=[]) (l:=[]) (by repeat constructor) (by repeat constructor)).anew (hs.lB.less (F3.blks (ks:=[900,47]) (L:=G5 I M br t _++dE ⟨h2,0,0,some (b,c),[]++[some ⟨bq,0,none⟩],[]⟩) (B4 rfl rfl (F9 rfl (SC.arr (by simp)) rfl E8))))).of (fun e he=>?_),⟨by dsimp only;omega,by dsimp only;omega,by dsimp only;simp only [lC2];omega,by dsimp only;omega⟩,r4,fun e=>(by cases e),by simp [r6],fun b0 c0 e=>by cases e;simpa using hbc⟩,Nat.lt_succ_self f,?_,hs.again [900,47] (B4 rfl rfl (F9 rfl (SC.arr (by simp)) rfl E8))⟩
      ·simp only [mL,or_false] at he ⊢
       exact .inl he
      ·refine And.intro ⟨_,rfl,by first|rfl|(simp [B0,A1,A0,T7];done)|(simp [B0,A1,A0,T7];omega)⟩ ?_
       (repeat (refine And.intro ⟨_,rfl,rfl⟩ ?_));exact trivial)
   | (simp [bnd,want, *] at r4
      intro h2 hs
      refine⟨f,⟨h2,0,_,some (b,c),[]++[some ⟨bq,0,none⟩],[]++[_]⟩,⟨((W.more (ps:=[]) (l:=[]) (by repeat constructor) (by repeat constructor)).anew (hs.lB.less (F3.blks (ks:=[900,47]) (L:=G5 I M br t _++dE ⟨h2,0,0,some (b,c),[]++[some ⟨bq,0,none⟩],[]⟩) (B4 rfl rfl (F9 rfl (SC.arr (by simp)) rfl E8))))).of (fun e he=>?_),⟨by dsimp only;omega,by dsimp only;omega,by dsimp only;simp only [lC2];omega,by dsimp only;omega⟩,r4,fun e=>(by cases e),by simp [r6],fun b0 c0 e=>by cases e;simpa using hbc⟩,Nat.lt_succ_self f,?_,hs.again [900,47] (B4 rfl rfl (F9 rfl (SC.arr (by simp)) rfl E8))⟩
      ·simp only [mL,or_false] at he ⊢
       exact .inl he
      ·refine And.intro ⟨_,rfl,by first|rfl|(simp [B0,A1,A0,T7];done)|(simp [B0,A1,A0,T7];omega)⟩ ?_
       (repeat (refine And.intro ⟨_,rfl,rfl⟩ ?_));exact trivial)
   |contradiction
 ·have hcp:=r7 _ _ rfl
  dsimp only [dE,T7] at W hcp ⊢
  ((repeat' (conv=>whnf);first|(refine Ar.fit (by omega) ?_)|(refine VC.mk (by (first|omega|(and_intros<;>first|omega|rfl|(simp only [maxLen];omega)|(simp only [lL];omega)))) ?_)|(refine Br.mk ?_ ?_<;>intro hb<;>(try replace hb:=nN hb)<;>(try exact absurd hb (by decide))<;>(try (have hlt:=T9 hb (by decide))))|(refine E5.mk ?_;intro b hb)|(refine X0.mk ?_;intro b c hb hbc)|(refine SR.same ?_)|(refine A7 ?_ fun h1 hs=>E0 W.ok W.base hs rfl)|(refine CK.says (.prop _) (fun h1 hs=>mM W.ok W.base hs rfl) ?_)|(refine F2 W (H .stmt _ _ (by simp only [C5,A6];omega) (by omega) trivial) rfl rfl (fun x m bq h' hx hm1 hm2=>?_) fun x hx=>?_;(try dsimp only [D1] at hm1);(conv=>whnf);intro W)|(refine CK.sure W (G0 49 (by decide) (by omega)) rfl rfl ?_;intro bq h';(conv=>whnf);intro W)|(refine CK.want W (by decide) (by omega) rfl rfl (fun hx=>?_) (fun hx hm=>?_);rotate_left)|(refine CK.listO W rfl rfl rfl rfl (by rfl) rfl (W.manyOf (by repeat constructor)) (by decide) ?_;intro b h';(conv=>whnf);intro W)|fail);all_goals try conv=>whnf)
  all_goals first
   |(refine⟨fun h' hs=>W.fin hs rfl (by repeat constructor) (by simp [bnd,want, *] at r4;rw [←r4];simp [bnd,want, *]) (by omega)⟩)
   |(simp [bnd,want, *] at r4;rw [←r4];simp [bnd,want, *];done)
   |(simp [bnd,want, *] at r4;subst r4;simp [bnd,want, *];done)
   | (try replace hb:=eq_true hb
      simp [bnd,want, *] at r4
      intro h2 hs
      refine⟨f,⟨h2,0,_,some (b,c),ps++[some ⟨bq,0,none⟩],l++[_]⟩,⟨((W.more (ps:=ps) (l:=l) (by repeat constructor) (by repeat constructor)).anew (hs.lB.less (F3.blks (ks:=[900,11]) (L:=G5 I M br t _++dE ⟨h2,0,0,some (b,c),ps++[some ⟨bq,0,none⟩],[]⟩) (B4 rfl rfl (F9 rfl (SC.arr (by simp)) rfl E8))))).of (fun e he=>?_),⟨by dsimp only;omega,by dsimp only;omega,by dsimp only;simp only [lC2];omega,by dsimp only;omega⟩,r4,fun e=>(by cases e),by simp [r6],fun b0 c0 e=>by cases e;simpa using hbc⟩,Nat.lt_succ_self f,?_,hs.again [900,11] (B4 rfl rfl (F9 rfl (SC.arr (by simp)) rfl E8))⟩
      ·simp only [mL,or_false] at he ⊢
       exact .inl he
      ·refine And.intro ⟨_,rfl,by first|rfl|(simp [B0,A1,A0,T7];done)|(simp [B0,A1,A0,T7];omega)⟩ ?_
       (repeat (refine And.intro ⟨_,rfl,rfl⟩ ?_));exact trivial)
   | (simp [bnd,want, *] at r4
      intro h2 hs
      refine⟨f,⟨h2,0,_,some (b,c),ps++[some ⟨bq,0,none⟩],l++[_]⟩,⟨((W.more (ps:=ps) (l:=l) (by repeat constructor) (by repeat constructor)).anew (hs.lB.less (F3.blks (ks:=[900,11]) (L:=G5 I M br t _++dE ⟨h2,0,0,some (b,c),ps++[some ⟨bq,0,none⟩],[]⟩) (B4 rfl rfl (F9 rfl (SC.arr (by simp)) rfl E8))))).of (fun e he=>?_),⟨by dsimp only;omega,by dsimp only;omega,by dsimp only;simp only [lC2];omega,by dsimp only;omega⟩,r4,fun e=>(by cases e),by simp [r6],fun b0 c0 e=>by cases e;simpa using hbc⟩,Nat.lt_succ_self f,?_,hs.again [900,11] (B4 rfl rfl (F9 rfl (SC.arr (by simp)) rfl E8))⟩
      ·simp only [mL,or_false] at he ⊢
       exact .inl he
      ·refine And.intro ⟨_,rfl,by first|rfl|(simp [B0,A1,A0,T7];done)|(simp [B0,A1,A0,T7];omega)⟩ ?_
       (repeat (refine And.intro ⟨_,rfl,rfl⟩ ?_));exact trivial)
   | (try replace hb:=eq_true hb
      simp [bnd,want, *] at r4
      intro h2 hs
      refine⟨f,⟨h2,0,_,some (b,c),ps++[some ⟨bq,0,none⟩],l++[_]⟩,⟨((W.more (ps:=ps) (l:=l) (by repeat constructor) (by repeat constructor)).anew (hs.lB.less (F3.blks (ks:=[900,47]) (L:=G5 I M br t _++dE ⟨h2,0,0,some (b,c),ps++[some ⟨bq,0,none⟩],[]⟩) (B4 rfl rfl (F9 rfl (SC.arr (by simp)) rfl E8))))).of (fun e he=>?_),⟨by dsimp only;omega,by dsimp only;omega,by dsimp only;simp only [lC2];omega,by dsimp only;omega⟩,r4,fun e=>(by cases e),by simp [r6],fun b0 c0 e=>by cases e;simpa using hbc⟩,Nat.lt_succ_self f,?_,hs.again [900,47] (B4 rfl rfl (F9 rfl (SC.arr (by simp)) rfl E8))⟩
      ·simp only [mL,or_false] at he ⊢
       exact .inl he
      ·refine And.intro ⟨_,rfl,by first|rfl|(simp [B0,A1,A0,T7];done)|(simp [B0,A1,A0,T7];omega)⟩ ?_
       (repeat (refine And.intro ⟨_,rfl,rfl⟩ ?_));exact trivial)
   | (simp [bnd,want, *] at r4
      intro h2 hs
      refine⟨f,⟨h2,0,_,some (b,c),ps++[some ⟨bq,0,none⟩],l++[_]⟩,⟨((W.more (ps:=ps) (l:=l) (by repeat constructor) (by repeat constructor)).anew (hs.lB.less (F3.blks (ks:=[900,47]) (L:=G5 I M br t _++dE ⟨h2,0,0,some (b,c),ps++[some ⟨bq,0,none⟩],[]⟩) (B4 rfl rfl (F9 rfl (SC.arr (by simp)) rfl E8))))).of (fun e he=>?_),⟨by dsimp only;omega,by dsimp only;omega,by dsimp only;simp only [lC2];omega,by dsimp only;omega⟩,r4,fun e=>(by cases e),by simp [r6],fun b0 c0 e=>by cases e;simpa using hbc⟩,Nat.lt_succ_self f,?_,hs.again [900,47] (B4 rfl rfl (F9 rfl (SC.arr (by simp)) rfl E8))⟩
      ·simp only [mL,or_false] at he ⊢
       exact .inl he
      ·refine And.intro ⟨_,rfl,by first|rfl|(simp [B0,A1,A0,T7];done)|(simp [B0,A1,A0,T7];omega)⟩ ?_
       (repeat (refine And.intro ⟨_,rfl,rfl⟩ ?_));exact trivial)
   |contradiction
end
end Go.Ex
namespace Go.Ex
open Go.Proofs
attribute [local irreducible] CH X2 word B9
section
variable {I:In}{M:O6}{g:Gt}{N:Int}{t:Bool}{n:Int}
set_option maxHeartbeats 8000000 in
theorem Aa(ok:C6 I)(H:O8 I M g N){br fo b3 b4 b5:Nat}{kind:Int}{one:Int→G3 Nd}(hkd:O5 kind=0)(Hone:∀ m,n+1≤m→m≤I.L→N3 I M fo [] (one m) false m 1)(hn:0≤n∧n≤I.L)(hN:32*(I.L+1-n)≤N) :
 Ov I M br 233 [ptr b3,ptr b4,ptr b5] [(b3,.box 78 [.val (ptr br)]),(b4,.box 5 [.val (.int .u8 kind)]),(b5,.box 119 [.val (.func (.func fo) ⟨[ptr br]⟩ ⟨[]⟩)])] (P7 I g kind one n) false n 1:=fun h hs hB hbx=>by
 refine O9 3 [0,1,2,3,4,5,6,7,12,17] [] [.val (ptr b3),.val (ptr b4),.val (ptr b5)] Tryz.func233 rfl hs ?_
 have W:=(Wd.start ok hB).add (i:=.bxs [(b3,.box 78 [.val (ptr br)]),(b4,.box 5 [.val (.int .u8 kind)]),(b5,.box 119 [.val (.func (.func fo) ⟨[ptr br]⟩ ⟨[]⟩)])]) hbx
 have hl:=ok.len
 ((repeat' (conv=>whnf);first|(refine A9.box W (by repeat constructor) (by repeat constructor) ?_)|(refine CK.want W (by decide) (by omega) rfl rfl (fun hx=>?_) (fun hx hm=>?_);rotate_left)|fail);all_goals try conv=>whnf)
 case refine_1=>simp [P7,bnd,want, *]
 obtain⟨R,hR⟩:∃ R,pZ I g kind one (F6 I (n+1)) [] (n+1)=R:=⟨_,rfl⟩
 have hRS:P7 I g kind one n=bnd R fun l m=>bnd (want I (⟨#[125]⟩:ByteArray) m) fun _ m'=>.ok (K3 25 l m) m':=by simp only [P7,want,if_pos hx,E2,hR]
 rw [hRS]
 refine gG tO [4] (fun x:RS=>[(4,T7 x)]) (fun x=>⟨x.h,blks (G5 I M br false x.m++dE x),G5 I M br false x.m++dE x⟩)
  (fun μ x=>Wd I M [br] h x.h (blks (G5 I M br false x.m++dE x)) [.many x.ps x.l,.bxs [(b3,.box 78 [.val (ptr br)]),(b4,.box 5 [.val (.int .u8 kind)]),(b5,.box 119 [.val (.func (.func fo) ⟨[ptr br]⟩ ⟨[]⟩)])]]∧(n≤x.m∧x.m≤I.L∧(x.l.length:Int)≤x.m-n∧I.L+1-x.m≤μ)∧pZ I g kind one μ x.l x.m=R∧(x.o=none→x.ps=[])∧x.ps.length=x.l.length∧∀ b c,x.o=some (b,c)→x.ps.length≤c) ?_
 conv=>whnf
 refine⟨fun h1 hs=>?_,?_⟩
 ·refine⟨F6 I (n+1),⟨h1,0,(n+1),none,[],[]⟩,⟨(((W.anew (hs.lB.less (oI (k:=900) rfl))).add (i:=.many [] []) ⟨L3.nil,trivial⟩)).of (fun e he=>he),⟨by dsimp only;omega,by dsimp only;omega,by dsimp only;simp only [List.length_nil];omega,by dsimp only [F6];omega⟩,hR,fun _=>rfl,rfl,fun b c e=>(by cases e)⟩,?_,L9 hs (k:=900) rfl⟩
  refine And.intro ⟨_,rfl,by first|rfl|(simp [B0,A1,A0,T7];done)|(simp [B0,A1,A0,T7];omega)⟩ ?_
  (repeat (refine And.intro ⟨_,rfl,rfl⟩ ?_));exact trivial
 clear W hR hRS
 rintro μ ⟨h1,w0,mm,o2,ps,l⟩ ⟨W,⟨r0,r1,r2,r3⟩,r4,r5,r6,r7⟩
 dsimp only at W r0 r1 r2 r3 r4 r5 r6 r7
 obtain⟨f,rfl⟩:∃ f,μ=f+1:=⟨μ-1,by omega⟩
 simp only [pZ] at r4
 rcases o2 with _|⟨b2,c2⟩
 ·have e0:=r5 rfl
  subst e0
  have e1:l=[]:=List.eq_nil_of_length_eq_zero (by simpa using r6.symm)
  subst e1
  dsimp only [dE,T7] at W ⊢
  ((repeat' (conv=>whnf);first|(refine C2 (id:=11) (.pl [0,2,3,4] (.br 1 5 (.on [5,6,7,8,9] (.pl [10] .e)) (.bp 1 6 (.on [7,8,9] (.pl [10] .e))))) (by kernel_rfl) ?_)|(refine VC.mk (by (first|omega|(and_intros<;>first|omega|rfl|(simp only [maxLen];omega)|(simp only [lL];omega)))) ?_)|(refine Br.mk ?_ ?_<;>intro hb<;>(try replace hb:=nN hb)<;>(try exact absurd hb (by decide))<;>(try (have hlt:=T9 hb (by decide)))<;>(try (contradiction)))|(refine E5.mk ?_;intro b hb)|(refine aH.mk ?_;intro b c hb hbc)|(refine SR.same ?_)|(refine dD.mk ?_ ?_)|(refine A7 ?_ fun h1 hs=>E0 W.ok W.base hs rfl)|(refine A9.box W (by repeat constructor) (by repeat constructor) ?_)|(refine CK.box 901 _ (fun h1 hs=>D9 hs rfl _) ?_;intro bo hbo)|(refine CK.maybe W.ok W.base (by decide) rfl rfl (fun hx hm=>?_) (fun hx=>?_))|(refine CK.sure W (G0 0 (by decide) (by omega)) rfl rfl ?_;intro bq h';(conv=>whnf);intro W)|(refine CK.want W (by decide) (by omega) rfl rfl (fun hx=>?_) (fun hx hm=>?_);rotate_left)|(refine CK.con W (Hone _ (by omega) (by omega)) rfl rfl (fun x hx=>?_) (fun x m bq h' hx hm1 hm2=>?_);rotate_left;(conv=>whnf);intro W)|(refine F2 W (H .stmts _ _ (by simp only [C5,A6];omega) (by omega) trivial) rfl rfl (fun x m bq h' hx hm1 hm2=>?_) fun x hx=>?_;(try dsimp only [D1] at hm1);(conv=>whnf);intro W)|(refine CK.cO 901 W rfl rfl rfl (fun h hs hm=>hs.ne (k:=901) (k':=900) rfl rfl (by decide) (List.mem_singleton.1 hm)) rfl rfl rfl rfl rfl rfl (rC W (by repeat constructor) (rC W (by repeat constructor) (rN))) (by rw [hkd];exact Nat.zero_le _) (by simp) ?_;intro h';(conv=>whnf);intro W)|(refine CK.listZ W rfl rfl (by decide) ?_;intro b h' W)|fail);all_goals try conv=>whnf)
  all_goals first
   |(refine W.fn rfl (by repeat constructor) ?_ (by omega);simp [bnd,want, *] at r4;rw [←r4];first|done|(simp [bnd,want, *];done))
   |(simp [bnd,want, *] at r4;rw [←r4];first|done|(simp [bnd,want, *];done))
   |(simp [bnd,want, *] at r4;subst r4;first|done|(simp [bnd,want, *];done))
   | (try replace hb:=eq_true hb
      simp [bnd,want, *] at r4
      intro h2 hs
      refine⟨f,⟨h2,0,_,some (b,c),[]++[some ⟨bo,0,none⟩],[]++[_]⟩,⟨((W.more (ps:=[]) (l:=[]) (by repeat constructor) (by repeat constructor)).anew (hs.lB.less (F3.blks (ks:=[900,35]) (L:=G5 I M br false _++dE ⟨h2,0,0,some (b,c),[]++[some ⟨bo,0,none⟩],[]⟩) (B4 rfl rfl (F9 rfl (SC.arr (by simp)) rfl E8))))).of (fun e he=>?_),⟨by dsimp only;omega,by dsimp only;omega,by dsimp only;simp only [lC2];omega,by dsimp only;omega⟩,r4,fun e=>(by cases e),by simp [r6],fun b0 c0 e=>by cases e;simpa using hbc⟩,Nat.lt_succ_self f,?_,hs.again [900,35] (B4 rfl rfl (F9 rfl (SC.arr (by simp)) rfl E8))⟩
      ·simp only [mL,or_false] at he ⊢
       rcases he with rfl|rfl
       ·exact .inl rfl
       ·simp
      ·refine And.intro ⟨_,rfl,by first|rfl|(simp [B0,A1,A0,T7];done)|(simp [B0,A1,A0,T7];omega)⟩ ?_
       (repeat (refine And.intro ⟨_,rfl,rfl⟩ ?_));exact trivial)
   | (simp [bnd,want, *] at r4
      intro h2 hs
      refine⟨f,⟨h2,0,_,some (b,c),[]++[some ⟨bo,0,none⟩],[]++[_]⟩,⟨((W.more (ps:=[]) (l:=[]) (by repeat constructor) (by repeat constructor)).anew (hs.lB.less (F3.blks (ks:=[900,35]) (L:=G5 I M br false _++dE ⟨h2,0,0,some (b,c),[]++[some ⟨bo,0,none⟩],[]⟩) (B4 rfl rfl (F9 rfl (SC.arr (by simp)) rfl E8))))).of (fun e he=>?_),⟨by dsimp only;omega,by dsimp only;omega,by dsimp only;simp only [lC2];omega,by dsimp only;omega⟩,r4,fun e=>(by cases e),by simp [r6],fun b0 c0 e=>by cases e;simpa using hbc⟩,Nat.lt_succ_self f,?_,hs.again [900,35] (B4 rfl rfl (F9 rfl (SC.arr (by simp)) rfl E8))⟩
      ·simp only [mL,or_false] at he ⊢
       rcases he with rfl|rfl
       ·exact .inl rfl
       ·simp
      ·refine And.intro ⟨_,rfl,by first|rfl|(simp [B0,A1,A0,T7];done)|(simp [B0,A1,A0,T7];omega)⟩ ?_
       (repeat (refine And.intro ⟨_,rfl,rfl⟩ ?_));exact trivial)
   |contradiction
 ·have hcp:=r7 _ _ rfl
  dsimp only [dE,T7] at W hcp ⊢
  ((repeat' (conv=>whnf);first|(refine C2 (id:=11) (.pl [0,2,3,4] (.br 1 5 (.on [5,6,7,8,9] (.pl [10] .e)) (.bp 1 6 (.on [7,8,9] (.pl [10] .e))))) (by kernel_rfl) ?_)|(refine VC.mk (by (first|omega|(and_intros<;>first|omega|rfl|(simp only [maxLen];omega)|(simp only [lL];omega)))) ?_)|(refine Br.mk ?_ ?_<;>intro hb<;>(try replace hb:=nN hb)<;>(try exact absurd hb (by decide))<;>(try (have hlt:=T9 hb (by decide))))|(refine E5.mk ?_;intro b hb)|(refine X0.mk ?_;intro b c hb hbc)|(refine SR.same ?_)|(refine dD.mk ?_ ?_)|(refine A7 ?_ fun h1 hs=>E0 W.ok W.base hs rfl)|(refine A9.box W (by repeat constructor) (by repeat constructor) ?_)|(refine CK.box 901 _ (fun h1 hs=>D9 hs rfl _) ?_;intro bo hbo)|(refine CK.maybe W.ok W.base (by decide) rfl rfl (fun hx hm=>?_) (fun hx=>?_))|(refine CK.sure W (G0 0 (by decide) (by omega)) rfl rfl ?_;intro bq h';(conv=>whnf);intro W)|(refine CK.want W (by decide) (by omega) rfl rfl (fun hx=>?_) (fun hx hm=>?_);rotate_left)|(refine CK.con W (Hone _ (by omega) (by omega)) rfl rfl (fun x hx=>?_) (fun x m bq h' hx hm1 hm2=>?_);rotate_left;(conv=>whnf);intro W)|(refine F2 W (H .stmts _ _ (by simp only [C5,A6];omega) (by omega) trivial) rfl rfl (fun x m bq h' hx hm1 hm2=>?_) fun x hx=>?_;(try dsimp only [D1] at hm1);(conv=>whnf);intro W)|(refine CK.cO 901 W rfl rfl rfl (fun h hs hm=>hs.ne (k:=901) (k':=900) rfl rfl (by decide) (List.mem_singleton.1 hm)) rfl rfl rfl rfl rfl rfl (rC W (by repeat constructor) (rC W (by repeat constructor) (rN))) (by rw [hkd];exact Nat.zero_le _) (by simp) ?_;intro h';(conv=>whnf);intro W)|(refine CK.listO W rfl rfl rfl rfl (by rfl) rfl (W.manyOf (by repeat constructor)) (by decide) ?_;intro b h';(conv=>whnf);intro W)|fail);all_goals try conv=>whnf)
  all_goals first
   |(refine W.fn rfl (by repeat constructor) ?_ (by omega);simp [bnd,want, *] at r4;rw [←r4];first|done|(simp [bnd,want, *];done))
   |(simp [bnd,want, *] at r4;rw [←r4];first|done|(simp [bnd,want, *];done))
   |(simp [bnd,want, *] at r4;subst r4;first|done|(simp [bnd,want, *];done))
   | (try replace hb:=eq_true hb
      simp [bnd,want, *] at r4
      intro h2 hs
      refine⟨f,⟨h2,0,_,some (b,c),ps++[some ⟨bo,0,none⟩],l++[_]⟩,⟨((W.more (ps:=ps) (l:=l) (by repeat constructor) (by repeat constructor)).anew (hs.lB.less (F3.blks (ks:=[900,35]) (L:=G5 I M br false _++dE ⟨h2,0,0,some (b,c),ps++[some ⟨bo,0,none⟩],[]⟩) (B4 rfl rfl (F9 rfl (SC.arr (by simp)) rfl E8))))).of (fun e he=>?_),⟨by dsimp only;omega,by dsimp only;omega,by dsimp only;simp only [lC2];omega,by dsimp only;omega⟩,r4,fun e=>(by cases e),by simp [r6],fun b0 c0 e=>by cases e;simpa using hbc⟩,Nat.lt_succ_self f,?_,hs.again [900,35] (B4 rfl rfl (F9 rfl (SC.arr (by simp)) rfl E8))⟩
      ·simp only [mL,or_false] at he ⊢
       rcases he with rfl|rfl
       ·exact .inl rfl
       ·simp
      ·refine And.intro ⟨_,rfl,by first|rfl|(simp [B0,A1,A0,T7];done)|(simp [B0,A1,A0,T7];omega)⟩ ?_
       (repeat (refine And.intro ⟨_,rfl,rfl⟩ ?_));exact trivial)
   | (simp [bnd,want, *] at r4
      intro h2 hs
      refine⟨f,⟨h2,0,_,some (b,c),ps++[some ⟨bo,0,none⟩],l++[_]⟩,⟨((W.more (ps:=ps) (l:=l) (by repeat constructor) (by repeat constructor)).anew (hs.lB.less (F3.blks (ks:=[900,35]) (L:=G5 I M br false _++dE ⟨h2,0,0,some (b,c),ps++[some ⟨bo,0,none⟩],[]⟩) (B4 rfl rfl (F9 rfl (SC.arr (by simp)) rfl E8))))).of (fun e he=>?_),⟨by dsimp only;omega,by dsimp only;omega,by dsimp only;simp only [lC2];omega,by dsimp only;omega⟩,r4,fun e=>(by cases e),by simp [r6],fun b0 c0 e=>by cases e;simpa using hbc⟩,Nat.lt_succ_self f,?_,hs.again [900,35] (B4 rfl rfl (F9 rfl (SC.arr (by simp)) rfl E8))⟩
      ·simp only [mL,or_false] at he ⊢
       rcases he with rfl|rfl
       ·exact .inl rfl
       ·simp
      ·refine And.intro ⟨_,rfl,by first|rfl|(simp [B0,A1,A0,T7];done)|(simp [B0,A1,A0,T7];omega)⟩ ?_
       (repeat (refine And.intro ⟨_,rfl,rfl⟩ ?_));exact trivial)
   |contradiction
end
end Go.Ex
namespace Go.Ex
open Go.Proofs
attribute [local irreducible] CH X2 word B9
section
variable {I:In}{M:O6}{g:Gt}{N:Int}{t:Bool}{n:Int}
theorem Y6(ok:C6 I)(H:O8 I M g N){br fo:Nat}{kind:Int}{one:Int→G3 Nd}(hkd:O5 kind=0)(Hone:∀ m,n+1≤m→m≤I.L→N3 I M fo [] (one m) false m 1)(hn:0≤n∧n≤I.L)(hN:32*(I.L+1-n)≤N) :
 CW I M br 224 [.int .u8 kind,.func (.func fo) ⟨[ptr br]⟩ ⟨[]⟩] (P7 I g kind one n) t n 1:=fun h hs hB=>by
 refine O9 3 [3,4,5,6] [] [.own 900 br 0,.val (.int .u8 kind),.val (.func (.func fo) ⟨[ptr br]⟩ ⟨[]⟩)] Tryz.func224 rfl hs ?_
 have W:=Wd.start ok hB
 have hl:=ok.len
 ((repeat' (conv=>whnf);first|(refine VC.mk (by omega) ?_)|(refine E5.mk ?_;intro b hb)|(refine CK.inline (rep:=rep) tO Tryz.func98 rfl (by decide) (rs:=[.tmp 4]) rfl 4 [4,5,6] [] rfl rfl rfl ?_)|(refine CK.conB W (Aa ok H hkd Hone hn hN) rfl rfl (fun h hs=>aN.one hs (kb:=3) rfl rfl rfl (SC.box rfl) (aN.one hs (kb:=4) rfl rfl rfl SC.rfl (aN.one hs (kb:=5) rfl rfl rfl SC.rfl aN.nil))) (fun x hx=>?_) (fun x m bq h' hx hm1 hm2=>?_);rotate_left;(conv=>whnf);intro W)|fail);all_goals try conv=>whnf)
 all_goals first|(refine W.fn rfl (by repeat constructor) ?_ (by omega);(simp [bnd,bnd,want, *];done))|(simp [bnd,bnd,want, *];done)|contradiction
theorem Yb(ok:C6 I)(H:O8 I M g N)(hs0:n<I.L)(hn:0≤n∧n≤I.L)(hN:32*(I.L+1-n)+2≤N):N3 I M 204 [] (Z5 I g t n) t n 1:=fun br h hs hB=>by
 refine O9 1 [0,2,3] [] [.own 900 br 0] Tryz.func204 rfl hs ?_
 have W:=Wd.start ok hB
 have hl:=ok.len
 ((repeat' (conv=>whnf);first|(refine Ar.fit (by omega) ?_)|(refine VC.mk (by (first|omega|(and_intros<;>first|rfl|(simp only [maxLen];omega)))) ?_)|(refine E5.mk ?_;intro b hb)|(refine CK.box 901 _ (fun h1 hs=>D9 hs rfl 63) ?_;intro bo hbo)|(refine CK.cO 901 W rfl rfl rfl (fun h hs hm=>hs.ne (k:=901) (k':=900) rfl rfl (by decide) (List.mem_singleton.1 hm)) rfl rfl rfl rfl rfl rfl (rC W (by repeat constructor) (rN)) (by simp [O5]) (by simp) ?_;intro h';(conv=>whnf);intro W)|(refine CK.con1 W (Y6 (N:=N) ok H (by decide) (fun m hm1 hm2=>H .simple _ m (by simp only [C5,A6];omega) ⟨by omega,hm2⟩ trivial) (by omega) (by omega)) rfl rfl (fun x hx=>?_) (fun x m bq h' hx hm1 hm2=>?_);rotate_left;(conv=>whnf);intro W)|fail);all_goals try conv=>whnf)
 all_goals first|(refine W.fn rfl (by repeat constructor) ?_ (by omega);(simp [Z5,bnd,want, *];done))|(simp [Z5,bnd,want, *];done)|contradiction
end
end Go.Ex
namespace Go.Ex
open Go.Proofs
attribute [local irreducible] CH X2 word B9
section
variable {I:In}{M:O6}{g:Gt}{N:Int}{t:Bool}{n:Int}
theorem zL(ok:C6 I)(H:O8 I M g N)(hs0:n<I.L)(w0:word I n=(⟨#[105,109,112,111,114,116]⟩:ByteArray))(hn:0≤n∧n≤I.L)(hN:32*(I.L+1-n)+2≤N):N3 I M 106 [] (R6 I g t n) t n 1:=fun br h hs hB=>by
 refine O9 1 [0,2,3,4,5,18,19,23,27,40] [] [.own 900 br 0] Tryz.func106 rfl hs ?_
 have W:=Wd.start ok hB
 have hl:=ok.len
 have hlt:=T9 w0 (by decide)
 ((repeat' (conv=>whnf);first|(refine Ar.fit (by omega) ?_)|(refine VC.mk (by (first|omega|(and_intros<;>first|rfl|(simp only [maxLen];omega)))) ?_)|(refine Br.mk ?_ ?_<;>intro hb<;>(try replace hb:=nN hb)<;>(try exact absurd hb (by decide))<;>(try (have hlt:=T9 hb (by decide)))<;>(try (exact absurd rfl hb)))|(refine E5.mk ?_;intro b hb)|(apply CK.pure;case hh=>intro h1 hs;first|exact F5 W.ok W.base hs rfl (by assumption)|exact E0 W.ok W.base hs rfl)|(refine CK.box 901 _ (fun h1 hs=>D9 hs rfl 3) ?_;intro bo hbo)|(refine CK.want W (by decide) (by omega) rfl rfl (fun hx=>?_) (fun hx hm=>?_);rotate_left)|(refine CK.cO 901 W rfl rfl rfl (fun h hs hm=>hs.ne (k:=901) (k':=900) rfl rfl (by decide) (List.mem_singleton.1 hm)) rfl rfl rfl rfl rfl rfl (rC W (by repeat constructor) (rN)) (by simp [O5]) (by simp) ?_;intro h';(conv=>whnf);intro W)|(refine CK.cH 901 W rfl rfl rfl (fun h hs hm=>hs.ne (k:=901) (k':=900) rfl rfl (by decide) (List.mem_singleton.1 hm)) rfl rfl (by repeat constructor) (by decide) (by omega) ?_;intro h';(conv=>whnf);intro W)|(refine F2 W (H .importSpec _ _ (by simp only [C5,A6];omega) (by omega) trivial) rfl rfl (fun x m bq h' hx hm1 hm2=>?_) fun x hx=>?_;(try dsimp only [D1] at hm1);(conv=>whnf);intro W)|(refine CK.rowsP W (by decide) (by decide) (by omega) (fun m hm1 hm2=>H .importSpec _ m (by simp only [C5,A6];omega) ⟨by omega,hm2⟩ trivial) rfl rfl (fun x hx=>?_) (fun l w' m A len c ps h' hx hm1 hm2 hm3=>?_);rotate_left;(conv=>whnf);intro W)|fail);all_goals try conv=>whnf)
 all_goals first|(refine W.fn rfl (by repeat constructor) ?_ (by omega);(simp [R6,X3,bnd,want, *];done))|(simp [R6,X3,bnd,want, *];done)|contradiction
theorem zK(ok:C6 I)(H:O8 I M g N)(hs0:n<I.L)(w1:word I n=(⟨#[99,111,110,115,116]⟩:ByteArray))(hn:0≤n∧n≤I.L)(hN:32*(I.L+1-n)+2≤N):N3 I M 106 [] (R6 I g t n) t n 1:=fun br h hs hB=>by
 refine O9 1 [0,2,3,4,5,18,19,23,27,40] [] [.own 900 br 0] Tryz.func106 rfl hs ?_
 have W:=Wd.start ok hB
 have hl:=ok.len
 have hlt:=T9 w1 (by decide)
 ((repeat' (conv=>whnf);first|(refine Ar.fit (by omega) ?_)|(refine VC.mk (by (first|omega|(and_intros<;>first|rfl|(simp only [maxLen];omega)))) ?_)|(refine Br.mk ?_ ?_<;>intro hb<;>(try replace hb:=nN hb)<;>(try exact absurd hb (by decide))<;>(try (have hlt:=T9 hb (by decide)))<;>(try (exact absurd rfl hb)))|(refine E5.mk ?_;intro b hb)|(apply CK.pure;case hh=>intro h1 hs;first|exact F5 W.ok W.base hs rfl (by assumption)|exact E0 W.ok W.base hs rfl)|(refine CK.box 901 _ (fun h1 hs=>D9 hs rfl 3) ?_;intro bo hbo)|(refine CK.want W (by decide) (by omega) rfl rfl (fun hx=>?_) (fun hx hm=>?_);rotate_left)|(refine CK.cO 901 W rfl rfl rfl (fun h hs hm=>hs.ne (k:=901) (k':=900) rfl rfl (by decide) (List.mem_singleton.1 hm)) rfl rfl rfl rfl rfl rfl (rC W (by repeat constructor) (rN)) (by simp [O5]) (by simp) ?_;intro h';(conv=>whnf);intro W)|(refine CK.cH 901 W rfl rfl rfl (fun h hs hm=>hs.ne (k:=901) (k':=900) rfl rfl (by decide) (List.mem_singleton.1 hm)) rfl rfl (by repeat constructor) (by decide) (by omega) ?_;intro h';(conv=>whnf);intro W)|(refine F2 W (H .constSpec _ _ (by simp only [C5,A6];omega) (by omega) trivial) rfl rfl (fun x m bq h' hx hm1 hm2=>?_) fun x hx=>?_;(try dsimp only [D1] at hm1);(conv=>whnf);intro W)|(refine CK.rowsP W (by decide) (by decide) (by omega) (fun m hm1 hm2=>H .constSpec _ m (by simp only [C5,A6];omega) ⟨by omega,hm2⟩ trivial) rfl rfl (fun x hx=>?_) (fun l w' m A len c ps h' hx hm1 hm2 hm3=>?_);rotate_left;(conv=>whnf);intro W)|fail);all_goals try conv=>whnf)
 all_goals first|(refine W.fn rfl (by repeat constructor) ?_ (by omega);(simp [R6,X3,bnd,want, *];done))|(simp [R6,X3,bnd,want, *];done)|contradiction
theorem zJ(ok:C6 I)(H:O8 I M g N)(hs0:n<I.L)(w2:word I n=(⟨#[116,121,112,101]⟩:ByteArray))(hn:0≤n∧n≤I.L)(hN:32*(I.L+1-n)+2≤N):N3 I M 106 [] (R6 I g t n) t n 1:=fun br h hs hB=>by
 refine O9 1 [0,2,3,4,5,18,19,23,27,40] [] [.own 900 br 0] Tryz.func106 rfl hs ?_
 have W:=Wd.start ok hB
 have hl:=ok.len
 have hlt:=T9 w2 (by decide)
 ((repeat' (conv=>whnf);first|(refine Ar.fit (by omega) ?_)|(refine VC.mk (by (first|omega|(and_intros<;>first|rfl|(simp only [maxLen];omega)))) ?_)|(refine Br.mk ?_ ?_<;>intro hb<;>(try replace hb:=nN hb)<;>(try exact absurd hb (by decide))<;>(try (have hlt:=T9 hb (by decide)))<;>(try (exact absurd rfl hb)))|(refine E5.mk ?_;intro b hb)|(apply CK.pure;case hh=>intro h1 hs;first|exact F5 W.ok W.base hs rfl (by assumption)|exact E0 W.ok W.base hs rfl)|(refine CK.box 901 _ (fun h1 hs=>D9 hs rfl 3) ?_;intro bo hbo)|(refine CK.want W (by decide) (by omega) rfl rfl (fun hx=>?_) (fun hx hm=>?_);rotate_left)|(refine CK.cO 901 W rfl rfl rfl (fun h hs hm=>hs.ne (k:=901) (k':=900) rfl rfl (by decide) (List.mem_singleton.1 hm)) rfl rfl rfl rfl rfl rfl (rC W (by repeat constructor) (rN)) (by simp [O5]) (by simp) ?_;intro h';(conv=>whnf);intro W)|(refine CK.cH 901 W rfl rfl rfl (fun h hs hm=>hs.ne (k:=901) (k':=900) rfl rfl (by decide) (List.mem_singleton.1 hm)) rfl rfl (by repeat constructor) (by decide) (by omega) ?_;intro h';(conv=>whnf);intro W)|(refine F2 W (H .typeSpec _ _ (by simp only [C5,A6];omega) (by omega) trivial) rfl rfl (fun x m bq h' hx hm1 hm2=>?_) fun x hx=>?_;(try dsimp only [D1] at hm1);(conv=>whnf);intro W)|(refine CK.rowsP W (by decide) (by decide) (by omega) (fun m hm1 hm2=>H .typeSpec _ m (by simp only [C5,A6];omega) ⟨by omega,hm2⟩ trivial) rfl rfl (fun x hx=>?_) (fun l w' m A len c ps h' hx hm1 hm2 hm3=>?_);rotate_left;(conv=>whnf);intro W)|fail);all_goals try conv=>whnf)
 all_goals first|(refine W.fn rfl (by repeat constructor) ?_ (by omega);(simp [R6,X3,bnd,want, *];done))|(simp [R6,X3,bnd,want, *];done)|contradiction
theorem Kd(ok:C6 I)(H:O8 I M g N)(hs0:n<I.L)(w0:¬ word I n=(⟨#[105,109,112,111,114,116]⟩:ByteArray))(w1:¬ word I n=(⟨#[99,111,110,115,116]⟩:ByteArray))(w2:¬ word I n=(⟨#[116,121,112,101]⟩:ByteArray))(hn:0≤n∧n≤I.L)(hN:32*(I.L+1-n)+2≤N):N3 I M 106 [] (R6 I g t n) t n 1:=fun br h hs hB=>by
 refine O9 1 [0,2,3,4,5,18,19,23,27,40] [] [.own 900 br 0] Tryz.func106 rfl hs ?_
 have W:=Wd.start ok hB
 have hl:=ok.len
 ((repeat' (conv=>whnf);first|(refine Ar.fit (by omega) ?_)|(refine VC.mk (by (first|omega|(and_intros<;>first|rfl|(simp only [maxLen];omega)))) ?_)|(refine Br.mk ?_ ?_<;>intro hb<;>(try replace hb:=nN hb)<;>(try exact absurd hb (by decide))<;>(try (have hlt:=T9 hb (by decide)))<;>(try (contradiction)))|(refine E5.mk ?_;intro b hb)|(refine A7 ?_ fun h1 hs=>E0 W.ok W.base hs rfl)|(refine CK.box 901 _ (fun h1 hs=>D9 hs rfl 3) ?_;intro bo hbo)|(refine CK.want W (by decide) (by omega) rfl rfl (fun hx=>?_) (fun hx hm=>?_);rotate_left)|(refine CK.cO 901 W rfl rfl rfl (fun h hs hm=>hs.ne (k:=901) (k':=900) rfl rfl (by decide) (List.mem_singleton.1 hm)) rfl rfl rfl rfl rfl rfl (rC W (by repeat constructor) (rN)) (by simp [O5]) (by simp) ?_;intro h';(conv=>whnf);intro W)|(refine CK.cH 901 W rfl rfl rfl (fun h hs hm=>hs.ne (k:=901) (k':=900) rfl rfl (by decide) (List.mem_singleton.1 hm)) rfl rfl (by repeat constructor) (by decide) (by omega) ?_;intro h';(conv=>whnf);intro W)|(refine F2 W (H .valueSpec _ _ (by simp only [C5,A6];omega) (by omega) trivial) rfl rfl (fun x m bq h' hx hm1 hm2=>?_) fun x hx=>?_;(try dsimp only [D1] at hm1);(conv=>whnf);intro W)|(refine CK.rowsP W (by decide) (by decide) (by omega) (fun m hm1 hm2=>H .valueSpec _ m (by simp only [C5,A6];omega) ⟨by omega,hm2⟩ trivial) rfl rfl (fun x hx=>?_) (fun l w' m A len c ps h' hx hm1 hm2 hm3=>?_);rotate_left;(conv=>whnf);intro W)|fail);all_goals try conv=>whnf)
 all_goals first|(refine W.fn rfl (by repeat constructor) ?_ (by omega);(simp [R6,X3,bnd,want, *];done))|(simp [R6,X3,bnd,want, *];done)|contradiction
theorem Cp(ok:C6 I)(H:O8 I M g N)(hs0:n<I.L)(hn:0≤n∧n≤I.L)(hN:32*(I.L+1-n)+2≤N):N3 I M 106 [] (R6 I g t n) t n 1:=by
 by_cases w0:word I n=(⟨#[105,109,112,111,114,116]⟩:ByteArray)
 ·exact zL ok H hs0 w0 hn hN
 by_cases w1:word I n=(⟨#[99,111,110,115,116]⟩:ByteArray)
 ·exact zK ok H hs0 w1 hn hN
 by_cases w2:word I n=(⟨#[116,121,112,101]⟩:ByteArray)
 ·exact zJ ok H hs0 w2 hn hN
 exact Kd ok H hs0 w0 w1 w2 hn hN
end
end Go.Ex
