/-
  Top: TopComments: whatever the input, the law answers true (part 26)
-/
import Derived.Test.YtpjdgifhhnjclaaGreatDoorM24
set_option linter.unusedVariables false
set_option linter.unusedSimpArgs false
set_option maxHeartbeats 4000000
set_option maxRecDepth 10000
namespace Go.Ex
open Go.Proofs
attribute [local irreducible] CH X2 word B9
structure SS where
 h:A3
 m:Int
 b:Nat
 c:Nat
 ps:List (Option Addr)
 l:List Nd
abbrev Ja(I:In)(M:O6)(br:Nat)(t:Bool)(x:SS):L8:=G5 I M br t x.m++[(13,x.b,.arr 63 E1 x.ps x.c)]
section
variable {I:In}{M:O6}{g:Gt}{N:Int}{t:Bool}{n:Int}
theorem Pp(ok:C6 I)(H:O8 I M g N)(hn:0≤n∧n≤I.L)(hN:32*(I.L+1-n)+11≤N):N3 I M 207 [] (eB I g t n) t n 1:=fun br h hs hB=>by
 refine O9 1 [0,2,3,8] [] [.own 900 br 0] Tryz.func207 rfl hs ?_
 have W:=Wd.start ok hB
 have hl:=ok.len
 ((repeat' (conv=>whnf);first|(refine VC.mk (by (first|omega|(and_intros<;>first|rfl|(simp only [maxLen];omega)))) ?_)|(refine E5.mk ?_;intro b hb)|(refine CK.con W (H (.expr) _ _ (by simp only [C5,A6];omega) (by omega) (by exact trivial)) rfl rfl (fun x hx=>?_) (fun x m bq h' hx hm1 hm2=>?_);rotate_left;(try dsimp only [D1] at hm1);(conv=>whnf);intro W)|fail);all_goals try conv=>whnf)
 case refine_1=>simp [eB,jG,bnd, *]
 obtain⟨R,hR⟩:∃ R,P1 I (⟨#[44]⟩:ByteArray) (g .expr t) (F6 I m) [x] m=R:=⟨_,rfl⟩
 have hRS:eB I g t n=bnd R fun l m=>.ok (K3 11 l m) m:=by simp only [eB,jG,hx,E2,hR]
 rw [hRS]
 refine gG tO [3] (fun x:SS=>[(3,.osl 13 x.b x.ps.length x.c)]) (fun x=>⟨x.h,blks (Ja I M br t x),Ja I M br t x⟩)
  (fun μ x=>Wd I M [br] h x.h (blks (Ja I M br t x)) [.many x.ps x.l]∧(n+1≤x.m∧x.m≤I.L∧(x.l.length:Int)≤x.m-n∧I.L+1-x.m≤μ)∧P1 I (⟨#[44]⟩:ByteArray) (g .expr t) μ x.l x.m=R∧x.ps.length=x.l.length∧x.ps.length≤x.c) ?_
 conv=>whnf
 refine⟨fun h1 hs=>?_,?_⟩
 ·refine⟨F6 I m,⟨h1,m,_,_,[some ⟨bq,0,none⟩],[x]⟩,⟨(((W.add (i:=.many [] []) ⟨L3.nil,trivial⟩).more (ps:=[]) (l:=[]) (by repeat constructor) (by repeat constructor)).anew (hs.lB.less (F3.blks (ks:=[900,6]) (L:=Ja I M br t ⟨h1,m,_,_,[some ⟨bq,0,none⟩],[x]⟩) (B4 rfl rfl (F9 rfl (SC.arr (by simp)) rfl E8))))).of (fun e he=>?_),⟨hm1,hm2,by dsimp only;simp only [List.length_cons,List.length_nil];omega,by dsimp only [F6];omega⟩,hR,rfl,by simp⟩,?_,hs.again [900,6] (B4 rfl rfl (F9 rfl (SC.arr (by simp)) rfl E8))⟩
  ·simp only [mL,or_false] at he ⊢
   exact .inl he
  ·refine And.intro ⟨_,rfl,by first|rfl|(simp [B0,A1,A0];done)⟩ ?_
   (repeat (refine And.intro ⟨_,rfl,rfl⟩ ?_));exact trivial
 clear hm1 hm2 W
 rintro μ ⟨h1,mm,b2,c2,ps,l⟩ ⟨W,⟨r0,r1,r2,r3⟩,r4,r5,r6⟩
 dsimp only [Ja] at W r0 r1 r2 r3 r4 r5 r6 ⊢
 obtain⟨f,rfl⟩:∃ f,μ=f+1:=⟨μ-1,by omega⟩
 simp only [P1] at r4
 ((repeat' (conv=>whnf);first|(refine VC.mk (by (first|omega|(and_intros<;>first|omega|rfl|(simp only [maxLen];omega)|(simp only [lL];omega)))) ?_)|(refine E5.mk ?_;intro b hb)|(refine X0.mk ?_;intro b c hb hbc)|(refine SR.same ?_)|(refine CK.maybe W.ok W.base (by decide) rfl rfl (fun hx hm=>?_) (fun hx=>?_))|(refine CK.con W (H (.expr) _ _ (by simp only [C5,A6];omega) (by omega) (by exact trivial)) rfl rfl (fun x hx=>?_) (fun x m bq h' hx hm1 hm2=>?_);rotate_left;(try dsimp only [D1] at hm1);(conv=>whnf);intro W)|(refine CK.listO W rfl rfl rfl rfl (by rfl) rfl (W.manyOf (by repeat constructor)) (by decide) ?_;intro b h';(conv=>whnf);intro W)|fail);all_goals try conv=>whnf)
 all_goals first
  | (rw [if_neg hx] at r4
     refine⟨fun h' hs=>W.fin hs rfl (by repeat constructor) (by rw [←r4];rfl) (by omega)⟩)
  | (rw [if_pos (by assumption),hx] at r4
     rw [←r4];rfl)
  | (rw [if_pos (by assumption),hx,E2] at r4
     intro h2 hs
     refine⟨f,⟨h2,m,b,c,ps++[some ⟨bq,0,none⟩],l++[x]⟩,⟨((W.more (ps:=ps) (l:=l) (by repeat constructor) (by repeat constructor)).anew (hs.lB.less (F3.blks (ks:=[900,13]) (L:=Ja I M br t ⟨h2,m,b,c,ps++[some ⟨bq,0,none⟩],l++[x]⟩) (B4 rfl rfl (F9 rfl (SC.arr (by simp)) rfl E8))))).of (fun e he=>?_),⟨by dsimp only;omega,by dsimp only;omega,by dsimp only;simp only [lC2];omega,by dsimp only;omega⟩,r4,by simp [r5],by simpa using hbc⟩,Nat.lt_succ_self f,?_,hs.again [900,13] (B4 rfl rfl (F9 rfl (SC.arr (by simp)) rfl E8))⟩
     ·simp only [mL,or_false] at he ⊢
      exact .inl he
     ·refine And.intro ⟨_,rfl,by first|rfl|(simp [B0,A1,A0];done)|(simp [B0,A1,A0];omega)⟩ ?_
      (repeat (refine And.intro ⟨_,rfl,rfl⟩ ?_));exact trivial)
theorem Bm(ok:C6 I)(H:O8 I M g N)(hn:0≤n∧n≤I.L)(hN:32*(I.L+1-n)+6≤N):N3 I M 226 [] (dT I g t n) t n 1:=fun br h hs hB=>by
 refine O9 1 [0,2,3,8] [] [.own 900 br 0] Tryz.func226 rfl hs ?_
 have W:=Wd.start ok hB
 have hl:=ok.len
 ((repeat' (conv=>whnf);first|(refine VC.mk (by (first|omega|(and_intros<;>first|rfl|(simp only [maxLen];omega)))) ?_)|(refine E5.mk ?_;intro b hb)|(refine CK.con W (H (.typ) _ _ (by simp only [C5,A6];omega) (by omega) (by exact trivial)) rfl rfl (fun x hx=>?_) (fun x m bq h' hx hm1 hm2=>?_);rotate_left;(try dsimp only [D1] at hm1);(conv=>whnf);intro W)|fail);all_goals try conv=>whnf)
 case refine_1=>simp [dT,jG,bnd, *]
 obtain⟨R,hR⟩:∃ R,P1 I (⟨#[44]⟩:ByteArray) (g .typ t) (F6 I m) [x] m=R:=⟨_,rfl⟩
 have hRS:dT I g t n=bnd R fun l m=>.ok (K3 11 l m) m:=by simp only [dT,jG,hx,E2,hR]
 rw [hRS]
 refine gG tO [3] (fun x:SS=>[(3,.osl 13 x.b x.ps.length x.c)]) (fun x=>⟨x.h,blks (Ja I M br t x),Ja I M br t x⟩)
  (fun μ x=>Wd I M [br] h x.h (blks (Ja I M br t x)) [.many x.ps x.l]∧(n+1≤x.m∧x.m≤I.L∧(x.l.length:Int)≤x.m-n∧I.L+1-x.m≤μ)∧P1 I (⟨#[44]⟩:ByteArray) (g .typ t) μ x.l x.m=R∧x.ps.length=x.l.length∧x.ps.length≤x.c) ?_
 conv=>whnf
 refine⟨fun h1 hs=>?_,?_⟩
 ·refine⟨F6 I m,⟨h1,m,_,_,[some ⟨bq,0,none⟩],[x]⟩,⟨(((W.add (i:=.many [] []) ⟨L3.nil,trivial⟩).more (ps:=[]) (l:=[]) (by repeat constructor) (by repeat constructor)).anew (hs.lB.less (F3.blks (ks:=[900,6]) (L:=Ja I M br t ⟨h1,m,_,_,[some ⟨bq,0,none⟩],[x]⟩) (B4 rfl rfl (F9 rfl (SC.arr (by simp)) rfl E8))))).of (fun e he=>?_),⟨hm1,hm2,by dsimp only;simp only [List.length_cons,List.length_nil];omega,by dsimp only [F6];omega⟩,hR,rfl,by simp⟩,?_,hs.again [900,6] (B4 rfl rfl (F9 rfl (SC.arr (by simp)) rfl E8))⟩
  ·simp only [mL,or_false] at he ⊢
   exact .inl he
  ·refine And.intro ⟨_,rfl,by first|rfl|(simp [B0,A1,A0];done)⟩ ?_
   (repeat (refine And.intro ⟨_,rfl,rfl⟩ ?_));exact trivial
 clear hm1 hm2 W
 rintro μ ⟨h1,mm,b2,c2,ps,l⟩ ⟨W,⟨r0,r1,r2,r3⟩,r4,r5,r6⟩
 dsimp only [Ja] at W r0 r1 r2 r3 r4 r5 r6 ⊢
 obtain⟨f,rfl⟩:∃ f,μ=f+1:=⟨μ-1,by omega⟩
 simp only [P1] at r4
 ((repeat' (conv=>whnf);first|(refine VC.mk (by (first|omega|(and_intros<;>first|omega|rfl|(simp only [maxLen];omega)|(simp only [lL];omega)))) ?_)|(refine E5.mk ?_;intro b hb)|(refine X0.mk ?_;intro b c hb hbc)|(refine SR.same ?_)|(refine CK.maybe W.ok W.base (by decide) rfl rfl (fun hx hm=>?_) (fun hx=>?_))|(refine CK.con W (H (.typ) _ _ (by simp only [C5,A6];omega) (by omega) (by exact trivial)) rfl rfl (fun x hx=>?_) (fun x m bq h' hx hm1 hm2=>?_);rotate_left;(try dsimp only [D1] at hm1);(conv=>whnf);intro W)|(refine CK.listO W rfl rfl rfl rfl (by rfl) rfl (W.manyOf (by repeat constructor)) (by decide) ?_;intro b h';(conv=>whnf);intro W)|fail);all_goals try conv=>whnf)
 all_goals first
  | (rw [if_neg hx] at r4
     refine⟨fun h' hs=>W.fin hs rfl (by repeat constructor) (by rw [←r4];rfl) (by omega)⟩)
  | (rw [if_pos (by assumption),hx] at r4
     rw [←r4];rfl)
  | (rw [if_pos (by assumption),hx,E2] at r4
     intro h2 hs
     refine⟨f,⟨h2,m,b,c,ps++[some ⟨bq,0,none⟩],l++[x]⟩,⟨((W.more (ps:=ps) (l:=l) (by repeat constructor) (by repeat constructor)).anew (hs.lB.less (F3.blks (ks:=[900,13]) (L:=Ja I M br t ⟨h2,m,b,c,ps++[some ⟨bq,0,none⟩],l++[x]⟩) (B4 rfl rfl (F9 rfl (SC.arr (by simp)) rfl E8))))).of (fun e he=>?_),⟨by dsimp only;omega,by dsimp only;omega,by dsimp only;simp only [lC2];omega,by dsimp only;omega⟩,r4,by simp [r5],by simpa using hbc⟩,Nat.lt_succ_self f,?_,hs.again [900,13] (B4 rfl rfl (F9 rfl (SC.arr (by simp)) rfl E8))⟩
     ·simp only [mL,or_false] at he ⊢
      exact .inl he
     ·refine And.intro ⟨_,rfl,by first|rfl|(simp [B0,A1,A0];done)|(simp [B0,A1,A0];omega)⟩ ?_
      (repeat (refine And.intro ⟨_,rfl,rfl⟩ ?_));exact trivial)
theorem Do(ok:C6 I)(H:O8 I M g N)(hn:0≤n∧n≤I.L)(hN:32*(I.L+1-n)+0≤N):N3 I M 168 [] (dX I t n) t n 1:=fun br h hs hB=>by
 refine O9 1 [0,2,3,8] [] [.own 900 br 0] Tryz.func168 rfl hs ?_
 have W:=Wd.start ok hB
 have hl:=ok.len
 ((repeat' (conv=>whnf);first|(refine VC.mk (by (first|omega|(and_intros<;>first|rfl|(simp only [maxLen];omega)))) ?_)|(refine E5.mk ?_;intro b hb)|(refine CK.con W (Q6 ok (by omega)) rfl rfl (fun x hx=>?_) (fun x m bq h' hx hm1 hm2=>?_);rotate_left;(conv=>whnf);intro W)|fail);all_goals try conv=>whnf)
 case refine_1=>simp [dX,jG,bnd, *]
 obtain⟨R,hR⟩:∃ R,P1 I (⟨#[44]⟩:ByteArray) (Q7 I) (F6 I m) [x] m=R:=⟨_,rfl⟩
 have hRS:dX I t n=bnd R fun l m=>.ok (K3 10 l m) m:=by simp only [dX,jG,hx,E2,hR]
 rw [hRS]
 refine gG tO [3] (fun x:SS=>[(3,.osl 13 x.b x.ps.length x.c)]) (fun x=>⟨x.h,blks (Ja I M br t x),Ja I M br t x⟩)
  (fun μ x=>Wd I M [br] h x.h (blks (Ja I M br t x)) [.many x.ps x.l]∧(n+1≤x.m∧x.m≤I.L∧(x.l.length:Int)≤x.m-n∧I.L+1-x.m≤μ)∧P1 I (⟨#[44]⟩:ByteArray) (Q7 I) μ x.l x.m=R∧x.ps.length=x.l.length∧x.ps.length≤x.c) ?_
 conv=>whnf
 refine⟨fun h1 hs=>?_,?_⟩
 ·refine⟨F6 I m,⟨h1,m,_,_,[some ⟨bq,0,none⟩],[x]⟩,⟨(((W.add (i:=.many [] []) ⟨L3.nil,trivial⟩).more (ps:=[]) (l:=[]) (by repeat constructor) (by repeat constructor)).anew (hs.lB.less (F3.blks (ks:=[900,6]) (L:=Ja I M br t ⟨h1,m,_,_,[some ⟨bq,0,none⟩],[x]⟩) (B4 rfl rfl (F9 rfl (SC.arr (by simp)) rfl E8))))).of (fun e he=>?_),⟨hm1,hm2,by dsimp only;simp only [List.length_cons,List.length_nil];omega,by dsimp only [F6];omega⟩,hR,rfl,by simp⟩,?_,hs.again [900,6] (B4 rfl rfl (F9 rfl (SC.arr (by simp)) rfl E8))⟩
  ·simp only [mL,or_false] at he ⊢
   exact .inl he
  ·refine And.intro ⟨_,rfl,by first|rfl|(simp [B0,A1,A0];done)⟩ ?_
   (repeat (refine And.intro ⟨_,rfl,rfl⟩ ?_));exact trivial
 clear hm1 hm2 W
 rintro μ ⟨h1,mm,b2,c2,ps,l⟩ ⟨W,⟨r0,r1,r2,r3⟩,r4,r5,r6⟩
 dsimp only [Ja] at W r0 r1 r2 r3 r4 r5 r6 ⊢
 obtain⟨f,rfl⟩:∃ f,μ=f+1:=⟨μ-1,by omega⟩
 simp only [P1] at r4
 ((repeat' (conv=>whnf);first|(refine VC.mk (by (first|omega|(and_intros<;>first|omega|rfl|(simp only [maxLen];omega)|(simp only [lL];omega)))) ?_)|(refine E5.mk ?_;intro b hb)|(refine X0.mk ?_;intro b c hb hbc)|(refine SR.same ?_)|(refine CK.maybe W.ok W.base (by decide) rfl rfl (fun hx hm=>?_) (fun hx=>?_))|(refine CK.con W (Q6 ok (by omega)) rfl rfl (fun x hx=>?_) (fun x m bq h' hx hm1 hm2=>?_);rotate_left;(conv=>whnf);intro W)|(refine CK.listO W rfl rfl rfl rfl (by rfl) rfl (W.manyOf (by repeat constructor)) (by decide) ?_;intro b h';(conv=>whnf);intro W)|fail);all_goals try conv=>whnf)
 all_goals first
  | (rw [if_neg hx] at r4
     refine⟨fun h' hs=>W.fin hs rfl (by repeat constructor) (by rw [←r4];rfl) (by omega)⟩)
  | (rw [if_pos (by assumption),hx] at r4
     rw [←r4];rfl)
  | (rw [if_pos (by assumption),hx,E2] at r4
     intro h2 hs
     refine⟨f,⟨h2,m,b,c,ps++[some ⟨bq,0,none⟩],l++[x]⟩,⟨((W.more (ps:=ps) (l:=l) (by repeat constructor) (by repeat constructor)).anew (hs.lB.less (F3.blks (ks:=[900,13]) (L:=Ja I M br t ⟨h2,m,b,c,ps++[some ⟨bq,0,none⟩],l++[x]⟩) (B4 rfl rfl (F9 rfl (SC.arr (by simp)) rfl E8))))).of (fun e he=>?_),⟨by dsimp only;omega,by dsimp only;omega,by dsimp only;simp only [lC2];omega,by dsimp only;omega⟩,r4,by simp [r5],by simpa using hbc⟩,Nat.lt_succ_self f,?_,hs.again [900,13] (B4 rfl rfl (F9 rfl (SC.arr (by simp)) rfl E8))⟩
     ·simp only [mL,or_false] at he ⊢
      exact .inl he
     ·refine And.intro ⟨_,rfl,by first|rfl|(simp [B0,A1,A0];done)|(simp [B0,A1,A0];omega)⟩ ?_
      (repeat (refine And.intro ⟨_,rfl,rfl⟩ ?_));exact trivial)
end
end Go.Ex
namespace Go.Ex
open Go.Proofs
attribute [local irreducible] CH X2 word B9
section
variable {I:In}{M:O6}{g:Gt}{N:Int}{t:Bool}{n:Int}
theorem vA(ok:C6 I)(H:O8 I M g N)(hk:B9 I n=1)(hn:0≤n∧n≤I.L)(hN:32*(I.L+1-n)+3≤N):N3 I M 99 [] (fK I g t n) t n 1:=fun br h hs hB=>by
 refine O9 1 [0,2,3,4,5,6,14,19,22,39,40,45,59,64,85,99,113,124,134] [] [.own 900 br 0] Tryz.func99 rfl hs ?_
 have W:=Wd.start ok hB
 have hl:=ok.len
 have hlt:=pW hk (by decide)
 ((repeat' (conv=>whnf);first|(refine VC.mk (by omega) ?_)|(refine Br.mk ?_ ?_<;>intro hb<;>(try replace hb:=nN hb)<;>(try exact absurd hb (by decide))<;>(try (have hlt:=pW hb (by decide)))<;>(try omega))|(refine CK.says (.prop _) (fun h1 hs=>I8 W.ok W.base hs rfl _) ?_)|(refine CK.box 901 _ (fun h1 hs=>D9 hs rfl 0) ?_;intro bo hbo)|(refine F2 W (H .typeName _ _ (by simp only [C5,A6];omega) (by omega) trivial) rfl rfl (fun x m bq h' hx hm1 hm2=>?_) fun x hx=>?_;(try dsimp only [D1] at hm1);(conv=>whnf);intro W)|fail);all_goals try conv=>whnf)
 all_goals first|(refine W.fn rfl (by repeat constructor) ?_ (by omega);(simp [fK,M3,aJ,F1,maybe,bnd,want, *];done))|(simp [fK,M3,aJ,F1,maybe,bnd,want, *];done)|contradiction
theorem uC(ok:C6 I)(H:O8 I M g N)(hk:¬ B9 I n=1)(w0:word I n=(⟨#[42]⟩:ByteArray))(hn:0≤n∧n≤I.L)(hN:32*(I.L+1-n)+3≤N):N3 I M 99 [] (fK I g t n) t n 1:=fun br h hs hB=>by
 refine O9 1 [0,2,3,4,5,6,14,19,22,39,40,45,59,64,85,99,113,124,134] [] [.own 900 br 0] Tryz.func99 rfl hs ?_
 have W:=Wd.start ok hB
 have hl:=ok.len
 have hlt:=T9 w0 (by decide)
 ((repeat' (conv=>whnf);first|(refine Ar.fit (by omega) ?_)|(refine VC.mk (by (first|omega|(and_intros<;>first|rfl|(simp only [maxLen];omega)))) ?_)|(refine Br.mk ?_ ?_<;>intro hb<;>(try replace hb:=nN hb)<;>(try exact absurd hb (by decide))<;>(try (have hlt:=pW hb (by decide)))<;>(try (first|omega|exact absurd rfl hb)))|(refine E5.mk ?_;intro b hb)|(refine A7 ?_ fun h1 hs=>F5 W.ok W.base hs rfl (by assumption))|(refine CK.says (.prop _) (fun h1 hs=>I8 W.ok W.base hs rfl _) ?_)|(refine CK.box 901 _ (fun h1 hs=>D9 hs rfl 0) ?_;intro bo hbo)|(refine F2 W (H .typ _ _ (by simp only [C5,A6];omega) (by omega) trivial) rfl rfl (fun x m bq h' hx hm1 hm2=>?_) fun x hx=>?_;(try dsimp only [D1] at hm1);(conv=>whnf);intro W)|(refine CK.cO 901 W rfl rfl rfl (fun h hs hm=>hs.ne (k:=901) (k':=900) rfl rfl (by decide) (List.mem_singleton.1 hm)) rfl rfl rfl rfl rfl rfl (rC W (by repeat constructor) (rN)) (by simp [O5]) (by simp) ?_;intro h';(conv=>whnf);intro W)|(refine CK.inline (rep:=rep) tO Tryz.func140 rfl (by decide) (rs:=[.tmp 4]) rfl 4 [4] [] rfl rfl rfl ?_)|fail);all_goals try conv=>whnf)
 all_goals first|(refine W.fn rfl (by repeat constructor) ?_ (by omega);(simp [fK,M3,aJ,F1,maybe,bnd,want, *];done))|(simp [fK,M3,aJ,F1,maybe,bnd,want, *];done)|contradiction
theorem uB(ok:C6 I)(H:O8 I M g N)(hk:¬ B9 I n=1)(w1:word I n=(⟨#[40]⟩:ByteArray))(hn:0≤n∧n≤I.L)(hN:32*(I.L+1-n)+3≤N):N3 I M 99 [] (fK I g t n) t n 1:=fun br h hs hB=>by
 refine O9 1 [0,2,3,4,5,6,14,19,22,39,40,45,59,64,85,99,113,124,134] [] [.own 900 br 0] Tryz.func99 rfl hs ?_
 have W:=Wd.start ok hB
 have hl:=ok.len
 have hlt:=T9 w1 (by decide)
 ((repeat' (conv=>whnf);first|(refine Ar.fit (by omega) ?_)|(refine VC.mk (by (first|omega|(and_intros<;>first|rfl|(simp only [maxLen];omega)))) ?_)|(refine Br.mk ?_ ?_<;>intro hb<;>(try replace hb:=nN hb)<;>(try exact absurd hb (by decide))<;>(try (have hlt:=pW hb (by decide)))<;>(try (first|omega|exact absurd rfl hb)))|(refine E5.mk ?_;intro b hb)|(refine A7 ?_ fun h1 hs=>F5 W.ok W.base hs rfl (by assumption))|(refine CK.says (.prop _) (fun h1 hs=>I8 W.ok W.base hs rfl _) ?_)|(refine CK.box 901 _ (fun h1 hs=>D9 hs rfl 0) ?_;intro bo hbo)|(refine F2 W (H .typ _ _ (by simp only [C5,A6];omega) (by omega) trivial) rfl rfl (fun x m bq h' hx hm1 hm2=>?_) fun x hx=>?_;(try dsimp only [D1] at hm1);(conv=>whnf);intro W)|(refine CK.want W (by decide) (by omega) rfl rfl (fun hx=>?_) (fun hx hm=>?_);rotate_left)|(refine CK.cO 901 W rfl rfl rfl (fun h hs hm=>hs.ne (k:=901) (k':=900) rfl rfl (by decide) (List.mem_singleton.1 hm)) rfl rfl rfl rfl rfl rfl (rC W (by repeat constructor) (rN)) (by simp [O5]) (by simp) ?_;intro h';(conv=>whnf);intro W)|fail);all_goals try conv=>whnf)
 all_goals first|(refine W.fn rfl (by repeat constructor) ?_ (by omega);(simp [fK,M3,aJ,F1,maybe,bnd,want, *];done))|(simp [fK,M3,aJ,F1,maybe,bnd,want, *];done)|contradiction
theorem uA(ok:C6 I)(H:O8 I M g N)(hk:¬ B9 I n=1)(w2:word I n=(⟨#[91]⟩:ByteArray))(hn:0≤n∧n≤I.L)(hN:32*(I.L+1-n)+3≤N):N3 I M 99 [] (fK I g t n) t n 1:=fun br h hs hB=>by
 refine O9 1 [0,2,3,4,5,6,14,19,22,39,40,45,59,64,85,99,113,124,134] [] [.own 900 br 0] Tryz.func99 rfl hs ?_
 have W:=Wd.start ok hB
 have hl:=ok.len
 have hlt:=T9 w2 (by decide)
 ((repeat' (conv=>whnf);first|(refine C2 (id:=3) (.pl [0,1,2,3,5,6,7] (.br 4 8 (.on [8,9,10] (.pl [11,12] (.on [13] .e))) (.bp 4 9 (.on [10] (.pl [11,12] (.on [13] .e)))))) (by kernel_rfl) ?_)|(refine Ar.fit (by omega) ?_)|(refine VC.mk (by (first|omega|(and_intros<;>first|omega|rfl|(simp only [maxLen];omega)|(simp only [lL];omega)))) ?_)|(refine Br.mk ?_ ?_<;>intro hb<;>(try replace hb:=nN hb)<;>(try exact absurd hb (by decide))<;>(try (have hlt:=pW hb (by decide)))<;>(try (first|omega|exact absurd rfl hb|contradiction)))|(refine E5.mk ?_;intro b hb)|(refine aH.mk ?_;intro b c hb hbc)|(refine SR.same ?_)|(refine dD.mk ?_ ?_)|(refine A7 ?_ fun h1 hs=>F5 W.ok W.base hs rfl (by assumption))|(refine CK.says (.prop _) (fun h1 hs=>I8 W.ok W.base hs rfl _) ?_)|(refine CK.box 901 _ (fun h1 hs=>D9 hs rfl 0) ?_;intro bo hbo)|(refine F2 W (H .typ _ _ (by simp only [C5,A6];omega) (by omega) trivial) rfl rfl (fun x m bq h' hx hm1 hm2=>?_) fun x hx=>?_;(try dsimp only [D1] at hm1);(conv=>whnf);intro W)|(refine F2 W (H .expr _ _ (by simp only [C5,A6];omega) (by omega) trivial) rfl rfl (fun x m bq h' hx hm1 hm2=>?_) fun x hx=>?_;(try dsimp only [D1] at hm1);(conv=>whnf);intro W)|(refine CK.want W (by decide) (by omega) rfl rfl (fun hx=>?_) (fun hx hm=>?_);rotate_left)|(refine CK.maybe W.ok W.base (by decide) rfl rfl (fun hx hm=>?_) (fun hx=>?_))|(refine CK.cO 901 W rfl rfl rfl (fun h hs hm=>hs.ne (k:=901) (k':=900) rfl rfl (by decide) (List.mem_singleton.1 hm)) rfl rfl rfl rfl rfl rfl (rC W (by repeat constructor) (rN)) (by simp [O5]) (by simp) ?_;intro h';(conv=>whnf);intro W)|(refine CK.close1O 901 21 W rfl rfl rfl rfl rfl rfl rfl (fun h hs=>⟨fun hm=>hs.ne (k:=901) (k':=900) rfl rfl (by decide) (List.mem_singleton.1 hm),fun hm=>hs.ne (k:=21) (k':=900) rfl rfl (by decide) (List.mem_singleton.1 hm)⟩) rfl rfl rfl rfl rfl rfl rfl (rC W (by repeat constructor) (rN)) (rC W (by repeat constructor) (rN)) (by simp [O5]) (by simp) ?_;intro h';(conv=>whnf);intro W)|(refine CK.inline (rep:=rep) tO Tryz.func140 rfl (by decide) (rs:=[.tmp 4]) rfl 4 [4] [] rfl rfl rfl ?_)|(refine CK.inline (rep:=rep) tO Tryz.func98 rfl (by decide) (rs:=[.tmp 4]) rfl 4 [4,5,6] [] rfl rfl rfl ?_)|(refine CK.inline (rep:=rep) tO Tryz.func135 rfl (by decide) (rs:=[.tmp 4]) rfl 4 [4,24,30] [] rfl rfl rfl ?_)|fail);all_goals try conv=>whnf)
 all_goals first|(refine W.fn rfl (by repeat constructor) ?_ (by omega);(simp [fK,M3,aJ,F1,maybe,bnd,want, *];done))|(simp [fK,M3,aJ,F1,maybe,bnd,want, *];done)|contradiction
theorem tZ(ok:C6 I)(H:O8 I M g N)(hk:¬ B9 I n=1)(w3:word I n=(⟨#[109,97,112]⟩:ByteArray))(hn:0≤n∧n≤I.L)(hN:32*(I.L+1-n)+3≤N):N3 I M 99 [] (fK I g t n) t n 1:=fun br h hs hB=>by
 refine O9 1 [0,2,3,4,5,6,14,19,22,39,40,45,59,64,85,99,113,124,134] [] [.own 900 br 0] Tryz.func99 rfl hs ?_
 have W:=Wd.start ok hB
 have hl:=ok.len
 have hlt:=T9 w3 (by decide)
 ((repeat' (conv=>whnf);first|(refine Ar.fit (by omega) ?_)|(refine VC.mk (by (first|omega|(and_intros<;>first|omega|rfl|(simp only [maxLen];omega)|(simp only [lL];omega)))) ?_)|(refine Br.mk ?_ ?_<;>intro hb<;>(try replace hb:=nN hb)<;>(try exact absurd hb (by decide))<;>(try (have hlt:=pW hb (by decide)))<;>(try (first|omega|exact absurd rfl hb|contradiction)))|(refine E5.mk ?_;intro b hb)|(refine aH.mk ?_;intro b c hb hbc)|(refine SR.same ?_)|(refine A7 ?_ fun h1 hs=>F5 W.ok W.base hs rfl (by assumption))|(refine CK.says (.prop _) (fun h1 hs=>I8 W.ok W.base hs rfl _) ?_)|(refine CK.box 901 _ (fun h1 hs=>D9 hs rfl 0) ?_;intro bo hbo)|(refine F2 W (H .typ _ _ (by simp only [C5,A6];omega) (by omega) trivial) rfl rfl (fun x m bq h' hx hm1 hm2=>?_) fun x hx=>?_;(try dsimp only [D1] at hm1);(conv=>whnf);intro W)|(refine CK.want W (by decide) (by omega) rfl rfl (fun hx=>?_) (fun hx hm=>?_);rotate_left)|(refine CK.close1O 901 82 W rfl rfl rfl rfl rfl rfl rfl (fun h hs=>⟨fun hm=>hs.ne (k:=901) (k':=900) rfl rfl (by decide) (List.mem_singleton.1 hm),fun hm=>hs.ne (k:=82) (k':=900) rfl rfl (by decide) (List.mem_singleton.1 hm)⟩) rfl rfl rfl rfl rfl rfl rfl (rC W (by repeat constructor) (rN)) (rC W (by repeat constructor) (rN)) (by simp [O5]) (by simp) ?_;intro h';(conv=>whnf);intro W)|(refine CK.inline (rep:=rep) tO Tryz.func140 rfl (by decide) (rs:=[.tmp 4]) rfl 4 [4] [] rfl rfl rfl ?_)|fail);all_goals try conv=>whnf)
 all_goals first|(refine W.fn rfl (by repeat constructor) ?_ (by omega);(simp [fK,M3,aJ,F1,maybe,bnd,want, *];done))|(simp [fK,M3,aJ,F1,maybe,bnd,want, *];done)|contradiction
theorem tY(ok:C6 I)(H:O8 I M g N)(hk:¬ B9 I n=1)(w4:word I n=(⟨#[99,104,97,110]⟩:ByteArray))(hn:0≤n∧n≤I.L)(hN:32*(I.L+1-n)+3≤N):N3 I M 99 [] (fK I g t n) t n 1:=fun br h hs hB=>by
 refine O9 1 [0,2,3,4,5,6,14,19,22,39,40,45,59,64,85,99,113,124,134] [] [.own 900 br 0] Tryz.func99 rfl hs ?_
 have W:=Wd.start ok hB
 have hl:=ok.len
 have hlt:=T9 w4 (by decide)
 ((repeat' (conv=>whnf);first|(refine Ar.fit (by omega) ?_)|(refine VC.mk (by (first|omega|(and_intros<;>first|rfl|(simp only [maxLen];omega)))) ?_)|(refine Br.mk ?_ ?_<;>intro hb<;>(try replace hb:=nN hb)<;>(try exact absurd hb (by decide))<;>(try (have hlt:=pW hb (by decide)))<;>(try (first|omega|exact absurd rfl hb)))|(refine E5.mk ?_;intro b hb)|(refine A7 ?_ fun h1 hs=>F5 W.ok W.base hs rfl (by assumption))|(refine CK.says (.prop _) (fun h1 hs=>I8 W.ok W.base hs rfl _) ?_)|(refine CK.box 901 _ (fun h1 hs=>D9 hs rfl 0) ?_;intro bo hbo)|(refine F2 W (H .typ _ _ (by simp only [C5,A6];omega) (by omega) trivial) rfl rfl (fun x m bq h' hx hm1 hm2=>?_) fun x hx=>?_;(try dsimp only [D1] at hm1);(conv=>whnf);intro W)|(refine CK.maybe W.ok W.base (by decide) rfl rfl (fun hx hm=>?_) (fun hx=>?_))|(refine CK.cO 901 W rfl rfl rfl (fun h hs hm=>hs.ne (k:=901) (k':=900) rfl rfl (by decide) (List.mem_singleton.1 hm)) rfl rfl rfl rfl rfl rfl (rC W (by repeat constructor) (rN)) (by simp [O5]) (by simp) ?_;intro h';(conv=>whnf);intro W)|(refine CK.inline (rep:=rep) tO Tryz.func140 rfl (by decide) (rs:=[.tmp 4]) rfl 4 [4] [] rfl rfl rfl ?_)|fail);all_goals try conv=>whnf)
 all_goals first|(refine W.fn rfl (by repeat constructor) ?_ (by omega);(simp [fK,M3,aJ,F1,maybe,bnd,want, *];done))|(simp [fK,M3,aJ,F1,maybe,bnd,want, *];done)|contradiction
theorem tX(ok:C6 I)(H:O8 I M g N)(hk:¬ B9 I n=1)(w5:word I n=(⟨#[60,45]⟩:ByteArray))(hn:0≤n∧n≤I.L)(hN:32*(I.L+1-n)+3≤N):N3 I M 99 [] (fK I g t n) t n 1:=fun br h hs hB=>by
 refine O9 1 [0,2,3,4,5,6,14,19,22,39,40,45,59,64,85,99,113,124,134] [] [.own 900 br 0] Tryz.func99 rfl hs ?_
 have W:=Wd.start ok hB
 have hl:=ok.len
 have hlt:=T9 w5 (by decide)
 ((repeat' (conv=>whnf);first|(refine Ar.fit (by omega) ?_)|(refine VC.mk (by (first|omega|(and_intros<;>first|rfl|(simp only [maxLen];omega)))) ?_)|(refine Br.mk ?_ ?_<;>intro hb<;>(try replace hb:=nN hb)<;>(try exact absurd hb (by decide))<;>(try (have hlt:=pW hb (by decide)))<;>(try (first|omega|exact absurd rfl hb)))|(refine E5.mk ?_;intro b hb)|(refine A7 ?_ fun h1 hs=>F5 W.ok W.base hs rfl (by assumption))|(refine CK.says (.prop _) (fun h1 hs=>I8 W.ok W.base hs rfl _) ?_)|(refine CK.box 901 _ (fun h1 hs=>D9 hs rfl 0) ?_;intro bo hbo)|(refine F2 W (H .typ _ _ (by simp only [C5,A6];omega) (by omega) trivial) rfl rfl (fun x m bq h' hx hm1 hm2=>?_) fun x hx=>?_;(try dsimp only [D1] at hm1);(conv=>whnf);intro W)|(refine CK.want W (by decide) (by omega) rfl rfl (fun hx=>?_) (fun hx hm=>?_);rotate_left)|(refine CK.cO 901 W rfl rfl rfl (fun h hs hm=>hs.ne (k:=901) (k':=900) rfl rfl (by decide) (List.mem_singleton.1 hm)) rfl rfl rfl rfl rfl rfl (rC W (by repeat constructor) (rN)) (by simp [O5]) (by simp) ?_;intro h';(conv=>whnf);intro W)|(refine CK.inline (rep:=rep) tO Tryz.func140 rfl (by decide) (rs:=[.tmp 4]) rfl 4 [4] [] rfl rfl rfl ?_)|fail);all_goals try conv=>whnf)
 all_goals first|(refine W.fn rfl (by repeat constructor) ?_ (by omega);(simp [fK,M3,aJ,F1,maybe,bnd,want, *];done))|(simp [fK,M3,aJ,F1,maybe,bnd,want, *];done)|contradiction
theorem tW(ok:C6 I)(H:O8 I M g N)(hk:¬ B9 I n=1)(w6:word I n=(⟨#[102,117,110,99]⟩:ByteArray))(hn:0≤n∧n≤I.L)(hN:32*(I.L+1-n)+3≤N):N3 I M 99 [] (fK I g t n) t n 1:=fun br h hs hB=>by
 refine O9 1 [0,2,3,4,5,6,14,19,22,39,40,45,59,64,85,99,113,124,134] [] [.own 900 br 0] Tryz.func99 rfl hs ?_
 have W:=Wd.start ok hB
 have hl:=ok.len
 have hlt:=T9 w6 (by decide)
 ((repeat' (conv=>whnf);first|(refine Ar.fit (by omega) ?_)|(refine VC.mk (by (first|omega|(and_intros<;>first|rfl|(simp only [maxLen];omega)))) ?_)|(refine Br.mk ?_ ?_<;>intro hb<;>(try replace hb:=nN hb)<;>(try exact absurd hb (by decide))<;>(try (have hlt:=pW hb (by decide)))<;>(try (first|omega|exact absurd rfl hb)))|(refine E5.mk ?_;intro b hb)|(refine A7 ?_ fun h1 hs=>F5 W.ok W.base hs rfl (by assumption))|(refine CK.says (.prop _) (fun h1 hs=>I8 W.ok W.base hs rfl _) ?_)|(refine CK.box 901 _ (fun h1 hs=>D9 hs rfl 0) ?_;intro bo hbo)|(refine F2 W (H .signature _ _ (by simp only [C5,A6];omega) (by omega) trivial) rfl rfl (fun x m bq h' hx hm1 hm2=>?_) fun x hx=>?_;(try dsimp only [D1] at hm1);(conv=>whnf);intro W)|(refine CK.cO 901 W rfl rfl rfl (fun h hs hm=>hs.ne (k:=901) (k':=900) rfl rfl (by decide) (List.mem_singleton.1 hm)) rfl rfl rfl rfl rfl rfl (rC W (by repeat constructor) (rN)) (by simp [O5]) (by simp) ?_;intro h';(conv=>whnf);intro W)|fail);all_goals try conv=>whnf)
 all_goals first|(refine W.fn rfl (by repeat constructor) ?_ (by omega);(simp [fK,M3,aJ,F1,maybe,bnd,want, *];done))|(simp [fK,M3,aJ,F1,maybe,bnd,want, *];done)|contradiction
theorem tV(ok:C6 I)(H:O8 I M g N)(hk:¬ B9 I n=1)(w7:word I n=(⟨#[115,116,114,117,99,116]⟩:ByteArray))(hn:0≤n∧n≤I.L)(hN:32*(I.L+1-n)+3≤N):N3 I M 99 [] (fK I g t n) t n 1:=fun br h hs hB=>by
 refine O9 1 [0,2,3,4,5,6,14,19,22,39,40,45,59,64,85,99,113,124,134] [] [.own 900 br 0] Tryz.func99 rfl hs ?_
 have W:=Wd.start ok hB
 have hl:=ok.len
 have hlt:=T9 w7 (by decide)
 ((repeat' (conv=>whnf);first|(refine Ar.fit (by omega) ?_)|(refine VC.mk (by (first|omega|(and_intros<;>first|rfl|(simp only [maxLen];omega)))) ?_)|(refine Br.mk ?_ ?_<;>intro hb<;>(try replace hb:=nN hb)<;>(try exact absurd hb (by decide))<;>(try (have hlt:=pW hb (by decide)))<;>(try (first|omega|exact absurd rfl hb)))|(refine E5.mk ?_;intro b hb)|(refine A7 ?_ fun h1 hs=>F5 W.ok W.base hs rfl (by assumption))|(refine CK.says (.prop _) (fun h1 hs=>I8 W.ok W.base hs rfl _) ?_)|(refine CK.box 901 _ (fun h1 hs=>D9 hs rfl 0) ?_;intro bo hbo)|(refine CK.rowsP W (by decide) (by decide) (by omega) (fun m hm1 hm2=>H .field _ m (by simp only [C5,A6];omega) ⟨by omega,hm2⟩ trivial) rfl rfl (fun x hx=>?_) (fun l w' m A len c ps h' hx hm1 hm2 hm3=>?_);rotate_left;(conv=>whnf);intro W)|(refine CK.listH W rfl rfl (by repeat constructor) (by decide) ?_;intro b h' W)|(refine CK.want W (by decide) (by omega) rfl rfl (fun hx=>?_) (fun hx hm=>?_);rotate_left)|(refine CK.cO 901 W rfl rfl rfl (fun h hs hm=>hs.ne (k:=901) (k':=900) rfl rfl (by decide) (List.mem_singleton.1 hm)) rfl rfl rfl rfl rfl rfl (rC W (by repeat constructor) (rN)) (by simp [O5]) (by simp) ?_;intro h';(conv=>whnf);intro W)|(refine CK.inline (rep:=rep) tO Tryz.func137 rfl (by decide) (rs:=[.tmp 8]) rfl 4 [8,9] [] rfl rfl rfl ?_)|fail);all_goals try conv=>whnf)
 all_goals first|(refine W.fn rfl (by repeat constructor) ?_ (by omega);(simp [fK,M3,aJ,F1,maybe,bnd,want, *];done))|(simp [fK,M3,aJ,F1,maybe,bnd,want, *];done)|contradiction
theorem tU(ok:C6 I)(H:O8 I M g N)(hk:¬ B9 I n=1)(w8:word I n=(⟨#[105,110,116,101,114,102,97,99,101]⟩:ByteArray))(hn:0≤n∧n≤I.L)(hN:32*(I.L+1-n)+3≤N):N3 I M 99 [] (fK I g t n) t n 1:=fun br h hs hB=>by
 refine O9 1 [0,2,3,4,5,6,14,19,22,39,40,45,59,64,85,99,113,124,134] [] [.own 900 br 0] Tryz.func99 rfl hs ?_
 have W:=Wd.start ok hB
 have hl:=ok.len
 have hlt:=T9 w8 (by decide)
 ((repeat' (conv=>whnf);first|(refine Ar.fit (by omega) ?_)|(refine VC.mk (by (first|omega|(and_intros<;>first|rfl|(simp only [maxLen];omega)))) ?_)|(refine Br.mk ?_ ?_<;>intro hb<;>(try replace hb:=nN hb)<;>(try exact absurd hb (by decide))<;>(try (have hlt:=pW hb (by decide)))<;>(try (first|omega|exact absurd rfl hb)))|(refine E5.mk ?_;intro b hb)|(refine A7 ?_ fun h1 hs=>F5 W.ok W.base hs rfl (by assumption))|(refine CK.says (.prop _) (fun h1 hs=>I8 W.ok W.base hs rfl _) ?_)|(refine CK.box 901 _ (fun h1 hs=>D9 hs rfl 0) ?_;intro bo hbo)|(refine CK.rowsP W (by decide) (by decide) (by omega) (fun m hm1 hm2=>H .elem _ m (by simp only [C5,A6];omega) ⟨by omega,hm2⟩ trivial) rfl rfl (fun x hx=>?_) (fun l w' m A len c ps h' hx hm1 hm2 hm3=>?_);rotate_left;(conv=>whnf);intro W)|(refine CK.listH W rfl rfl (by repeat constructor) (by decide) ?_;intro b h' W)|(refine CK.want W (by decide) (by omega) rfl rfl (fun hx=>?_) (fun hx hm=>?_);rotate_left)|(refine CK.cO 901 W rfl rfl rfl (fun h hs hm=>hs.ne (k:=901) (k':=900) rfl rfl (by decide) (List.mem_singleton.1 hm)) rfl rfl rfl rfl rfl rfl (rC W (by repeat constructor) (rN)) (by simp [O5]) (by simp) ?_;intro h';(conv=>whnf);intro W)|(refine CK.inline (rep:=rep) tO Tryz.func137 rfl (by decide) (rs:=[.tmp 8]) rfl 4 [8,9] [] rfl rfl rfl ?_)|fail);all_goals try conv=>whnf)
 all_goals first|(refine W.fn rfl (by repeat constructor) ?_ (by omega);(simp [fK,M3,aJ,F1,maybe,bnd,want, *];done))|(simp [fK,M3,aJ,F1,maybe,bnd,want, *];done)|contradiction
theorem vB(ok:C6 I)(H:O8 I M g N)(hk:¬ B9 I n=1)(w0:¬ word I n=(⟨#[42]⟩:ByteArray))(w1:¬ word I n=(⟨#[40]⟩:ByteArray))(w2:¬ word I n=(⟨#[91]⟩:ByteArray))(w3:¬ word I n=(⟨#[109,97,112]⟩:ByteArray))(w4:¬ word I n=(⟨#[99,104,97,110]⟩:ByteArray))(w5:¬ word I n=(⟨#[60,45]⟩:ByteArray))(w6:¬ word I n=(⟨#[102,117,110,99]⟩:ByteArray))(w7:¬ word I n=(⟨#[115,116,114,117,99,116]⟩:ByteArray))(w8:¬ word I n=(⟨#[105,110,116,101,114,102,97,99,101]⟩:ByteArray))(hn:0≤n∧n≤I.L)(hN:32*(I.L+1-n)+3≤N):N3 I M 99 [] (fK I g t n) t n 1:=fun br h hs hB=>by
 refine O9 1 [0,2,3,4,5,6,14,19,22,39,40,45,59,64,85,99,113,124,134] [] [.own 900 br 0] Tryz.func99 rfl hs ?_
 have W:=Wd.start ok hB
 have hl:=ok.len
 ((repeat' (conv=>whnf);first|(refine VC.mk (by omega) ?_)|(refine Br.mk ?_ ?_<;>intro hb<;>(try replace hb:=nN hb)<;>(try exact absurd hb (by decide))<;>(try (first|have hlt:=T9 hb (by decide)|have hlt:=pW hb (by decide)))<;>(try (first|omega|contradiction)))|(refine A7 ?_ fun h1 hs=>E0 W.ok W.base hs rfl)|(refine CK.says (.prop _) (fun h1 hs=>I8 W.ok W.base hs rfl _) ?_)|(refine CK.box 901 _ (fun h1 hs=>D9 hs rfl 0) ?_;intro bo hbo)|(refine CK.fail W rfl rfl (by omega) ?_)|fail);all_goals try conv=>whnf)
 all_goals first|(refine W.fn rfl (by repeat constructor) ?_ (by omega);(simp [fK,M3,aJ,F1,maybe,bnd,want, *];done))|(simp [fK,M3,aJ,F1,maybe,bnd,want, *];done)|contradiction
theorem Bf(ok:C6 I)(H:O8 I M g N)(hn:0≤n∧n≤I.L)(hN:32*(I.L+1-n)+3≤N):N3 I M 99 [] (fK I g t n) t n 1:=by
 by_cases hk:B9 I n=1
 ·exact vA ok H hk hn hN
 by_cases w0:word I n=(⟨#[42]⟩:ByteArray)
 ·exact uC ok H hk w0 hn hN
 by_cases w1:word I n=(⟨#[40]⟩:ByteArray)
 ·exact uB ok H hk w1 hn hN
 by_cases w2:word I n=(⟨#[91]⟩:ByteArray)
 ·exact uA ok H hk w2 hn hN
 by_cases w3:word I n=(⟨#[109,97,112]⟩:ByteArray)
 ·exact tZ ok H hk w3 hn hN
 by_cases w4:word I n=(⟨#[99,104,97,110]⟩:ByteArray)
 ·exact tY ok H hk w4 hn hN
 by_cases w5:word I n=(⟨#[60,45]⟩:ByteArray)
 ·exact tX ok H hk w5 hn hN
 by_cases w6:word I n=(⟨#[102,117,110,99]⟩:ByteArray)
 ·exact tW ok H hk w6 hn hN
 by_cases w7:word I n=(⟨#[115,116,114,117,99,116]⟩:ByteArray)
 ·exact tV ok H hk w7 hn hN
 by_cases w8:word I n=(⟨#[105,110,116,101,114,102,97,99,101]⟩:ByteArray)
 ·exact tU ok H hk w8 hn hN
 exact vB ok H hk w0 w1 w2 w3 w4 w5 w6 w7 w8 hn hN
end
end Go.Ex
namespace Go.Ex
open Go.Proofs
attribute [local irreducible] CH X2 word B9
section
variable {I:In}{M:O6}{g:Gt}{N:Int}{t:Bool}{n:Int}
structure SB where
 h:A3
 m:Int
 b:Nat
 x:Nd
theorem Th(w:ByteArray):0≤X6 w∧X6 w≤5:=by
 unfold X6
 repeat' split
 all_goals omega
theorem Ft{n:Int}(h:1≤X6 (word I n)):0≤n∧n<I.L:=I7 fun e=>by
 rw [e] at h
 revert h
 decide
theorem Xi(ok:C6 I)(H:O8 I M g N){least:Int}(hle:1≤least)(hn:0≤n∧n≤I.L)(hN:32*(I.L+1-n)+9≤N):N3 I M 100 [.int .i64 least] (bD I g least t n) t n 1:=fun br h hs hB=>by
 refine O9 2 [0,1,4,5,6,7,8,9,21] [] [.own 900 br 0,.val (.int .i64 least)] Tryz.func100 rfl hs ?_
 have W:=Wd.start ok hB
 have hl:=ok.len
 ((repeat' (conv=>whnf);first|(refine VC.mk (by omega) ?_)|(refine CK.con W (H (.unary) _ _ (by simp only [C5,A6];omega) (by omega) (by exact trivial)) rfl rfl (fun x hx=>?_) (fun x m bq h' hx hm1 hm2=>?_);rotate_left;(try dsimp only [D1] at hm1);(conv=>whnf);intro W)|fail);all_goals try conv=>whnf)
 case refine_1=>simp [bD,bnd, *]
 obtain⟨R,hR⟩:∃ R,hI I g t least n (F6 I m) x m=R:=⟨_,rfl⟩
 have hRS:bD I g least t n=R:=by simp only [bD,hx,E2,hR]
 rw [hRS]
 refine gG tO [6] (fun x:SB=>[(6,.val (.pointer (some ⟨x.b,0,none⟩)))]) (fun x=>⟨x.h,[br],G5 I M br t x.m⟩)
  (fun μ x=>Wd I M [br] h x.h [br] [.one (some ⟨x.b,0,none⟩) x.x]∧(n+1≤x.m∧x.m≤I.L∧I.L+1-x.m≤μ)∧hI I g t least n μ x.x x.m=R) ?_
 conv=>whnf
 refine⟨fun h1 hs=>?_,?_⟩
 ·refine⟨F6 I m,⟨h1,m,bq,x⟩,⟨(W.anew (hs.lB.less (oI (k:=900) rfl))).of (fun e he=>he),⟨hm1,hm2,by dsimp only [F6];omega⟩,hR⟩,?_,L9 hs (k:=900) rfl⟩
  (repeat (refine And.intro ⟨_,rfl,rfl⟩ ?_));exact trivial
 clear hx hm1 hm2 W hR
 rintro μ ⟨h1,mm,b2,x⟩ ⟨W,⟨r0,r1,r2⟩,r3⟩
 dsimp only at W r0 r1 r2 r3 ⊢
 obtain⟨f,rfl⟩:∃ f,μ=f+1:=⟨μ-1,by omega⟩
 simp only [hI] at r3
 have hlv:=Th (word I mm)
 by_cases hk:X6 (word I mm)<least
 ·rw [if_pos hk] at r3
  ((repeat' (conv=>whnf);first|(refine Br.mk ?_ ?_<;>intro hb<;>(try replace hb:=nN hb)<;>(try exact absurd hb (by decide))<;>(try omega))|(refine A7 ?_ fun h1 hs=>E0 W.ok W.base hs rfl)|(refine A7 ?_ fun h1 hs=>wQ _ h1)|fail);all_goals try conv=>whnf)
  all_goals exact⟨fun h' hs=>W.fin hs rfl (by repeat constructor) r3.symm (by omega)⟩
 ·rw [if_neg hk] at r3
  have hlt:=Ft (I:=I) (n:=mm) (by omega)
  ((repeat' (conv=>whnf);first|(refine Ar.fit (by omega) ?_)|(refine VC.mk (by (first|omega|(and_intros<;>first|rfl|(simp only [maxLen];omega)))) ?_)|(refine Br.mk ?_ ?_<;>intro hb<;>(try replace hb:=nN hb)<;>(try exact absurd hb (by decide))<;>(try omega))|(refine E5.mk ?_;intro b hb)|(refine A7 ?_ fun h1 hs=>E0 W.ok W.base hs rfl)|(refine A7 ?_ fun h1 hs=>wQ _ h1)|(refine CK.con W (H (.binary _) _ _ (by simp only [C5,A6];omega) (by omega) (by (simp only [bL];omega))) rfl rfl (fun x hx=>?_) (fun x m bq h' hx hm1 hm2=>?_);rotate_left;(try dsimp only [D1] at hm1);(conv=>whnf);intro W)|fail);all_goals try conv=>whnf)
  all_goals first
   |(rw [hx] at r3;rw [←r3];rfl)
   | (rw [hx,E2] at r3
      intro h2 hs
      refine⟨f,⟨h2,m,_,_⟩,⟨(W.stand (kn:=48) (kf:=46) hs rfl rfl rfl rfl rfl rfl (rC W (.tail _ (.head _)) (rC W (.head _) rN)) (by simp [O5])).of (fun e he=>by rw [List.mem_singleton.1 he];exact List.mem_cons_self),⟨by dsimp only;omega,by dsimp only;omega,by dsimp only;omega⟩,r3⟩,Nat.lt_succ_self f,?_,L9 hs (k:=900) rfl⟩
      (repeat (refine And.intro ⟨_,rfl,rfl⟩ ?_));exact trivial)
end
end Go.Ex
