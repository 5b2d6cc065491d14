/-
  Top: TopDeep: whatever the input, the law answers true (part 31)
-/
import Derived.Test.YtpjdgifhhnjclaaGreatDoorM29
set_option linter.unusedVariables false
set_option linter.unusedSimpArgs false
set_option maxHeartbeats 4000000
set_option maxRecDepth 10000
namespace Go.Ex
open Go.Proofs
attribute [local irreducible] CH CsP word kindT
structure SS where
 h:Heap
 m:Int
 b:Nat
 c:Nat
 ps:List (Option Addr)
 l:List Nd
abbrev ssC(I:In)(M:Loc)(br:Nat)(t:Bool)(x:SS):Chs:=rdC I M br t x.m++[(13,x.b,.arr 63 ptrR x.ps x.c)]
section
variable {I:In}{M:Loc}{g:Gt}{N:Int}{t:Bool}{n:Int}
theorem exprs_con(ok:InOk I)(H:Hyp I M g N)(hn:0≤n∧n≤I.L)(hN:32*(I.L+1-n)+11≤N):Con I M 207 [] (exprsS I g t n) t n 1:=fun br h hs hB=>by
 refine eP (rep:=rep) (m:=1) (ex:=[0,2,3,8]) (cu:=[]) (args:=[.own 900 br 0]) tO Tryz.func207 rfl (by decide) (rs:=[.tmp 2]) rfl rfl rfl hs ?_
 have W:=Wd.start ok hB
 have hl:=ok.len
 ((repeat' ((conv=>whnf);(first|(refine VC.mk (by (first|omega|(and_intros<;>first|rfl|(simp only [maxLen];omega)))) ?_)|(refine New.mk ?_;intro b hb)|(refine CK.con W (H (.expr) _ _ (by simp only [need,rank];omega) ⟨by omega,by omega⟩ (by exact trivial)) rfl rfl (fun x hx=>?_) (fun x m bq h' hx hm1 hm2=>?_);rotate_left;(try dsimp only [fstr] at hm1);(conv=>whnf);intro W)|fail)));all_goals (try (conv=>whnf)))
 case refine_1=>simp [exprsS,sepS,bnd, *]
 obtain⟨R,hR⟩:∃ R,sepGo I (⟨#[44]⟩:ByteArray) (g .expr t) (fuel I m) [x] m=R:=⟨_,rfl⟩
 have hRS:exprsS I g t n=bnd R fun l m=>.ok (listN 11 l m) m:=by simp only [exprsS,sepS,hx,bnd_ok,hR]
 rw [hRS]
 refine lgn tO [3] (fun x:SS=>[(3,.osl 13 x.b x.ps.length x.c)]) (fun x=>⟨x.h,blks (ssC I M br t x),ssC I M br t x⟩)
  (fun μ x=>Wd I M [br] h x.h (blks (ssC I M br t x)) [.many x.ps x.l]∧(n+1≤x.m∧x.m≤I.L∧(x.l.length:Int)≤x.m-n∧I.L+1-x.m≤μ)∧sepGo I (⟨#[44]⟩:ByteArray) (g .expr t) μ x.l x.m=R∧x.ps.length=x.l.length∧x.ps.length≤x.c) ?_
 conv=>whnf
 refine⟨fun h1 hs=>?_,?_⟩
 ·refine⟨fuel I m,⟨h1,m,_,_,[some ⟨bq,0,none⟩],[x]⟩,⟨(((W.add (i:=.many [] []) ⟨TsI.nil,trivial⟩).more (ps:=[]) (l:=[]) (by repeat (first|exact List.Mem.head _|apply List.Mem.tail)) (by repeat (first|exact List.Mem.head _|apply List.Mem.tail))).anew (hs.lB.less (RenC.blks (ks:=[900,6]) (L:=ssC I M br t ⟨h1,m,_,_,[some ⟨bq,0,none⟩],[x]⟩) (by show RenC (_::_) (_::_) (_::_);exact⟨⟨_,rfl,SC.rfl⟩,rfl,⟨_,rfl,SC.arr (by simp)⟩,rfl,trivial⟩)))).of (fun e he=>?_),⟨hm1,hm2,by dsimp only;simp only [List.length_cons,List.length_nil];omega,by dsimp only [fuel];omega⟩,hR,rfl,by simp⟩,?_,hs.again [900,6] (by show RenC (_::_) (_::_) (_::_);exact⟨⟨_,rfl,SC.rfl⟩,rfl,⟨_,rfl,SC.arr (by simp)⟩,rfl,trivial⟩)⟩
  ·simp only [List.mem_cons,List.not_mem_nil,or_false] at he ⊢
   exact .inl he
  ·refine And.intro ⟨_,rfl,by first|rfl|(simp [den,den1,denC];done)⟩ ?_
   (repeat (refine And.intro ⟨_,rfl,rfl⟩ ?_));exact trivial
 clear hm1 hm2 W
 rintro μ ⟨h1,mm,b2,c2,ps,l⟩ ⟨W,⟨r0,r1,r2,r3⟩,r4,r5,r6⟩
 dsimp only [ssC] at W r0 r1 r2 r3 r4 r5 r6 ⊢
 obtain⟨f,rfl⟩:∃ f,μ=f+1:=⟨μ-1,by omega⟩
 simp only [sepGo] at r4
 ((repeat' ((conv=>whnf);(first|(refine VC.mk (by (first|omega|(and_intros<;>first|omega|rfl|(simp only [maxLen];omega)|(simp only [List.length_append,List.length_take,List.length_replicate,List.length_cons,List.length_nil];omega)))) ?_)|(refine New.mk ?_;intro b hb)|(refine NewO.mk ?_;intro b c hb hbc)|(refine SR.same ?_)|(refine CK.maybe W.ok W.base (by decide) rfl rfl (fun hx hm=>?_) (fun hx=>?_))|(refine CK.con W (H (.expr) _ _ (by simp only [need,rank];omega) ⟨by omega,by omega⟩ (by exact trivial)) rfl rfl (fun x hx=>?_) (fun x m bq h' hx hm1 hm2=>?_);rotate_left;(try dsimp only [fstr] at hm1);(conv=>whnf);intro W)|(refine CK.listO W rfl rfl rfl rfl (by rfl) rfl (W.manyOf (by repeat (first|exact List.Mem.head _|apply List.Mem.tail))) (by decide) ?_;intro b h';(conv=>whnf);intro W)|fail)));all_goals (try (conv=>whnf)))
 all_goals first
  | (rw [if_neg hx] at r4
     refine⟨fun h' hs=>W.fin hs rfl (by repeat (first|exact List.Mem.head _|apply List.Mem.tail)) (by rw [←r4];rfl) ⟨by omega,by omega⟩⟩)
  | (rw [if_pos (by assumption),hx] at r4
     rw [←r4];rfl)
  | (rw [if_pos (by assumption),hx,bnd_ok] at r4
     intro h2 hs
     refine⟨f,⟨h2,m,b,c,ps++[some ⟨bq,0,none⟩],l++[x]⟩,⟨((W.more (ps:=ps) (l:=l) (by repeat (first|exact List.Mem.head _|apply List.Mem.tail)) (by repeat (first|exact List.Mem.head _|apply List.Mem.tail))).anew (hs.lB.less (RenC.blks (ks:=[900,13]) (L:=ssC I M br t ⟨h2,m,b,c,ps++[some ⟨bq,0,none⟩],l++[x]⟩) (by show RenC (_::_) (_::_) (_::_);exact⟨⟨_,rfl,SC.rfl⟩,rfl,⟨_,rfl,SC.arr (by simp)⟩,rfl,trivial⟩)))).of (fun e he=>?_),⟨by dsimp only;omega,by dsimp only;omega,by dsimp only;simp only [List.length_append,List.length_cons,List.length_nil];omega,by dsimp only;omega⟩,r4,by simp [r5],by simpa using hbc⟩,Nat.lt_succ_self f,?_,hs.again [900,13] (by show RenC (_::_) (_::_) (_::_);exact⟨⟨_,rfl,SC.rfl⟩,rfl,⟨_,rfl,SC.arr (by simp)⟩,rfl,trivial⟩)⟩
     ·simp only [List.mem_cons,List.not_mem_nil,or_false] at he ⊢
      exact .inl he
     ·refine And.intro ⟨_,rfl,by first|rfl|(simp [den,den1,denC];done)|(simp [den,den1,denC];omega)⟩ ?_
      (repeat (refine And.intro ⟨_,rfl,rfl⟩ ?_));exact trivial)
theorem types_con(ok:InOk I)(H:Hyp I M g N)(hn:0≤n∧n≤I.L)(hN:32*(I.L+1-n)+6≤N):Con I M 226 [] (typesS I g t n) t n 1:=fun br h hs hB=>by
 refine eP (rep:=rep) (m:=1) (ex:=[0,2,3,8]) (cu:=[]) (args:=[.own 900 br 0]) tO Tryz.func226 rfl (by decide) (rs:=[.tmp 2]) rfl rfl rfl hs ?_
 have W:=Wd.start ok hB
 have hl:=ok.len
 ((repeat' ((conv=>whnf);(first|(refine VC.mk (by (first|omega|(and_intros<;>first|rfl|(simp only [maxLen];omega)))) ?_)|(refine New.mk ?_;intro b hb)|(refine CK.con W (H (.typ) _ _ (by simp only [need,rank];omega) ⟨by omega,by omega⟩ (by exact trivial)) rfl rfl (fun x hx=>?_) (fun x m bq h' hx hm1 hm2=>?_);rotate_left;(try dsimp only [fstr] at hm1);(conv=>whnf);intro W)|fail)));all_goals (try (conv=>whnf)))
 case refine_1=>simp [typesS,sepS,bnd, *]
 obtain⟨R,hR⟩:∃ R,sepGo I (⟨#[44]⟩:ByteArray) (g .typ t) (fuel I m) [x] m=R:=⟨_,rfl⟩
 have hRS:typesS I g t n=bnd R fun l m=>.ok (listN 11 l m) m:=by simp only [typesS,sepS,hx,bnd_ok,hR]
 rw [hRS]
 refine lgn tO [3] (fun x:SS=>[(3,.osl 13 x.b x.ps.length x.c)]) (fun x=>⟨x.h,blks (ssC I M br t x),ssC I M br t x⟩)
  (fun μ x=>Wd I M [br] h x.h (blks (ssC I M br t x)) [.many x.ps x.l]∧(n+1≤x.m∧x.m≤I.L∧(x.l.length:Int)≤x.m-n∧I.L+1-x.m≤μ)∧sepGo I (⟨#[44]⟩:ByteArray) (g .typ t) μ x.l x.m=R∧x.ps.length=x.l.length∧x.ps.length≤x.c) ?_
 conv=>whnf
 refine⟨fun h1 hs=>?_,?_⟩
 ·refine⟨fuel I m,⟨h1,m,_,_,[some ⟨bq,0,none⟩],[x]⟩,⟨(((W.add (i:=.many [] []) ⟨TsI.nil,trivial⟩).more (ps:=[]) (l:=[]) (by repeat (first|exact List.Mem.head _|apply List.Mem.tail)) (by repeat (first|exact List.Mem.head _|apply List.Mem.tail))).anew (hs.lB.less (RenC.blks (ks:=[900,6]) (L:=ssC I M br t ⟨h1,m,_,_,[some ⟨bq,0,none⟩],[x]⟩) (by show RenC (_::_) (_::_) (_::_);exact⟨⟨_,rfl,SC.rfl⟩,rfl,⟨_,rfl,SC.arr (by simp)⟩,rfl,trivial⟩)))).of (fun e he=>?_),⟨hm1,hm2,by dsimp only;simp only [List.length_cons,List.length_nil];omega,by dsimp only [fuel];omega⟩,hR,rfl,by simp⟩,?_,hs.again [900,6] (by show RenC (_::_) (_::_) (_::_);exact⟨⟨_,rfl,SC.rfl⟩,rfl,⟨_,rfl,SC.arr (by simp)⟩,rfl,trivial⟩)⟩
  ·simp only [List.mem_cons,List.not_mem_nil,or_false] at he ⊢
   exact .inl he
  ·refine And.intro ⟨_,rfl,by first|rfl|(simp [den,den1,denC];done)⟩ ?_
   (repeat (refine And.intro ⟨_,rfl,rfl⟩ ?_));exact trivial
 clear hm1 hm2 W
 rintro μ ⟨h1,mm,b2,c2,ps,l⟩ ⟨W,⟨r0,r1,r2,r3⟩,r4,r5,r6⟩
 dsimp only [ssC] at W r0 r1 r2 r3 r4 r5 r6 ⊢
 obtain⟨f,rfl⟩:∃ f,μ=f+1:=⟨μ-1,by omega⟩
 simp only [sepGo] at r4
 ((repeat' ((conv=>whnf);(first|(refine VC.mk (by (first|omega|(and_intros<;>first|omega|rfl|(simp only [maxLen];omega)|(simp only [List.length_append,List.length_take,List.length_replicate,List.length_cons,List.length_nil];omega)))) ?_)|(refine New.mk ?_;intro b hb)|(refine NewO.mk ?_;intro b c hb hbc)|(refine SR.same ?_)|(refine CK.maybe W.ok W.base (by decide) rfl rfl (fun hx hm=>?_) (fun hx=>?_))|(refine CK.con W (H (.typ) _ _ (by simp only [need,rank];omega) ⟨by omega,by omega⟩ (by exact trivial)) rfl rfl (fun x hx=>?_) (fun x m bq h' hx hm1 hm2=>?_);rotate_left;(try dsimp only [fstr] at hm1);(conv=>whnf);intro W)|(refine CK.listO W rfl rfl rfl rfl (by rfl) rfl (W.manyOf (by repeat (first|exact List.Mem.head _|apply List.Mem.tail))) (by decide) ?_;intro b h';(conv=>whnf);intro W)|fail)));all_goals (try (conv=>whnf)))
 all_goals first
  | (rw [if_neg hx] at r4
     refine⟨fun h' hs=>W.fin hs rfl (by repeat (first|exact List.Mem.head _|apply List.Mem.tail)) (by rw [←r4];rfl) ⟨by omega,by omega⟩⟩)
  | (rw [if_pos (by assumption),hx] at r4
     rw [←r4];rfl)
  | (rw [if_pos (by assumption),hx,bnd_ok] at r4
     intro h2 hs
     refine⟨f,⟨h2,m,b,c,ps++[some ⟨bq,0,none⟩],l++[x]⟩,⟨((W.more (ps:=ps) (l:=l) (by repeat (first|exact List.Mem.head _|apply List.Mem.tail)) (by repeat (first|exact List.Mem.head _|apply List.Mem.tail))).anew (hs.lB.less (RenC.blks (ks:=[900,13]) (L:=ssC I M br t ⟨h2,m,b,c,ps++[some ⟨bq,0,none⟩],l++[x]⟩) (by show RenC (_::_) (_::_) (_::_);exact⟨⟨_,rfl,SC.rfl⟩,rfl,⟨_,rfl,SC.arr (by simp)⟩,rfl,trivial⟩)))).of (fun e he=>?_),⟨by dsimp only;omega,by dsimp only;omega,by dsimp only;simp only [List.length_append,List.length_cons,List.length_nil];omega,by dsimp only;omega⟩,r4,by simp [r5],by simpa using hbc⟩,Nat.lt_succ_self f,?_,hs.again [900,13] (by show RenC (_::_) (_::_) (_::_);exact⟨⟨_,rfl,SC.rfl⟩,rfl,⟨_,rfl,SC.arr (by simp)⟩,rfl,trivial⟩)⟩
     ·simp only [List.mem_cons,List.not_mem_nil,or_false] at he ⊢
      exact .inl he
     ·refine And.intro ⟨_,rfl,by first|rfl|(simp [den,den1,denC];done)|(simp [den,den1,denC];omega)⟩ ?_
      (repeat (refine And.intro ⟨_,rfl,rfl⟩ ?_));exact trivial)
theorem names_con(ok:InOk I)(H:Hyp I M g N)(hn:0≤n∧n≤I.L)(hN:32*(I.L+1-n)+0≤N):Con I M 168 [] (namesS I t n) t n 1:=fun br h hs hB=>by
 refine eP (rep:=rep) (m:=1) (ex:=[0,2,3,8]) (cu:=[]) (args:=[.own 900 br 0]) tO Tryz.func168 rfl (by decide) (rs:=[.tmp 2]) rfl rfl rfl hs ?_
 have W:=Wd.start ok hB
 have hl:=ok.len
 ((repeat' ((conv=>whnf);(first|(refine VC.mk (by (first|omega|(and_intros<;>first|rfl|(simp only [maxLen];omega)))) ?_)|(refine New.mk ?_;intro b hb)|(refine CK.con W (name_con ok ⟨by omega,by omega⟩) rfl rfl (fun x hx=>?_) (fun x m bq h' hx hm1 hm2=>?_);rotate_left;(conv=>whnf);intro W)|fail)));all_goals (try (conv=>whnf)))
 case refine_1=>simp [namesS,sepS,bnd, *]
 obtain⟨R,hR⟩:∃ R,sepGo I (⟨#[44]⟩:ByteArray) (nameS I) (fuel I m) [x] m=R:=⟨_,rfl⟩
 have hRS:namesS I t n=bnd R fun l m=>.ok (listN 10 l m) m:=by simp only [namesS,sepS,hx,bnd_ok,hR]
 rw [hRS]
 refine lgn tO [3] (fun x:SS=>[(3,.osl 13 x.b x.ps.length x.c)]) (fun x=>⟨x.h,blks (ssC I M br t x),ssC I M br t x⟩)
  (fun μ x=>Wd I M [br] h x.h (blks (ssC I M br t x)) [.many x.ps x.l]∧(n+1≤x.m∧x.m≤I.L∧(x.l.length:Int)≤x.m-n∧I.L+1-x.m≤μ)∧sepGo I (⟨#[44]⟩:ByteArray) (nameS I) μ x.l x.m=R∧x.ps.length=x.l.length∧x.ps.length≤x.c) ?_
 conv=>whnf
 refine⟨fun h1 hs=>?_,?_⟩
 ·refine⟨fuel I m,⟨h1,m,_,_,[some ⟨bq,0,none⟩],[x]⟩,⟨(((W.add (i:=.many [] []) ⟨TsI.nil,trivial⟩).more (ps:=[]) (l:=[]) (by repeat (first|exact List.Mem.head _|apply List.Mem.tail)) (by repeat (first|exact List.Mem.head _|apply List.Mem.tail))).anew (hs.lB.less (RenC.blks (ks:=[900,6]) (L:=ssC I M br t ⟨h1,m,_,_,[some ⟨bq,0,none⟩],[x]⟩) (by show RenC (_::_) (_::_) (_::_);exact⟨⟨_,rfl,SC.rfl⟩,rfl,⟨_,rfl,SC.arr (by simp)⟩,rfl,trivial⟩)))).of (fun e he=>?_),⟨hm1,hm2,by dsimp only;simp only [List.length_cons,List.length_nil];omega,by dsimp only [fuel];omega⟩,hR,rfl,by simp⟩,?_,hs.again [900,6] (by show RenC (_::_) (_::_) (_::_);exact⟨⟨_,rfl,SC.rfl⟩,rfl,⟨_,rfl,SC.arr (by simp)⟩,rfl,trivial⟩)⟩
  ·simp only [List.mem_cons,List.not_mem_nil,or_false] at he ⊢
   exact .inl he
  ·refine And.intro ⟨_,rfl,by first|rfl|(simp [den,den1,denC];done)⟩ ?_
   (repeat (refine And.intro ⟨_,rfl,rfl⟩ ?_));exact trivial
 clear hm1 hm2 W
 rintro μ ⟨h1,mm,b2,c2,ps,l⟩ ⟨W,⟨r0,r1,r2,r3⟩,r4,r5,r6⟩
 dsimp only [ssC] at W r0 r1 r2 r3 r4 r5 r6 ⊢
 obtain⟨f,rfl⟩:∃ f,μ=f+1:=⟨μ-1,by omega⟩
 simp only [sepGo] at r4
 ((repeat' ((conv=>whnf);(first|(refine VC.mk (by (first|omega|(and_intros<;>first|omega|rfl|(simp only [maxLen];omega)|(simp only [List.length_append,List.length_take,List.length_replicate,List.length_cons,List.length_nil];omega)))) ?_)|(refine New.mk ?_;intro b hb)|(refine NewO.mk ?_;intro b c hb hbc)|(refine SR.same ?_)|(refine CK.maybe W.ok W.base (by decide) rfl rfl (fun hx hm=>?_) (fun hx=>?_))|(refine CK.con W (name_con ok ⟨by omega,by omega⟩) rfl rfl (fun x hx=>?_) (fun x m bq h' hx hm1 hm2=>?_);rotate_left;(conv=>whnf);intro W)|(refine CK.listO W rfl rfl rfl rfl (by rfl) rfl (W.manyOf (by repeat (first|exact List.Mem.head _|apply List.Mem.tail))) (by decide) ?_;intro b h';(conv=>whnf);intro W)|fail)));all_goals (try (conv=>whnf)))
 all_goals first
  | (rw [if_neg hx] at r4
     refine⟨fun h' hs=>W.fin hs rfl (by repeat (first|exact List.Mem.head _|apply List.Mem.tail)) (by rw [←r4];rfl) ⟨by omega,by omega⟩⟩)
  | (rw [if_pos (by assumption),hx] at r4
     rw [←r4];rfl)
  | (rw [if_pos (by assumption),hx,bnd_ok] at r4
     intro h2 hs
     refine⟨f,⟨h2,m,b,c,ps++[some ⟨bq,0,none⟩],l++[x]⟩,⟨((W.more (ps:=ps) (l:=l) (by repeat (first|exact List.Mem.head _|apply List.Mem.tail)) (by repeat (first|exact List.Mem.head _|apply List.Mem.tail))).anew (hs.lB.less (RenC.blks (ks:=[900,13]) (L:=ssC I M br t ⟨h2,m,b,c,ps++[some ⟨bq,0,none⟩],l++[x]⟩) (by show RenC (_::_) (_::_) (_::_);exact⟨⟨_,rfl,SC.rfl⟩,rfl,⟨_,rfl,SC.arr (by simp)⟩,rfl,trivial⟩)))).of (fun e he=>?_),⟨by dsimp only;omega,by dsimp only;omega,by dsimp only;simp only [List.length_append,List.length_cons,List.length_nil];omega,by dsimp only;omega⟩,r4,by simp [r5],by simpa using hbc⟩,Nat.lt_succ_self f,?_,hs.again [900,13] (by show RenC (_::_) (_::_) (_::_);exact⟨⟨_,rfl,SC.rfl⟩,rfl,⟨_,rfl,SC.arr (by simp)⟩,rfl,trivial⟩)⟩
     ·simp only [List.mem_cons,List.not_mem_nil,or_false] at he ⊢
      exact .inl he
     ·refine And.intro ⟨_,rfl,by first|rfl|(simp [den,den1,denC];done)|(simp [den,den1,denC];omega)⟩ ?_
      (repeat (refine And.intro ⟨_,rfl,rfl⟩ ?_));exact trivial)
end
end Go.Ex
