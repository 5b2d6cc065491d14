/-
  Top: TopDeep: whatever the input, the law answers true (part 35)
-/
import Derived.MapKept
import Derived.Test.YtpjdgifhhnjclaaGreatDoorM28
set_option linter.unusedVariables false
set_option linter.unusedSimpArgs false
set_option maxHeartbeats 4000000
set_option maxRecDepth 10000
namespace Go.Ex
open Go.Proofs
attribute [local irreducible] CH CsP word kindT
def flK:Nat→KV
 |2=>.val (.bool false)
 |_=>.val (.bool true)
section
variable {I:In}{M:Loc}{g:Gt}{N:Int}{t:Bool}{n:Int}
theorem union_con(ok:InOk I)(H:Hyp I M g N)(hn:0≤n∧n≤I.L)(hN:32*(I.L+1-n)+5≤N):Con I M 169 [] (unionS I g t n) t n 1:=fun br h hs hB=>by
 refine eP (rep:=rep) (m:=1) (ex:=[0,2,3,4,5,6,12]) (cu:=[]) (args:=[.own 900 br 0]) tO Tryz.func169 rfl (by decide) (rs:=[.tmp 2]) rfl rfl rfl hs ?_
 have W:=Wd.start ok hB
 have hl:=ok.len
 (try (conv=>whnf))
 obtain⟨R,hR⟩:∃ R,bnd (unionOne I g t n) (fun y m=>sepGo I (⟨#[124]⟩:ByteArray) (unionOne I g t) (fuel I m) [y] m)=R:=⟨_,rfl⟩
 have hRS:unionS I g t n=bnd R fun l m=>.ok (listN 18 l m) m:=by
  rw [←hR,unionS,sepS]
  cases unionOne I g t n<;>rfl
 rw [hRS]
 refine lgn tO [3,4] (fun x:RS×Nat=>[(3,rwK x.1),(4,flK x.2)]) (fun x=>⟨x.1.h,blks (rdC I M br t x.1.m++rwC x.1),rdC I M br t x.1.m++rwC x.1⟩)
  (fun μ x=>Wd I M [br] h x.1.h (blks (rdC I M br t x.1.m++rwC x.1)) [.many x.1.ps x.1.l]∧(n≤x.1.m∧x.1.m≤I.L∧(x.1.l.length:Int)≤x.1.m-n)∧x.1.ps.length=x.1.l.length∧(∀ b c,x.1.o=some (b,c)→x.1.ps.length≤c)∧x.2≤2
   ∧ (x.2=0→x.1.m=n∧x.1.l=[]∧x.1.ps=[]∧x.1.o=none∧bnd (unionOne I g t n) (fun y m=>sepGo I (⟨#[124]⟩:ByteArray) (unionOne I g t) (fuel I m) [y] m)=R∧I.L+1-n < μ)
   ∧ (x.2=1→x.1.o≠none∧bnd (unionOne I g t x.1.m) (fun y m=>sepGo I (⟨#[124]⟩:ByteArray) (unionOne I g t) μ (x.1.l++[y]) m)=R∧I.L+1-x.1.m≤μ)
   ∧ (x.2=2→x.1.o≠none∧Out.ok x.1.l x.1.m=R∧x.1.l≠[])) ?_
 conv=>whnf
 refine⟨fun h1 hs=>?_,?_⟩
 ·refine⟨fuel I n+1,(⟨h1,0,n,none,[],[]⟩,0),⟨(((W.anew (hs.lB.less (blk1 (k:=900) rfl))).add (i:=.many [] []) ⟨TsI.nil,trivial⟩)).of (fun e he=>he),⟨by dsimp only;omega,by dsimp only;omega,by dsimp only;simp only [List.length_nil];omega⟩,rfl,fun b c e=>(by cases e),by dsimp only;omega,fun _=>⟨rfl,rfl,rfl,rfl,hR,by simp only [fuel];omega⟩,fun e=>(by cases e),fun e=>(by cases e)⟩,?_,rd_at hs (k:=900) rfl⟩
  (repeat (refine And.intro ⟨_,rfl,rfl⟩ ?_));exact trivial
 clear W hR hRS
 rintro μ ⟨⟨h1,w0,mm,o2,ps,l⟩,k⟩ ⟨W,⟨r0,r1,r2⟩,r6,r7,rk,k0,k1,k2⟩
 dsimp only at W r0 r1 r2 r6 r7 rk k0 k1 k2
 have hk:k=0∨k=1∨k=2:=by omega
 rcases hk with rfl|rfl|rfl
 ·obtain⟨e1,e2,e3,e4,r4,r3⟩:=k0 rfl
  subst e1 e2 e3 e4
  clear k0 k1 k2 r7
  dsimp only [rwC,rwK,flK] at W ⊢
  ((repeat' ((conv=>whnf);(first|(refine VC.mk (by (first|omega|(and_intros<;>first|omega|rfl|(simp only [maxLen];omega)|(simp only [List.length_append,List.length_take,List.length_replicate,List.length_cons,List.length_nil];omega)))) ?_)|(refine Br.mk ?_ ?_<;>intro hb<;>(try replace hb:=Classical.not_not.1 hb)<;>(try exact absurd hb (show ¬ (ByteArray.mk _=ByteArray.mk _) from by decide))<;>(try (contradiction)))|(refine New.mk ?_;intro b hb)|(refine New2.mk ?_;intro b c hb hbc)|(refine SR.same ?_)|(refine CK.box 901 _ (fun h1 hs=>open_k hs rfl 19) ?_;intro bo hbo)|(refine CK.con W (H (.typ) _ _ (by simp only [need,rank];omega) ⟨by omega,by omega⟩ (by exact trivial)) rfl rfl (fun x hx=>?_) (fun x m bq h' hx hm1 hm2=>?_);rotate_left;(try dsimp only [fstr] at hm1);(conv=>whnf);intro W)|(refine CK.maybe W.ok W.base (by decide) rfl rfl (fun hx hm=>?_) (fun hx=>?_))|(refine CK.cO 901 W rfl rfl rfl (fun h hs hm=>hs.ne (k:=901) (k':=900) rfl rfl (by decide) (List.mem_singleton.1 hm)) rfl rfl rfl rfl rfl rfl (rC W (by repeat (first|exact List.Mem.head _|apply List.Mem.tail)) (rN)) (by simp [leK]) (by simp) ?_;intro h';(conv=>whnf);intro W)|fail)));all_goals (try (conv=>whnf)))
  all_goals first
   | (have e1:unionOne I g t mm = .ok (.mk 19 (-1) mm m [x]) m:=by rw [unionOne,if_pos (by assumption),show g .typ t (mm+1) = .ok x m from by assumption];rfl
      rw [e1,bnd_ok] at r4
      obtain⟨f,hf⟩:∃ f,fuel I m=f+1:=⟨fuel I m-1,by simp only [fuel];omega⟩
      rw [hf,sepGo,if_pos (by assumption)] at r4
      simp only [fuel] at hf
      intro h2 hs
      refine⟨f,(⟨h2,0,(m+1),some (b,c),[]++[some ⟨bo,0,none⟩],[]++[(.mk 19 (-1) mm m [x])]⟩,1),⟨((W.more (ps:=[]) (l:=[]) (by repeat (first|exact List.Mem.head _|apply List.Mem.tail)) (by repeat (first|exact List.Mem.head _|apply List.Mem.tail))).anew (hs.lB.less (RenC.blks (ks:=[900,21]) (L:=rdC I M br t (m+1)++rwC ⟨h2,0,0,some (b,c),[]++[some ⟨bo,0,none⟩],[]⟩) (by show RenC (_::_) (_::_) (_::_);exact⟨⟨_,rfl,SC.rfl⟩,rfl,⟨_,rfl,SC.arr (by simp)⟩,rfl,trivial⟩)))).of (fun e he=>?_),⟨by dsimp only;omega,by dsimp only;omega,by dsimp only;simp only [List.length_append,List.length_cons,List.length_nil];omega⟩,by simp [r6],fun b0 c0 e=>by cases e;simpa using hbc,by dsimp only;omega,fun e=>(by cases e),fun _=>⟨by simp,r4,by dsimp only;omega⟩,fun e=>(by cases e)⟩,by first|omega|(dsimp only;omega),?_,hs.again [900,21] (by show RenC (_::_) (_::_) (_::_);exact⟨⟨_,rfl,SC.rfl⟩,rfl,⟨_,rfl,SC.arr (by simp)⟩,rfl,trivial⟩)⟩
      ·simp only [List.mem_cons,List.not_mem_nil,or_false] at he ⊢
       exact .inl he
      ·refine And.intro ⟨_,rfl,by first|rfl|(simp [den,den1,denC,rwK];done)|(simp [den,den1,denC,rwK];omega)⟩ ?_
       (repeat (refine And.intro ⟨_,rfl,rfl⟩ ?_));exact trivial)
   | (have e1:unionOne I g t mm = .ok (.mk 19 (-1) mm m [x]) m:=by rw [unionOne,if_pos (by assumption),show g .typ t (mm+1) = .ok x m from by assumption];rfl
      rw [e1,bnd_ok] at r4
      obtain⟨f,hf⟩:∃ f,fuel I m=f+1:=⟨fuel I m-1,by simp only [fuel];omega⟩
      rw [hf,sepGo,if_neg (by assumption)] at r4
      simp only [fuel] at hf
      intro h2 hs
      refine⟨0,(⟨h2,0,m,some (b,c),[]++[some ⟨bo,0,none⟩],[]++[(.mk 19 (-1) mm m [x])]⟩,2),⟨((W.more (ps:=[]) (l:=[]) (by repeat (first|exact List.Mem.head _|apply List.Mem.tail)) (by repeat (first|exact List.Mem.head _|apply List.Mem.tail))).anew (hs.lB.less (RenC.blks (ks:=[900,21]) (L:=rdC I M br t m++rwC ⟨h2,0,0,some (b,c),[]++[some ⟨bo,0,none⟩],[]⟩) (by show RenC (_::_) (_::_) (_::_);exact⟨⟨_,rfl,SC.rfl⟩,rfl,⟨_,rfl,SC.arr (by simp)⟩,rfl,trivial⟩)))).of (fun e he=>?_),⟨by dsimp only;omega,by dsimp only;omega,by dsimp only;simp only [List.length_append,List.length_cons,List.length_nil];omega⟩,by simp [r6],fun b0 c0 e=>by cases e;simpa using hbc,by dsimp only;omega,fun e=>(by cases e),fun e=>(by cases e),fun _=>⟨by simp,r4,by simp⟩⟩,by first|omega|(dsimp only;omega),?_,hs.again [900,21] (by show RenC (_::_) (_::_) (_::_);exact⟨⟨_,rfl,SC.rfl⟩,rfl,⟨_,rfl,SC.arr (by simp)⟩,rfl,trivial⟩)⟩
      ·simp only [List.mem_cons,List.not_mem_nil,or_false] at he ⊢
       exact .inl he
      ·refine And.intro ⟨_,rfl,by first|rfl|(simp [den,den1,denC,rwK];done)|(simp [den,den1,denC,rwK];omega)⟩ ?_
       (repeat (refine And.intro ⟨_,rfl,rfl⟩ ?_));exact trivial)
   | (have e1:unionOne I g t mm = .ok x m:=by rw [unionOne,if_neg (by assumption),show g .typ t mm = .ok x m from by assumption]
      rw [e1,bnd_ok] at r4
      obtain⟨f,hf⟩:∃ f,fuel I m=f+1:=⟨fuel I m-1,by simp only [fuel];omega⟩
      rw [hf,sepGo,if_pos (by assumption)] at r4
      simp only [fuel] at hf
      intro h2 hs
      refine⟨f,(⟨h2,0,(m+1),some (b,c),[]++[some ⟨bq,0,none⟩],[]++[x]⟩,1),⟨((W.more (ps:=[]) (l:=[]) (by repeat (first|exact List.Mem.head _|apply List.Mem.tail)) (by repeat (first|exact List.Mem.head _|apply List.Mem.tail))).anew (hs.lB.less (RenC.blks (ks:=[900,26]) (L:=rdC I M br t (m+1)++rwC ⟨h2,0,0,some (b,c),[]++[some ⟨bq,0,none⟩],[]⟩) (by show RenC (_::_) (_::_) (_::_);exact⟨⟨_,rfl,SC.rfl⟩,rfl,⟨_,rfl,SC.arr (by simp)⟩,rfl,trivial⟩)))).of (fun e he=>?_),⟨by dsimp only;omega,by dsimp only;omega,by dsimp only;simp only [List.length_append,List.length_cons,List.length_nil];omega⟩,by simp [r6],fun b0 c0 e=>by cases e;simpa using hbc,by dsimp only;omega,fun e=>(by cases e),fun _=>⟨by simp,r4,by dsimp only;omega⟩,fun e=>(by cases e)⟩,by first|omega|(dsimp only;omega),?_,hs.again [900,26] (by show RenC (_::_) (_::_) (_::_);exact⟨⟨_,rfl,SC.rfl⟩,rfl,⟨_,rfl,SC.arr (by simp)⟩,rfl,trivial⟩)⟩
      ·simp only [List.mem_cons,List.not_mem_nil,or_false] at he ⊢
       exact .inl he
      ·refine And.intro ⟨_,rfl,by first|rfl|(simp [den,den1,denC,rwK];done)|(simp [den,den1,denC,rwK];omega)⟩ ?_
       (repeat (refine And.intro ⟨_,rfl,rfl⟩ ?_));exact trivial)
   | (have e1:unionOne I g t mm = .ok x m:=by rw [unionOne,if_neg (by assumption),show g .typ t mm = .ok x m from by assumption]
      rw [e1,bnd_ok] at r4
      obtain⟨f,hf⟩:∃ f,fuel I m=f+1:=⟨fuel I m-1,by simp only [fuel];omega⟩
      rw [hf,sepGo,if_neg (by assumption)] at r4
      simp only [fuel] at hf
      intro h2 hs
      refine⟨0,(⟨h2,0,m,some (b,c),[]++[some ⟨bq,0,none⟩],[]++[x]⟩,2),⟨((W.more (ps:=[]) (l:=[]) (by repeat (first|exact List.Mem.head _|apply List.Mem.tail)) (by repeat (first|exact List.Mem.head _|apply List.Mem.tail))).anew (hs.lB.less (RenC.blks (ks:=[900,26]) (L:=rdC I M br t m++rwC ⟨h2,0,0,some (b,c),[]++[some ⟨bq,0,none⟩],[]⟩) (by show RenC (_::_) (_::_) (_::_);exact⟨⟨_,rfl,SC.rfl⟩,rfl,⟨_,rfl,SC.arr (by simp)⟩,rfl,trivial⟩)))).of (fun e he=>?_),⟨by dsimp only;omega,by dsimp only;omega,by dsimp only;simp only [List.length_append,List.length_cons,List.length_nil];omega⟩,by simp [r6],fun b0 c0 e=>by cases e;simpa using hbc,by dsimp only;omega,fun e=>(by cases e),fun e=>(by cases e),fun _=>⟨by simp,r4,by simp⟩⟩,by first|omega|(dsimp only;omega),?_,hs.again [900,26] (by show RenC (_::_) (_::_) (_::_);exact⟨⟨_,rfl,SC.rfl⟩,rfl,⟨_,rfl,SC.arr (by simp)⟩,rfl,trivial⟩)⟩
      ·simp only [List.mem_cons,List.not_mem_nil,or_false] at he ⊢
       exact .inl he
      ·refine And.intro ⟨_,rfl,by first|rfl|(simp [den,den1,denC,rwK];done)|(simp [den,den1,denC,rwK];omega)⟩ ?_
       (repeat (refine And.intro ⟨_,rfl,rfl⟩ ?_));exact trivial)
   | (have e1:unionOne I g t mm = .err _:=by rw [unionOne,if_pos (by assumption),hx];rfl
      rw [e1,bnd_err] at r4;rw [←r4];rfl)
   |(rw [unionOne,if_pos (by assumption),hx] at r4;rw [←r4];rfl)
   |(rw [unionOne,if_neg (by assumption),hx] at r4;rw [←r4];rfl)
 ·obtain⟨e1,r4,r3⟩:=k1 rfl
  obtain⟨⟨b2,c2⟩,rfl⟩:=Option.ne_none_iff_exists'.1 e1
  have hcp:=r7 _ _ rfl
  obtain⟨f,rfl⟩:∃ f,μ=f+1:=⟨μ-1,by omega⟩
  clear k0 k1 k2 r7
  dsimp only [rwC,rwK,flK] at W hcp ⊢
  ((repeat' ((conv=>whnf);(first|(refine VC.mk (by (first|omega|(and_intros<;>first|omega|rfl|(simp only [maxLen];omega)|(simp only [List.length_append,List.length_take,List.length_replicate,List.length_cons,List.length_nil];omega)))) ?_)|(refine New.mk ?_;intro b hb)|(refine NewO.mk ?_;intro b c hb hbc)|(refine SR.same ?_)|(refine CK.box 901 _ (fun h1 hs=>open_k hs rfl 19) ?_;intro bo hbo)|(refine CK.con W (H (.typ) _ _ (by simp only [need,rank];omega) ⟨by omega,by omega⟩ (by exact trivial)) rfl rfl (fun x hx=>?_) (fun x m bq h' hx hm1 hm2=>?_);rotate_left;(try dsimp only [fstr] at hm1);(conv=>whnf);intro W)|(refine CK.maybe W.ok W.base (by decide) rfl rfl (fun hx hm=>?_) (fun hx=>?_))|(refine CK.cO 901 W rfl rfl rfl (fun h hs hm=>hs.ne (k:=901) (k':=900) rfl rfl (by decide) (List.mem_singleton.1 hm)) rfl rfl rfl rfl rfl rfl (rC W (by repeat (first|exact List.Mem.head _|apply List.Mem.tail)) (rN)) (by simp [leK]) (by simp) ?_;intro h';(conv=>whnf);intro W)|fail)));all_goals (try (conv=>whnf)))
  all_goals first
   | (have e1:unionOne I g t mm = .ok (.mk 19 (-1) mm m [x]) m:=by rw [unionOne,if_pos (by assumption),show g .typ t (mm+1) = .ok x m from by assumption];rfl
      rw [e1,bnd_ok] at r4
      rw [sepGo,if_pos (by assumption)] at r4
      intro h2 hs
      refine⟨f,(⟨h2,0,(m+1),some (b,c),ps++[some ⟨bo,0,none⟩],l++[(.mk 19 (-1) mm m [x])]⟩,1),⟨((W.more (ps:=ps) (l:=l) (by repeat (first|exact List.Mem.head _|apply List.Mem.tail)) (by repeat (first|exact List.Mem.head _|apply List.Mem.tail))).anew (hs.lB.less (RenC.blks (ks:=[900,21]) (L:=rdC I M br t (m+1)++rwC ⟨h2,0,0,some (b,c),ps++[some ⟨bo,0,none⟩],[]⟩) (by show RenC (_::_) (_::_) (_::_);exact⟨⟨_,rfl,SC.rfl⟩,rfl,⟨_,rfl,SC.arr (by simp)⟩,rfl,trivial⟩)))).of (fun e he=>?_),⟨by dsimp only;omega,by dsimp only;omega,by dsimp only;simp only [List.length_append,List.length_cons,List.length_nil];omega⟩,by simp [r6],fun b0 c0 e=>by cases e;simpa using hbc,by dsimp only;omega,fun e=>(by cases e),fun _=>⟨by simp,r4,by dsimp only;omega⟩,fun e=>(by cases e)⟩,Nat.lt_succ_self f,?_,hs.again [900,21] (by show RenC (_::_) (_::_) (_::_);exact⟨⟨_,rfl,SC.rfl⟩,rfl,⟨_,rfl,SC.arr (by simp)⟩,rfl,trivial⟩)⟩
      ·simp only [List.mem_cons,List.not_mem_nil,or_false] at he ⊢
       exact .inl he
      ·refine And.intro ⟨_,rfl,by first|rfl|(simp [den,den1,denC,rwK];done)|(simp [den,den1,denC,rwK];omega)⟩ ?_
       (repeat (refine And.intro ⟨_,rfl,rfl⟩ ?_));exact trivial)
   | (have e1:unionOne I g t mm = .ok (.mk 19 (-1) mm m [x]) m:=by rw [unionOne,if_pos (by assumption),show g .typ t (mm+1) = .ok x m from by assumption];rfl
      rw [e1,bnd_ok] at r4
      rw [sepGo,if_neg (by assumption)] at r4
      intro h2 hs
      refine⟨0,(⟨h2,0,m,some (b,c),ps++[some ⟨bo,0,none⟩],l++[(.mk 19 (-1) mm m [x])]⟩,2),⟨((W.more (ps:=ps) (l:=l) (by repeat (first|exact List.Mem.head _|apply List.Mem.tail)) (by repeat (first|exact List.Mem.head _|apply List.Mem.tail))).anew (hs.lB.less (RenC.blks (ks:=[900,21]) (L:=rdC I M br t m++rwC ⟨h2,0,0,some (b,c),ps++[some ⟨bo,0,none⟩],[]⟩) (by show RenC (_::_) (_::_) (_::_);exact⟨⟨_,rfl,SC.rfl⟩,rfl,⟨_,rfl,SC.arr (by simp)⟩,rfl,trivial⟩)))).of (fun e he=>?_),⟨by dsimp only;omega,by dsimp only;omega,by dsimp only;simp only [List.length_append,List.length_cons,List.length_nil];omega⟩,by simp [r6],fun b0 c0 e=>by cases e;simpa using hbc,by dsimp only;omega,fun e=>(by cases e),fun e=>(by cases e),fun _=>⟨by simp,r4,by simp⟩⟩,Nat.succ_pos f,?_,hs.again [900,21] (by show RenC (_::_) (_::_) (_::_);exact⟨⟨_,rfl,SC.rfl⟩,rfl,⟨_,rfl,SC.arr (by simp)⟩,rfl,trivial⟩)⟩
      ·simp only [List.mem_cons,List.not_mem_nil,or_false] at he ⊢
       exact .inl he
      ·refine And.intro ⟨_,rfl,by first|rfl|(simp [den,den1,denC,rwK];done)|(simp [den,den1,denC,rwK];omega)⟩ ?_
       (repeat (refine And.intro ⟨_,rfl,rfl⟩ ?_));exact trivial)
   | (have e1:unionOne I g t mm = .ok x m:=by rw [unionOne,if_neg (by assumption),show g .typ t mm = .ok x m from by assumption]
      rw [e1,bnd_ok] at r4
      rw [sepGo,if_pos (by assumption)] at r4
      intro h2 hs
      refine⟨f,(⟨h2,0,(m+1),some (b,c),ps++[some ⟨bq,0,none⟩],l++[x]⟩,1),⟨((W.more (ps:=ps) (l:=l) (by repeat (first|exact List.Mem.head _|apply List.Mem.tail)) (by repeat (first|exact List.Mem.head _|apply List.Mem.tail))).anew (hs.lB.less (RenC.blks (ks:=[900,26]) (L:=rdC I M br t (m+1)++rwC ⟨h2,0,0,some (b,c),ps++[some ⟨bq,0,none⟩],[]⟩) (by show RenC (_::_) (_::_) (_::_);exact⟨⟨_,rfl,SC.rfl⟩,rfl,⟨_,rfl,SC.arr (by simp)⟩,rfl,trivial⟩)))).of (fun e he=>?_),⟨by dsimp only;omega,by dsimp only;omega,by dsimp only;simp only [List.length_append,List.length_cons,List.length_nil];omega⟩,by simp [r6],fun b0 c0 e=>by cases e;simpa using hbc,by dsimp only;omega,fun e=>(by cases e),fun _=>⟨by simp,r4,by dsimp only;omega⟩,fun e=>(by cases e)⟩,Nat.lt_succ_self f,?_,hs.again [900,26] (by show RenC (_::_) (_::_) (_::_);exact⟨⟨_,rfl,SC.rfl⟩,rfl,⟨_,rfl,SC.arr (by simp)⟩,rfl,trivial⟩)⟩
      ·simp only [List.mem_cons,List.not_mem_nil,or_false] at he ⊢
       exact .inl he
      ·refine And.intro ⟨_,rfl,by first|rfl|(simp [den,den1,denC,rwK];done)|(simp [den,den1,denC,rwK];omega)⟩ ?_
       (repeat (refine And.intro ⟨_,rfl,rfl⟩ ?_));exact trivial)
   | (have e1:unionOne I g t mm = .ok x m:=by rw [unionOne,if_neg (by assumption),show g .typ t mm = .ok x m from by assumption]
      rw [e1,bnd_ok] at r4
      rw [sepGo,if_neg (by assumption)] at r4
      intro h2 hs
      refine⟨0,(⟨h2,0,m,some (b,c),ps++[some ⟨bq,0,none⟩],l++[x]⟩,2),⟨((W.more (ps:=ps) (l:=l) (by repeat (first|exact List.Mem.head _|apply List.Mem.tail)) (by repeat (first|exact List.Mem.head _|apply List.Mem.tail))).anew (hs.lB.less (RenC.blks (ks:=[900,26]) (L:=rdC I M br t m++rwC ⟨h2,0,0,some (b,c),ps++[some ⟨bq,0,none⟩],[]⟩) (by show RenC (_::_) (_::_) (_::_);exact⟨⟨_,rfl,SC.rfl⟩,rfl,⟨_,rfl,SC.arr (by simp)⟩,rfl,trivial⟩)))).of (fun e he=>?_),⟨by dsimp only;omega,by dsimp only;omega,by dsimp only;simp only [List.length_append,List.length_cons,List.length_nil];omega⟩,by simp [r6],fun b0 c0 e=>by cases e;simpa using hbc,by dsimp only;omega,fun e=>(by cases e),fun e=>(by cases e),fun _=>⟨by simp,r4,by simp⟩⟩,Nat.succ_pos f,?_,hs.again [900,26] (by show RenC (_::_) (_::_) (_::_);exact⟨⟨_,rfl,SC.rfl⟩,rfl,⟨_,rfl,SC.arr (by simp)⟩,rfl,trivial⟩)⟩
      ·simp only [List.mem_cons,List.not_mem_nil,or_false] at he ⊢
       exact .inl he
      ·refine And.intro ⟨_,rfl,by first|rfl|(simp [den,den1,denC,rwK];done)|(simp [den,den1,denC,rwK];omega)⟩ ?_
       (repeat (refine And.intro ⟨_,rfl,rfl⟩ ?_));exact trivial)
   | (have e1:unionOne I g t mm = .err _:=by rw [unionOne,if_pos (by assumption),hx];rfl
      rw [e1,bnd_err] at r4;rw [←r4];rfl)
   |(rw [unionOne,if_pos (by assumption),hx] at r4;rw [←r4];rfl)
   |(rw [unionOne,if_neg (by assumption),hx] at r4;rw [←r4];rfl)
 ·obtain⟨e1,r4,r3⟩:=k2 rfl
  obtain⟨⟨b2,c2⟩,rfl⟩:=Option.ne_none_iff_exists'.1 e1
  have hcp:=r7 _ _ rfl
  have hl1:1≤l.length:=List.length_pos_iff.2 r3
  clear k0 k1 k2 r7
  dsimp only [rwC,rwK,flK] at W hcp ⊢
  ((repeat' ((conv=>whnf);(first|(refine CK.listO W rfl rfl rfl rfl (by rfl) rfl (W.manyOf (by repeat (first|exact List.Mem.head _|apply List.Mem.tail))) (by decide) ?_;intro b h';(conv=>whnf);intro W)|fail)));all_goals (try (conv=>whnf)))
  all_goals first
   |(refine⟨fun h' hs=>W.fin hs rfl (by repeat (first|exact List.Mem.head _|apply List.Mem.tail)) (by rw [←r4];rfl) ⟨by omega,by omega⟩⟩)
end
end Go.Ex
namespace Go.Ex
open Go.Proofs
structure MapIn(h:Heap)(b:Nat)(L:List (ByteArray×Value)):Prop where
 go:∃ es cl,h[b]?=some (.map es cl)∧es.toList.map (fun e=>(e.key,e.val))=L.map fun p=>(Value.string p.1,p.2)
section
variable {P:Program}{w:World}{b:Nat}{L:List (ByteArray×Value)}{s:ByteArray}{val:Value}{mty kt et:TypeId}
theorem MapIn.lt{h:Heap}(hM:MapIn h b L):b<h.size:=by
 obtain⟨es,cl,h1,_⟩:=hM.go
 exact (Array.getElem?_eq_some_iff.1 h1).1
theorem keys_of{es:List MapEntry}(he:es.map (fun e=>(e.key,e.val))=L.map fun p=>(Value.string p.1,p.2)):∀ e∈es,∃ p∈L,e.key = .string p.1∧e.val=p.2:=fun e hm=>by
 have:(e.key,e.val)∈L.map fun p=>(Value.string p.1,p.2):=by rw [←he];exact List.mem_map.2 ⟨e,hm,rfl⟩
 obtain⟨p,h1,h2⟩:=List.mem_map.1 this
 exact⟨p,h1,(congrArg Prod.fst h2).symm,(congrArg Prod.snd h2).symm⟩
theorem MapIn.insert(hm:P.underlying mty=some (.map kt et))(hk:P.underlying kt=some .string)(hM:MapIn w.heap b L)(hne:∀ p∈L,p.1≠s) :
 ∃ h',(Instr.mapUpdate mty (.map (some b)) (.string s) val).run P w = .ok () { w with heap:=h' }∧MapIn h' b (L++[(s,val)])∧h'.size=w.heap.size∧∀ i,i≠b→h'[i]?=w.heap[i]?:=by
 obtain⟨es,cl,hb,he⟩:=hM.go
 have hlt:=hM.lt
 have hks:∀ e∈es.toList,MapKept.IsKey .string e.key:=fun e h=>by
  obtain⟨p,_,h2,_⟩:=keys_of he e h
  rw [h2];trivial
 have hf:Instr.findNow .string (.string s) es.toList 0=some none:=by
  rcases MapKept.findNow_spec (d:=.string) (k:=.string s) trivial es.toList 0 hks with ⟨h1,_⟩|⟨j,e,_,h2,h3⟩
  ·exact h1
  ·obtain⟨p,h4,h5,_⟩:=keys_of he e (List.mem_of_getElem? h2)
   rw [h3] at h5
   cases h5
   exact absurd rfl (hne p h4)
 have hc:(Instr.checkKey false 10000 kt (.string s)).run P w = .ok () w:=MapKept.run_checkKey (k:=.string s) hk (by simp [MapKept.IsKey]) false 9999
 refine⟨w.heap.setIfInBounds b (.map (es.push { key:=.string s,val:=val,born:=cl }) (cl+1)),by simp [Instr.mapUpdate,run_underlying hm,MapKept.run_getObj_map hb,hc,MapKept.run_findKey hk hf,MapKept.run_setObj_map _ hb,Result.andThen],⟨es.push { key:=.string s,val:=val,born:=cl },cl+1,by simp [hlt],by simp [he]⟩,by simp,fun i hi=>by simp [Array.getElem?_setIfInBounds,Ne.symm hi]⟩
theorem MapIn.lookup(hm:P.underlying mty=some (.map kt et))(hk:P.underlying kt=some .string)(hM:MapIn w.heap b L){z:Value}(hz:(zeroValue et).run P w = .ok z w) :
 (∃ v,(s,v)∈L∧(Instr.lookup mty (.map (some b)) (.string s) true).run P w = .ok (.tuple #[v,.bool true]) w)∨((∀ p∈L,p.1≠s)∧(Instr.lookup mty (.map (some b)) (.string s) true).run P w = .ok (.tuple #[z,.bool false]) w):=by
 obtain⟨es,cl,hb,he⟩:=hM.go
 have hks:∀ e∈es.toList,MapKept.IsKey .string e.key:=fun e h=>by
  obtain⟨p,_,h2,_⟩:=keys_of he e h
  rw [h2];trivial
 have hc:∀ em,(Instr.checkKey em 10000 kt (.string s)).run P w = .ok () w:=fun em=>MapKept.run_checkKey (k:=.string s) hk (by simp [MapKept.IsKey]) em 9999
 rcases MapKept.findNow_spec (d:=.string) (k:=.string s) trivial es.toList 0 hks with ⟨h1,h2⟩|⟨j,e,h1,h2,h3⟩
 ·refine .inr ⟨fun p hp e=>?_,?_⟩
  ·have:(Value.string p.1,p.2)∈es.toList.map fun e=>(e.key,e.val):=by rw [he];exact List.mem_map.2 ⟨p,hp,rfl⟩
   obtain⟨x,h4,h5⟩:=List.mem_map.1 this
   simp only [Prod.mk.injEq] at h5
   exact h2 x h4 (by rw [h5.1,e])
  ·simp [Instr.lookup,run_underlying hm,MapKept.run_getObj_map hb,hc,MapKept.run_findKey hk h1,hz,Result.andThen]
 ·obtain⟨p,h4,h5,h6⟩:=keys_of he e (List.mem_of_getElem? h2)
  rw [h3] at h5
  obtain⟨q1,q2⟩:=p
  cases h5
  refine .inl ⟨q2,h4,?_⟩
  simp [Instr.lookup,run_underlying hm,MapKept.run_getObj_map hb,hc,MapKept.run_findKey hk h1,h6,Result.andThen]
end
end Go.Ex
namespace Go.Ex
open Go.Proofs
section
variable {P:Program}{ops:Array Oper}{Q:Exit→Act→World→Prop}{r:List Oper}{a:Act}{w w':World}{o:Oper}
theorem wpList_val{v:Value}(hg:o.guard=none)(hv:(execOp a.eval o).run P w = .ok (.value v) w')(h:wpList P ops Q r (a.put o.dst v) w'):wpList P ops Q (o::r) a w:=by
 unfold wpList
 rw [if_pos (by simp [Region.wanted,hg])]
 refine .inl ?_
 rw [Oper.wp,hv]
 exact h
theorem wpList_ins{b:Nat}{L:List (ByteArray×Value)}{s:ByteArray}{val:Value}{t kt et:TypeId}{m k x:Operand}(hg:o.guard=none)(hd:o.dst=none)(ho:o.op = .insert t m k x)(em:a.eval m = .map (some b))(ek:a.eval k = .string s)(ex:a.eval x=val)
 (hm:P.underlying t=some (.map kt et)) (hk:P.underlying kt=some .string) (hM:MapIn w.heap b L) (hne:∀ p∈L,p.1≠s)
 (hn:∀ w2,SE w w2→MapIn w2.heap b (L++[(s,val)])→w2.heap.size=w.heap.size→(∀ i,i≠b→w2.heap[i]?=w.heap[i]?)→wpList P ops Q r a w2):wpList P ops Q (o::r) a w:=by
 obtain⟨h',e1,e2,e3,e4⟩:=MapIn.insert (val:=val) hm hk hM hne
 unfold wpList
 rw [if_pos (by simp [Region.wanted,hg])]
 refine .inl ?_
 have hv:(execOp a.eval o).run P w = .ok .skip { w with heap:=h' }:=by
  simp only [execOp,ho,em,ek,ex]
  simp [e1,Result.andThen]
 rw [Oper.wp,hv,Oper.upon_skip,hd]
 exact hn _ ⟨rfl,rfl,rfl⟩ e2 e3 e4
end
theorem Grows.at{h h1 h2:Heap}{b:Nat}(hg:Grows h h1)(hb:h.size≤b)(hs:h2.size=h1.size)(he:∀ i,i≠b→h2[i]?=h1[i]?):Grows h h2:=
 ⟨by rw [hs];exact hg.size,fun i hi=>(he i (by omega)).trans (hg.same i hi)⟩
abbrev fnv(f:Nat):Value:=.func (.func f) ⟨[]⟩ ⟨[]⟩
def rsL:List (ByteArray×Value):=[((⟨#[99,111,110,115,116]⟩:ByteArray),fnv 198),((⟨#[118,97,114]⟩:ByteArray),fnv 198),((⟨#[116,121,112,101]⟩:ByteArray),fnv 198),((⟨#[103,111]⟩:ByteArray),fnv 199),((⟨#[100,101,102,101,114]⟩:ByteArray),fnv 199),((⟨#[114,101,116,117,114,110]⟩:ByteArray),fnv 200),((⟨#[98,114,101,97,107]⟩:ByteArray),fnv 201),((⟨#[99,111,110,116,105,110,117,101]⟩:ByteArray),fnv 201),((⟨#[103,111,116,111]⟩:ByteArray),fnv 201),((⟨#[102,97,108,108,116,104,114,111,117,103,104]⟩:ByteArray),fnv 201),((⟨#[123]⟩:ByteArray),fnv 153),((⟨#[105,102]⟩:ByteArray),fnv 202),((⟨#[115,119,105,116,99,104]⟩:ByteArray),fnv 203),((⟨#[115,101,108,101,99,116]⟩:ByteArray),fnv 204),((⟨#[102,111,114]⟩:ByteArray),fnv 205)]
theorem readers_any(h:Heap):CH Tryz.prog 171 #[] h fun v h'=>∃ b,v = .map (some b)∧h.size≤b∧MapIn h' b rsL∧Grows h h':=by
 refine⟨callRuns Tryz.func171 (by decide) (by rfl),fun w hw=>?_⟩
 subst hw
 have hm:=Tryz.underlying178
 have hk:=Tryz.underlying9
 refine calls_of_wp Tryz.func171 rfl ?_
 refine wp_seq (wp_region_list ?_)
 refine wpList_val rfl rfl (wpList_nil ?_)
 refine wp_seq (wp_region_list ?_)
 refine wpList_val rfl rfl ?_
 have hb:w.heap.size≤w.heap.size:=Nat.le_refl _
 have hA:(w.alloc (.map #[] 0)).heap=w.heap.push (.map #[] 0):=rfl
 have hM:MapIn (w.alloc (.map #[] 0)).heap w.heap.size []:=⟨#[],0,by rw [hA];simp,rfl⟩
 have hE:SE w (w.alloc (.map #[] 0)):=⟨rfl,rfl,rfl⟩
 have hG:Grows w.heap (w.alloc (.map #[] 0)).heap:=by
  rw [hA]
  exact⟨by simp,fun i hi=>by simp [Array.getElem?_push,Nat.ne_of_lt hi]⟩
 refine wpList_ins (val:=fnv 198) rfl rfl rfl rfl rfl rfl hm hk hM (by decide) fun w2 hE1 hM hs1 he1=>?_
 replace hG:=hG.at hb hs1 he1
 replace hE:=hE.trans hE1
 clear hs1 he1 hE1
 refine wpList_ins (val:=fnv 198) rfl rfl rfl rfl rfl rfl hm hk hM (by decide) fun w2 hE1 hM hs1 he1=>?_
 replace hG:=hG.at hb hs1 he1
 replace hE:=hE.trans hE1
 clear hs1 he1 hE1
 refine wpList_ins (val:=fnv 198) rfl rfl rfl rfl rfl rfl hm hk hM (by decide) fun w2 hE1 hM hs1 he1=>?_
 replace hG:=hG.at hb hs1 he1
 replace hE:=hE.trans hE1
 clear hs1 he1 hE1
 refine wpList_ins (val:=fnv 199) rfl rfl rfl rfl rfl rfl hm hk hM (by decide) fun w2 hE1 hM hs1 he1=>?_
 replace hG:=hG.at hb hs1 he1
 replace hE:=hE.trans hE1
 clear hs1 he1 hE1
 refine wpList_ins (val:=fnv 199) rfl rfl rfl rfl rfl rfl hm hk hM (by decide) fun w2 hE1 hM hs1 he1=>?_
 replace hG:=hG.at hb hs1 he1
 replace hE:=hE.trans hE1
 clear hs1 he1 hE1
 refine wpList_ins (val:=fnv 200) rfl rfl rfl rfl rfl rfl hm hk hM (by decide) fun w2 hE1 hM hs1 he1=>?_
 replace hG:=hG.at hb hs1 he1
 replace hE:=hE.trans hE1
 clear hs1 he1 hE1
 refine wpList_ins (val:=fnv 201) rfl rfl rfl rfl rfl rfl hm hk hM (by decide) fun w2 hE1 hM hs1 he1=>?_
 replace hG:=hG.at hb hs1 he1
 replace hE:=hE.trans hE1
 clear hs1 he1 hE1
 refine wpList_ins (val:=fnv 201) rfl rfl rfl rfl rfl rfl hm hk hM (by decide) fun w2 hE1 hM hs1 he1=>?_
 replace hG:=hG.at hb hs1 he1
 replace hE:=hE.trans hE1
 clear hs1 he1 hE1
 refine wpList_ins (val:=fnv 201) rfl rfl rfl rfl rfl rfl hm hk hM (by decide) fun w2 hE1 hM hs1 he1=>?_
 replace hG:=hG.at hb hs1 he1
 replace hE:=hE.trans hE1
 clear hs1 he1 hE1
 refine wpList_ins (val:=fnv 201) rfl rfl rfl rfl rfl rfl hm hk hM (by decide) fun w2 hE1 hM hs1 he1=>?_
 replace hG:=hG.at hb hs1 he1
 replace hE:=hE.trans hE1
 clear hs1 he1 hE1
 refine wpList_ins (val:=fnv 153) rfl rfl rfl rfl rfl rfl hm hk hM (by decide) fun w2 hE1 hM hs1 he1=>?_
 replace hG:=hG.at hb hs1 he1
 replace hE:=hE.trans hE1
 clear hs1 he1 hE1
 refine wpList_ins (val:=fnv 202) rfl rfl rfl rfl rfl rfl hm hk hM (by decide) fun w2 hE1 hM hs1 he1=>?_
 replace hG:=hG.at hb hs1 he1
 replace hE:=hE.trans hE1
 clear hs1 he1 hE1
 refine wpList_ins (val:=fnv 203) rfl rfl rfl rfl rfl rfl hm hk hM (by decide) fun w2 hE1 hM hs1 he1=>?_
 replace hG:=hG.at hb hs1 he1
 replace hE:=hE.trans hE1
 clear hs1 he1 hE1
 refine wpList_ins (val:=fnv 204) rfl rfl rfl rfl rfl rfl hm hk hM (by decide) fun w2 hE1 hM hs1 he1=>?_
 replace hG:=hG.at hb hs1 he1
 replace hE:=hE.trans hE1
 clear hs1 he1 hE1
 refine wpList_ins (val:=fnv 205) rfl rfl rfl rfl rfl rfl hm hk hM (by decide) fun w2 hE1 hM hs1 he1=>?_
 replace hG:=hG.at hb hs1 he1
 replace hE:=hE.trans hE1
 clear hs1 he1 hE1
 refine wpList_val rfl rfl ?_
 refine wpList_val rfl rfl (wpList_nil ?_)
 clear hA
 refine wp_ret ⟨rfl,.map (some w.heap.size),?_,?_⟩
 ·rw [results_tmp (t:=0) rfl];rfl
 ·exact⟨⟨hE.os,hE.tape,hE.output⟩,_,rfl,_,rfl,Nat.le_refl _,hM,hG⟩
end Go.Ex
namespace Go.Ex
open Go.Proofs
attribute [local irreducible] CH CsP word kindT
theorem uniq_of{α β:Type}:∀ {l:List (α×β)},(l.map Prod.fst).Nodup→∀ {a:α} {b b':β},(a,b)∈l→(a,b')∈l→b=b'
 |[],_,_,_,_,h1,_=>by cases h1
 |x::r,h,a,b,b',h1,h2=>by
  simp only [List.map_cons,List.nodup_cons] at h
  rcases List.mem_cons.1 h1 with e|h5
  ·rcases List.mem_cons.1 h2 with e'|h6
   ·rw [←e] at e';exact (congrArg Prod.snd e').symm
   ·subst e;exact absurd (show a∈r.map Prod.fst from List.mem_map.2 ⟨(a,b'),h6,rfl⟩) h.1
  ·rcases List.mem_cons.1 h2 with e'|h6
   ·subst e';exact absurd (show a∈r.map Prod.fst from List.mem_map.2 ⟨(a,b),h5,rfl⟩) h.1
   ·exact uniq_of h.2 h5 h6
theorem readers_uniq{s:ByteArray}{v v':Value}(h1:(s,v)∈rsL)(h2:(s,v')∈rsL):v=v':=uniq_of (by decide) h1 h2
section
variable {I:In}{M:Loc}{cE:List Nat}{hE:Heap}{its:List It}{S:St}{args caps:List KV}{κ:KV→St→Prop}{E:Value→Heap→Prop}{b:Nat}{s:ByteArray}{K:Kn}
theorem CK.readers(W:Wd I M cE hE S.h0 S.cap its)(ha:args.map den1++caps.map denC=[])
 (hk:∀ b h',MapIn h' b rsL→b∉blks S.ch→Wd I M cE hE h' (blks S.ch) its→κ (.val (.map (some b))) ⟨h',blks S.ch,S.ch⟩):CK Tryz.prog E 171 args caps S κ:=
 ⟨fun h hs=>.inl (by
  rw [ha]
  refine (readers_any h).mono fun v h' ⟨b,e1,e2,e3,e4⟩=>?_
  refine⟨_,_,by rw [e1];rfl,(hs.later e4).anew,hk b h' e3 (fun hm=>?_) (W.anew (hs.later e4).lB)⟩
  have:=(hs.blks_of hm).1
  omega)⟩
theorem MapIn.seen{L:List (ByteArray×Value)}(hM:MapIn S.h0 b L)(hb:b∉S.cap){h:Heap}(hs:HS S h):MapIn h b L:=by
 obtain⟨es,cl,h1,h2⟩:=hM.go
 exact⟨es,cl,by rw [hs.frame b hM.lt hb];exact h1,h2⟩
theorem zero176(w:World):(zeroValue 176).run Tryz.prog w = .ok (.nilFunc) w:=by
 have hz:(Tryz.prog.info? 176).map (fun i=>i.zero)=some (some .nilFunc):=by kernel_rfl
 cases hi:Tryz.prog.info? 176 with
 |none=>rw [hi] at hz;cases hz
 |some i=>
  rw [hi] at hz
  have hx:i.zero=some .nilFunc:=Option.some.inj hz
  simp [zeroValue,typeInfo,hi,hx]
theorem OpX.lookY{m k:Operand}{o:Oper}{v:Value}(ho:o.op = .lookup 178 m k true)(hm:look K m=some (.val (.map (some b))))(hk:look K k=some (.val (.string s)))(hM:MapIn S.h0 b rsL)(hb:b∉S.cap)(hv:(s,v)∈rsL)
 (hy:κ (.tup [.val v,.val (.bool true)]) S):OpX Tryz.prog o K S κ:=⟨fun ρ w hr hs=>by
 have h1:ρ m = .map (some b):=hr m _ hm
 have h2:ρ k = .string s:=hr k _ hk
 rcases MapIn.lookup (s:=s) Tryz.underlying178 Tryz.underlying9 (hM.seen hb hs) (zero176 w) with ⟨v',h3,h4⟩|⟨h3,_⟩
 ·obtain rfl:=readers_uniq h3 hv
  refine⟨_,S,w,?_,⟨rfl,rfl,rfl⟩,hs,hy⟩
  simp only [execOp,ho,h1,h2]
  simp [h4,Result.andThen,den,den1,denC]
 ·exact absurd rfl (h3 _ hv)⟩
theorem OpX.lookN{m k:Operand}{o:Oper}(ho:o.op = .lookup 178 m k true)(hm:look K m=some (.val (.map (some b))))(hk:look K k=some (.val (.string s)))(hM:MapIn S.h0 b rsL)(hb:b∉S.cap)(hv:∀ p∈rsL,p.1≠s)
 (hy:κ (.tup [.val .nilFunc,.val (.bool false)]) S):OpX Tryz.prog o K S κ:=⟨fun ρ w hr hs=>by
 have h1:ρ m = .map (some b):=hr m _ hm
 have h2:ρ k = .string s:=hr k _ hk
 rcases MapIn.lookup (s:=s) Tryz.underlying178 Tryz.underlying9 (hM.seen hb hs) (zero176 w) with ⟨v',h3,h4⟩|⟨_,h4⟩
 ·exact absurd rfl (hv _ h3)
 ·refine⟨_,S,w,?_,⟨rfl,rfl,rfl⟩,hs,hy⟩
  simp only [execOp,ho,h1,h2]
  simp [h4,Result.andThen,den,den1,denC]⟩
end
end Go.Ex
