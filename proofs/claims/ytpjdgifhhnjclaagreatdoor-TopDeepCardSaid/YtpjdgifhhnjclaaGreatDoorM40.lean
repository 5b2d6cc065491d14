/-
  Top: TopDeep: whatever the input, the law answers true (part 40)
-/
import Derived.Test.YtpjdgifhhnjclaaGreatDoorM39
set_option linter.unusedVariables false
set_option linter.unusedSimpArgs false
set_option maxHeartbeats 4000000
set_option maxRecDepth 10000
namespace Go.Ex
open Go.Proofs
attribute [local irreducible] CH CsP word kindT
structure XS where
 h:Heap
 m:Int
 b:Nat
 c:Nat
 ps:List (Option Addr)
 l:List Nd
abbrev xsC(I:In)(M:Loc)(br bn bf:Nat)(px:Option Addr)(frm:Int)(x:XS):Chs:=rdC I M br false x.m++[(901,bn,nodeB 30 (-1) frm 0 (.osl 902 bf 1 1)),(902,bf,.arr 63 ptrR [px] 1),(57,x.b,.arr 63 ptrR x.ps x.c)]
section
variable {I:In}{M:Loc}{g:Gt}{N:Int}{t:Bool}{n:Int}
theorem index_conN(ok:InOk I)(H:Hyp I M g N)(px:Option Addr)(x0:Nd)(frm:Int)(hs0:n<I.L)(hn:0≤n∧n≤I.L)(hN:32*(I.L+1-n)+7≤N):ConN I M 195 [] ptr px x0 frm (indexS I g frm x0 (n+1)) false n:=fun br bn bf h hs hB=>by
 refine eP (rep:=rep) (m:=2) (ex:=[0,1,4,5,6,7,22,26,45]) (cu:=[]) (args:=[.own 900 br 0,.own 901 bn 0]) tO Tryz.func195 rfl (by decide) (rs:=[.tmp 4]) rfl rfl rfl hs ?_
 have W:=Wd.start ok hB
 have hl:=ok.len
 have hbf:bf<h.size:=(hs.chunk (902,bf,_) (List.mem_cons_of_mem _ (List.mem_cons_of_mem _ List.mem_cons_self))).1
 ((repeat' ((conv=>whnf);(first|(refine Ar.fit (by omega) ?_)|(refine VC.mk (by (first|omega|(and_intros<;>first|rfl|(simp only [maxLen];omega)))) ?_)|(refine Br.mk ?_ ?_<;>intro hb<;>(try replace hb:=Classical.not_not.1 hb)<;>(try exact absurd hb (show ¬ (ByteArray.mk _=ByteArray.mk _) from by decide))<;>(try (have hlt:=wlt hb (by decide))))|(refine New.mk ?_;intro b hb)|(apply CK.pure;(case hh=>(intro h1 hs;first|exact next_k W.ok W.base hs rfl)))|(refine CK.maybe W.ok W.base (by decide) rfl rfl (fun hx hm=>?_) (fun hx=>?_))|(refine CK.sure W (none_con 0 (by decide) ⟨by omega,by omega⟩) rfl rfl ?_;intro bq h';(conv=>whnf);intro W)|(refine CK.con W (H (.expr) _ _ (by simp only [need,rank];omega) ⟨by omega,by omega⟩ (by exact trivial)) rfl rfl (fun x hx=>?_) (fun x m bq h' hx hm1 hm2=>?_);rotate_left;(try dsimp only [fstr] at hm1);(conv=>whnf);intro W)|(refine CK.want W (by decide) ⟨by omega,by omega⟩ rfl rfl (fun hx=>?_) (fun hx hm=>?_);rotate_left)|(have hws:=W.later.size;refine CK.closeXO 901 902 W rfl rfl rfl rfl rfl rfl rfl rfl rfl rfl rfl rfl rfl rfl (rN) (rC W (by repeat (first|exact List.Mem.head _|apply List.Mem.tail)) (rC W (by repeat (first|exact List.Mem.head _|apply List.Mem.tail)) (rC W (by repeat (first|exact List.Mem.head _|apply List.Mem.tail)) (rN)))) (by simp) (fun A len c h' hA=>?_);(conv=>whnf);intro hHd W)|(refine CK.inline (rep:=rep) tO Tryz.func218 rfl (by decide) (rs:=[.tmp 6]) rfl 4 [6,7,8,18,24] [] rfl rfl rfl ?_)|fail)));all_goals (try (conv=>whnf)))
 all_goals first|contradiction|(refine⟨fun h' hs=>W.finN 901 (t:=false) hs hbf rfl rfl rfl hHd (by first|exact hA|exact blk_or hA (hb.imp (fun q=>q) fun q=>q.1) hws) (by repeat (first|exact List.Mem.head _|apply List.Mem.tail)) ?_ ⟨by omega,by omega⟩ (by simp [leK]) rfl⟩;(simp [indexS,sliceS,bnd,want, *];done))|(simp [indexS,sliceS,bnd,want, *];done)|skip
 rename_i hno b2 hb2
 obtain⟨R,hR⟩:∃ R,idxGo I g (fuel I m) [x] m=R:=⟨_,rfl⟩
 have hRS:indexS I g frm x0 (n+1)=bnd R fun l m=>bnd (want I (⟨#[93]⟩:ByteArray) (maybe I (⟨#[44]⟩:ByteArray) m)) fun _ m'=>.ok (.mk 30 (-1) frm m' [x0,listN 11 l m]) m':=by simp [indexS,bnd_ok, *]
 rw [hRS]
 refine lgn tO [6] (fun x:XS=>[(6,.osl 57 x.b x.ps.length x.c)]) (fun x=>⟨x.h,blks (xsC I M br bn bf px frm x),xsC I M br bn bf px frm x⟩)
  (fun μ x=>Wd I M [br,bn,bf] h x.h (blks (xsC I M br bn bf px frm x)) [.many x.ps x.l]∧(n+1≤x.m∧x.m≤I.L∧(x.l.length:Int)≤x.m-n∧I.L+1-x.m≤μ)∧idxGo I g μ x.l x.m=R∧x.ps.length=x.l.length∧x.ps.length≤x.c) ?_
 conv=>whnf
 refine⟨fun h1 hs=>?_,?_⟩
 ·refine⟨fuel I m,⟨h1,m,_,_,[some ⟨bq,0,none⟩],[x]⟩,⟨(((W.add (i:=.many [] []) ⟨TsI.nil,trivial⟩).more (ps:=[]) (l:=[]) (by repeat (first|exact List.Mem.head _|apply List.Mem.tail)) (by repeat (first|exact List.Mem.head _|apply List.Mem.tail))).anew (hs.lB.less (RenC.blks (ks:=[900,901,902,32]) (L:=xsC I M br bn bf px frm ⟨h1,m,_,_,[some ⟨bq,0,none⟩],[x]⟩) (by show RenC (_::_) (_::_) (_::_);exact⟨⟨_,rfl,SC.rfl⟩,rfl,⟨_,rfl,SC.rfl⟩,rfl,⟨_,rfl,SC.rfl⟩,rfl,⟨_,rfl,SC.arr (by simp)⟩,rfl,trivial⟩)))).of (fun e he=>?_),⟨by dsimp only;omega,hm2,by dsimp only;simp only [List.length_cons,List.length_nil];omega,by dsimp only [fuel];omega⟩,hR,rfl,by simp⟩,?_,hs.again [900,901,902,32] (by show RenC (_::_) (_::_) (_::_);exact⟨⟨_,rfl,SC.rfl⟩,rfl,⟨_,rfl,SC.rfl⟩,rfl,⟨_,rfl,SC.rfl⟩,rfl,⟨_,rfl,SC.arr (by simp)⟩,rfl,trivial⟩)⟩
  ·simp only [List.mem_cons,List.not_mem_nil,or_false] at he ⊢
   exact .inl he
  ·refine And.intro ⟨_,rfl,by first|rfl|(simp [den,den1,denC];done)⟩ ?_
   (repeat (refine And.intro ⟨_,rfl,rfl⟩ ?_));exact trivial
 clear hm1 hm2 W hR hRS
 rintro μ ⟨h1,mm,b2,c2,ps,l⟩ ⟨W,⟨r0,r1,r2,r3⟩,r4,r5,r6⟩
 dsimp only [xsC] at W r0 r1 r2 r3 r4 r5 r6 ⊢
 obtain⟨f,rfl⟩:∃ f,μ=f+1:=⟨μ-1,by omega⟩
 simp only [idxGo] at r4
 ((repeat' ((conv=>whnf);(first|(refine Ar.fit (by omega) ?_)|(refine VC.mk (by (first|omega|(and_intros<;>first|omega|rfl|(simp only [maxLen];omega)|(simp only [List.length_append,List.length_take,List.length_replicate,List.length_cons,List.length_nil];omega)))) ?_)|(refine Br.mk ?_ ?_<;>intro hb<;>(try replace hb:=Classical.not_not.1 hb)<;>(try exact absurd hb (show ¬ (ByteArray.mk _=ByteArray.mk _) from by decide))<;>(try (have hlt:=wlt hb (by decide))))|(refine New.mk ?_;intro b hb)|(refine NewO.mk ?_;intro b c hb hbc)|(refine SR.same ?_)|(apply CK.pure;(case hh=>(intro h1 hs;first|exact next_k W.ok W.base hs rfl|exact word_k W.ok W.base hs rfl _)))|(refine CK.maybe W.ok W.base (by decide) rfl rfl (fun hx hm=>?_) (fun hx=>?_))|(refine CK.con W (H (.expr) _ _ (by simp only [need,rank];omega) ⟨by omega,by omega⟩ (by exact trivial)) rfl rfl (fun x hx=>?_) (fun x m bq h' hx hm1 hm2=>?_);rotate_left;(try dsimp only [fstr] at hm1);(conv=>whnf);intro W)|(refine CK.listX W rfl rfl rfl rfl (by rfl) (fun h hs hm=>(List.mem_cons.1 hm).elim (fun q=>hs.ne (k:=57) (k':=900) rfl rfl (by decide) q) fun hm=>(List.mem_cons.1 hm).elim (fun q=>hs.ne (k:=57) (k':=901) rfl rfl (by decide) q) fun hm=>hs.ne (k:=57) (k':=902) rfl rfl (by decide) (List.mem_singleton.1 hm)) (W.manyOf (by repeat (first|exact List.Mem.head _|apply List.Mem.tail))) (by decide) ?_;intro b h';(conv=>whnf);intro W)|(refine CK.want W (by decide) ⟨by omega,by omega⟩ rfl rfl (fun hx=>?_) (fun hx hm=>?_);rotate_left)|(have hws:=W.later.size;refine CK.closeXO 901 902 W rfl rfl rfl rfl rfl rfl rfl rfl rfl rfl rfl rfl rfl rfl (rN) (rC W (by repeat (first|exact List.Mem.head _|apply List.Mem.tail)) (rN)) (by simp) (fun A len c h' hA=>?_);(conv=>whnf);intro hHd W)|fail)));all_goals (try (conv=>whnf)))
 all_goals first
  |contradiction
  | (rw [if_neg (by simp [*])] at r4
     (refine⟨fun h' hs=>W.finN 901 (t:=false) hs hbf rfl rfl rfl hHd (by first|exact hA|exact blk_or hA (hb.imp (fun q=>q) fun q=>q.1) hws) (by repeat (first|exact List.Mem.head _|apply List.Mem.tail)) ?_ ⟨by omega,by omega⟩ (by simp [leK]) rfl⟩;rw [←r4];simp [bnd,want,maybe, *];done))
  | (rw [if_neg (by simp [*])] at r4
     rw [←r4];simp [bnd,want,maybe, *];done)
  | (rw [if_pos (by constructor<;>assumption),hx] at r4
     rw [←r4];rfl)
  | (rw [if_pos (by constructor<;>assumption),hx,bnd_ok] at r4
     intro h2 hs
     refine⟨f,⟨h2,m,b,c,ps++[some ⟨bq,0,none⟩],l++[x]⟩,⟨((W.more (ps:=ps) (l:=l) (by repeat (first|exact List.Mem.head _|apply List.Mem.tail)) (by repeat (first|exact List.Mem.head _|apply List.Mem.tail))).anew (hs.lB.less (RenC.blks (ks:=[900,901,902,57]) (L:=xsC I M br bn bf px frm ⟨h2,m,b,c,ps++[some ⟨bq,0,none⟩],l++[x]⟩) (by show RenC (_::_) (_::_) (_::_);exact⟨⟨_,rfl,SC.rfl⟩,rfl,⟨_,rfl,SC.rfl⟩,rfl,⟨_,rfl,SC.rfl⟩,rfl,⟨_,rfl,SC.arr (by simp)⟩,rfl,trivial⟩)))).of (fun e he=>?_),⟨by dsimp only;omega,by dsimp only;omega,by dsimp only;simp only [List.length_append,List.length_cons,List.length_nil];omega,by dsimp only;omega⟩,r4,by simp [r5],by simpa using hbc⟩,Nat.lt_succ_self f,?_,hs.again [900,901,902,57] (by show RenC (_::_) (_::_) (_::_);exact⟨⟨_,rfl,SC.rfl⟩,rfl,⟨_,rfl,SC.rfl⟩,rfl,⟨_,rfl,SC.rfl⟩,rfl,⟨_,rfl,SC.arr (by simp)⟩,rfl,trivial⟩)⟩
     ·simp only [List.mem_cons,List.not_mem_nil,or_false] at he ⊢
      exact .inl he
     ·refine And.intro ⟨_,rfl,by first|rfl|(simp [den,den1,denC];done)|(simp [den,den1,denC];omega)⟩ ?_
      (repeat (refine And.intro ⟨_,rfl,rfl⟩ ?_));exact trivial)
end
end Go.Ex
namespace Go.Ex
open Go.Proofs
attribute [local irreducible] CH CsP word kindT
theorem Wd.finQ{I:In}{M:Loc}{br:Nat}{hE:Heap}{its:List It}{S:St}{t:Bool}{n m w':Int}{nx:Nx}{h':Heap}{b:Nat}{x:Nd}{o:Out (Nd×Int)}(W:Wd I M [br,nx.bn] hE S.h0 S.cap its)(hs:HS S h')(hf:findC S.ch 900=some (br,rdB I M t m))
 (hfn:findC S.ch 901=some (nx.bn,nodeB nx.k w' nx.f nx.to nx.l)) (hi:It.one (some ⟨b,0,none⟩) x∈its) (ho:o = .ok (x,w') m) (hr:n+1≤m∧m≤I.L) :
 ∃ x w' n' p,o = .ok (x,w') n'∧(n+1≤n'∧n'≤I.L)∧Wf x∧Value.pointer (some ⟨b,0,none⟩) = .pointer p∧HS ⟨hE,br::qbs (some nx),rdC I M br t n'++qch (some nx) w'⟩ h'∧TrI hE.size h' (br::qbs (some nx)) p x:=by
 have hsub:∀ b∈[br,nx.bn],b∈blks S.ch:=fun b hb=>by
  simp only [List.mem_cons,List.not_mem_nil,or_false] at hb
  rcases hb with rfl|rfl
  ·exact blk_mem hf
  ·exact blk_mem hfn
 obtain⟨h1,h2⟩:=W.its _ hi
 refine⟨x,w',m,_,ho,hr,h2,rfl,HS.back (ch:=rdC I M br t m++qch (some nx) w') W.later hs (hs.two hf hfn (by decide) 900 901) hsub (fun e he=>.inl ?_),TrI.later (hs.lB.less hsub) (Nat.le_refl _) x h1⟩
 simp only [rdC,qch,List.cons_append,List.nil_append,List.mem_cons,List.not_mem_nil,or_false] at he ⊢
 rcases he with rfl|rfl
 ·exact .inl rfl
 ·exact .inr rfl
theorem BxOk.cons2{bx:List (Nat×Chunk)}{S:St}{h:Heap}{br bn:Nat}(hs:HS S h){kb b kn:Nat}{c c' c0 c1:Chunk}(hb:findC S.ch kb=some (b,c))(hf:findC S.ch 900=some (br,c0))(hfn:findC S.ch kn=some (bn,c1))(hk:Nat.beq kb 900=false)(hk2:Nat.beq kb kn=false)(hc:SC c c')(hr:BxOk bx h [br,bn]):BxOk ((b,c')::bx) h [br,bn]:=fun e he=>by
 rcases List.mem_cons.1 he with rfl|he
 ·obtain⟨a1,_,a3⟩:=hs.chunk _ (fM hb)
  refine⟨a1,fun hm=>?_,hc _ _ a3⟩
  simp only [List.mem_cons,List.not_mem_nil,or_false] at hm
  rcases hm with hm|hm
  ·exact hs.ne hb hf (nbF hk) hm
  ·exact hs.ne hb hfn (nbF hk2) hm
 ·exact hr e he
section
variable {I:In}{M:Loc}{g:Gt}{N:Int}{t:Bool}{n:Int}
theorem arg_conQ(ok:InOk I)(H:Hyp I M g N){br bn b1 b2:Nat}{k f to:Int}{l:KV}{w:Int}(hn:0≤n∧n≤I.L)(hN:32*(I.L+1-n)+11≤N):ConQ I M br 217 [ptr b2,ptr b1] (some ⟨bn,k,f,to,l⟩) [(b1,.box 78 [.val (ptr br)]),(b2,.box 63 [.val (ptr bn)])] (argS I g) false w n:=fun h hs hB hbx=>by
 refine eP (rep:=rep) (m:=2) (ex:=[0,1,2,3,8,15]) (cu:=[]) (args:=[.val (ptr b2),.val (ptr b1)]) tO Tryz.func217 rfl (by decide) (rs:=[.tmp 2]) rfl rfl rfl hs ?_
 have W:=(Wd.start ok hB).add (i:=.bxs [(b1,.box 78 [.val (ptr br)]),(b2,.box 63 [.val (ptr bn)])]) hbx
 have hl:=ok.len
 ((repeat' ((conv=>whnf);(first|(refine dW (id:=5) tO mixed (.pull 1 [2,3,4,5,6,7] (.pull 2 [3,4,5,6,7] (.pull 3 [4,5,6,7] (.pull 0 [5,6,7] (.pull 4 [5,6,7] (.pull 5 [6,7] (.pull 6 [7] (.one 7 .done)))))))) (by kernel_rfl) (by kernel_rfl) ?_)|(refine Ar.fit (by omega) ?_)|(refine VC.mk (by (first|omega|rfl)) ?_)|(refine Br.mk ?_ ?_<;>intro hb<;>(try replace hb:=Classical.not_not.1 hb)<;>(try exact absurd hb (show ¬ (ByteArray.mk _=ByteArray.mk _) from by decide))<;>(try (have hlt:=wlt hb (by decide))))|(apply CK.pure;(case hh=>(intro h1 hs;first|exact next_k W.ok W.base hs rfl)))|(refine PLoad.boxO (.own 900 br 0) W (by repeat (first|exact List.Mem.head _|apply List.Mem.tail)) (by repeat (first|exact List.Mem.head _|apply List.Mem.tail)) rfl ?_)|(refine PLoad.boxO (.own 901 bn 0) W (by repeat (first|exact List.Mem.head _|apply List.Mem.tail)) (by repeat (first|exact List.Mem.head _|apply List.Mem.tail)) rfl ?_)|(refine CK.fail W rfl rfl ⟨by omega,by omega⟩ ?_)|(refine CK.con W (H (.expr) _ _ (by simp only [need,rank];omega) ⟨by omega,by omega⟩ (by exact trivial)) rfl rfl (fun x hx=>?_) (fun x m bq h' hx hm1 hm2=>?_);rotate_left;(try dsimp only [fstr] at hm1);(conv=>whnf);intro W)|fail)));all_goals (try (conv=>whnf)))
 ·simp [argS,bnd, *]
 ·have W':Wd I M [br,bn] h _ _ _:=W
  refine⟨fun h' hs=>?_⟩
  have q:=Wd.finQ (nx:=⟨bn,k,f,to,l⟩) (n:=n) (o:=argS I g w n) W' hs rfl rfl (by repeat (first|exact List.Mem.head _|apply List.Mem.tail))
  have q2:=q (by simp [argS,bnd, *]) ⟨by omega,by omega⟩
  exact q2
 ·have W':Wd I M [br,bn] h _ _ _:=W
  refine⟨fun h' hs=>?_⟩
  have q:=Wd.finQ (nx:=⟨bn,k,f,to,l⟩) (n:=n) (o:=argS I g w n) W' hs rfl rfl (by repeat (first|exact List.Mem.head _|apply List.Mem.tail))
  have q2:=q (by simp [argS,bnd, *]) ⟨by omega,by omega⟩
  exact q2
 ·simp [argS,bnd, *]
theorem call_conN(ok:InOk I)(H:Hyp I M g N)(px:Option Addr)(x0:Nd)(frm:Int)(hs0:n<I.L)(hn:0≤n∧n≤I.L)(hN:32*(I.L+1-n)+7≤N):ConN I M 193 [] ptr px x0 frm (callS I g frm x0 n) false n:=fun br bn bf h hs hB=>by
 refine eP (rep:=rep) (m:=2) (ex:=[2,3,4,5,6]) (cu:=[]) (args:=[.own 900 br 0,.own 901 bn 0]) tO Tryz.func193 rfl (by decide) (rs:=[.tmp 4]) rfl rfl rfl hs ?_
 have W:=Wd.start ok hB
 have hl:=ok.len
 have hbf:bf<h.size:=(hs.chunk (902,bf,_) (List.mem_cons_of_mem _ (List.mem_cons_of_mem _ List.mem_cons_self))).1
 ((repeat' ((conv=>whnf);(first|(refine VC.mk (by (first|omega|(and_intros<;>first|rfl|(simp only [maxLen];omega)))) ?_)|(refine New.mk ?_;intro b hb)|(refine CK.want W (by decide) ⟨by omega,by omega⟩ rfl rfl (fun hx=>?_) (fun hx hm=>?_);rotate_left)|(refine CK.listH W rfl rfl (by repeat (first|exact List.Mem.head _|apply List.Mem.tail)) (by decide) ?_;intro b h' W)|(have hws:=W.later.size;refine CK.closeXO 901 902 W rfl rfl rfl rfl rfl rfl rfl rfl rfl rfl rfl rfl rfl rfl (rN) (rC W (by repeat (first|exact List.Mem.head _|apply List.Mem.tail)) (rN)) (by simp) (fun A len c h' hA=>?_);(conv=>whnf);intro hHd W)|(refine CK.rowsN W 901 [(902,_,_),(3,_,_),(2,_,_)] (nx:=⟨bn,34,frm,0,.osl 902 bf 1 1⟩) (bx:=[(_,.box 78 [.val (ptr br)]),(_,.box 63 [.val (ptr bn)])]) (w:=-1) (rows_node W.ok ⟨bn,34,frm,0,.osl 902 bf 1 1⟩ _ _ _ _ (by decide) (by decide) 217 [] [ptr _,ptr _] (argS I g) (w:=-1) ⟨by omega,by omega⟩ (fun w m a b=>arg_conQ ok H ⟨by omega,b⟩ (by omega))) rfl rfl ⟨rfl,rfl,rfl,rfl,rfl,rfl,rfl,rfl,rfl,rfl,trivial⟩ (fun h hs=>BxOk.cons2 hs (kb:=2) (kn:=901) rfl rfl rfl rfl rfl (SC.box rfl) (BxOk.cons2 hs (kb:=3) (kn:=901) rfl rfl rfl rfl rfl (SC.box rfl) (fun e he=>by cases he))) (fun x hx=>?_) (fun l w' m A len c ps h' hx hm1 hm2 hm3=>?_);rotate_left;(conv=>whnf);intro W)|fail)));all_goals (try (conv=>whnf)))
 all_goals first|contradiction|(refine⟨fun h' hs=>W.finN 901 (t:=false) hs hbf rfl rfl rfl hHd (by first|exact hA|exact blk_or hA (hb.imp (fun q=>q) fun q=>q.1) hws) (by repeat (first|exact List.Mem.head _|apply List.Mem.tail)) ?_ ⟨by omega,by omega⟩ (by simp [leK]) rfl⟩;(simp [callS,bnd,want, *];done))|(simp [callS,bnd,want, *];done)
end
end Go.Ex
namespace Go.Ex
open Go.Proofs
attribute [local irreducible] CH CsP word kindT
section
variable {I:In}{M:Loc}{br:Nat}{t:Bool}{n:Int}{h:Heap}{lo:Nat}
theorem least1{y:Nd}{k:Int}(hy:Wf y)(e:y.kind=k)(h:0<leK k):0<y.kids.length:=by
 have:=hy.kids.1
 rw [e] at this
 omega
theorem plain_any{b0:Nat}{x:Nd}(hT:TrI lo h [] (some ⟨b0,0,none⟩) x)(hw:Wf x):CH Tryz.prog 219 #[ptr b0] h fun v h'=>v=denC (.prop (plainN x))∧Grows h h':=by
 refine enter (rep:=rep) (m:=1) (ex:=[0,2]) (cu:=[]) tO Tryz.func219 rfl (by decide) (rs:=[.tmp 2]) rfl rfl [.val (ptr b0)] rfl ?_
 by_cases k29:x.kind=29
 ·have l0:=least1 hw k29 (by decide)
  ((repeat' ((conv=>whnf);(first|(refine XLoad.kid 0 hA hTs (by assumption) ?_;intro bq hT0)|(refine VC.mk (by (first|omega|exact Sl.plain (by assumption) (by omega))) ?_)|(refine Br.mk ?_ ?_<;>intro hb<;>(try (exfalso;omega)))|(refine PLoad.kind (by assumption) ?_)|(refine PLoad.kids (by assumption) ?_;intro A n1 c1 ps1 hA hTs hnl;subst hnl;have hAs:=hA.sl)|fail)));all_goals (try (conv=>whnf)))
  all_goals first
   |exact⟨fun h' hs=>⟨bool_yes (by simp [plainN, *]),hs.grows⟩⟩
   |exact⟨fun h' hs=>⟨bool_no (by simp [plainN, *]),hs.grows⟩⟩
   |exact⟨fun h' hs=>⟨prop_eq (by simp [plainN, *]),hs.grows⟩⟩
 ·((repeat' ((conv=>whnf);(first|(refine Br.mk ?_ ?_<;>intro hb<;>(try (exfalso;omega)))|(refine PLoad.kind (by assumption) ?_)|fail)));all_goals (try (conv=>whnf)))
  all_goals first
   |exact⟨fun h' hs=>⟨bool_yes (by simp [plainN, *]),hs.grows⟩⟩
   |exact⟨fun h' hs=>⟨bool_no (by simp [plainN, *]),hs.grows⟩⟩
   |exact⟨fun h' hs=>⟨prop_eq (by simp [plainN, *]),hs.grows⟩⟩
end
end Go.Ex
namespace Go.Ex
open Go.Proofs
attribute [local irreducible] CH CsP word kindT plainN
section
variable {I:In}{M:Loc}{br:Nat}{t:Bool}{n:Int}{h:Heap}{lo:Nat}
theorem filled_any{b0:Nat}{x:Nd}(ok:InOk I)(hs:HS ⟨h,[br],rdC I M br t n⟩ h)(hB:Base I M h [br])(hT:TrI lo h [br] (some ⟨b0,0,none⟩) x)(hw:Wf x):CH Tryz.prog 196 #[ptr br,ptr b0] h fun v h'=>v=denC (.prop (filledN t x))∧Grows h h':=by
 refine eIn (rep:=rep) (m:=1) (ex:=[0,1,4,8,9,15]) (cu:=[]) (args:=[.own 900 br 0,.val (ptr b0)]) tO Tryz.func196 rfl (by decide) (rs:=[.tmp 4]) rfl rfl rfl hs ?_
 have hs0:=hs
 have W:=Wd.start ok hB
 by_cases k30:x.kind=30
 ·have l0:=least1 hw k30 (by decide)
  have w0:=hw.kids.2.get 0 l0
  cases t
  ·((repeat' ((conv=>whnf);(first|(refine XLoad.kid 0 hA hTs (by assumption) ?_;intro bq hT0)|(refine VC.mk (by (first|omega|exact Sl.plain (by assumption) (by omega))) ?_)|(refine Br.mk ?_ ?_<;>intro hb<;>(try replace hb:=Classical.not_not.1 hb)<;>(try exact absurd hb (show ¬ (ByteArray.mk _=ByteArray.mk _) from by decide))<;>(try (exfalso;omega)))|(refine PLoad.kind (by assumption) ?_)|(refine PLoad.kids (by assumption) ?_;intro A n1 c1 ps1 hA hTs hnl;subst hnl;have hAs:=hA.sl)|(refine CK.says (.prop _) (fun h1 hs=>plain_any (TrI.later (hs.lB.less (c2:=[]) (fun x hx=>by cases hx)) (Nat.le_refl _) _ (by assumption)) (by assumption)) ?_)|fail)));all_goals (try (conv=>whnf)))
   all_goals first
    |exact⟨fun h' hs=>⟨bool_yes (by simp [filledN, *]),hs0.gB hs rfl⟩⟩
    |exact⟨fun h' hs=>⟨bool_no (by simp [filledN, *]),hs0.gB hs rfl⟩⟩
    |exact⟨fun h' hs=>⟨prop_eq (by simp [filledN, *]),hs0.gB hs rfl⟩⟩
  ·((repeat' ((conv=>whnf);(first|(refine XLoad.kid 0 hA hTs (by assumption) ?_;intro bq hT0)|(refine VC.mk (by (first|omega|exact Sl.plain (by assumption) (by omega))) ?_)|(refine Br.mk ?_ ?_<;>intro hb<;>(try replace hb:=Classical.not_not.1 hb)<;>(try exact absurd hb (show ¬ (ByteArray.mk _=ByteArray.mk _) from by decide))<;>(try (exfalso;omega)))|(refine PLoad.kind (by assumption) ?_)|(refine PLoad.kids (by assumption) ?_;intro A n1 c1 ps1 hA hTs hnl;subst hnl;have hAs:=hA.sl)|fail)));all_goals (try (conv=>whnf)))
   all_goals first
    |exact⟨fun h' hs=>⟨bool_yes (by simp [filledN, *]),hs0.gB hs rfl⟩⟩
    |exact⟨fun h' hs=>⟨bool_no (by simp [filledN, *]),hs0.gB hs rfl⟩⟩
    |exact⟨fun h' hs=>⟨prop_eq (by simp [filledN, *]),hs0.gB hs rfl⟩⟩
 ·cases t
  ·((repeat' ((conv=>whnf);(first|(refine VC.mk (by omega) ?_)|(refine Br.mk ?_ ?_<;>intro hb<;>(try replace hb:=Classical.not_not.1 hb)<;>(try exact absurd hb (show ¬ (ByteArray.mk _=ByteArray.mk _) from by decide))<;>(try (exfalso;omega)))|(refine PLoad.kind (by assumption) ?_)|(refine CK.says (.prop _) (fun h1 hs=>plain_any (TrI.later (hs.lB.less (c2:=[]) (fun x hx=>by cases hx)) (Nat.le_refl _) _ (by assumption)) (by assumption)) ?_)|fail)));all_goals (try (conv=>whnf)))
   all_goals first
    |exact⟨fun h' hs=>⟨bool_yes (by simp [filledN, *]),hs0.gB hs rfl⟩⟩
    |exact⟨fun h' hs=>⟨bool_no (by simp [filledN, *]),hs0.gB hs rfl⟩⟩
    |exact⟨fun h' hs=>⟨prop_eq (by simp [filledN, *]),hs0.gB hs rfl⟩⟩
  ·((repeat' ((conv=>whnf);(first|(refine VC.mk (by omega) ?_)|(refine Br.mk ?_ ?_<;>intro hb<;>(try replace hb:=Classical.not_not.1 hb)<;>(try exact absurd hb (show ¬ (ByteArray.mk _=ByteArray.mk _) from by decide))<;>(try (exfalso;omega)))|(refine PLoad.kind (by assumption) ?_)|fail)));all_goals (try (conv=>whnf)))
   all_goals first
    |exact⟨fun h' hs=>⟨bool_yes (by simp [filledN, *]),hs0.gB hs rfl⟩⟩
    |exact⟨fun h' hs=>⟨bool_no (by simp [filledN, *]),hs0.gB hs rfl⟩⟩
    |exact⟨fun h' hs=>⟨prop_eq (by simp [filledN, *]),hs0.gB hs rfl⟩⟩
theorem filled_k{cE:List Nat}{hE:Heap}{its:List It}{S:St}{b0:Nat}{x:Nd}(W:Wd I M cE hE S.h0 S.cap its)(hi:It.one (some ⟨b0,0,none⟩) x∈its)(hs:HS S h)(hf:findC S.ch 900=some (br,rdB I M t n)):CH Tryz.prog 196 #[ptr br,ptr b0] h fun v h'=>v=denC (.prop (filledN t x))∧Grows h h':=
 filled_any W.ok (rd_at hs hf) (W.base.at1 hs hf) (TrI.later (hs.lB.less (blk1 hf)) (Nat.le_refl _) x (W.one hi)) (W.wf hi)
end
end Go.Ex
