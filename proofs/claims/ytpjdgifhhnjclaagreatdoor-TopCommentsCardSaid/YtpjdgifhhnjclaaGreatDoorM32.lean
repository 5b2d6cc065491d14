/-
  Top: TopComments: whatever the input, the law answers true (part 32)
-/
import Derived.Test.YtpjdgifhhnjclaaGreatDoorM31
set_option linter.unusedVariables false
set_option linter.unusedSimpArgs false
set_option maxHeartbeats 4000000
set_option maxRecDepth 10000
namespace Go.Ex
open Go.Proofs
attribute [local irreducible] CH X2 word B9
structure XS where
 h:A3
 m:Int
 b:Nat
 c:Nat
 ps:List (Option Addr)
 l:List Nd
abbrev BH(I:In)(M:O6)(br bn bf:Nat)(px:Option Addr)(frm:Int)(x:XS):L8:=G5 I M br false x.m++[(901,bn,D6 30 (-1) frm 0 (.osl 902 bf 1 1)),(902,bf,.arr 63 E1 [px] 1),(57,x.b,.arr 63 E1 x.ps x.c)]
section
variable {I:In}{M:O6}{g:Gt}{N:Int}{t:Bool}{n:Int}
theorem Ai(ok:C6 I)(H:O8 I M g N)(px:Option Addr)(x0:Nd)(frm:Int)(hs0:n<I.L)(hn:0≤n∧n≤I.L)(hN:32*(I.L+1-n)+7≤N):Ly I M 195 [] ptr px x0 frm (cY I g frm x0 (n+1)) false n:=fun br bn bf h hs hB=>by
 refine O9 2 [0,1,4,5,6,7,22,26,45] [] [.own 900 br 0,.own 901 bn 0] Tryz.func195 rfl hs ?_
 have W:=Wd.start ok hB
 have hl:=ok.len
 have hbf:bf<h.size:=(hs.chunk (902,bf,_) (List.mem_cons_of_mem _ (List.mem_cons_of_mem _ List.mem_cons_self))).1
 ((repeat' (conv=>whnf);first|(refine Ar.fit (by omega) ?_)|(refine VC.mk (by (first|omega|(and_intros<;>first|rfl|(simp only [maxLen];omega)))) ?_)|(refine Br.mk ?_ ?_<;>intro hb<;>(try replace hb:=nN hb)<;>(try exact absurd hb (by decide))<;>(try (have hlt:=T9 hb (by decide))))|(refine E5.mk ?_;intro b hb)|(refine A7 ?_ fun h1 hs=>E0 W.ok W.base hs rfl)|(refine CK.maybe W.ok W.base (by decide) rfl rfl (fun hx hm=>?_) (fun hx=>?_))|(refine CK.sure W (G0 0 (by decide) (by omega)) rfl rfl ?_;intro bq h';(conv=>whnf);intro W)|(refine F2 W (H .expr _ _ (by simp only [C5,A6];omega) (by omega) trivial) rfl rfl (fun x m bq h' hx hm1 hm2=>?_) fun x hx=>?_;(try dsimp only [D1] at hm1);(conv=>whnf);intro W)|(refine CK.want W (by decide) (by omega) rfl rfl (fun hx=>?_) (fun hx hm=>?_);rotate_left)|(have hws:=W.later.size;refine CK.closeXO 901 902 W rfl rfl rfl rfl rfl rfl rfl rfl rfl rfl rfl rfl rfl rfl (rN) (rC W (by repeat constructor) (rC W (by repeat constructor) (rC W (by repeat constructor) (rN)))) (by simp) (fun A len c h' hA=>?_);(conv=>whnf);intro hHd W)|(refine CK.inline (rep:=rep) tO Tryz.func218 rfl (by decide) (rs:=[.tmp 6]) rfl 4 [6,7,8,18,24] [] rfl rfl rfl ?_)|fail);all_goals try conv=>whnf)
 all_goals first|contradiction|(refine⟨fun h' hs=>W.finN 901 (t:=false) hs hbf rfl rfl rfl hHd (by first|exact hA|exact Ca hA (hb.imp (fun q=>q) fun q=>q.1) hws) (by repeat constructor) ?_ (by omega) (by simp [O5]) rfl⟩;(simp [cY,fS,bnd,want, *];done))|(simp [cY,fS,bnd,want, *];done)|skip
 rename_i hno b2 hb2
 obtain⟨R,hR⟩:∃ R,gZ I g (F6 I m) [x] m=R:=⟨_,rfl⟩
 have hRS:cY I g frm x0 (n+1)=bnd R fun l m=>bnd (want I (⟨#[93]⟩:ByteArray) (maybe I (⟨#[44]⟩:ByteArray) m)) fun _ m'=>.ok (.mk 30 (-1) frm m' [x0,K3 11 l m]) m':=by simp [cY,E2, *]
 rw [hRS]
 refine gG tO [6] (fun x:XS=>[(6,.osl 57 x.b x.ps.length x.c)]) (fun x=>⟨x.h,blks (BH I M br bn bf px frm x),BH I M br bn bf px frm x⟩)
  (fun μ x=>Wd I M [br,bn,bf] h x.h (blks (BH I M br bn bf px frm x)) [.many x.ps x.l]∧(n+1≤x.m∧x.m≤I.L∧(x.l.length:Int)≤x.m-n∧I.L+1-x.m≤μ)∧gZ I g μ x.l x.m=R∧x.ps.length=x.l.length∧x.ps.length≤x.c) ?_
 conv=>whnf
 refine⟨fun h1 hs=>?_,?_⟩
 ·refine⟨F6 I m,⟨h1,m,_,_,[some ⟨bq,0,none⟩],[x]⟩,⟨(((W.add (i:=.many [] []) ⟨L3.nil,trivial⟩).more (ps:=[]) (l:=[]) (by repeat constructor) (by repeat constructor)).anew (hs.lB.less (F3.blks (ks:=[900,901,902,32]) (L:=BH I M br bn bf px frm ⟨h1,m,_,_,[some ⟨bq,0,none⟩],[x]⟩) (B4 rfl rfl (B4 rfl rfl (B4 rfl rfl (F9 rfl (SC.arr (by simp)) rfl E8))))))).of (fun e he=>?_),⟨by dsimp only;omega,hm2,by dsimp only;simp only [List.length_cons,List.length_nil];omega,by dsimp only [F6];omega⟩,hR,rfl,by simp⟩,?_,hs.again [900,901,902,32] (B4 rfl rfl (B4 rfl rfl (B4 rfl rfl (F9 rfl (SC.arr (by simp)) rfl E8))))⟩
  ·simp only [mL,or_false] at he ⊢
   exact .inl he
  ·refine And.intro ⟨_,rfl,by first|rfl|(simp [B0,A1,A0];done)⟩ ?_
   (repeat (refine And.intro ⟨_,rfl,rfl⟩ ?_));exact trivial
 clear hm1 hm2 W hR hRS
 rintro μ ⟨h1,mm,b2,c2,ps,l⟩ ⟨W,⟨r0,r1,r2,r3⟩,r4,r5,r6⟩
 dsimp only [BH] at W r0 r1 r2 r3 r4 r5 r6 ⊢
 obtain⟨f,rfl⟩:∃ f,μ=f+1:=⟨μ-1,by omega⟩
 simp only [gZ] at r4
 ((repeat' (conv=>whnf);first|(refine Ar.fit (by omega) ?_)|(refine VC.mk (by (first|omega|(and_intros<;>first|omega|rfl|(simp only [maxLen];omega)|(simp only [lL];omega)))) ?_)|(refine Br.mk ?_ ?_<;>intro hb<;>(try replace hb:=nN hb)<;>(try exact absurd hb (by decide))<;>(try (have hlt:=T9 hb (by decide))))|(refine E5.mk ?_;intro b hb)|(refine X0.mk ?_;intro b c hb hbc)|(refine SR.same ?_)|(apply CK.pure;case hh=>intro h1 hs;first|exact E0 W.ok W.base hs rfl|exact T1 W.ok W.base hs rfl _)|(refine CK.maybe W.ok W.base (by decide) rfl rfl (fun hx hm=>?_) (fun hx=>?_))|(refine F2 W (H .expr _ _ (by simp only [C5,A6];omega) (by omega) trivial) rfl rfl (fun x m bq h' hx hm1 hm2=>?_) fun x hx=>?_;(try dsimp only [D1] at hm1);(conv=>whnf);intro W)|(refine CK.listX W rfl rfl rfl rfl (by rfl) (fun h hs hm=>(List.mem_cons.1 hm).elim (fun q=>hs.ne (k:=57) (k':=900) rfl rfl (by decide) q) fun hm=>(List.mem_cons.1 hm).elim (fun q=>hs.ne (k:=57) (k':=901) rfl rfl (by decide) q) fun hm=>hs.ne (k:=57) (k':=902) rfl rfl (by decide) (List.mem_singleton.1 hm)) (W.manyOf (by repeat constructor)) (by decide) ?_;intro b h';(conv=>whnf);intro W)|(refine CK.want W (by decide) (by omega) rfl rfl (fun hx=>?_) (fun hx hm=>?_);rotate_left)|(have hws:=W.later.size;refine CK.closeXO 901 902 W rfl rfl rfl rfl rfl rfl rfl rfl rfl rfl rfl rfl rfl rfl (rN) (rC W (by repeat constructor) (rN)) (by simp) (fun A len c h' hA=>?_);(conv=>whnf);intro hHd W)|fail);all_goals try conv=>whnf)
 all_goals first
  |contradiction
  | (rw [if_neg (by simp [*])] at r4
     (refine⟨fun h' hs=>W.finN 901 (t:=false) hs hbf rfl rfl rfl hHd (by first|exact hA|exact Ca hA (hb.imp (fun q=>q) fun q=>q.1) hws) (by repeat constructor) ?_ (by omega) (by simp [O5]) rfl⟩;rw [←r4];simp [bnd,want,maybe, *];done))
  | (rw [if_neg (by simp [*])] at r4
     rw [←r4];simp [bnd,want,maybe, *];done)
  | (rw [if_pos (by constructor<;>assumption),hx] at r4
     rw [←r4];rfl)
  | (rw [if_pos (by constructor<;>assumption),hx,E2] at r4
     intro h2 hs
     refine⟨f,⟨h2,m,b,c,ps++[some ⟨bq,0,none⟩],l++[x]⟩,⟨((W.more (ps:=ps) (l:=l) (by repeat constructor) (by repeat constructor)).anew (hs.lB.less (F3.blks (ks:=[900,901,902,57]) (L:=BH I M br bn bf px frm ⟨h2,m,b,c,ps++[some ⟨bq,0,none⟩],l++[x]⟩) (B4 rfl rfl (B4 rfl rfl (B4 rfl rfl (F9 rfl (SC.arr (by simp)) rfl E8))))))).of (fun e he=>?_),⟨by dsimp only;omega,by dsimp only;omega,by dsimp only;simp only [lC2];omega,by dsimp only;omega⟩,r4,by simp [r5],by simpa using hbc⟩,Nat.lt_succ_self f,?_,hs.again [900,901,902,57] (B4 rfl rfl (B4 rfl rfl (B4 rfl rfl (F9 rfl (SC.arr (by simp)) rfl E8))))⟩
     ·simp only [mL,or_false] at he ⊢
      exact .inl he
     ·refine And.intro ⟨_,rfl,by first|rfl|(simp [B0,A1,A0];done)|(simp [B0,A1,A0];omega)⟩ ?_
      (repeat (refine And.intro ⟨_,rfl,rfl⟩ ?_));exact trivial)
end
end Go.Ex
namespace Go.Ex
open Go.Proofs
attribute [local irreducible] CH X2 word B9
theorem Wd.finQ{I:In}{M:O6}{br:Nat}{hE:A3}{its:List It}{S:St}{t:Bool}{n m w':Int}{nx:Nx}{h':A3}{b:Nat}{x:Nd}{o:G3 (Nd×Int)}(W:Wd I M [br,nx.bn] hE S.h0 S.cap its)(hs:HS S h')(hf:B3 S.ch 900=some (br,H5 I M t m))
 (hfn:B3 S.ch 901=some (nx.bn,D6 nx.k w' nx.f nx.to nx.l)) (hi:It.one (some ⟨b,0,none⟩) x∈its) (ho:o = .ok (x,w') m) (hr:n+1≤m∧m≤I.L) :
 ∃ x w' n' p,o = .ok (x,w') n'∧(n+1≤n'∧n'≤I.L)∧Wf x∧Value.pointer (some ⟨b,0,none⟩) = .pointer p∧HS ⟨hE,br::nO (some nx),G5 I M br t n'++eR (some nx) w'⟩ h'∧Q2 hE.size h' (br::nO (some nx)) p x:=by
 have hsub:∀ b∈[br,nx.bn],b∈blks S.ch:=fun b hb=>by
  simp only [mL,or_false] at hb
  rcases hb with rfl|rfl
  ·exact J0 hf
  ·exact J0 hfn
 obtain⟨h1,h2⟩:=W.its _ hi
 refine⟨x,w',m,_,ho,hr,h2,rfl,HS.back (ch:=G5 I M br t m++eR (some nx) w') W.later hs (hs.two hf hfn (by decide) 900 901) hsub (fun e he=>.inl ?_),Q2.later (hs.lB.less hsub) (Nat.le_refl _) x h1⟩
 simp only [G5,eR,List.cons_append,List.nil_append,List.mem_cons,List.not_mem_nil,or_false] at he ⊢
 rcases he with rfl|rfl
 ·exact .inl rfl
 ·exact .inr rfl
theorem aN.cons2{bx:List (Nat×D8)}{S:St}{h:A3}{br bn:Nat}(hs:HS S h){kb b kn:Nat}{c c' c0 c1:D8}(hb:B3 S.ch kb=some (b,c))(hf:B3 S.ch 900=some (br,c0))(hfn:B3 S.ch kn=some (bn,c1))(hk:Nat.beq kb 900=false)(hk2:Nat.beq kb kn=false)(hc:SC c c')(hr:aN bx h [br,bn]):aN ((b,c')::bx) h [br,bn]:=fun e he=>by
 rcases List.mem_cons.1 he with rfl|he
 ·obtain⟨a1,_,a3⟩:=hs.chunk _ (fM hb)
  refine⟨a1,fun hm=>?_,hc _ _ a3⟩
  simp only [mL,or_false] at hm
  rcases hm with hm|hm
  ·exact hs.ne hb hf (lA hk) hm
  ·exact hs.ne hb hfn (lA hk2) hm
 ·exact hr e he
section
variable {I:In}{M:O6}{g:Gt}{N:Int}{t:Bool}{n:Int}
theorem Iv(ok:C6 I)(H:O8 I M g N){br bn b1 b2:Nat}{k f to:Int}{l:KV}{w:Int}(hn:0≤n∧n≤I.L)(hN:32*(I.L+1-n)+11≤N):Rq I M br 217 [ptr b2,ptr b1] (some ⟨bn,k,f,to,l⟩) [(b1,.box 78 [.val (ptr br)]),(b2,.box 63 [.val (ptr bn)])] (jJ I g) false w n:=fun h hs hB hbx=>by
 refine O9 2 [0,1,2,3,8,15] [] [.val (ptr b2),.val (ptr b1)] Tryz.func217 rfl hs ?_
 have W:=(Wd.start ok hB).add (i:=.bxs [(b1,.box 78 [.val (ptr br)]),(b2,.box 63 [.val (ptr bn)])]) hbx
 have hl:=ok.len
 ((repeat' (conv=>whnf);first|(refine C2 (id:=5) (.pl [1,2,3,0,4,5,6] (.on [7] .e)) (by kernel_rfl) ?_)|(refine Ar.fit (by omega) ?_)|(refine VC.mk (by (first|omega|rfl)) ?_)|(refine Br.mk ?_ ?_<;>intro hb<;>(try replace hb:=nN hb)<;>(try exact absurd hb (by decide))<;>(try (have hlt:=T9 hb (by decide))))|(refine A7 ?_ fun h1 hs=>E0 W.ok W.base hs rfl)|(refine A9.boxO (.own 900 br 0) W (by repeat constructor) (by repeat constructor) rfl ?_)|(refine A9.boxO (.own 901 bn 0) W (by repeat constructor) (by repeat constructor) rfl ?_)|(refine CK.fail W rfl rfl (by omega) ?_)|(refine F2 W (H .expr _ _ (by simp only [C5,A6];omega) (by omega) trivial) rfl rfl (fun x m bq h' hx hm1 hm2=>?_) fun x hx=>?_;(try dsimp only [D1] at hm1);(conv=>whnf);intro W)|fail);all_goals try conv=>whnf)
 ·simp [jJ,bnd, *]
 ·have W':Wd I M [br,bn] h _ _ _:=W
  refine⟨fun h' hs=>?_⟩
  have q:=Wd.finQ (nx:=⟨bn,k,f,to,l⟩) (n:=n) (o:=jJ I g w n) W' hs rfl rfl (by repeat constructor)
  have q2:=q (by simp [jJ,bnd, *]) (by omega)
  exact q2
 ·have W':Wd I M [br,bn] h _ _ _:=W
  refine⟨fun h' hs=>?_⟩
  have q:=Wd.finQ (nx:=⟨bn,k,f,to,l⟩) (n:=n) (o:=jJ I g w n) W' hs rfl rfl (by repeat constructor)
  have q2:=q (by simp [jJ,bnd, *]) (by omega)
  exact q2
 ·simp [jJ,bnd, *]
theorem Fq(ok:C6 I)(H:O8 I M g N)(px:Option Addr)(x0:Nd)(frm:Int)(hs0:n<I.L)(hn:0≤n∧n≤I.L)(hN:32*(I.L+1-n)+7≤N):Ly I M 193 [] ptr px x0 frm (mW I g frm x0 n) false n:=fun br bn bf h hs hB=>by
 refine O9 2 [2,3,4,5,6] [] [.own 900 br 0,.own 901 bn 0] Tryz.func193 rfl hs ?_
 have W:=Wd.start ok hB
 have hl:=ok.len
 have hbf:bf<h.size:=(hs.chunk (902,bf,_) (List.mem_cons_of_mem _ (List.mem_cons_of_mem _ List.mem_cons_self))).1
 ((repeat' (conv=>whnf);first|(refine VC.mk (by (first|omega|(and_intros<;>first|rfl|(simp only [maxLen];omega)))) ?_)|(refine E5.mk ?_;intro b hb)|(refine CK.want W (by decide) (by omega) rfl rfl (fun hx=>?_) (fun hx hm=>?_);rotate_left)|(refine CK.listH W rfl rfl (by repeat constructor) (by decide) ?_;intro b h' W)|(have hws:=W.later.size;refine CK.closeXO 901 902 W rfl rfl rfl rfl rfl rfl rfl rfl rfl rfl rfl rfl rfl rfl (rN) (rC W (by repeat constructor) (rN)) (by simp) (fun A len c h' hA=>?_);(conv=>whnf);intro hHd W)|(refine CK.rowsN W 901 [(902,_,_),(3,_,_),(2,_,_)] (nx:=⟨bn,34,frm,0,.osl 902 bf 1 1⟩) (bx:=[(_,.box 78 [.val (ptr br)]),(_,.box 63 [.val (ptr bn)])]) (w:=-1) (On W.ok ⟨bn,34,frm,0,.osl 902 bf 1 1⟩ _ _ _ _ (by decide) (by decide) 217 [] [ptr _,ptr _] (jJ I g) (w:=-1) (by omega) (fun w m a b=>Iv ok H ⟨by omega,b⟩ (by omega))) rfl rfl ⟨rfl,rfl,rfl,rfl,rfl,rfl,rfl,rfl,rfl,rfl,trivial⟩ (fun h hs=>aN.cons2 hs (kb:=2) (kn:=901) rfl rfl rfl rfl rfl (SC.box rfl) (aN.cons2 hs (kb:=3) (kn:=901) rfl rfl rfl rfl rfl (SC.box rfl) (fun e he=>by cases he))) (fun x hx=>?_) (fun l w' m A len c ps h' hx hm1 hm2 hm3=>?_);rotate_left;(conv=>whnf);intro W)|fail);all_goals try conv=>whnf)
 all_goals first|contradiction|(refine⟨fun h' hs=>W.finN 901 (t:=false) hs hbf rfl rfl rfl hHd (by first|exact hA|exact Ca hA (hb.imp (fun q=>q) fun q=>q.1) hws) (by repeat constructor) ?_ (by omega) (by simp [O5]) rfl⟩;(simp [mW,bnd,want, *];done))|(simp [mW,bnd,want, *];done)
end
end Go.Ex
namespace Go.Ex
open Go.Proofs
attribute [local irreducible] CH X2 word B9
section
variable {I:In}{M:O6}{br:Nat}{t:Bool}{n:Int}{h:A3}{lo:Nat}
theorem Lt{y:Nd}{k:Int}(hy:Wf y)(e:y.kind=k)(h:0<O5 k):0<y.kids.length:=by
 have:=hy.kids.1
 rw [e] at this
 omega
theorem wG{b0:Nat}{x:Nd}(hT:Q2 lo h [] (some ⟨b0,0,none⟩) x)(hw:Wf x):CH Tryz.prog 219 #[ptr b0] h fun v h'=>v=A0 (.prop (cV x))∧A5 h h':=by
 refine Q0 1 [0,2] [] [.val (ptr b0)] Tryz.func219 rfl ?_
 by_cases k29:x.kind=29
 ·have l0:=Lt hw k29 (by decide)
  ((repeat' (conv=>whnf);first|(refine C1.kid 0 hA hTs (by assumption) ?_;intro bq hT0)|(refine VC.mk (by (first|omega|exact Sl.plain (by assumption) (by omega))) ?_)|(refine Br.mk ?_ ?_<;>intro hb<;>(try omega))|(refine A9.kind (by assumption) ?_)|(refine A9.kids (by assumption) ?_;intro A n1 c1 ps1 hA hTs hnl;subst hnl;have hAs:=hA.sl)|fail);all_goals try conv=>whnf)
  all_goals first
   |exact⟨fun h' hs=>⟨B8 (by simp [cV, *]),hs.grows⟩⟩
   |exact⟨fun h' hs=>⟨C0 (by simp [cV, *]),hs.grows⟩⟩
   |exact⟨fun h' hs=>⟨C3 (by simp [cV, *]),hs.grows⟩⟩
 ·((repeat' (conv=>whnf);first|(refine Br.mk ?_ ?_<;>intro hb<;>(try omega))|(refine A9.kind (by assumption) ?_)|fail);all_goals try conv=>whnf)
  all_goals first
   |exact⟨fun h' hs=>⟨B8 (by simp [cV, *]),hs.grows⟩⟩
   |exact⟨fun h' hs=>⟨C0 (by simp [cV, *]),hs.grows⟩⟩
   |exact⟨fun h' hs=>⟨C3 (by simp [cV, *]),hs.grows⟩⟩
end
end Go.Ex
namespace Go.Ex
open Go.Proofs
attribute [local irreducible] CH X2 word B9 cV
section
variable {I:In}{M:O6}{br:Nat}{t:Bool}{n:Int}{h:A3}{lo:Nat}
theorem Ki{b0:Nat}{x:Nd}(ok:C6 I)(hs:HS ⟨h,[br],G5 I M br t n⟩ h)(hB:J4 I M h [br])(hT:Q2 lo h [br] (some ⟨b0,0,none⟩) x)(hw:Wf x):CH Tryz.prog 196 #[ptr br,ptr b0] h fun v h'=>v=A0 (.prop (O4 t x))∧A5 h h':=by
 refine hX 1 [0,1,4,8,9,15] [] [.own 900 br 0,.val (ptr b0)] Tryz.func196 rfl hs ?_
 have hs0:=hs
 have W:=Wd.start ok hB
 by_cases k30:x.kind=30
 ·have l0:=Lt hw k30 (by decide)
  have w0:=hw.kids.2.get 0 l0
  cases t
  ·((repeat' (conv=>whnf);first|(refine C1.kid 0 hA hTs (by assumption) ?_;intro bq hT0)|(refine VC.mk (by (first|omega|exact Sl.plain (by assumption) (by omega))) ?_)|(refine Br.mk ?_ ?_<;>intro hb<;>(try replace hb:=nN hb)<;>(try exact absurd hb (by decide))<;>(try omega))|(refine A9.kind (by assumption) ?_)|(refine A9.kids (by assumption) ?_;intro A n1 c1 ps1 hA hTs hnl;subst hnl;have hAs:=hA.sl)|(refine CK.says (.prop _) (fun h1 hs=>wG (Q2.later (hs.lB.less (c2:=[]) (fun x hx=>by cases hx)) (Nat.le_refl _) _ (by assumption)) (by assumption)) ?_)|fail);all_goals try conv=>whnf)
   all_goals first
    |exact⟨fun h' hs=>⟨B8 (by simp [O4, *]),hs0.gB hs rfl⟩⟩
    |exact⟨fun h' hs=>⟨C0 (by simp [O4, *]),hs0.gB hs rfl⟩⟩
    |exact⟨fun h' hs=>⟨C3 (by simp [O4, *]),hs0.gB hs rfl⟩⟩
  ·((repeat' (conv=>whnf);first|(refine C1.kid 0 hA hTs (by assumption) ?_;intro bq hT0)|(refine VC.mk (by (first|omega|exact Sl.plain (by assumption) (by omega))) ?_)|(refine Br.mk ?_ ?_<;>intro hb<;>(try replace hb:=nN hb)<;>(try exact absurd hb (by decide))<;>(try omega))|(refine A9.kind (by assumption) ?_)|(refine A9.kids (by assumption) ?_;intro A n1 c1 ps1 hA hTs hnl;subst hnl;have hAs:=hA.sl)|fail);all_goals try conv=>whnf)
   all_goals first
    |exact⟨fun h' hs=>⟨B8 (by simp [O4, *]),hs0.gB hs rfl⟩⟩
    |exact⟨fun h' hs=>⟨C0 (by simp [O4, *]),hs0.gB hs rfl⟩⟩
    |exact⟨fun h' hs=>⟨C3 (by simp [O4, *]),hs0.gB hs rfl⟩⟩
 ·cases t
  ·((repeat' (conv=>whnf);first|(refine VC.mk (by omega) ?_)|(refine Br.mk ?_ ?_<;>intro hb<;>(try replace hb:=nN hb)<;>(try exact absurd hb (by decide))<;>(try omega))|(refine A9.kind (by assumption) ?_)|(refine CK.says (.prop _) (fun h1 hs=>wG (Q2.later (hs.lB.less (c2:=[]) (fun x hx=>by cases hx)) (Nat.le_refl _) _ (by assumption)) (by assumption)) ?_)|fail);all_goals try conv=>whnf)
   all_goals first
    |exact⟨fun h' hs=>⟨B8 (by simp [O4, *]),hs0.gB hs rfl⟩⟩
    |exact⟨fun h' hs=>⟨C0 (by simp [O4, *]),hs0.gB hs rfl⟩⟩
    |exact⟨fun h' hs=>⟨C3 (by simp [O4, *]),hs0.gB hs rfl⟩⟩
  ·((repeat' (conv=>whnf);first|(refine VC.mk (by omega) ?_)|(refine Br.mk ?_ ?_<;>intro hb<;>(try replace hb:=nN hb)<;>(try exact absurd hb (by decide))<;>(try omega))|(refine A9.kind (by assumption) ?_)|fail);all_goals try conv=>whnf)
   all_goals first
    |exact⟨fun h' hs=>⟨B8 (by simp [O4, *]),hs0.gB hs rfl⟩⟩
    |exact⟨fun h' hs=>⟨C0 (by simp [O4, *]),hs0.gB hs rfl⟩⟩
    |exact⟨fun h' hs=>⟨C3 (by simp [O4, *]),hs0.gB hs rfl⟩⟩
theorem Zd{cE:List Nat}{hE:A3}{its:List It}{S:St}{b0:Nat}{x:Nd}(W:Wd I M cE hE S.h0 S.cap its)(hi:It.one (some ⟨b0,0,none⟩) x∈its)(hs:HS S h)(hf:B3 S.ch 900=some (br,H5 I M t n)):CH Tryz.prog 196 #[ptr br,ptr b0] h fun v h'=>v=A0 (.prop (O4 t x))∧A5 h h':=
 Ki W.ok (L9 hs hf) (W.base.at1 hs hf) (Q2.later (hs.lB.less (oI hf)) (Nat.le_refl _) x (W.one hi)) (W.wf hi)
end
end Go.Ex
namespace Go.Ex
open Go.Proofs
attribute [local irreducible] CH X2 word B9
structure TS where
 h:A3
 m:Int
 b:Nat
 x:Nd
theorem Wd.headB{I:In}{M:O6}{cE:List Nat}{hE h0:A3}{cap:List Nat}{its:List It}{b:Nat}{x:Nd}(W:Wd I M cE hE h0 cap (.one (some ⟨b,0,none⟩) x::its)):∃ b',b'=b:=⟨b,rfl⟩
abbrev BQ(I:In)(M:O6)(br b1:Nat)(t:Bool)(x:TS):L8:=G5 I M br t x.m++[(1,b1,.box 78 [.own 900 br 0])]
section
variable {I:In}{M:O6}{g:Gt}{N:Int}{t:Bool}{n:Int}
theorem Hc(ok:C6 I)(H:O8 I M g N)(hn:0≤n∧n≤I.L)(hN:32*(I.L+1-n)+7≤N):N3 I M 170 [] (W3 I g t n) t n 1:=fun br h hs hB=>by
 refine O9 1 [1,2,3,4,5,6,21,27,33,39] [] [.own 900 br 0] Tryz.func170 rfl hs ?_
 have W:=Wd.start ok hB
 have hl:=ok.len
 ((repeat' (conv=>whnf);first|(refine VC.mk (by omega) ?_)|(refine E5.mk ?_;intro b hb)|(refine CK.con W (H (.operand) _ _ (by simp only [C5,A6];omega) (by omega) (by exact trivial)) rfl rfl (fun x hx=>?_) (fun x m bq h' hx hm1 hm2=>?_);rotate_left;(try dsimp only [D1] at hm1);(conv=>whnf);intro W)|fail);all_goals try conv=>whnf)
 case refine_1=>simp [W3,bnd, *]
 obtain⟨R,hR⟩:∃ R,X4 I g t n (F6 I m) x m=R:=⟨_,rfl⟩
 have hRS:W3 I g t n=R:=by simp only [W3,hx,E2,hR]
 rw [hRS]
 refine gG tO [4] (fun x:TS=>[(4,.val (.pointer (some ⟨x.b,0,none⟩)))]) (fun x=>⟨x.h,blks (BQ I M br b t x),BQ I M br b t x⟩)
  (fun μ x=>Wd I M [br] h x.h (blks (BQ I M br b t x)) [.one (some ⟨x.b,0,none⟩) x.x]∧(n+1≤x.m∧x.m≤I.L∧I.L+1-x.m≤μ)∧X4 I g t n μ x.x x.m=R) ?_
 conv=>whnf
 refine⟨fun h1 hs=>?_,?_⟩
 ·refine⟨F6 I m,⟨h1,m,bq,x⟩,⟨(W.anew (hs.lB.less (F3.blks (ks:=[900,1]) (L:=BQ I M br b t ⟨h1,m,bq,x⟩) (B4 rfl rfl (B4 rfl rfl E8))))).of (fun e he=>?_),⟨by dsimp only;omega,hm2,by dsimp only [F6];omega⟩,hR⟩,?_,hs.again [900,1] (B4 rfl rfl (B4 rfl rfl E8))⟩
  ·simp only [mL,or_false] at he ⊢
   exact he
  ·refine And.intro ⟨_,rfl,by first|rfl|(simp [B0,A1,A0];done)⟩ ?_
   (repeat (refine And.intro ⟨_,rfl,rfl⟩ ?_));exact trivial
 clear hm1 hm2 W hR hRS hx
 revert b
 intro b1 hb1
 rintro μ ⟨h1,mm,bx,x0⟩ ⟨W,⟨r0,r1,r2⟩,r4⟩
 dsimp only [BQ] at W r0 r1 r2 r4 ⊢
 obtain⟨f,rfl⟩:∃ f,μ=f+1:=⟨μ-1,by omega⟩
 simp only [X4] at r4
 by_cases w0:word I mm=(⟨#[46]⟩:ByteArray)
 ·have hlt:=T9 w0 (by decide)
  rw [if_pos w0] at r4
  ((repeat' (conv=>whnf);first|(refine VC.mk (by (first|omega|(and_intros<;>first|rfl|(simp only [maxLen];omega)))) ?_)|(refine Br.mk ?_ ?_<;>intro hb<;>(try replace hb:=nN hb)<;>(try exact absurd hb (by decide))<;>(try (exact absurd rfl hb)))|(refine E5.mk ?_;intro b hb)|(refine A7 ?_ fun h1 hs=>F5 W.ok W.base hs rfl (by assumption))|(refine CK.conN 17 15 (.tup []) W (Tu W.ok H _ _ _ (by omega) (by omega) (by omega)) rfl rfl rfl rfl rfl rfl rfl (fun h hs=>⟨fun hm=>hs.ne (k:=17) (k':=900) rfl rfl (by decide) (List.mem_singleton.1 hm),fun hm=>hs.ne (k:=15) (k':=900) rfl rfl (by decide) (List.mem_singleton.1 hm)⟩) (by repeat constructor) rfl (fun x hx=>?_) (fun x' m' h' hx hm1 hm2=>?_);rotate_left;(conv=>whnf);intro W)|fail);all_goals try conv=>whnf)
  all_goals first
   |(rw [←r4,hx];rfl)
   | (rw [hx,E2] at r4
      obtain⟨bb,hbb⟩:=W.headB
      subst hbb
      intro h2 hs
      refine⟨f,⟨h2,m',bb,x'⟩,⟨(W.anew (hs.lB.less (F3.blks (ks:=[900,1]) (L:=[(900,br,H5 I M t (m')),(1,b1,.box 78 [.own 900 br 0])]) (B4 rfl rfl (B4 rfl rfl E8))))).of (fun e he=>?_),⟨by dsimp only;omega,by dsimp only;omega,by dsimp only;omega⟩,r4⟩,Nat.lt_succ_self f,?_,hs.again [900,1] (L:=[(900,br,H5 I M t (m')),(1,b1,.box 78 [.own 900 br 0])]) (B4 rfl rfl (B4 rfl rfl E8))⟩
      ·exact List.mem_cons.2 (.inl (List.mem_singleton.1 he))
      ·refine And.intro ⟨_,rfl,by first|rfl|(simp [B0,A1,A0];done)⟩ ?_
       (repeat (refine And.intro ⟨_,rfl,rfl⟩ ?_));exact trivial)
   | (rw [hx,E2] at r4
      obtain⟨bb,hbb⟩:=W.headB
      subst hbb
      intro h2 hs
      refine⟨f,⟨h2,m,bb,(.mk 39 (-1) n m [x0,x])⟩,⟨(W.anew (hs.lB.less (F3.blks (ks:=[900,1]) (L:=[(900,br,H5 I M t (m)),(1,b1,.box 78 [.own 900 br 0])]) (B4 rfl rfl (B4 rfl rfl E8))))).of (fun e he=>?_),⟨by dsimp only;omega,by dsimp only;omega,by dsimp only;omega⟩,r4⟩,Nat.lt_succ_self f,?_,hs.again [900,1] (L:=[(900,br,H5 I M t (m)),(1,b1,.box 78 [.own 900 br 0])]) (B4 rfl rfl (B4 rfl rfl E8))⟩
      ·exact List.mem_cons.2 (.inl (List.mem_singleton.1 he))
      ·refine And.intro ⟨_,rfl,by first|rfl|(simp [B0,A1,A0];done)⟩ ?_
       (repeat (refine And.intro ⟨_,rfl,rfl⟩ ?_));exact trivial)
   |(exfalso;have:=w3.2;contradiction)
   |(exfalso;apply w3;constructor<;>assumption)
   |(refine W.fn rfl (by repeat constructor) ?_ (by omega);exact r4.symm)
 by_cases w1:word I mm=(⟨#[40]⟩:ByteArray)
 ·have hlt:=T9 w1 (by decide)
  rw [if_neg w0,if_pos w1] at r4
  ((repeat' (conv=>whnf);first|(refine VC.mk (by (first|omega|(and_intros<;>first|rfl|(simp only [maxLen];omega)))) ?_)|(refine Br.mk ?_ ?_<;>intro hb<;>(try replace hb:=nN hb)<;>(try exact absurd hb (by decide))<;>(try (exact absurd rfl hb)))|(refine E5.mk ?_;intro b hb)|(refine A7 ?_ fun h1 hs=>F5 W.ok W.base hs rfl (by assumption))|(refine CK.conN 17 15 (.own 17 _ 0) W (Fq W.ok H _ _ _ (by omega) (by omega) (by omega)) rfl rfl rfl rfl rfl rfl rfl (fun h hs=>⟨fun hm=>hs.ne (k:=17) (k':=900) rfl rfl (by decide) (List.mem_singleton.1 hm),fun hm=>hs.ne (k:=15) (k':=900) rfl rfl (by decide) (List.mem_singleton.1 hm)⟩) (by repeat constructor) rfl (fun x hx=>?_) (fun x' m' h' hx hm1 hm2=>?_);rotate_left;(conv=>whnf);intro W)|(refine CK.inline (rep:=rep) tO Tryz.func98 rfl (by decide) (rs:=[.tmp 4]) rfl 4 [4,5,6] [] rfl rfl rfl ?_)|(refine CK.inline (rep:=rep) tO Tryz.func192 rfl (by decide) (rs:=[.tmp 2]) rfl 4 [2] [] rfl rfl rfl ?_)|fail);all_goals try conv=>whnf)
  all_goals first
   |(rw [←r4,hx];rfl)
   | (rw [hx,E2] at r4
      obtain⟨bb,hbb⟩:=W.headB
      subst hbb
      intro h2 hs
      refine⟨f,⟨h2,m',bb,x'⟩,⟨(W.anew (hs.lB.less (F3.blks (ks:=[900,1]) (L:=[(900,br,H5 I M t (m')),(1,b1,.box 78 [.own 900 br 0])]) (B4 rfl rfl (B4 rfl rfl E8))))).of (fun e he=>?_),⟨by dsimp only;omega,by dsimp only;omega,by dsimp only;omega⟩,r4⟩,Nat.lt_succ_self f,?_,hs.again [900,1] (L:=[(900,br,H5 I M t (m')),(1,b1,.box 78 [.own 900 br 0])]) (B4 rfl rfl (B4 rfl rfl E8))⟩
      ·exact List.mem_cons.2 (.inl (List.mem_singleton.1 he))
      ·refine And.intro ⟨_,rfl,by first|rfl|(simp [B0,A1,A0];done)⟩ ?_
       (repeat (refine And.intro ⟨_,rfl,rfl⟩ ?_));exact trivial)
   | (rw [hx,E2] at r4
      obtain⟨bb,hbb⟩:=W.headB
      subst hbb
      intro h2 hs
      refine⟨f,⟨h2,m,bb,(.mk 39 (-1) n m [x0,x])⟩,⟨(W.anew (hs.lB.less (F3.blks (ks:=[900,1]) (L:=[(900,br,H5 I M t (m)),(1,b1,.box 78 [.own 900 br 0])]) (B4 rfl rfl (B4 rfl rfl E8))))).of (fun e he=>?_),⟨by dsimp only;omega,by dsimp only;omega,by dsimp only;omega⟩,r4⟩,Nat.lt_succ_self f,?_,hs.again [900,1] (L:=[(900,br,H5 I M t (m)),(1,b1,.box 78 [.own 900 br 0])]) (B4 rfl rfl (B4 rfl rfl E8))⟩
      ·exact List.mem_cons.2 (.inl (List.mem_singleton.1 he))
      ·refine And.intro ⟨_,rfl,by first|rfl|(simp [B0,A1,A0];done)⟩ ?_
       (repeat (refine And.intro ⟨_,rfl,rfl⟩ ?_));exact trivial)
   |(exfalso;have:=w3.2;contradiction)
   |(exfalso;apply w3;constructor<;>assumption)
   |(refine W.fn rfl (by repeat constructor) ?_ (by omega);exact r4.symm)
 by_cases w2:word I mm=(⟨#[91]⟩:ByteArray)
 ·have hlt:=T9 w2 (by decide)
  rw [if_neg w0,if_neg w1,if_pos w2] at r4
  ((repeat' (conv=>whnf);first|(refine VC.mk (by (first|omega|(and_intros<;>first|rfl|(simp only [maxLen];omega)))) ?_)|(refine Br.mk ?_ ?_<;>intro hb<;>(try replace hb:=nN hb)<;>(try exact absurd hb (by decide))<;>(try (exact absurd rfl hb)))|(refine E5.mk ?_;intro b hb)|(refine A7 ?_ fun h1 hs=>F5 W.ok W.base hs rfl (by assumption))|(refine CK.conN 17 15 (.own 17 _ 0) W (Ai W.ok H _ _ _ (by omega) (by omega) (by omega)) rfl rfl rfl rfl rfl rfl rfl (fun h hs=>⟨fun hm=>hs.ne (k:=17) (k':=900) rfl rfl (by decide) (List.mem_singleton.1 hm),fun hm=>hs.ne (k:=15) (k':=900) rfl rfl (by decide) (List.mem_singleton.1 hm)⟩) (by repeat constructor) rfl (fun x hx=>?_) (fun x' m' h' hx hm1 hm2=>?_);rotate_left;(conv=>whnf);intro W)|(refine CK.inline (rep:=rep) tO Tryz.func98 rfl (by decide) (rs:=[.tmp 4]) rfl 4 [4,5,6] [] rfl rfl rfl ?_)|(refine CK.inline (rep:=rep) tO Tryz.func194 rfl (by decide) (rs:=[.tmp 2]) rfl 4 [2] [] rfl rfl rfl ?_)|fail);all_goals try conv=>whnf)
  all_goals first
   |(rw [←r4,hx];rfl)
   | (rw [hx,E2] at r4
      obtain⟨bb,hbb⟩:=W.headB
      subst hbb
      intro h2 hs
      refine⟨f,⟨h2,m',bb,x'⟩,⟨(W.anew (hs.lB.less (F3.blks (ks:=[900,1]) (L:=[(900,br,H5 I M t (m')),(1,b1,.box 78 [.own 900 br 0])]) (B4 rfl rfl (B4 rfl rfl E8))))).of (fun e he=>?_),⟨by dsimp only;omega,by dsimp only;omega,by dsimp only;omega⟩,r4⟩,Nat.lt_succ_self f,?_,hs.again [900,1] (L:=[(900,br,H5 I M t (m')),(1,b1,.box 78 [.own 900 br 0])]) (B4 rfl rfl (B4 rfl rfl E8))⟩
      ·exact List.mem_cons.2 (.inl (List.mem_singleton.1 he))
      ·refine And.intro ⟨_,rfl,by first|rfl|(simp [B0,A1,A0];done)⟩ ?_
       (repeat (refine And.intro ⟨_,rfl,rfl⟩ ?_));exact trivial)
   | (rw [hx,E2] at r4
      obtain⟨bb,hbb⟩:=W.headB
      subst hbb
      intro h2 hs
      refine⟨f,⟨h2,m,bb,(.mk 39 (-1) n m [x0,x])⟩,⟨(W.anew (hs.lB.less (F3.blks (ks:=[900,1]) (L:=[(900,br,H5 I M t (m)),(1,b1,.box 78 [.own 900 br 0])]) (B4 rfl rfl (B4 rfl rfl E8))))).of (fun e he=>?_),⟨by dsimp only;omega,by dsimp only;omega,by dsimp only;omega⟩,r4⟩,Nat.lt_succ_self f,?_,hs.again [900,1] (L:=[(900,br,H5 I M t (m)),(1,b1,.box 78 [.own 900 br 0])]) (B4 rfl rfl (B4 rfl rfl E8))⟩
      ·exact List.mem_cons.2 (.inl (List.mem_singleton.1 he))
      ·refine And.intro ⟨_,rfl,by first|rfl|(simp [B0,A1,A0];done)⟩ ?_
       (repeat (refine And.intro ⟨_,rfl,rfl⟩ ?_));exact trivial)
   |(exfalso;have:=w3.2;contradiction)
   |(exfalso;apply w3;constructor<;>assumption)
   |(refine W.fn rfl (by repeat constructor) ?_ (by omega);exact r4.symm)
 by_cases w3:word I mm=(⟨#[123]⟩:ByteArray)∧O4 t x0
 ·have w4:=w3.1
  have hlt:=T9 w4 (by decide)
  rw [if_neg w0,if_neg w1,if_neg w2,if_pos w3] at r4
  ((repeat' (conv=>whnf);first|(refine C2 (id:=14) (.pl [2] (.alt 0 (.br 1 3 (.on [3,4,5] .e) (.bp 1 4 (.on [5] .e))) (.alt 1 (.br 0 3 (.on [3,4,5] .e) (.bp 0 4 (.on [5] .e))) (.alt 3 (.alt 0 (.bp 1 4 (.on [5] .e)) (.alt 1 (.bp 0 4 (.on [5] .e)) (.alt 4 (.pl [0,1] (.on [5] .e)) .e))) .e)))) (by kernel_rfl) ?_)|(refine VC.mk (by (first|omega|(and_intros<;>first|rfl|(simp only [maxLen];omega)))) ?_)|(refine Br.mk ?_ ?_<;>intro hb<;>(try replace hb:=nN hb)<;>(try exact absurd hb (by decide))<;>(try (exact absurd rfl hb)))|(refine E5.mk ?_;intro b hb)|(refine dD.mk ?_ ?_)|(refine dD.mk ?_ ?_)|(refine A7 ?_ fun h1 hs=>F5 W.ok W.base hs rfl (by assumption))|(refine CK.says (.prop _) (fun h1 hs=>Zd W (by repeat constructor) hs rfl) ?_)|(refine CK.con W (H (.elements) _ _ (by simp only [C5,A6];omega) (by omega) (by exact trivial)) rfl rfl (fun x hx=>?_) (fun x m bq h' hx hm1 hm2=>?_);rotate_left;(try dsimp only [D1] at hm1);(conv=>whnf);intro W)|(refine CK.close1O 17 15 W rfl rfl rfl rfl rfl rfl rfl (fun h hs=>⟨fun hm=>hs.ne (k:=17) (k':=900) rfl rfl (by decide) (List.mem_singleton.1 hm),fun hm=>hs.ne (k:=15) (k':=900) rfl rfl (by decide) (List.mem_singleton.1 hm)⟩) rfl rfl rfl rfl rfl rfl rfl (rC W (by repeat constructor) (rN)) (rC W (by repeat constructor) (rN)) (by simp [O5]) (by simp) ?_;intro h';(conv=>whnf);intro W)|fail);all_goals try conv=>whnf)
  all_goals first
   |(rw [←r4,hx];rfl)
   | (rw [hx,E2] at r4
      obtain⟨bb,hbb⟩:=W.headB
      subst hbb
      intro h2 hs
      refine⟨f,⟨h2,m',bb,x'⟩,⟨(W.anew (hs.lB.less (F3.blks (ks:=[900,1]) (L:=[(900,br,H5 I M t (m')),(1,b1,.box 78 [.own 900 br 0])]) (B4 rfl rfl (B4 rfl rfl E8))))).of (fun e he=>?_),⟨by dsimp only;omega,by dsimp only;omega,by dsimp only;omega⟩,r4⟩,Nat.lt_succ_self f,?_,hs.again [900,1] (L:=[(900,br,H5 I M t (m')),(1,b1,.box 78 [.own 900 br 0])]) (B4 rfl rfl (B4 rfl rfl E8))⟩
      ·exact List.mem_cons.2 (.inl (List.mem_singleton.1 he))
      ·refine And.intro ⟨_,rfl,by first|rfl|(simp [B0,A1,A0];done)⟩ ?_
       (repeat (refine And.intro ⟨_,rfl,rfl⟩ ?_));exact trivial)
   | (rw [hx,E2] at r4
      obtain⟨bb,hbb⟩:=W.headB
      subst hbb
      intro h2 hs
      refine⟨f,⟨h2,m,bb,(.mk 39 (-1) n m [x0,x])⟩,⟨(W.anew (hs.lB.less (F3.blks (ks:=[900,1]) (L:=[(900,br,H5 I M t (m)),(1,b1,.box 78 [.own 900 br 0])]) (B4 rfl rfl (B4 rfl rfl E8))))).of (fun e he=>?_),⟨by dsimp only;omega,by dsimp only;omega,by dsimp only;omega⟩,r4⟩,Nat.lt_succ_self f,?_,hs.again [900,1] (L:=[(900,br,H5 I M t (m)),(1,b1,.box 78 [.own 900 br 0])]) (B4 rfl rfl (B4 rfl rfl E8))⟩
      ·exact List.mem_cons.2 (.inl (List.mem_singleton.1 he))
      ·refine And.intro ⟨_,rfl,by first|rfl|(simp [B0,A1,A0];done)⟩ ?_
       (repeat (refine And.intro ⟨_,rfl,rfl⟩ ?_));exact trivial)
   |(exfalso;have:=w3.2;contradiction)
   |(exfalso;apply w3;constructor<;>assumption)
   |(refine W.fn rfl (by repeat constructor) ?_ (by omega);exact r4.symm)
 ·rw [if_neg w0,if_neg w1,if_neg w2,if_neg w3] at r4
  ((repeat' (conv=>whnf);first|(refine VC.mk (by (first|omega|(and_intros<;>first|rfl|(simp only [maxLen];omega)))) ?_)|(refine Br.mk ?_ ?_<;>intro hb<;>(try replace hb:=nN hb)<;>(try exact absurd hb (by decide))<;>(try (have hlt:=T9 hb (by decide)))<;>(try (contradiction)))|(refine E5.mk ?_;intro b hb)|(refine A7 ?_ fun h1 hs=>E0 W.ok W.base hs rfl)|(refine CK.says (.prop _) (fun h1 hs=>Zd W (by repeat constructor) hs rfl) ?_)|fail);all_goals try conv=>whnf)
  all_goals first
   |(rw [←r4,hx];rfl)
   | (rw [hx,E2] at r4
      obtain⟨bb,hbb⟩:=W.headB
      subst hbb
      intro h2 hs
      refine⟨f,⟨h2,m',bb,x'⟩,⟨(W.anew (hs.lB.less (F3.blks (ks:=[900,1]) (L:=[(900,br,H5 I M t (m')),(1,b1,.box 78 [.own 900 br 0])]) (B4 rfl rfl (B4 rfl rfl E8))))).of (fun e he=>?_),⟨by dsimp only;omega,by dsimp only;omega,by dsimp only;omega⟩,r4⟩,Nat.lt_succ_self f,?_,hs.again [900,1] (L:=[(900,br,H5 I M t (m')),(1,b1,.box 78 [.own 900 br 0])]) (B4 rfl rfl (B4 rfl rfl E8))⟩
      ·exact List.mem_cons.2 (.inl (List.mem_singleton.1 he))
      ·refine And.intro ⟨_,rfl,by first|rfl|(simp [B0,A1,A0];done)⟩ ?_
       (repeat (refine And.intro ⟨_,rfl,rfl⟩ ?_));exact trivial)
   | (rw [hx,E2] at r4
      obtain⟨bb,hbb⟩:=W.headB
      subst hbb
      intro h2 hs
      refine⟨f,⟨h2,m,bb,(.mk 39 (-1) n m [x0,x])⟩,⟨(W.anew (hs.lB.less (F3.blks (ks:=[900,1]) (L:=[(900,br,H5 I M t (m)),(1,b1,.box 78 [.own 900 br 0])]) (B4 rfl rfl (B4 rfl rfl E8))))).of (fun e he=>?_),⟨by dsimp only;omega,by dsimp only;omega,by dsimp only;omega⟩,r4⟩,Nat.lt_succ_self f,?_,hs.again [900,1] (L:=[(900,br,H5 I M t (m)),(1,b1,.box 78 [.own 900 br 0])]) (B4 rfl rfl (B4 rfl rfl E8))⟩
      ·exact List.mem_cons.2 (.inl (List.mem_singleton.1 he))
      ·refine And.intro ⟨_,rfl,by first|rfl|(simp [B0,A1,A0];done)⟩ ?_
       (repeat (refine And.intro ⟨_,rfl,rfl⟩ ?_));exact trivial)
   |(exfalso;have:=w3.2;contradiction)
   |(exfalso;apply w3;constructor<;>assumption)
   |(refine W.fn rfl (by repeat constructor) ?_ (by omega);exact r4.symm)
end
end Go.Ex
