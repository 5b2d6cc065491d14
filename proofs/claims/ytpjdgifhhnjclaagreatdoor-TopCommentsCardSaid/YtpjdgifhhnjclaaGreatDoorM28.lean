/-
  Top: TopComments: whatever the input, the law answers true (part 28)
-/
import Derived.MapKept
import Derived.Test.YtpjdgifhhnjclaaGreatDoorM24
set_option linter.unusedVariables false
set_option linter.unusedSimpArgs false
set_option maxHeartbeats 4000000
set_option maxRecDepth 10000
namespace Go.Ex
open Go.Proofs
attribute [local irreducible] CH X2 word B9
section
variable {I:In}{M:O6}{g:Gt}{N:Int}{t:Bool}{n:Int}
theorem Ag(ok:C6 I)(H:O8 I M g N){br b1:Nat}{w:Int}(hn:0≤n∧n≤I.L)(hN:32*(I.L+1-n)+6≤N):Rq I M br 178 [ptr b1] none [(b1,.box 78 [.val (ptr br)])] (pl (dJ g t)) t w n:=fun h hs hB hbx=>by
 have key:Ov I M br 178 [ptr b1] [(b1,.box 78 [.val (ptr br)])] (dJ g t n) t n 1:=fun h hs hB hbx=>by
  refine O9 1 [0,1,2,3] [] [.val (ptr b1)] Tryz.func178 rfl hs ?_
  have W:=(Wd.start ok hB).add (i:=.bxs [(b1,.box 78 [.val (ptr br)])]) hbx
  have hl:=ok.len
  ((repeat' (conv=>whnf);first|(refine C2 (id:=3) (.pl [1,2,3] (.br 0 4 (.on [4,5,6] (.pl [7] .e)) (.bp 0 5 (.on [6] (.pl [7] .e))))) (by kernel_rfl) ?_)|(refine VC.mk (by (first|omega|(and_intros<;>first|rfl|(simp only [maxLen];omega)))) ?_)|(refine E5.mk ?_;intro b hb)|(refine dD.mk ?_ ?_)|(refine A9.box W (by repeat constructor) (by repeat constructor) ?_)|(refine CK.box 901 _ (fun h1 hs=>D9 hs rfl 17) ?_;intro bo hbo)|(refine F2 W (H .names _ _ (by simp only [C5,A6];omega) (by omega) trivial) rfl rfl (fun x m bq h' hx hm1 hm2=>?_) fun x hx=>?_;(try dsimp only [D1] at hm1);(conv=>whnf);intro W)|(refine F2 W (H .union _ _ (by simp only [C5,A6];omega) (by omega) trivial) rfl rfl (fun x m bq h' hx hm1 hm2=>?_) fun x hx=>?_;(try dsimp only [D1] at hm1);(conv=>whnf);intro W)|(refine CK.cO 901 W rfl rfl rfl (fun h hs hm=>hs.ne (k:=901) (k':=900) rfl rfl (by decide) (List.mem_singleton.1 hm)) rfl rfl rfl rfl rfl rfl (rC W (by repeat constructor) (rC W (by repeat constructor) (rN))) (by simp [O5]) (by simp) ?_;intro h';(conv=>whnf);intro W)|fail);all_goals try conv=>whnf)
  all_goals first|(refine W.fn rfl (by repeat constructor) ?_ (by omega);(simp [dJ,bnd,want, *];done))|(simp [dJ,bnd,want, *];done)|contradiction
 refine (key h hs hB hbx).mono (fun v h' ⟨x,m,u,h1,h2,h3,h4⟩=>⟨x,m,u,by rw [pl,h1];rfl,h2,h3,h4⟩) fun v h' ⟨x,n',p,h1,h2,h3,h4,h5,h6⟩=>⟨x,w,n',p,by rw [pl,h1];rfl,h2,h3,h4,h5,h6⟩
theorem Ra(ok:C6 I)(H:O8 I M g N)(hn:0≤n∧n≤I.L)(hN:32*(I.L+1-n)+1≤N):N3 I M 152 [] (Z2 I g t n) t n 1:=fun br h hs hB=>by
 refine O9 1 [1,2,3,4,14] [] [.own 900 br 0] Tryz.func152 rfl hs ?_
 have W:=Wd.start ok hB
 have hl:=ok.len
 ((repeat' (conv=>whnf);first|(refine Ar.fit (by omega) ?_)|(refine VC.mk (by omega) ?_)|(refine Br.mk ?_ ?_<;>intro hb<;>(try replace hb:=nN hb)<;>(try exact absurd hb (by decide))<;>(try (have hlt:=T9 hb (by decide))))|(refine E5.mk ?_;intro b hb)|(refine CK.box 901 _ (fun h1 hs=>D9 hs rfl 16) ?_;intro bo hbo)|(refine CK.want W (by decide) (by omega) rfl rfl (fun hx=>?_) (fun hx hm=>?_);rotate_left)|(refine CK.fail W rfl rfl (by omega) ?_)|(refine CK.cH 901 W rfl rfl rfl (fun h hs hm=>hs.ne (k:=901) (k':=900) rfl rfl (by decide) (List.mem_singleton.1 hm)) rfl rfl (by repeat constructor) (by decide) (by omega) ?_;intro h';(conv=>whnf);intro W)|(apply V9.pure;case hh=>intro h1 hs;exact T1 W.ok W.base hs rfl _)|(refine CK.rowsB W (wD W.ok [(_,.box 78 [.val (ptr br)])] _ _ _ (by decide) (by decide) 178 [] [ptr _] (pl (dJ g t)) (w:=-1) (by omega) (fun w m a b=>Ag ok H ⟨by omega,b⟩ (by omega))) rfl rfl (fun h hs=>aN.one hs (kb:=1) rfl rfl rfl (SC.box rfl) aN.nil) (fun x hx=>?_) (fun l w' m A len c ps h' hx hm1 hm2 hm3=>?_);rotate_left;(conv=>whnf);intro W)|(refine (drawn tO mixed (by kernel_rfl) ?_))|fail);all_goals try conv=>whnf)
 all_goals first|(refine W.fn rfl (by repeat constructor) ?_ (by omega);(simp [Z2,bnd,want, *];done))|(simp [Z2,bnd,want, *];done)|contradiction
end
end Go.Ex
namespace Go.Ex
open Go.Proofs
attribute [local irreducible] CH X2 word B9
section
variable {I:In}{M:O6}{g:Gt}{N:Int}{t:Bool}{n:Int}
theorem Kg(ok:C6 I)(H:O8 I M g N)(hn:0≤n∧n≤I.L)(hN:32*(I.L+1-n)+13≤N):N3 I M 173 [] (Z4 I g t n) t n 1:=fun br h hs hB=>by
 refine O9 1 [0,2,3] [] [.own 900 br 0] Tryz.func173 rfl hs ?_
 have W:=Wd.start ok hB
 have hl:=ok.len
 ((repeat' (conv=>whnf);first|(refine Ar.fit (by omega) ?_)|(refine VC.mk (by (first|omega|exact Sl.plain (by assumption) (by omega)|(and_intros<;>first|rfl|(simp only [maxLen];omega)))) ?_)|(refine Br.mk ?_ ?_<;>intro hb<;>(try replace hb:=nN hb)<;>(try exact absurd hb (by decide))<;>(try (first|have hlt:=T9 hb (by decide)|have hlt:=Hv hb))<;>(try (contradiction)))|(refine E5.mk ?_;intro b hb)|(refine A7 ?_ fun h1 hs=>E0 W.ok W.base hs rfl)|(refine CK.box 901 _ (fun h1 hs=>D9 hs rfl 0) ?_;intro bo hbo)|(refine F2 W (H .exprs _ _ (by simp only [C5,A6];omega) (by omega) trivial) rfl rfl (fun x m bq h' hx hm1 hm2=>?_) fun x hx=>?_;(try dsimp only [D1] at hm1);(conv=>whnf);intro W)|(refine F2 W (H .expr _ _ (by simp only [C5,A6];omega) (by omega) trivial) rfl rfl (fun x m bq h' hx hm1 hm2=>?_) fun x hx=>?_;(try dsimp only [D1] at hm1);(conv=>whnf);intro W)|(refine CK.says (.prop _) (fun h1 hs=>pO _ h1) ?_)|(refine CK.cO 901 W rfl rfl rfl (fun h hs hm=>hs.ne (k:=901) (k':=900) rfl rfl (by decide) (List.mem_singleton.1 hm)) rfl rfl rfl rfl rfl rfl (rC W (by repeat constructor) (rC W (by repeat constructor) (rN))) (by simp [O5]) (by simp) ?_;intro h';(conv=>whnf);intro W)|(refine CK.cO 901 W rfl rfl rfl (fun h hs hm=>hs.ne (k:=901) (k':=900) rfl rfl (by decide) (List.mem_singleton.1 hm)) rfl rfl rfl rfl rfl rfl (rC W (by repeat constructor) (rN)) (by simp [O5]) (by simp) ?_;intro h';(conv=>whnf);intro W)|(refine CK.fail W rfl rfl (by omega) ?_)|(refine CK.inline (rep:=rep) tO Tryz.func206 rfl (by decide) (rs:=[.tmp 6]) rfl 4 [6,7,8,12,42,51,52,77] [] rfl rfl rfl ?_)|(refine A9.kids (W.one (by repeat constructor)) ?_;intro A n1 c1 ps1 hA hTs hnl;subst hnl;have hAs:=hA.sl)|(refine C1.kid 0 hA hTs (by omega) ?_;intro bq hT0;have W:=W.kid (by repeat constructor) hT0 (by omega))|fail);all_goals try conv=>whnf)
 all_goals first|(refine W.fn rfl (by repeat constructor) ?_ (by omega);(simp [Z4,U3,bnd,want, *];done))|(simp [Z4,U3,bnd,want, *];done)|(refine W.fn rfl (by repeat constructor) ?_ (by omega);(simp [Z4,U3,M4,bnd,want, *];done))|(simp [Z4,U3,M4,bnd,want, *];done)|contradiction
end
end Go.Ex
namespace Go.Ex
open Go.Proofs
attribute [local irreducible] CH X2 word B9
section
variable {I:In}{M:O6}{g:Gt}{N:Int}{t:Bool}{n:Int}
theorem Hx(ok:C6 I)(H:O8 I M g N)(hs0:n<I.L)(hn:0≤n∧n≤I.L)(hN:32*(I.L+1-n)+2≤N):N3 I M 202 [] (zH I g t n) t n 1:=fun br h hs hB=>by
 refine O9 1 [0,2,3,4,5,6,7,8,22,29,35,46,52] [] [.own 900 br 0] Tryz.func202 rfl hs ?_
 have W:=Wd.start ok hB
 have hl:=ok.len
 ((repeat' (conv=>whnf);first|(refine Ar.fit (by omega) ?_)|(refine VC.mk (by (first|omega|exact Sl.plain (by assumption) (by omega)|(and_intros<;>first|rfl|(simp only [maxLen];omega)))) ?_)|(refine Br.mk ?_ ?_<;>intro hb<;>(try replace hb:=nN hb)<;>(try exact absurd hb (by decide))<;>(try (have hlt:=T9 hb (by decide)))<;>(try omega))|(refine E5.mk ?_;intro b hb)|(refine A7 ?_ fun h1 hs=>E0 W.ok W.base hs rfl)|(refine CK.box 901 _ (fun h1 hs=>D9 hs rfl 59) ?_;intro bo hbo)|(refine CK.sure W (G0 0 (by decide) (by omega)) rfl rfl ?_;intro bq h';(conv=>whnf);intro W)|(refine F2 W (H .simple _ _ (by simp only [C5,A6];omega) (by omega) trivial) rfl rfl (fun x m bq h' hx hm1 hm2=>?_) fun x hx=>?_;(try dsimp only [D1] at hm1);(conv=>whnf);intro W)|(refine F2 W (H .expr _ _ (by simp only [C5,A6];omega) (by omega) trivial) rfl rfl (fun x m bq h' hx hm1 hm2=>?_) fun x hx=>?_;(try dsimp only [D1] at hm1);(conv=>whnf);intro W)|(refine F2 W (H .block _ _ (by simp only [C5,A6];omega) (by omega) trivial) rfl rfl (fun x m bq h' hx hm1 hm2=>?_) fun x hx=>?_;(try dsimp only [D1] at hm1);(conv=>whnf);intro W)|(refine CK.con W (H (.ifs) _ _ (by simp only [C5,A6];omega) (by omega) (by (simp only [bL];omega))) rfl rfl (fun x hx=>?_) (fun x m bq h' hx hm1 hm2=>?_);rotate_left;(try dsimp only [D1] at hm1);(conv=>whnf);intro W)|(refine CK.want W (by decide) (by omega) rfl rfl (fun hx=>?_) (fun hx hm=>?_);rotate_left)|(refine CK.maybe W.ok W.base (by decide) rfl rfl (fun hx hm=>?_) (fun hx=>?_))|(refine qM ?_)|(refine rO ?_)|(refine A9.kind (W.one (by repeat constructor)) ?_)|(refine CK.fail W rfl rfl (by omega) ?_)|(refine CK.cO 901 W rfl rfl rfl (fun h hs hm=>hs.ne (k:=901) (k':=900) rfl rfl (by decide) (List.mem_singleton.1 hm)) rfl rfl rfl rfl rfl rfl (rC W (by repeat constructor) (rC W (by repeat constructor) (rC W (by repeat constructor) (rC W (by repeat constructor) (rN))))) (by simp [O5]) (by simp) ?_;intro h';(conv=>whnf);intro W)|(refine CK.inline (rep:=rep) tO Tryz.func222 rfl (by decide) (rs:=[.tmp 4]) rfl 4 [4,5,6] [] rfl rfl rfl ?_)|(refine CK.inline (rep:=rep) tO Tryz.func223 rfl (by decide) (rs:=[.tmp 4]) rfl 4 [4,9] [] rfl rfl rfl ?_)|(refine A9.kids (W.one (by repeat constructor)) ?_;intro A n1 c1 ps1 hA hTs hnl;subst hnl;have hAs:=hA.sl;have hl1:=W.len1 hb (by repeat constructor) (by decide))|(refine C1.kid 0 hA hTs (by omega) ?_;intro bq hT0;have W:=W.kid (by repeat constructor) hT0 (by omega))|fail);all_goals try conv=>whnf)
 all_goals first|(refine W.fn rfl (by repeat constructor) ?_ (by omega);(simp [zH,iI,mV,V8,bnd,want, *];done))|(simp [zH,iI,mV,V8,bnd,want, *];done)|contradiction
end
end Go.Ex
namespace Go.Ex
open Go.Proofs
attribute [local irreducible] CH X2 word B9
section
variable {P:Program}{S:St}
theorem V9.says{f:Nat}{args caps:List KV}{κ:KV→Prop}(kv:KV)(hh:∀ h,HS S h→CH P f (args.map A1++caps.map A0).toArray h fun u h'=>u=B0 kv∧A5 h h')(hk:κ kv):V9 P f args caps S κ:=
 ⟨kv,fun h' hs=>(hh h' hs).mono fun v h2 ⟨e,g⟩=>⟨e,hs.later g⟩,hk⟩
end
section
variable {I:In}{M:O6}{br:Nat}{t:Bool}{n:Int}{h:A3}{S:St}
theorem vS(ok:C6 I)(hs:HS ⟨h,[br],G5 I M br t n⟩ h)(hB:J4 I M h [br]){b1:Nat}(hbx:aN [(b1,.box 78 [.val (ptr br)])] h [br])(i:Int)(hi:0≤i∧i≤2000000):CH Tryz.prog 188 #[.int .i64 i,ptr b1] h fun v h'=>v=A0 (.prop (cS I i))∧A5 h h':=by
 refine hX 1 [0,1,3] [] [.val (.int .i64 i),.val (ptr b1)] Tryz.func188 rfl hs ?_
 have hs0:=hs
 have W:=(Wd.start ok hB).add (i:=.bxs [(b1,.box 78 [.val (ptr br)])]) hbx
 ((repeat' (conv=>whnf);first|(refine Br.mk ?_ ?_<;>intro hb<;>(try replace hb:=nN hb)<;>(try exact absurd hb (by decide))<;>(try (first|have hlt:=T9 hb (by decide)|have hlt:=pW hb (by decide))))|(refine A7 ?_ fun h1 hs=>T1 W.ok W.base hs rfl _)|(refine CK.says (.prop _) (fun h1 hs=>lV W.ok W.base hs rfl _) ?_)|(refine A9.box W (by repeat constructor) (by repeat constructor) ?_)|fail);all_goals try conv=>whnf)
 all_goals first
  |exact⟨fun h' hs=>⟨B8 (by simp [cS, *]),hs0.gB hs rfl⟩⟩
  |exact⟨fun h' hs=>⟨C0 (by simp [cS, *]),hs0.gB hs rfl⟩⟩
  |exact⟨fun h' hs=>⟨C3 (by simp [cS, *]),hs0.gB hs rfl⟩⟩
theorem zP(ok:C6 I)(hs:HS ⟨h,[br],G5 I M br t n⟩ h)(hB:J4 I M h [br])(hn:0≤n∧n≤I.L):CH Tryz.prog 167 #[ptr br] h fun v h'=>v=A0 (.prop (mN I n))∧A5 h h':=by
 refine hX 1 [1,2,3,4,5,13] [] [.own 900 br 0] Tryz.func167 rfl hs ?_
 have hs0:=hs
 have W:=Wd.start ok hB
 have hl:=ok.len
 by_cases ha:V6 I (n+1)
 ·have hlt:=I7 (I:=I) (n:=n+1) (by rw [ha.1];decide)
  have hpr : -1≤B1 (E9 .i64).dflt I.pair (n+1)∧B1 (E9 .i64).dflt I.pair (n+1)<I.L:=ok.prng (n+1) hlt.1 hlt.2
  have hac:0≤aG I (n+1)∧aG I (n+1)≤I.L:=by unfold aG;exact⟨by have:=hpr.1;simp only [E9] at this;omega,by have:=hpr.2;simp only [E9] at this;omega⟩
  ((repeat' (conv=>whnf);first|(refine Ar.fit (by omega) ?_)|(refine VC.mk (by omega) ?_)|(refine Br.mk ?_ ?_<;>intro hb<;>(try replace hb:=nN hb)<;>(try exact absurd hb (by decide))<;>(try (first|have hlt:=T9 hb (by decide)|have hlt:=pW hb (by decide)))<;>(try (exact absurd rfl hb)))|(refine E5.mk ?_;intro b hb)|(refine (drawn tO mixed (by kernel_rfl) ?_))|(refine V9.says (.prop _) (fun h1 hs=>I8 W.ok W.base hs rfl _) ?_)|(apply V9.pure;case hh=>intro h1 hs;exact T1 W.ok W.base hs rfl _)|(apply V9.pure;case hh=>intro h1 hs;exact Gf W.ok W.base hs rfl (by omega) ha)|(refine V9.says (.prop _) (fun h1 hs=>vS W.ok (L9 hs (k:=900) rfl) (W.base.at1 hs (k:=900) rfl) (aN.one hs (kb:=1) rfl rfl rfl (SC.box rfl) aN.nil) _ (by omega)) ?_)|fail);all_goals try conv=>whnf)
  all_goals first
   |exact⟨fun h' hs=>⟨B8 (by simp [mN, *]),hs0.gB hs rfl⟩⟩
   |exact⟨fun h' hs=>⟨C0 (by simp [mN, *]),hs0.gB hs rfl⟩⟩
   |exact⟨fun h' hs=>⟨C3 (by simp [mN, *]),hs0.gB hs rfl⟩⟩
 ·((repeat' (conv=>whnf);first|(refine Ar.fit (by omega) ?_)|(refine VC.mk (by omega) ?_)|(refine Br.mk ?_ ?_<;>intro hb<;>(try replace hb:=nN hb)<;>(try exact absurd hb (by decide))<;>(try (first|have hlt:=T9 hb (by decide)|have hlt:=pW hb (by decide)))<;>(try (exact Bool.noConfusion hb)))|(refine E5.mk ?_;intro b hb)|(refine (drawn tO mixed (by kernel_rfl) ?_))|(refine V9.says (.prop _) (fun h1 hs=>I8 W.ok W.base hs rfl _) ?_)|(apply V9.pure;case hh=>intro h1 hs;exact T1 W.ok W.base hs rfl _)|(apply V9.pure;case hh=>intro h1 hs;exact Hf W.ok W.base hs rfl (by omega) ha)|(refine V9.says (.prop _) (fun h1 hs=>vS W.ok (L9 hs (k:=900) rfl) (W.base.at1 hs (k:=900) rfl) (aN.one hs (kb:=1) rfl rfl rfl (SC.box rfl) aN.nil) _ (by omega)) ?_)|fail);all_goals try conv=>whnf)
  all_goals first
   |exact⟨fun h' hs=>⟨B8 (by simp [mN, *]),hs0.gB hs rfl⟩⟩
   |exact⟨fun h' hs=>⟨C0 (by simp [mN, *]),hs0.gB hs rfl⟩⟩
   |exact⟨fun h' hs=>⟨C3 (by simp [mN, *]),hs0.gB hs rfl⟩⟩
theorem Oi(ok:C6 I)(hb:J4 I M S.h0 S.cap)(hs:HS S h)(hf:B3 S.ch 900=some (br,H5 I M t n))(hn:0≤n∧n≤I.L):CH Tryz.prog 167 #[ptr br] h fun v h'=>v=A0 (.prop (mN I n))∧A5 h h':=zP ok (L9 hs hf) (hb.at1 hs hf) hn
end
end Go.Ex
namespace Go.Ex
open Go.Proofs
attribute [local irreducible] CH X2 word B9
section
variable {I:In}{M:O6}{g:Gt}{N:Int}{t:Bool}{n:Int}
theorem Mp(ok:C6 I)(H:O8 I M g N)(hn:0≤n∧n≤I.L)(hN:32*(I.L+1-n)+6≤N):N3 I M 138 [] (gJ I g t n) t n 1:=fun br h hs hB=>by
 refine O9 1 [0,2,3,4,5,6,7,10,29,45] [] [.own 900 br 0] Tryz.func138 rfl hs ?_
 have W:=Wd.start ok hB
 have hl:=ok.len
 ((repeat' (conv=>whnf);first|(refine Ar.fit (by omega) ?_)|(refine VC.mk (by (first|omega|(and_intros<;>first|rfl|(simp only [maxLen];omega)))) ?_)|(refine Br.mk ?_ ?_<;>intro hb<;>(try replace hb:=nN hb)<;>(try exact absurd hb (by decide))<;>(try (first|have hlt:=T9 hb (by decide)|have hlt:=pW hb (by decide))))|(refine E5.mk ?_;intro b hb)|(refine A7 ?_ fun h1 hs=>E0 W.ok W.base hs rfl)|(refine CK.says (.prop _) (fun h1 hs=>I8 W.ok W.base hs rfl _) ?_)|(refine CK.box 901 _ (fun h1 hs=>D9 hs rfl 22) ?_;intro bo hbo)|(refine CK.box 902 _ (fun h1 hs=>D9 hs rfl 35) ?_;intro bo hbo)|(refine CK.says (.prop _) (fun h1 hs=>Oi W.ok W.base hs rfl (by omega)) ?_)|(refine F2 W (H .typeName _ _ (by simp only [C5,A6];omega) (by omega) trivial) rfl rfl (fun x m bq h' hx hm1 hm2=>?_) fun x hx=>?_;(try dsimp only [D1] at hm1);(conv=>whnf);intro W)|(refine F2 W (H .names _ _ (by simp only [C5,A6];omega) (by omega) trivial) rfl rfl (fun x m bq h' hx hm1 hm2=>?_) fun x hx=>?_;(try dsimp only [D1] at hm1);(conv=>whnf);intro W)|(refine F2 W (H .typ _ _ (by simp only [C5,A6];omega) (by omega) trivial) rfl rfl (fun x m bq h' hx hm1 hm2=>?_) fun x hx=>?_;(try dsimp only [D1] at hm1);(conv=>whnf);intro W)|(refine CK.con W (Fw ok (by omega)) rfl rfl (fun x hx=>?_) (fun x m bq h' hx hm1 hm2=>?_);rotate_left;(conv=>whnf);intro W)|(refine CK.fail W rfl rfl (by omega) ?_)|(refine CK.cO 902 W rfl rfl rfl (fun h hs hm=>hs.ne (k:=902) (k':=900) rfl rfl (by decide) (List.mem_singleton.1 hm)) rfl rfl rfl rfl rfl rfl (rC W (by repeat constructor) (rN)) (by simp [O5]) (by simp) ?_;intro h';(conv=>whnf);intro W)|(refine CK.cO 901 W rfl rfl rfl (fun h hs hm=>hs.ne (k:=901) (k':=900) rfl rfl (by decide) (List.mem_singleton.1 hm)) rfl rfl rfl rfl rfl rfl (rC W (by repeat constructor) (rC W (by repeat constructor) (rN))) (by simp [O5]) (by simp) ?_;intro h';(conv=>whnf);intro W)|(refine CK.cO 901 W rfl rfl rfl (fun h hs hm=>hs.ne (k:=901) (k':=900) rfl rfl (by decide) (List.mem_singleton.1 hm)) rfl rfl rfl rfl rfl rfl (rC W (by repeat constructor) (rC W (by repeat constructor) (rC W (by repeat constructor) (rN)))) (by simp [O5]) (by simp) ?_;intro h';(conv=>whnf);intro W)|fail);all_goals try conv=>whnf)
 all_goals first|(refine W.fn rfl (by repeat constructor) ?_ (by omega);(simp [gJ,bnd,want, *];done))|(simp [gJ,bnd,want, *];done)|contradiction
end
end Go.Ex
namespace Go.Ex
open Go.Proofs
attribute [local irreducible] CH X2 word B9
def CX:Nat→KV
 |2=>.val (.bool false)
 |_=>.val (.bool true)
section
variable {I:In}{M:O6}{g:Gt}{N:Int}{t:Bool}{n:Int}
theorem Xl(ok:C6 I)(H:O8 I M g N)(hn:0≤n∧n≤I.L)(hN:32*(I.L+1-n)+5≤N):N3 I M 169 [] (fP I g t n) t n 1:=fun br h hs hB=>by
 refine O9 1 [0,2,3,4,5,6,12] [] [.own 900 br 0] Tryz.func169 rfl hs ?_
 have W:=Wd.start ok hB
 have hl:=ok.len
 (try (conv=>whnf))
 obtain⟨R,hR⟩:∃ R,bnd (D5 I g t n) (fun y m=>P1 I (⟨#[124]⟩:ByteArray) (D5 I g t) (F6 I m) [y] m)=R:=⟨_,rfl⟩
 have hRS:fP I g t n=bnd R fun l m=>.ok (K3 18 l m) m:=by
  rw [←hR,fP,jG]
  cases D5 I g t n<;>rfl
 rw [hRS]
 refine gG tO [3,4] (fun x:RS×Nat=>[(3,T7 x.1),(4,CX x.2)]) (fun x=>⟨x.1.h,blks (G5 I M br t x.1.m++dE x.1),G5 I M br t x.1.m++dE x.1⟩)
  (fun μ x=>Wd I M [br] h x.1.h (blks (G5 I M br t x.1.m++dE x.1)) [.many x.1.ps x.1.l]∧(n≤x.1.m∧x.1.m≤I.L∧(x.1.l.length:Int)≤x.1.m-n)∧x.1.ps.length=x.1.l.length∧(∀ b c,x.1.o=some (b,c)→x.1.ps.length≤c)∧x.2≤2
   ∧ (x.2=0→x.1.m=n∧x.1.l=[]∧x.1.ps=[]∧x.1.o=none∧bnd (D5 I g t n) (fun y m=>P1 I (⟨#[124]⟩:ByteArray) (D5 I g t) (F6 I m) [y] m)=R∧I.L+1-n < μ)
   ∧ (x.2=1→x.1.o≠none∧bnd (D5 I g t x.1.m) (fun y m=>P1 I (⟨#[124]⟩:ByteArray) (D5 I g t) μ (x.1.l++[y]) m)=R∧I.L+1-x.1.m≤μ)
   ∧ (x.2=2→x.1.o≠none∧G3.ok x.1.l x.1.m=R∧x.1.l≠[])) ?_
 conv=>whnf
 refine⟨fun h1 hs=>?_,?_⟩
 ·refine⟨F6 I n+1,(⟨h1,0,n,none,[],[]⟩,0),⟨(((W.anew (hs.lB.less (oI (k:=900) rfl))).add (i:=.many [] []) ⟨L3.nil,trivial⟩)).of (fun e he=>he),⟨by dsimp only;omega,by dsimp only;omega,by dsimp only;simp only [List.length_nil];omega⟩,rfl,fun b c e=>(by cases e),by dsimp only;omega,fun _=>⟨rfl,rfl,rfl,rfl,hR,by simp only [F6];omega⟩,fun e=>(by cases e),fun e=>(by cases e)⟩,?_,L9 hs (k:=900) rfl⟩
  (repeat (refine And.intro ⟨_,rfl,rfl⟩ ?_));exact trivial
 clear W hR hRS
 rintro μ ⟨⟨h1,w0,mm,o2,ps,l⟩,k⟩ ⟨W,⟨r0,r1,r2⟩,r6,r7,rk,k0,k1,k2⟩
 dsimp only at W r0 r1 r2 r6 r7 rk k0 k1 k2
 have hk:k=0∨k=1∨k=2:=by omega
 rcases hk with rfl|rfl|rfl
 ·obtain⟨e1,e2,e3,e4,r4,r3⟩:=k0 rfl
  subst e1 e2 e3 e4
  clear k0 k1 k2 r7
  dsimp only [dE,T7,CX] at W ⊢
  ((repeat' (conv=>whnf);first|(refine VC.mk (by (first|omega|(and_intros<;>first|omega|rfl|(simp only [maxLen];omega)|(simp only [lL];omega)))) ?_)|(refine Br.mk ?_ ?_<;>intro hb<;>(try replace hb:=nN hb)<;>(try exact absurd hb (by decide))<;>(try (contradiction)))|(refine E5.mk ?_;intro b hb)|(refine aH.mk ?_;intro b c hb hbc)|(refine SR.same ?_)|(refine CK.box 901 _ (fun h1 hs=>D9 hs rfl 19) ?_;intro bo hbo)|(refine F2 W (H .typ _ _ (by simp only [C5,A6];omega) (by omega) trivial) rfl rfl (fun x m bq h' hx hm1 hm2=>?_) fun x hx=>?_;(try dsimp only [D1] at hm1);(conv=>whnf);intro W)|(refine CK.maybe W.ok W.base (by decide) rfl rfl (fun hx hm=>?_) (fun hx=>?_))|(refine CK.cO 901 W rfl rfl rfl (fun h hs hm=>hs.ne (k:=901) (k':=900) rfl rfl (by decide) (List.mem_singleton.1 hm)) rfl rfl rfl rfl rfl rfl (rC W (by repeat constructor) (rN)) (by simp [O5]) (by simp) ?_;intro h';(conv=>whnf);intro W)|fail);all_goals try conv=>whnf)
  all_goals first
   | (have e1:D5 I g t mm = .ok (.mk 19 (-1) mm m [x]) m:=by rw [D5,if_pos (by assumption),show g .typ t (mm+1) = .ok x m from by assumption];rfl
      rw [e1,E2] at r4
      obtain⟨f,hf⟩:∃ f,F6 I m=f+1:=⟨F6 I m-1,by simp only [F6];omega⟩
      rw [hf,P1,if_pos (by assumption)] at r4
      simp only [F6] at hf
      intro h2 hs
      refine⟨f,(⟨h2,0,(m+1),some (b,c),[]++[some ⟨bo,0,none⟩],[]++[(.mk 19 (-1) mm m [x])]⟩,1),⟨((W.more (ps:=[]) (l:=[]) (by repeat constructor) (by repeat constructor)).anew (hs.lB.less (F3.blks (ks:=[900,21]) (L:=G5 I M br t (m+1)++dE ⟨h2,0,0,some (b,c),[]++[some ⟨bo,0,none⟩],[]⟩) (B4 rfl rfl (F9 rfl (SC.arr (by simp)) rfl E8))))).of (fun e he=>?_),⟨by dsimp only;omega,by dsimp only;omega,by dsimp only;simp only [lC2];omega⟩,by simp [r6],fun b0 c0 e=>by cases e;simpa using hbc,by dsimp only;omega,fun e=>(by cases e),fun _=>⟨by simp,r4,by dsimp only;omega⟩,fun e=>(by cases e)⟩,by first|omega|(dsimp only;omega),?_,hs.again [900,21] (B4 rfl rfl (F9 rfl (SC.arr (by simp)) rfl E8))⟩
      ·simp only [mL,or_false] at he ⊢
       exact .inl he
      ·refine And.intro ⟨_,rfl,by first|rfl|(simp [B0,A1,A0,T7];done)|(simp [B0,A1,A0,T7];omega)⟩ ?_
       (repeat (refine And.intro ⟨_,rfl,rfl⟩ ?_));exact trivial)
   | (have e1:D5 I g t mm = .ok (.mk 19 (-1) mm m [x]) m:=by rw [D5,if_pos (by assumption),show g .typ t (mm+1) = .ok x m from by assumption];rfl
      rw [e1,E2] at r4
      obtain⟨f,hf⟩:∃ f,F6 I m=f+1:=⟨F6 I m-1,by simp only [F6];omega⟩
      rw [hf,P1,if_neg (by assumption)] at r4
      simp only [F6] at hf
      intro h2 hs
      refine⟨0,(⟨h2,0,m,some (b,c),[]++[some ⟨bo,0,none⟩],[]++[(.mk 19 (-1) mm m [x])]⟩,2),⟨((W.more (ps:=[]) (l:=[]) (by repeat constructor) (by repeat constructor)).anew (hs.lB.less (F3.blks (ks:=[900,21]) (L:=G5 I M br t m++dE ⟨h2,0,0,some (b,c),[]++[some ⟨bo,0,none⟩],[]⟩) (B4 rfl rfl (F9 rfl (SC.arr (by simp)) rfl E8))))).of (fun e he=>?_),⟨by dsimp only;omega,by dsimp only;omega,by dsimp only;simp only [lC2];omega⟩,by simp [r6],fun b0 c0 e=>by cases e;simpa using hbc,by dsimp only;omega,fun e=>(by cases e),fun e=>(by cases e),fun _=>⟨by simp,r4,by simp⟩⟩,by first|omega|(dsimp only;omega),?_,hs.again [900,21] (B4 rfl rfl (F9 rfl (SC.arr (by simp)) rfl E8))⟩
      ·simp only [mL,or_false] at he ⊢
       exact .inl he
      ·refine And.intro ⟨_,rfl,by first|rfl|(simp [B0,A1,A0,T7];done)|(simp [B0,A1,A0,T7];omega)⟩ ?_
       (repeat (refine And.intro ⟨_,rfl,rfl⟩ ?_));exact trivial)
   | (have e1:D5 I g t mm = .ok x m:=by rw [D5,if_neg (by assumption),show g .typ t mm = .ok x m from by assumption]
      rw [e1,E2] at r4
      obtain⟨f,hf⟩:∃ f,F6 I m=f+1:=⟨F6 I m-1,by simp only [F6];omega⟩
      rw [hf,P1,if_pos (by assumption)] at r4
      simp only [F6] at hf
      intro h2 hs
      refine⟨f,(⟨h2,0,(m+1),some (b,c),[]++[some ⟨bq,0,none⟩],[]++[x]⟩,1),⟨((W.more (ps:=[]) (l:=[]) (by repeat constructor) (by repeat constructor)).anew (hs.lB.less (F3.blks (ks:=[900,26]) (L:=G5 I M br t (m+1)++dE ⟨h2,0,0,some (b,c),[]++[some ⟨bq,0,none⟩],[]⟩) (B4 rfl rfl (F9 rfl (SC.arr (by simp)) rfl E8))))).of (fun e he=>?_),⟨by dsimp only;omega,by dsimp only;omega,by dsimp only;simp only [lC2];omega⟩,by simp [r6],fun b0 c0 e=>by cases e;simpa using hbc,by dsimp only;omega,fun e=>(by cases e),fun _=>⟨by simp,r4,by dsimp only;omega⟩,fun e=>(by cases e)⟩,by first|omega|(dsimp only;omega),?_,hs.again [900,26] (B4 rfl rfl (F9 rfl (SC.arr (by simp)) rfl E8))⟩
      ·simp only [mL,or_false] at he ⊢
       exact .inl he
      ·refine And.intro ⟨_,rfl,by first|rfl|(simp [B0,A1,A0,T7];done)|(simp [B0,A1,A0,T7];omega)⟩ ?_
       (repeat (refine And.intro ⟨_,rfl,rfl⟩ ?_));exact trivial)
   | (have e1:D5 I g t mm = .ok x m:=by rw [D5,if_neg (by assumption),show g .typ t mm = .ok x m from by assumption]
      rw [e1,E2] at r4
      obtain⟨f,hf⟩:∃ f,F6 I m=f+1:=⟨F6 I m-1,by simp only [F6];omega⟩
      rw [hf,P1,if_neg (by assumption)] at r4
      simp only [F6] at hf
      intro h2 hs
      refine⟨0,(⟨h2,0,m,some (b,c),[]++[some ⟨bq,0,none⟩],[]++[x]⟩,2),⟨((W.more (ps:=[]) (l:=[]) (by repeat constructor) (by repeat constructor)).anew (hs.lB.less (F3.blks (ks:=[900,26]) (L:=G5 I M br t m++dE ⟨h2,0,0,some (b,c),[]++[some ⟨bq,0,none⟩],[]⟩) (B4 rfl rfl (F9 rfl (SC.arr (by simp)) rfl E8))))).of (fun e he=>?_),⟨by dsimp only;omega,by dsimp only;omega,by dsimp only;simp only [lC2];omega⟩,by simp [r6],fun b0 c0 e=>by cases e;simpa using hbc,by dsimp only;omega,fun e=>(by cases e),fun e=>(by cases e),fun _=>⟨by simp,r4,by simp⟩⟩,by first|omega|(dsimp only;omega),?_,hs.again [900,26] (B4 rfl rfl (F9 rfl (SC.arr (by simp)) rfl E8))⟩
      ·simp only [mL,or_false] at he ⊢
       exact .inl he
      ·refine And.intro ⟨_,rfl,by first|rfl|(simp [B0,A1,A0,T7];done)|(simp [B0,A1,A0,T7];omega)⟩ ?_
       (repeat (refine And.intro ⟨_,rfl,rfl⟩ ?_));exact trivial)
   | (have e1:D5 I g t mm = .err _:=by rw [D5,if_pos (by assumption),hx];rfl
      rw [e1,Dl] at r4;rw [←r4];rfl)
   |(rw [D5,if_pos (by assumption),hx] at r4;rw [←r4];rfl)
   |(rw [D5,if_neg (by assumption),hx] at r4;rw [←r4];rfl)
 ·obtain⟨e1,r4,r3⟩:=k1 rfl
  obtain⟨⟨b2,c2⟩,rfl⟩:=Option.ne_none_iff_exists'.1 e1
  have hcp:=r7 _ _ rfl
  obtain⟨f,rfl⟩:∃ f,μ=f+1:=⟨μ-1,by omega⟩
  clear k0 k1 k2 r7
  dsimp only [dE,T7,CX] at W hcp ⊢
  ((repeat' (conv=>whnf);first|(refine VC.mk (by (first|omega|(and_intros<;>first|omega|rfl|(simp only [maxLen];omega)|(simp only [lL];omega)))) ?_)|(refine E5.mk ?_;intro b hb)|(refine X0.mk ?_;intro b c hb hbc)|(refine SR.same ?_)|(refine CK.box 901 _ (fun h1 hs=>D9 hs rfl 19) ?_;intro bo hbo)|(refine F2 W (H .typ _ _ (by simp only [C5,A6];omega) (by omega) trivial) rfl rfl (fun x m bq h' hx hm1 hm2=>?_) fun x hx=>?_;(try dsimp only [D1] at hm1);(conv=>whnf);intro W)|(refine CK.maybe W.ok W.base (by decide) rfl rfl (fun hx hm=>?_) (fun hx=>?_))|(refine CK.cO 901 W rfl rfl rfl (fun h hs hm=>hs.ne (k:=901) (k':=900) rfl rfl (by decide) (List.mem_singleton.1 hm)) rfl rfl rfl rfl rfl rfl (rC W (by repeat constructor) (rN)) (by simp [O5]) (by simp) ?_;intro h';(conv=>whnf);intro W)|fail);all_goals try conv=>whnf)
  all_goals first
   | (have e1:D5 I g t mm = .ok (.mk 19 (-1) mm m [x]) m:=by rw [D5,if_pos (by assumption),show g .typ t (mm+1) = .ok x m from by assumption];rfl
      rw [e1,E2] at r4
      rw [P1,if_pos (by assumption)] at r4
      intro h2 hs
      refine⟨f,(⟨h2,0,(m+1),some (b,c),ps++[some ⟨bo,0,none⟩],l++[(.mk 19 (-1) mm m [x])]⟩,1),⟨((W.more (ps:=ps) (l:=l) (by repeat constructor) (by repeat constructor)).anew (hs.lB.less (F3.blks (ks:=[900,21]) (L:=G5 I M br t (m+1)++dE ⟨h2,0,0,some (b,c),ps++[some ⟨bo,0,none⟩],[]⟩) (B4 rfl rfl (F9 rfl (SC.arr (by simp)) rfl E8))))).of (fun e he=>?_),⟨by dsimp only;omega,by dsimp only;omega,by dsimp only;simp only [lC2];omega⟩,by simp [r6],fun b0 c0 e=>by cases e;simpa using hbc,by dsimp only;omega,fun e=>(by cases e),fun _=>⟨by simp,r4,by dsimp only;omega⟩,fun e=>(by cases e)⟩,Nat.lt_succ_self f,?_,hs.again [900,21] (B4 rfl rfl (F9 rfl (SC.arr (by simp)) rfl E8))⟩
      ·simp only [mL,or_false] at he ⊢
       exact .inl he
      ·refine And.intro ⟨_,rfl,by first|rfl|(simp [B0,A1,A0,T7];done)|(simp [B0,A1,A0,T7];omega)⟩ ?_
       (repeat (refine And.intro ⟨_,rfl,rfl⟩ ?_));exact trivial)
   | (have e1:D5 I g t mm = .ok (.mk 19 (-1) mm m [x]) m:=by rw [D5,if_pos (by assumption),show g .typ t (mm+1) = .ok x m from by assumption];rfl
      rw [e1,E2] at r4
      rw [P1,if_neg (by assumption)] at r4
      intro h2 hs
      refine⟨0,(⟨h2,0,m,some (b,c),ps++[some ⟨bo,0,none⟩],l++[(.mk 19 (-1) mm m [x])]⟩,2),⟨((W.more (ps:=ps) (l:=l) (by repeat constructor) (by repeat constructor)).anew (hs.lB.less (F3.blks (ks:=[900,21]) (L:=G5 I M br t m++dE ⟨h2,0,0,some (b,c),ps++[some ⟨bo,0,none⟩],[]⟩) (B4 rfl rfl (F9 rfl (SC.arr (by simp)) rfl E8))))).of (fun e he=>?_),⟨by dsimp only;omega,by dsimp only;omega,by dsimp only;simp only [lC2];omega⟩,by simp [r6],fun b0 c0 e=>by cases e;simpa using hbc,by dsimp only;omega,fun e=>(by cases e),fun e=>(by cases e),fun _=>⟨by simp,r4,by simp⟩⟩,Nat.succ_pos f,?_,hs.again [900,21] (B4 rfl rfl (F9 rfl (SC.arr (by simp)) rfl E8))⟩
      ·simp only [mL,or_false] at he ⊢
       exact .inl he
      ·refine And.intro ⟨_,rfl,by first|rfl|(simp [B0,A1,A0,T7];done)|(simp [B0,A1,A0,T7];omega)⟩ ?_
       (repeat (refine And.intro ⟨_,rfl,rfl⟩ ?_));exact trivial)
   | (have e1:D5 I g t mm = .ok x m:=by rw [D5,if_neg (by assumption),show g .typ t mm = .ok x m from by assumption]
      rw [e1,E2] at r4
      rw [P1,if_pos (by assumption)] at r4
      intro h2 hs
      refine⟨f,(⟨h2,0,(m+1),some (b,c),ps++[some ⟨bq,0,none⟩],l++[x]⟩,1),⟨((W.more (ps:=ps) (l:=l) (by repeat constructor) (by repeat constructor)).anew (hs.lB.less (F3.blks (ks:=[900,26]) (L:=G5 I M br t (m+1)++dE ⟨h2,0,0,some (b,c),ps++[some ⟨bq,0,none⟩],[]⟩) (B4 rfl rfl (F9 rfl (SC.arr (by simp)) rfl E8))))).of (fun e he=>?_),⟨by dsimp only;omega,by dsimp only;omega,by dsimp only;simp only [lC2];omega⟩,by simp [r6],fun b0 c0 e=>by cases e;simpa using hbc,by dsimp only;omega,fun e=>(by cases e),fun _=>⟨by simp,r4,by dsimp only;omega⟩,fun e=>(by cases e)⟩,Nat.lt_succ_self f,?_,hs.again [900,26] (B4 rfl rfl (F9 rfl (SC.arr (by simp)) rfl E8))⟩
      ·simp only [mL,or_false] at he ⊢
       exact .inl he
      ·refine And.intro ⟨_,rfl,by first|rfl|(simp [B0,A1,A0,T7];done)|(simp [B0,A1,A0,T7];omega)⟩ ?_
       (repeat (refine And.intro ⟨_,rfl,rfl⟩ ?_));exact trivial)
   | (have e1:D5 I g t mm = .ok x m:=by rw [D5,if_neg (by assumption),show g .typ t mm = .ok x m from by assumption]
      rw [e1,E2] at r4
      rw [P1,if_neg (by assumption)] at r4
      intro h2 hs
      refine⟨0,(⟨h2,0,m,some (b,c),ps++[some ⟨bq,0,none⟩],l++[x]⟩,2),⟨((W.more (ps:=ps) (l:=l) (by repeat constructor) (by repeat constructor)).anew (hs.lB.less (F3.blks (ks:=[900,26]) (L:=G5 I M br t m++dE ⟨h2,0,0,some (b,c),ps++[some ⟨bq,0,none⟩],[]⟩) (B4 rfl rfl (F9 rfl (SC.arr (by simp)) rfl E8))))).of (fun e he=>?_),⟨by dsimp only;omega,by dsimp only;omega,by dsimp only;simp only [lC2];omega⟩,by simp [r6],fun b0 c0 e=>by cases e;simpa using hbc,by dsimp only;omega,fun e=>(by cases e),fun e=>(by cases e),fun _=>⟨by simp,r4,by simp⟩⟩,Nat.succ_pos f,?_,hs.again [900,26] (B4 rfl rfl (F9 rfl (SC.arr (by simp)) rfl E8))⟩
      ·simp only [mL,or_false] at he ⊢
       exact .inl he
      ·refine And.intro ⟨_,rfl,by first|rfl|(simp [B0,A1,A0,T7];done)|(simp [B0,A1,A0,T7];omega)⟩ ?_
       (repeat (refine And.intro ⟨_,rfl,rfl⟩ ?_));exact trivial)
   | (have e1:D5 I g t mm = .err _:=by rw [D5,if_pos (by assumption),hx];rfl
      rw [e1,Dl] at r4;rw [←r4];rfl)
   |(rw [D5,if_pos (by assumption),hx] at r4;rw [←r4];rfl)
   |(rw [D5,if_neg (by assumption),hx] at r4;rw [←r4];rfl)
 ·obtain⟨e1,r4,r3⟩:=k2 rfl
  obtain⟨⟨b2,c2⟩,rfl⟩:=Option.ne_none_iff_exists'.1 e1
  have hcp:=r7 _ _ rfl
  have hl1:1≤l.length:=List.length_pos_iff.2 r3
  clear k0 k1 k2 r7
  dsimp only [dE,T7,CX] at W hcp ⊢
  ((repeat' (conv=>whnf);first|(refine CK.listO W rfl rfl rfl rfl (by rfl) rfl (W.manyOf (by repeat constructor)) (by decide) ?_;intro b h';(conv=>whnf);intro W)|fail);all_goals try conv=>whnf)
  all_goals first
   |(refine⟨fun h' hs=>W.fin hs rfl (by repeat constructor) (by rw [←r4];rfl) (by omega)⟩)
end
end Go.Ex
namespace Go.Ex
open Go.Proofs
structure Y8(h:A3)(b:Nat)(L:List (ByteArray×Value)):Prop where
 go:∃ es cl,h[b]?=some (.map es cl)∧es.toList.map (fun e=>(e.key,e.val))=L.map fun p=>(Value.string p.1,p.2)
section
variable {P:Program}{w:World}{b:Nat}{L:List (ByteArray×Value)}{s:ByteArray}{val:Value}{mty kt et:TypeId}
theorem Y8.lt{h:A3}(hM:Y8 h b L):b<h.size:=by
 obtain⟨es,cl,h1,_⟩:=hM.go
 exact (Array.getElem?_eq_some_iff.1 h1).1
theorem qO{es:List MapEntry}(he:es.map (fun e=>(e.key,e.val))=L.map fun p=>(Value.string p.1,p.2)):∀ e∈es,∃ p∈L,e.key = .string p.1∧e.val=p.2:=fun e hm=>by
 have:(e.key,e.val)∈L.map fun p=>(Value.string p.1,p.2):=by rw [←he];exact List.mem_map.2 ⟨e,hm,rfl⟩
 obtain⟨p,h1,h2⟩:=List.mem_map.1 this
 exact⟨p,h1,(congrArg Prod.fst h2).symm,(congrArg Prod.snd h2).symm⟩
theorem Y8.insert(hm:P.underlying mty=some (.map kt et))(hk:P.underlying kt=some .string)(hM:Y8 w.heap b L)(hne:∀ p∈L,p.1≠s) :
 ∃ h',(Instr.mapUpdate mty (.map (some b)) (.string s) val).run P w = .ok () { w with heap:=h' }∧Y8 h' b (L++[(s,val)])∧h'.size=w.heap.size∧∀ i,i≠b→h'[i]?=w.heap[i]?:=by
 obtain⟨es,cl,hb,he⟩:=hM.go
 have hlt:=hM.lt
 have hks:∀ e∈es.toList,MapKept.IsKey .string e.key:=fun e h=>by
  obtain⟨p,_,h2,_⟩:=qO he e h
  rw [h2];trivial
 have hf:Instr.findNow .string (.string s) es.toList 0=some none:=by
  rcases MapKept.findNow_spec (d:=.string) (k:=.string s) trivial es.toList 0 hks with ⟨h1,_⟩|⟨j,e,_,h2,h3⟩
  ·exact h1
  ·obtain⟨p,h4,h5,_⟩:=qO he e (List.mem_of_getElem? h2)
   rw [h3] at h5
   cases h5
   exact absurd rfl (hne p h4)
 have hc:(Instr.checkKey false 10000 kt (.string s)).run P w = .ok () w:=MapKept.run_checkKey (k:=.string s) hk (by simp [MapKept.IsKey]) false 9999
 refine⟨w.heap.setIfInBounds b (.map (es.push { key:=.string s,val:=val,born:=cl }) (cl+1)),by simp [Instr.mapUpdate,run_underlying hm,MapKept.run_getObj_map hb,hc,MapKept.run_findKey hk hf,MapKept.run_setObj_map _ hb,Result.andThen],⟨es.push { key:=.string s,val:=val,born:=cl },cl+1,by simp [hlt],by simp [he]⟩,by simp,fun i hi=>by simp [Array.getElem?_setIfInBounds,Ne.symm hi]⟩
theorem Y8.lookup(hm:P.underlying mty=some (.map kt et))(hk:P.underlying kt=some .string)(hM:Y8 w.heap b L){z:Value}(hz:(zeroValue et).run P w = .ok z w) :
 (∃ v,(s,v)∈L∧(Instr.lookup mty (.map (some b)) (.string s) true).run P w = .ok (.tuple #[v,.bool true]) w)∨((∀ p∈L,p.1≠s)∧(Instr.lookup mty (.map (some b)) (.string s) true).run P w = .ok (.tuple #[z,.bool false]) w):=by
 obtain⟨es,cl,hb,he⟩:=hM.go
 have hks:∀ e∈es.toList,MapKept.IsKey .string e.key:=fun e h=>by
  obtain⟨p,_,h2,_⟩:=qO he e h
  rw [h2];trivial
 have hc:∀ em,(Instr.checkKey em 10000 kt (.string s)).run P w = .ok () w:=fun em=>MapKept.run_checkKey (k:=.string s) hk (by simp [MapKept.IsKey]) em 9999
 rcases MapKept.findNow_spec (d:=.string) (k:=.string s) trivial es.toList 0 hks with ⟨h1,h2⟩|⟨j,e,h1,h2,h3⟩
 ·refine .inr ⟨fun p hp e=>?_,?_⟩
  ·have:(Value.string p.1,p.2)∈es.toList.map fun e=>(e.key,e.val):=by rw [he];exact List.mem_map.2 ⟨p,hp,rfl⟩
   obtain⟨x,h4,h5⟩:=List.mem_map.1 this
   simp only [Prod.mk.injEq] at h5
   exact h2 x h4 (by rw [h5.1,e])
  ·simp [Instr.lookup,run_underlying hm,MapKept.run_getObj_map hb,hc,MapKept.run_findKey hk h1,hz,Result.andThen]
 ·obtain⟨p,h4,h5,h6⟩:=qO he e (List.mem_of_getElem? h2)
  rw [h3] at h5
  obtain⟨q1,q2⟩:=p
  cases h5
  refine .inl ⟨q2,h4,?_⟩
  simp [Instr.lookup,run_underlying hm,MapKept.run_getObj_map hb,hc,MapKept.run_findKey hk h1,h6,Result.andThen]
end
end Go.Ex
