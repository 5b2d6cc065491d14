/-
  Top: TopComments: whatever the input, the law answers true (part 31)
-/
import Derived.Test.YtpjdgifhhnjclaaGreatDoorM24
set_option linter.unusedVariables false
set_option linter.unusedSimpArgs false
set_option maxHeartbeats 4000000
set_option maxRecDepth 10000
namespace Go.Ex
open Go.Proofs
attribute [local irreducible] CH X2 word B9
section
variable {P:Program}{ty:Nat→Option gS}{rep:Jj}{n m:Nat}{ex cu:List Nat}{S:St}{K:Kn}{X:Hj}{κ:Kt}
theorem Uo(hty:H6 P ty){c:Code}(cs:List Nat)(l:Kn)
 (h:mR cs K [] fun K0=>J8 P ty rep n m ex cu c X (fun K' S'=>S'=S∧Fj K' (l++K0)) K S∧κ (l++K0) S) :
 nB P n ty rep m ex cu c X κ K S:=⟨fun Df w0 a w ha he hs=>by
 obtain⟨K0,h1,h2⟩:=X9 h
 refine Code.wp_mono ?_ (Ba hty c X _ K S h1 Df w0 a w ha he hs)
 intro e a w hq
 cases e with
 |normal=>
  obtain⟨K',S',a1,a2,a3,rfl,b2⟩:=hq
  exact⟨_,_,a1.like b2.get,a2,a3,h2⟩
 |exit i=>exact hq
 |ret=>exact hq
 |panic ch=>exact hq
 |goto l=>exact hq
 |outgrown=>exact hq⟩
end
section
variable {P:Program}{E:Value→A3→Prop}
theorem CC{I:In}{m:Int}(h:(word I m=(⟨#[61]⟩:ByteArray)∨word I m=(⟨#[58,61]⟩:ByteArray))∧word I (m+1)=(⟨#[114,97,110,103,101]⟩:ByteArray)):0≤m∧m<I.L:=by
 rcases h.1 with e|e<;>exact T9 e (by decide)
theorem CK.meet{f:Nat}{args caps:List KV}{S:St}{κ:KV→St→Prop}{α:Type}(kv:α→KV)(st:α→St)(φ:α→Prop)
 (h1:CK P E f args caps S fun v S'=>∀ h,HS S' h→∃ x,φ x∧B0 (kv x)=B0 v∧HS (st x) h) (h2:∀ x,φ x→κ (kv x) (st x)):CK P E f args caps S κ:=
 have k:∀ v h',(∃ k0 S',B0 k0=v∧HS S' h'∧∀ h,HS S' h→∃ x,φ x∧B0 (kv x)=B0 k0∧HS (st x) h)→∃ kv S',B0 kv=v∧HS S' h'∧κ kv S':=fun v h' ⟨v0,S',e1,e2,e3⟩=>by
  obtain⟨x,a1,a2,a3⟩:=e3 _ e2
  exact⟨_,_,a2.trans e1,a3,h2 x a1⟩
 ⟨fun h hs=>(h1.go h hs).imp (fun q=>q.mono fun v h'=>k v h') fun q=>q.imp (fun q w hw=>(q w hw).imp fun v q=>q.imp fun w' q=>⟨q.1,q.2.1,k _ _ q.2.2⟩) fun q=>q.mono (fun v h' e=>e) fun v h'=>k v h'⟩
end
theorem Wd.names{I:In}{M:O6}{cE:List Nat}{hE h0:A3}{k1 k2 k3 k4 k5 b1 b2 b3 b4 b5 bq bz:Nat}{c1 c2 c3 c4 c5:D8}{x y:Nd}(W:Wd I M cE hE h0 (blks [(k1,b1,c1),(k2,b2,c2),(k3,b3,c3),(k4,b4,c4),(k5,b5,c5)]) [.one (some ⟨bq,0,none⟩) x,.one (some ⟨bz,0,none⟩) y]) :
 ∃ b1' b3' b4' bz',b1'=b1∧b3'=b3∧b4'=b4∧bz'=bz:=⟨_,_,_,_,rfl,rfl,rfl,rfl⟩
abbrev gD(b:Nat):KV:=.val (.pointer (some ⟨b,0,none⟩))
structure EL where
 h:A3
 m:Int
 x:Nd
section
variable {I:In}{M:O6}{g:Gt}{N:Int}{t:Bool}{n:Int}
theorem Fp{br b6 b5 bn b1 b2 bl bz:Nat}{hE h0:A3}{cap:List Nat}{x0 z:Nd}{frm m0:Int}{oC:G3 Nd}(ok:C6 I)(H:O8 I M g N)
 (W:Wd I M [br] hE h0 cap [.one (some ⟨bl,0,none⟩) x0,.one (some ⟨bz,0,none⟩) z]) (hm1:0≤frm∧frm+1+1≤m0) (hm2:m0≤I.L) (hN:32*(I.L+1-frm)+2≤N) (herr:∀ e,U3 I g true (frm+1) x0 m0 = .err e→oC = .err e) :
 CK Tryz.prog (bN I M br [br] hE oC) 228 [] [.own 1 b1 0,.own 5 b5 0,.own 6 b6 0]
  ⟨h0,cap,[(6,b6,.box 63 [gD bl]),(5,b5,.box 63 [.own 902 b2 0]),(902,b2,D6 0 (-1) (frm+1) 0 Q5),(901,bn,D6 65 (-1) frm 0 Q5),(1,b1,.box 78 [.own 900 br 0]),(900,br,H5 I M true m0)]⟩
  (fun v S'=>∀ h,HS S' h→∃ y:EL,(Wd I M [br] hE y.h (blks [(6,b6,.box 63 [gD bl]),(5,b5,.box 63 [gD b2]),(901,bn,D6 65 (-1) frm 0 Q5),(1,b1,.box 78 [.own 900 br 0]),(900,br,H5 I M true (y.m))]) [.one (some ⟨b2,0,none⟩) y.x,.one (some ⟨bz,0,none⟩) z]∧(m0≤y.m∧y.m≤I.L)∧U3 I g true (frm+1) x0 m0 = .ok y.x y.m)∧B0 (gD b2)=B0 v∧HS ⟨y.h,blks [(6,b6,.box 63 [gD bl]),(5,b5,.box 63 [gD b2]),(901,bn,D6 65 (-1) frm 0 Q5),(1,b1,.box 78 [.own 900 br 0]),(900,br,H5 I M true (y.m))],[(6,b6,.box 63 [gD bl]),(5,b5,.box 63 [gD b2]),(901,bn,D6 65 (-1) frm 0 Q5),(1,b1,.box 78 [.own 900 br 0]),(900,br,H5 I M true (y.m))]⟩ h):=by
 have hl:=ok.len
 obtain⟨O,hO⟩:∃ O,U3 I g true (frm+1) x0 m0=O:=⟨_,rfl⟩
 rw [hO] at herr ⊢
 rw [U3] at hO
 ((repeat' (conv=>whnf);first|(refine Ar.fit (by omega) ?_)|(refine VC.mk (by (first|omega|exact Sl.plain (by assumption) (by omega)|(and_intros<;>first|rfl|(simp only [maxLen];omega)))) ?_)|(refine Br.mk ?_ ?_<;>intro hb<;>(try replace hb:=nN hb)<;>(try exact absurd hb (by decide))<;>(try (first|have hlt:=T9 hb (by decide)|have hlt:=Hv hb))<;>(try (contradiction)))|(refine E5.mk ?_;intro b hb)|(refine A7 ?_ fun h1 hs=>E0 W.ok W.base hs rfl)|(refine CK.inline (rep:=rep) tO Tryz.func228 rfl (by decide) (rs:=[.tmp 3]) rfl 4 [1,2,3,4] [] rfl rfl rfl ?_)|(refine F2 W (H .exprs _ _ (by simp only [C5,A6];omega) (by omega) trivial) rfl rfl (fun x m bq h' hx hm1 hm2=>?_) fun x hx=>?_;(try dsimp only [D1] at hm1);(conv=>whnf);intro W)|(refine F2 W (H .expr _ _ (by simp only [C5,A6];omega) (by omega) trivial) rfl rfl (fun x m bq h' hx hm1 hm2=>?_) fun x hx=>?_;(try dsimp only [D1] at hm1);(conv=>whnf);intro W)|(refine CK.says (.prop _) (fun h1 hs=>pO _ h1) ?_)|(refine CK.cO 902 W rfl rfl rfl (fun h hs hm=>hs.ne (k:=902) (k':=900) rfl rfl (by decide) (List.mem_singleton.1 hm)) rfl rfl rfl rfl rfl rfl (rC W (by repeat constructor) (rC W (by repeat constructor) (rN))) (by simp [O5]) (by simp) ?_;intro h';(conv=>whnf);intro W)|(refine CK.cO 902 W rfl rfl rfl (fun h hs hm=>hs.ne (k:=902) (k':=900) rfl rfl (by decide) (List.mem_singleton.1 hm)) rfl rfl rfl rfl rfl rfl (rC W (by repeat constructor) (rN)) (by simp [O5]) (by simp) ?_;intro h';(conv=>whnf);intro W)|(refine CK.fail W rfl rfl (by omega) ?_)|(refine CK.inline (rep:=rep) tO Tryz.func206 rfl (by decide) (rs:=[.tmp 6]) rfl 4 [6,7,8,12,42,51,52,77] [] rfl rfl rfl ?_)|(refine A9.kids (W.one (by repeat constructor)) ?_;intro A n1 c1 ps1 hA hTs hnl;subst hnl;have hAs:=hA.sl)|(refine C1.kid 0 hA hTs (by omega) ?_;intro bq hT0;have W:=W.kid (by repeat constructor) hT0 (by omega))|fail);all_goals try conv=>whnf)
 all_goals first
  |(refine herr _ ?_;rw [←hO];first|(simp [bnd, *];done)|(simp [bnd,M4, *];done))
  | (simp [bnd, *] at hO
     subst hO
     intro h2 hs
     refine⟨⟨h2,_,_⟩,⟨(W.anew (hs.lB.less (F3.blks (ks:=[6,5,901,1,900]) (L:=[(6,b6,.box 63 [gD bl]),(5,b5,.box 63 [gD b2]),(901,bn,D6 65 (-1) frm 0 Q5),(1,b1,.box 78 [.own 900 br 0]),(900,br,H5 I M true (_))]) (B4 rfl rfl (F9 rfl (SC.box rfl) rfl (B4 rfl rfl (B4 rfl rfl (B4 rfl rfl E8)))))))).of (fun e he=>?_),⟨?_,?_⟩,rfl⟩,rfl,hs.again [6,5,901,1,900] (B4 rfl rfl (F9 rfl (SC.box rfl) rfl (B4 rfl rfl (B4 rfl rfl (B4 rfl rfl E8)))))⟩
     ·simp only [mL,or_false] at he ⊢
      rcases he with rfl|rfl
      all_goals simp
     ·dsimp only;omega
     ·dsimp only;omega)
  | (simp [bnd,M4, *] at hO
     subst hO
     intro h2 hs
     refine⟨⟨h2,_,_⟩,⟨(W.anew (hs.lB.less (F3.blks (ks:=[6,5,901,1,900]) (L:=[(6,b6,.box 63 [gD bl]),(5,b5,.box 63 [gD b2]),(901,bn,D6 65 (-1) frm 0 Q5),(1,b1,.box 78 [.own 900 br 0]),(900,br,H5 I M true (_))]) (B4 rfl rfl (F9 rfl (SC.box rfl) rfl (B4 rfl rfl (B4 rfl rfl (B4 rfl rfl E8)))))))).of (fun e he=>?_),⟨?_,?_⟩,rfl⟩,rfl,hs.again [6,5,901,1,900] (B4 rfl rfl (F9 rfl (SC.box rfl) rfl (B4 rfl rfl (B4 rfl rfl (B4 rfl rfl E8)))))⟩
     ·simp only [mL,or_false] at he ⊢
      rcases he with rfl|rfl
      all_goals simp
     ·dsimp only;omega
     ·dsimp only;omega)
  |trace_state
end
end Go.Ex
namespace Go.Ex
open Go.Proofs
attribute [local irreducible] CH X2 word B9
section
variable {I:In}{M:O6}{g:Gt}{N:Int}{t:Bool}{n:Int}
set_option maxHeartbeats 20000000 in
theorem Hi(ok:C6 I)(H:O8 I M g N)(hs0:n<I.L)(w0:¬ word I (n+1)=(⟨#[123]⟩:ByteArray))(w1:¬ word I (n+1)=(⟨#[114,97,110,103,101]⟩:ByteArray))(w2:¬ word I (n+1)=(⟨#[59]⟩:ByteArray))(hn:0≤n∧n≤I.L)(hN:32*(I.L+1-n)+2≤N):N3 I M 205 [] (W9 I g t n) t n 1:=by
 obtain⟨OF,hOF⟩:∃ o,W9 I g t n=o:=⟨_,rfl⟩
 rw [hOF]
 intro br h hs hB
 refine O9 1 [1,2,3,4,5,6,7,8,9,10,11,24,48,72,88,101,107,115,126] [] [.own 900 br 0] Tryz.func205 rfl hs ?_
 have W:=Wd.start ok hB
 have hl:=ok.len
 ((repeat' (conv=>whnf);first|(refine Br.mk (p:=((word I m=(⟨#[61]⟩:ByteArray)∨word I m=(⟨#[58,61]⟩:ByteArray))∧word I (m+1)=(⟨#[114,97,110,103,101]⟩:ByteArray))) ?_ ?_<;>intro hb<;>(try have hlt:=CC hb))|(refine Ar.fit (by omega) ?_)|(refine VC.mk (by (first|omega|(and_intros<;>first|rfl|(simp only [maxLen];omega)))) ?_)|(refine Br.mk ?_ ?_<;>intro hb<;>(try replace hb:=nN hb)<;>(try exact absurd hb (by decide))<;>(try (have hlt:=T9 hb (by decide)))<;>(try (contradiction)))|(refine E5.mk ?_;intro b hb)|(refine A7 ?_ fun h1 hs=>E0 W.ok W.base hs rfl)|(refine CK.box 901 _ (fun h1 hs=>D9 hs rfl 65) ?_;intro bo hbo)|(refine CK.box 902 _ (fun h1 hs=>D9 hs rfl 0) ?_;intro bo hbo)|(refine CK.sure W (G0 0 (by decide) (by omega)) rfl rfl ?_;intro bq h';(conv=>whnf);intro W)|(refine F2 W (H .block _ _ (by simp only [C5,A6];omega) (by omega) trivial) rfl rfl (fun x m bq h' hx hm1 hm2=>?_) fun x hx=>?_;(try dsimp only [D1] at hm1);(conv=>whnf);intro W)|(refine F2 W (H .exprs _ _ (by simp only [C5,A6];omega) (by omega) trivial) rfl rfl (fun x m bq h' hx hm1 hm2=>?_) fun x hx=>?_;(try dsimp only [D1] at hm1);(conv=>whnf);intro W)|(refine F2 W (H .expr _ _ (by simp only [C5,A6];omega) (by omega) trivial) rfl rfl (fun x m bq h' hx hm1 hm2=>?_) fun x hx=>?_;(try dsimp only [D1] at hm1);(conv=>whnf);intro W)|(refine CK.want W (by decide) (by omega) rfl rfl (fun hx=>?_) (fun hx hm=>?_);rotate_left)|(refine CK.cO 901 W rfl rfl rfl (fun h hs hm=>hs.ne (k:=901) (k':=900) rfl rfl (by decide) (List.mem_singleton.1 hm)) rfl rfl rfl rfl rfl rfl (rC W (by repeat constructor) (rC W (by repeat constructor) (rC W (by repeat constructor) (rN)))) (by simp [O5]) (by simp) ?_;intro h';(conv=>whnf);intro W)|(refine CK.inline (rep:=rep) tO Tryz.func222 rfl (by decide) (rs:=[.tmp 4]) rfl 4 [4,5,6] [] rfl rfl rfl ?_)|(refine CK.inline (rep:=rep) tO Tryz.func227 rfl (by decide) (rs:=[.tmp 6]) rfl 4 [6,7] [] rfl rfl rfl ?_)|(refine Uo (c:=.region 8 _ true) tO [48] [(48,.prop ((word I m=(⟨#[61]⟩:ByteArray)∨word I m=(⟨#[58,61]⟩:ByteArray))∧word I (m+1)=(⟨#[114,97,110,103,101]⟩:ByteArray)))] ?_;(conv=>whnf);refine And.intro (by (conv=>whnf);(refine (drawn tO mixed (by kernel_rfl) ?_));((repeat' (conv=>whnf);first|(refine Ar.fit (by omega) ?_)|(refine VC.mk (by omega) ?_)|(refine Br.mk ?_ ?_<;>intro hb<;>(try replace hb:=nN hb)<;>(try exact absurd hb (by decide))<;>(try (have hlt:=T9 hb (by decide))))|(apply V9.pure;case hh=>intro h1 hs;exact T1 W.ok W.base hs rfl _)|fail);all_goals try conv=>whnf);all_goals (refine⟨rfl,And.intro ⟨_,rfl,by (simp [B0,A1,A0, *];done)⟩ ?_⟩;(repeat (refine And.intro ⟨_,rfl,rfl⟩ ?_));exact trivial)) ?_)|fail);all_goals try conv=>whnf)
 all_goals first|(refine W.fn rfl (by repeat constructor) ?_ (by omega);rw [←hOF];(simp [W9,N8,bnd,want, *];done))|(rw [←hOF];simp [W9,N8,bnd,want, *];done)|contradiction|exact absurd hb.2 hx|skip
 all_goals
  have hr:¬ ((word I m=(⟨#[61]⟩:ByteArray)∨word I m=(⟨#[58,61]⟩:ByteArray))∧word I (m+1)=(⟨#[114,97,110,103,101]⟩:ByteArray)):=by assumption
  have hF:OF=bnd (U3 I g true (n+1) x m) fun s m=>if word I m=(⟨#[59]⟩:ByteArray) then Q1 I g t n s m else bnd (V8 s m) fun x m=>bnd (g .block t m) fun b m'=>.ok (.mk 65 (-1) n m' [E3 0 (n+1),x,E3 0 m,b]) m':=by
   rw [←hOF,W9,if_neg w0,if_neg w1,if_neg w2,hx,E2,if_neg hr]
  obtain⟨b5,bn,b1,bz,e1,e2,e3,e4⟩:=W.names
  subst e1 e2 e3 e4
  refine CK.meet (α:=EL) (fun y=>gD bo) (fun y=>⟨y.h,blks [(6,b,.box 63 [gD bq]),(5,b5,.box 63 [gD bo]),(901,bn,D6 65 (-1) n 0 Q5),(1,b1,.box 78 [.own 900 br 0]),(900,br,H5 I M true (y.m))],[(6,b,.box 63 [gD bq]),(5,b5,.box 63 [gD bo]),(901,bn,D6 65 (-1) n 0 Q5),(1,b1,.box 78 [.own 900 br 0]),(900,br,H5 I M true (y.m))]⟩)
   (fun y=>Wd I M [br] h y.h (blks [(6,b,.box 63 [gD bq]),(5,b5,.box 63 [gD bo]),(901,bn,D6 65 (-1) n 0 Q5),(1,b1,.box 78 [.own 900 br 0]),(900,br,H5 I M true (y.m))]) [.one (some ⟨bo,0,none⟩) y.x,.one (some ⟨bz,0,none⟩) (E3 0 (n+1))]∧(m≤y.m∧y.m≤I.L)∧U3 I g true (n+1) x m = .ok y.x y.m)
   ?_ ?_
  ·have k:=Fp (br:=br) (b6:=b) (b5:=b5) (bn:=bn) (b1:=b1) (b2:=bo) (bl:=bq) (bz:=bz) (frm:=n) (m0:=m) (x0:=x) (z:=E3 0 (n+1)) (oC:=OF) ok H W (by omega) (by omega) (by omega) (fun e he=>by rw [hF,he];rfl)
   exact k
  clear hr
  rintro⟨h1,m',s⟩ ⟨W,⟨r0,r1⟩,r2⟩
  dsimp only at W r0 r1 r2 ⊢
  rw [r2,E2] at hF
  ((repeat' (conv=>whnf);first|(refine C2 (id:=16) (.pl [1,2,3,4,5] (.br 0 6 (.on [6,7,8] (.pl [9] .e)) (.bp 0 7 (.on [8] (.pl [9] .e))))) (by kernel_rfl) ?_)|(refine C2 (id:=31) (.pl [1,2,3,4,5] (.br 0 6 (.on [6,7,8] (.pl [9] .e)) (.bp 0 7 (.on [8] (.pl [9] .e))))) (by kernel_rfl) ?_)|(refine VC.mk (by (first|omega|exact Sl.plain (by assumption) (by omega)|(and_intros<;>first|rfl|(simp only [maxLen];omega)))) ?_)|(refine Br.mk ?_ ?_<;>intro hb<;>(try replace hb:=nN hb)<;>(try exact absurd hb (by decide))<;>(try (have hlt:=T9 hb (by decide))))|(refine E5.mk ?_;intro b hb)|(refine dD.mk ?_ ?_)|(refine A7 ?_ fun h1 hs=>E0 W.ok W.base hs rfl)|(refine CK.sure W (G0 0 (by decide) (by omega)) rfl rfl ?_;intro bq h';(conv=>whnf);intro W)|(refine F2 W (H .block _ _ (by simp only [C5,A6];omega) (by omega) trivial) rfl rfl (fun x m bq h' hx hm1 hm2=>?_) fun x hx=>?_;(try dsimp only [D1] at hm1);(conv=>whnf);intro W)|(refine F2 W (H .expr _ _ (by simp only [C5,A6];omega) (by omega) trivial) rfl rfl (fun x m bq h' hx hm1 hm2=>?_) fun x hx=>?_;(try dsimp only [D1] at hm1);(conv=>whnf);intro W)|(refine F2 W (H .simple _ _ (by simp only [C5,A6];omega) (by omega) trivial) rfl rfl (fun x m bq h' hx hm1 hm2=>?_) fun x hx=>?_;(try dsimp only [D1] at hm1);(conv=>whnf);intro W)|(refine CK.want W (by decide) (by omega) rfl rfl (fun hx=>?_) (fun hx hm=>?_);rotate_left)|(refine A9.kind (W.one (by repeat constructor)) ?_)|(refine CK.fail W rfl rfl (by omega) ?_)|(refine CK.cO 901 W rfl rfl rfl (fun h hs hm=>hs.ne (k:=901) (k':=900) rfl rfl (by decide) (List.mem_singleton.1 hm)) rfl rfl rfl rfl rfl rfl (rC W (by repeat constructor) (rC W (by repeat constructor) (rC W (by repeat constructor) (rC W (by repeat constructor) (rN))))) (by simp [O5]) (by simp) ?_;intro h';(conv=>whnf);intro W)|(refine CK.inline (rep:=rep) tO Tryz.func222 rfl (by decide) (rs:=[.tmp 4]) rfl 4 [4,5,6] [] rfl rfl rfl ?_)|(refine CK.inline (rep:=rep) tO Tryz.func223 rfl (by decide) (rs:=[.tmp 4]) rfl 4 [4,9] [] rfl rfl rfl ?_)|(refine A9.kids (W.one (by repeat constructor)) ?_;intro A n1 c1 ps1 hA hTs hnl;subst hnl;have hAs:=hA.sl;have hl1:=W.len1 hb (by repeat constructor) (by decide))|(refine C1.kid 0 hA hTs (by omega) ?_;intro bq hT0;have W:=W.kid (by repeat constructor) hT0 (by omega))|fail);all_goals try conv=>whnf)
  all_goals first|(refine W.fn rfl (by repeat constructor) ?_ (by omega);rw [hF];(simp [T6,Q1,V8,bnd,want, *];done))|(rw [hF];simp [T6,Q1,V8,bnd,want, *];done)|contradiction|trace_state
end
end Go.Ex
namespace Go.Ex
open Go.Proofs
attribute [local irreducible] CH X2 word B9
def Ly(I:In)(M:O6)(f:Nat)(av:List Value)(rv:Nat→Value)(px:Option Addr)(x:Nd)(frm:Int)(o:G3 Nd)(t:Bool)(n:Int):Prop:=
 ∀ br bn bf h,HS ⟨h,[br,bn,bf],[(900,br,H5 I M t n),(901,bn,D6 0 (-1) frm 0 (.osl 902 bf 1 1)),(902,bf,.arr 63 E1 [px] 1)]⟩ h→J4 I M h [br,bn,bf] →
  X2 Tryz.prog (bN I M br [br,bn,bf] h o) f (ptr br::ptr bn::av).toArray h fun v h'=>
   ∃ k w n' ps rest A len c,o = .ok (.mk k w frm n' (x::rest)) n'∧(n+1≤n'∧n'≤I.L)∧fL rest∧O5 k≤1+rest.length∧v=rv bn ∧
    HS ⟨h,[br,bn,bf],[(900,br,H5 I M t n'),(901,bn,D6 k w frm n' (.val (.slice A len c)))]⟩ h'∧D3 E1 h' [br,bn] A len (px::ps)∧(∀ a,0<len→A=some a→h.size≤a.block∨a.block=bf)∧L3 h.size h' [br,bn,bf] ps rest
section
variable {I:In}{M:O6}{br:Nat}{cE:List Nat}{hE:A3}{its:List It}{S:St}{t:Bool}{n:Int}{α:Type}{oC:G3 α}{args caps:List KV}{κ:KV→St→Prop}{E:Value→A3→Prop}
theorem xQ{l r:L8}{k b:Nat}{c0 c:D8}(ha:(l++(k,b,c0)::r).Pairwise fun e e'=>e.2.1≠e'.2.1):(l++(k,b,c)::r).Pairwise fun e e'=>e.2.1≠e'.2.1:=by
 obtain⟨p1,p2,p3⟩:=List.pairwise_append.1 ha
 obtain⟨p4,p5⟩:=List.pairwise_cons.1 p2
 refine List.pairwise_append.2 ⟨p1,List.pairwise_cons.2 ⟨fun e he=>p4 e he,p5⟩,fun e he e' he'=>?_⟩
 rcases List.mem_cons.1 he' with rfl|he'
 ·exact p3 e he (k,b,c0) List.mem_cons_self
 ·exact p3 e he e' (List.mem_cons_of_mem _ he')
theorem Pj{l r:L8}{k b:Nat}{c0 c:D8}(ha:(l++(k,b,c0)::r).Pairwise fun e e'=>e.2.1≠e'.2.1){e:Nat×Nat×D8}(he:e∈l++(k,b,c)::r):e=(k,b,c)∨(e∈l++(k,b,c0)::r∧e.2.1≠b):=by
 obtain⟨p1,p2,p3⟩:=List.pairwise_append.1 ha
 obtain⟨p4,p5⟩:=List.pairwise_cons.1 p2
 rcases List.mem_append.1 he with he|he
 ·exact .inr ⟨List.mem_append.2 (.inl he),p3 e he (k,b,c0) List.mem_cons_self⟩
 ·rcases List.mem_cons.1 he with rfl|he
  ·exact .inl rfl
  ·exact .inr ⟨List.mem_append.2 (.inr (List.mem_cons_of_mem _ he)),fun e2=>p4 e he e2.symm⟩
theorem HS.remake{h h':A3}(hs:HS S h){ch:L8}(c1:List Nat)(hsz:h.size≤h'.size)(hfr:∀ j,j<h.size→j∉c1→h'[j]?=h[j]?)(hc1:∀ j∈c1,j∈blks S.ch)(hap:ch.Pairwise fun e e'=>e.2.1≠e'.2.1)
 (hch:∀ e∈ch,(e∈S.ch∧e.2.1∉c1)∨(e.2.1∈c1∧C7 h' e.2.1 e.2.2)):HS ⟨S.h0,S.cap,ch⟩ h':=by
 refine⟨Nat.le_trans hs.size hsz,fun j hj hn=>(hfr j (Nat.lt_of_lt_of_le hj hs.size) fun hm=>?_).trans (hs.frame j hj hn),fun e he=>?_,hap⟩
 ·have hj:j<S.h0.size:=hj
  rcases (hs.blks_of (hc1 j hm)).2 with h3|h3
  ·omega
  ·exact hn h3
 ·rcases hch e he with ⟨h1,h2⟩|⟨h1,h2⟩
  ·obtain⟨a1,a2,a3⟩:=hs.chunk e h1
   exact⟨Nat.lt_of_lt_of_le a1 hsz,a2,a3.congr (hfr _ a1 h2)⟩
  ·obtain⟨a1,a2⟩:=hs.blks_of (hc1 _ h1)
   exact⟨Nat.lt_of_lt_of_le a1 hsz,a2,h2⟩
theorem CK.closeX(kn kf:Nat){bn bf cf:Nat}{k w f to:Int}{ln0:Int}{vy:Value}{px:Option Addr}{ps0 ps:List (Option Addr)}{l0 l:List Nd}(W:Wd I M cE hE S.h0 S.cap its)(hf:B3 S.ch 900=some (br,H5 I M t n))(hfn:B3 S.ch kn=some (bn,D6 k w f to (.osl kf bf ln0 cf)))
 (hff:B3 S.ch kf=some (bf,.arr 63 E1 (px::ps0) cf)) (hln:ln0=(px::ps0).length) (hkn:Nat.beq kn 900=false) (hkf:Nat.beq kf 900=false) (hkk:Nat.beq kn kf=false)
 (ha:args.map A1++caps.map A0=[ptr br,ptr bn,vy]) (hy:∀ h,HS S h→∃ A len c,vy = .slice A len c∧D3 E1 h [br,bn,bf] A len ps)
 (hT0:L3 hE.size S.h0 S.cap ps0 l0∧fL l0) (hT:L3 hE.size S.h0 S.cap ps l∧fL l) (hlen:(l0++l).length≤999999)
 (hk:∀ A len c h',(∀ a,0<len→A=some a→hE.size≤a.block∨a.block=bf)→dF S.ch kn (D6 k w f n (.val (.slice A len c))) fun ch=>V3 ch kf fun ch=>D3 E1 h' (blks ch) A len (px::(ps0++ps))→Wd I M cE hE h' (blks ch) (.many (ps0++ps) (l0++l)::its)→κ (.val (.pointer (some ⟨bn,0,none⟩))) ⟨h',blks ch,ch⟩):CK Tryz.prog E 109 args caps S κ:=
 ⟨fun h hs=>.inl (by
  subst hln
  obtain⟨A,len,c,rfl,hh⟩:=hy h hs
  rw [ha]
  have hkn:=lA hkn
  have hkf:=lA hkf
  have hkk:=lA hkk
  have hl0:=hT.1.len
  have hl1:=hT0.1.len
  have hlen':=hlen
  rw [List.length_append] at hlen'
  have h2:=hs.three hf hfn hff hkn.symm hkf.symm hkk 900 901 902
  have h2:HS ⟨h,[br,bn,bf],[(900,br,H5 I M t n),(901,bn,D6 k w f to (.osl 902 bf ((px::ps0).length:Int) cf)),(902,bf,.arr 63 E1 (px::ps0) cf)]⟩ h:=h2.ren [900,901,902] (B4 rfl rfl (F9 rfl (SC.box rfl) rfl (B4 rfl rfl E8)))
  refine (tM h2 hh (by simp only [List.length_cons];omega)).mono fun v h' ⟨e1,A',n',c',h3,h4,h5⟩=>?_
  obtain⟨l1,r1,bn',c0,q1,q2,h6'⟩:=K7 (hk A' n' c' h' fun a h0 e=>(h5 a h0 e).1.imp (fun q=>Nat.le_trans (Nat.le_trans W.later.size hs.size) q) fun q=>q)
  rw [hfn] at q2
  cases q2
  obtain⟨ch,h6,h7,h8⟩:=G7 h6'
  have hap:(l1++(kn,bn,D6 k w f to (.osl kf bf ((px::ps0).length:Int) cf))::r1).Pairwise fun e e'=>e.2.1≠e'.2.1:=by rw [←q1];exact hs.apart
  have hin:∀ e∈ch,e=(kn,bn,D6 k w f n (.val (.slice A' n' c')))∨e=(900,br,H5 I M t n)∨(e∈S.ch∧e.2.1∉[br,bn,bf]):=fun e he=>by
   rcases Pj hap (h7.subset he) with rfl|⟨m1,m2⟩
   ·exact .inl rfl
   ·rw [←q1] at m1
    have m3:e.2.1≠bf:=K6 hs.apart m1 (fM hff) fun e3=>h8 e he (by rw [e3])
    by_cases m4:e.2.1=br
    ·refine .inr (.inl (Classical.byContradiction fun hne=>?_))
     exact K6 hs.apart m1 (fM hf) hne m4
    ·exact .inr (.inr ⟨m1,by simp [m2,m3,m4]⟩)
  have h9:HS ⟨S.h0,S.cap,ch⟩ h':=by
   refine hs.remake [br,bn,bf] h3.size h3.frame (fun b hb=>?_) ((xQ hap).sublist h7) fun e he=>?_
   ·simp only [mL,or_false] at hb
    rcases hb with rfl|rfl|rfl
    ·exact J0 hf
    ·exact J0 hfn
    ·exact J0 hff
   ·rcases hin e he with rfl|rfl|h10
    ·exact .inr ⟨by simp,(h3.chunk (901,bn,_) (List.mem_cons_of_mem _ List.mem_cons_self)).2.2⟩
    ·exact .inr ⟨by simp,(h3.chunk _ List.mem_cons_self).2.2⟩
    ·exact .inl h10
  have hno:∀ c∈blks ch,c<h.size∧c≠bf:=fun c hc=>by
   obtain⟨e,he,rfl⟩:=oH hc
   rcases hin e he with rfl|rfl|⟨m1,m2⟩
   ·exact⟨(hs.chunk _ (fM hfn)).1,hs.ne hfn hff hkk⟩
   ·exact⟨(hs.chunk _ (fM hf)).1,hs.ne hf hff hkf.symm⟩
   ·simp only [List.mem_cons,List.not_mem_nil,or_false,not_or] at m2
    exact⟨(hs.chunk e m1).1,m2.2.2⟩
  have h4':D3 E1 h' (blks ch) A' n' (px::(ps0++ps)):=⟨h4,fun h0 a e=>⟨(h5 a h0 e).2.1,fun hm=>by
   have h10:=hno _ hm
   rcases (h5 a h0 e).1 with h11|h11
   ·omega
   ·exact h10.2 h11⟩⟩
  have l9:=h9.lB
  exact⟨_,_,by rw [e1];rfl,h9.anew,h6 h4' ((W.anew l9).add ⟨L3.append (L3.later l9 (Nat.le_refl _) l0 hT0.1) (L3.later l9 (Nat.le_refl _) l hT.1),fL.append hT0.2 hT.2⟩)⟩)⟩
theorem CK.closeXO(kn kf:Nat){bn bf cf:Nat}{k w f to:Int}{ln0 ln:Int}{r nd:KV}{kk b2 cap:Nat}{px:Option Addr}{ps0 ps:List (Option Addr)}{l0 l:List Nd}(W:Wd I M cE hE S.h0 S.cap its)(hf:B3 S.ch 900=some (br,H5 I M t n))(hfn:B3 S.ch kn=some (bn,D6 k w f to (.osl kf bf ln0 cf)))
 (hff:B3 S.ch kf=some (bf,.arr 63 E1 (px::ps0) cf)) (hln:ln0=(px::ps0).length) (hkn:Nat.beq kn 900=false) (hkf:Nat.beq kf 900=false) (hkk:Nat.beq kn kf=false)
 (h1:A1 r=ptr br) (h2:A1 nd=ptr bn) (h3:B3 S.ch kk=some (b2,.arr 63 E1 ps cap)) (h4:Nat.beq kk 900=false) (h5:Nat.beq kk kn=false) (h6:Nat.beq kk kf=false) (hl:ln=ps.length)
 (hT0:L3 hE.size S.h0 S.cap ps0 l0∧fL l0) (hT:L3 hE.size S.h0 S.cap ps l∧fL l) (hlen:(l0++l).length≤999999)
 (hk:∀ A len c h',(∀ a,0<len→A=some a→hE.size≤a.block∨a.block=bf)→dF S.ch kn (D6 k w f n (.val (.slice A len c))) fun ch=>V3 ch kf fun ch=>D3 E1 h' (blks ch) A len (px::(ps0++ps))→Wd I M cE hE h' (blks ch) (.many (ps0++ps) (l0++l)::its)→κ (.val (.pointer (some ⟨bn,0,none⟩))) ⟨h',blks ch,ch⟩):CK Tryz.prog E 109 [r,nd,.osl kk b2 ln cap] [] S κ:=
 CK.closeX kn kf W hf hfn hff hln hkn hkf hkk (by simp only [List.map_cons,List.map_nil,List.append_nil,h1,h2]) (fun h hs=>wH hs h3 hf hfn hff h4 h5 h6 hl) hT0 hT hlen hk
theorem CK.closeXN(kn kf:Nat){bn bf cf:Nat}{k w f to:Int}{ln0:Int}{r nd:KV}{px:Option Addr}{ps0:List (Option Addr)}{l0:List Nd}(W:Wd I M cE hE S.h0 S.cap its)(hf:B3 S.ch 900=some (br,H5 I M t n))(hfn:B3 S.ch kn=some (bn,D6 k w f to (.osl kf bf ln0 cf)))
 (hff:B3 S.ch kf=some (bf,.arr 63 E1 (px::ps0) cf)) (hln:ln0=(px::ps0).length) (hkn:Nat.beq kn 900=false) (hkf:Nat.beq kf 900=false) (hkk:Nat.beq kn kf=false)
 (h1:A1 r=ptr br) (h2:A1 nd=ptr bn)
 (hT0:L3 hE.size S.h0 S.cap ps0 l0∧fL l0) (hlen:l0.length≤999999)
 (hk:∀ A len c h',(∀ a,0<len→A=some a→hE.size≤a.block∨a.block=bf)→dF S.ch kn (D6 k w f n (.val (.slice A len c))) fun ch=>V3 ch kf fun ch=>D3 E1 h' (blks ch) A len (px::ps0)→Wd I M cE hE h' (blks ch) (.many ps0 l0::its)→κ (.val (.pointer (some ⟨bn,0,none⟩))) ⟨h',blks ch,ch⟩):CK Tryz.prog E 109 [r,nd,.val (.slice none 0 0)] [] S κ:=by
 refine CK.closeX kn kf (l0:=l0) (l:=[]) (ps:=[]) W hf hfn hff hln hkn hkf hkk (vy:=.slice none 0 0) (by simp only [List.map_cons,List.map_nil,List.append_nil,h1,h2];rfl) (fun h hs=>⟨_,_,_,rfl,⟨Sl.nil _ _ _,fun h=>absurd h (Nat.lt_irrefl 0)⟩⟩) hT0 rN ?_ ?_
 ·rw [List.append_nil];exact hlen
 ·rw [List.append_nil,List.append_nil];exact hk
theorem CK.listX{r:KV}{k:Int}{kk b2 cap:Nat}{ln:Int}{ps:List (Option Addr)}{l:List Nd}(W:Wd I M cE hE S.h0 S.cap its)(hf:B3 S.ch 900=some (br,H5 I M t n))(h1:A1 r=ptr br)(h3:B3 S.ch kk=some (b2,.arr 63 E1 ps cap))(h4:Nat.beq kk 900=false)(hl:ln=ps.length)
 (hcE:∀ h,HS S h→b2∉cE) (hT:L3 hE.size S.h0 S.cap ps l∧fL l) (hk0:O5 k=0)
 (hk:∀ b h',V3 S.ch kk fun ch=>Wd I M cE hE h' (blks ch) (.one (some ⟨b,0,none⟩) (K3 k l n)::its)→κ (.val (.pointer (some ⟨b,0,none⟩))) ⟨h',blks ch,ch⟩):CK Tryz.prog E 107 [r,.val (.int .u8 k),.osl kk b2 ln cap] [] S κ:=
 ⟨fun h hs=>.inl (by
  subst hl
  have h4:=lA h4
  have e:List.map A1 [r,.val (.int .u8 k),.osl kk b2 (ps.length:Int) cap]++List.map A0 []=[ptr br,.int .u8 k,.slice (some ⟨b2,0,none⟩) ps.length cap]:=by simp only [List.map_cons,List.map_nil,List.append_nil,h1];rfl
  rw [e]
  have hsl:=hs.sl h3 (Nat.le_refl _)
  rw [List.take_length] at hsl
  have hlo:=W.lo_own hs h3 (hcE h hs)
  -- what is left
  have hch:∃ ch:L8,ch.Sublist S.ch∧(∀ e∈ch,e.1≠kk)∧(∀ e∈S.ch,e.1≠kk→e∈ch)∧∀ b h',Wd I M cE hE h' (blks ch) (.one (some ⟨b,0,none⟩) (K3 k l n)::its)→κ (.val (.pointer (some ⟨b,0,none⟩))) ⟨h',blks ch,ch⟩:=by
   have key:∀ (ch:L8),∃ ch',ch'.Sublist ch∧(∀ e∈ch',e.1≠kk)∧(∀ e∈ch,e.1≠kk→e∈ch')∧∀ q:L8→Prop,V3 ch kk q→q ch':=by
    intro ch
    induction ch with
    |nil=>exact⟨[],.slnil,fun e he=>(by cases he),fun e he=>(by cases he),fun q h=>h⟩
    |cons e0 r0 ih=>
     obtain⟨j,b0,c0⟩:=e0
     obtain⟨ch',i1,i2,i4,i3⟩:=ih
     cases hj:Nat.beq j kk with
     |true=>exact⟨ch',i1.cons _,i2,fun e he hne=>(List.mem_cons.1 he).elim (fun h=>absurd (by rw [h];exact Qk hj) hne) fun h=>i4 e h hne,fun q h=>i3 q (by simp only [V3,hj] at h;exact h)⟩
     |false=>exact⟨(j,b0,c0)::ch',i1.cons_cons _,fun e he=>(List.mem_cons.1 he).elim (fun h=>by rw [h];exact lA hj) fun h=>i2 e h,fun e he hne=>(List.mem_cons.1 he).elim (fun h=>by rw [h];exact List.mem_cons_self) fun h=>List.mem_cons_of_mem _ (i4 e h hne),fun q h=>i3 (fun r=>q ((j,b0,c0)::r)) (by simp only [V3,hj] at h;exact h)⟩
   obtain⟨ch',i1,i2,i4,i3⟩:=key S.ch
   exact⟨ch',i1,i2,i4,fun b h'=>i3 _ (hk b h')⟩
  obtain⟨ch,c1,c2,c4,c3⟩:=hch
  have hbr:br∈blks ch:=G9 (c4 _ (fM hf) (fun e=>h4 e.symm))
  have lb:G1 S.h0 S.cap h (blks ch):=hs.lB.less fun x hx=>by
   obtain⟨e,he,rfl⟩:=oH hx
   exact G9 (c1.subset he)
  have hnb:b2∉blks ch:=fun hm=>by
   obtain⟨e,he,e2⟩:=oH hm
   exact K6 hs.apart (c1.subset he) (fM h3) (fun e3=>c2 e he (by rw [e3])) e2
  refine (sO (lo:=hE.size) (cap:=blks ch) (L9 hs hf) hbr (fun x hx=>by
   obtain⟨e,he,rfl⟩:=oH hx
   exact (hs.chunk e (c1.subset he)).1) (Nat.le_trans W.later.size hs.size) ⟨hsl,fun h0 a e=>by cases e;exact⟨(hs.chunk _ (fM h3)).1,hnb⟩⟩ (fun a h0 e=>by cases e;exact hlo) (L3.later lb (Nat.le_refl _) l hT.1)).mono fun v h' ⟨b,e1,hg,hT'⟩=>?_
  have h9:HS ⟨S.h0,S.cap,ch⟩ h':=(hs.sub c1).later hg
  exact⟨_,_,by rw [e1];rfl,h9.anew,c3 b h' ((W.anew h9.lB).add ⟨hT',xS hk0 hT.2⟩)⟩)⟩
theorem CK.conN(kn kf:Nat){f:Nat}{bn bf:Nat}{frm:Int}{px:Option Addr}{x:Nd}{av:List Value}{rv:Nat→Value}{o:G3 Nd}(kv:KV)(W:Wd I M cE hE S.h0 S.cap its)(hcon:Ly I M f av rv px x frm o t n)(ha:args.map A1++caps.map A0=ptr br::ptr bn::av)
 (hf:B3 S.ch 900=some (br,H5 I M t n)) (hfn:B3 S.ch kn=some (bn,D6 0 (-1) frm 0 (.osl kf bf 1 1))) (hff:B3 S.ch kf=some (bf,.arr 63 E1 [px] 1)) (hkn:Nat.beq kn 900=false) (hkf:Nat.beq kf 900=false) (hkk:Nat.beq kn kf=false)
 (hcE:∀ h,HS S h→bn∉cE∧bf∉cE) (hx:It.one px x∈its) (hkv:B0 kv=rv bn)
 (herr:∀ x,o = .err x→oC = .err x)
 (hk:∀ x' m h',o = .ok x' m→n+1≤m→m≤I.L→dF S.ch 900 (H5 I M t m) fun ch=>V3 ch kn fun ch=>V3 ch kf fun ch=>Wd I M cE hE h' (blks ch) (.one (some ⟨bn,0,none⟩) x'::its)→κ kv ⟨h',blks ch,ch⟩) :
 CK Tryz.prog (bN I M br cE hE oC) f args caps S κ:=
 ⟨fun h hs=>.inr (.inr (by
  rw [ha]
  have hkn:=lA hkn
  have hkf:=lA hkf
  have hkk:=lA hkk
  have h2:=hs.three hf hfn hff hkn.symm hkf.symm hkk 900 901 902
  have h2:HS ⟨h,[br,bn,bf],[(900,br,H5 I M t n),(901,bn,D6 0 (-1) frm 0 (.osl 902 bf 1 1)),(902,bf,.arr 63 E1 [px] 1)]⟩ h:=h2.ren [900,901,902] (B4 rfl rfl (F9 rfl (SC.box rfl) rfl (B4 rfl rfl E8)))
  have hsub:∀ b∈[br,bn,bf],b∈blks S.ch:=fun b hb=>by
   simp only [mL,or_false] at hb
   rcases hb with rfl|rfl|rfl
   ·exact J0 hf
   ·exact J0 hfn
   ·exact J0 hff
  refine (hcon br bn bf h h2 (W.base.at hs hsub)).mono (fun v h' he=>he.up W hs hsub List.mem_cons_self herr) fun v h' ⟨k,w,m,ps,rest,A,len,c,e1,⟨e2,e3⟩,e4,e5,e6,h3,e7,e8,e9⟩=>?_
  obtain⟨l1,r1,br',c0,q1,q2,h6'⟩:=K7 (hk _ m h' e1 e2 e3)
  rw [hf] at q2
  cases q2
  obtain⟨ch1,h6'',h7',h8'⟩:=G7 h6'
  obtain⟨ch,h6,h7,h8⟩:=G7 h6''
  have hap:(l1++(900,br,H5 I M t n)::r1).Pairwise fun e e'=>e.2.1≠e'.2.1:=by rw [←q1];exact hs.apart
  have hin:∀ e∈ch,e=(900,br,H5 I M t m)∨(e∈S.ch∧e.2.1∉[br,bn,bf]):=fun e he=>by
   rcases Pj hap (h7'.subset (h7.subset he)) with rfl|⟨m1,m2⟩
   ·exact .inl rfl
   ·rw [←q1] at m1
    have m3:e.2.1≠bf:=K6 hs.apart m1 (fM hff) fun e3=>h8 e he (by rw [e3])
    have m4:e.2.1≠bn:=K6 hs.apart m1 (fM hfn) fun e3=>h8' e (h7.subset he) (by rw [e3])
    exact .inr ⟨m1,by simp [m2,m3,m4]⟩
  have h9:HS ⟨S.h0,S.cap,ch⟩ h':=by
   refine hs.remake [br,bn,bf] h3.size h3.frame hsub ((xQ hap).sublist (h7.trans h7')) fun e he=>?_
   rcases hin e he with rfl|h10
   ·exact .inr ⟨by simp,(h3.chunk _ List.mem_cons_self).2.2⟩
   ·exact .inl h10
  have l9:=h9.lB
  have hlt:∀ c∈blks ch,c<h.size∧c≠bn∧c≠bf:=fun c hc=>by
   obtain⟨e,he,rfl⟩:=oH hc
   rcases hin e he with rfl|⟨m1,m2⟩
   ·exact⟨(hs.chunk _ (fM hf)).1,hs.ne hf hfn hkn.symm,hs.ne hf hff hkf.symm⟩
   ·simp only [List.mem_cons,List.not_mem_nil,or_false,not_or] at m2
    exact⟨(hs.chunk e m1).1,m2.2.1,m2.2.2⟩
  have hlo:=Nat.le_trans W.later.size hs.size
  have hbn:=W.lo_own hs hfn (hcE h hs).1
  have hbf:=W.lo_own hs hff (hcE h hs).2
  have hT:=W.its _ hx
  refine⟨_,_,by rw [e6,hkv],h9.anew,h6 ((W.anew l9).add ⟨?_,?_⟩)⟩
  ·refine cL ⟨hbn,(h3.chunk (901,bn,_) (List.mem_cons_of_mem _ List.mem_cons_self)).1,fun hm=>(hlt _ hm).2.1 rfl⟩ (h3.chunk (901,bn,_) (List.mem_cons_of_mem _ List.mem_cons_self)).2.2 (A:=A) (n:=len) (c:=c)
    ⟨e7.sl,fun h0 a e=>⟨(e7.out h0 a e).1,fun hm=>?_⟩⟩ (fun a h0 e=>?_) (L3.cons (Q2.later l9 (Nat.le_refl _) x hT.1) (L3.recap (fun c hc=>.inr (hlt c hc).1) hlo rest e9))
   ·have h10:=hlt _ hm
    rcases e8 a h0 e with h11|h11
    ·omega
    ·exact h10.2.2 h11
   ·rcases e8 a h0 e with h11|h11
    ·omega
    ·rw [h11];exact hbf
  ·simp only [Wf,fL]
   exact⟨by simpa [Nat.add_comm] using e5,hT.2,e4⟩))⟩
theorem Ca{A:Option Addr}{len lo lo' b bf:Nat}(h:∀ a:Addr,0<len→A=some a→lo≤a.block∨a.block=b)(hb:lo'≤b∨b=bf)(hl:lo≤lo'):∀ a:Addr,0<len→A=some a→lo≤a.block∨a.block=bf:=fun a h0 e=>
 (h a h0 e).elim .inl fun e1=>hb.elim (fun q=>.inl (by omega)) fun q=>.inr (by omega)
theorem Wd.finN(kn:Nat){bn bf:Nat}{px:Option Addr}{x:Nd}{frm:Int}{v rvb:Value}{k w m:Int}{A:Option Addr}{len c:Nat}{ps:List (Option Addr)}{rest:List Nd}{h':A3}{o:G3 Nd}{t:Bool}(W:Wd I M [br,bn,bf] hE S.h0 S.cap its)(hs:HS S h')(hbf:bf<hE.size)
 (hf:B3 S.ch 900=some (br,H5 I M t m)) (hfn:B3 S.ch kn=some (bn,D6 k w frm m (.val (.slice A len c)))) (hkn:Nat.beq kn 900=false) (hh:D3 E1 S.h0 S.cap A len (px::ps)) (ha:∀ a,0<len→A=some a→hE.size≤a.block∨a.block=bf)
 (hi:It.many ps rest∈its) (ho:o = .ok (.mk k w frm m (x::rest)) m) (hr:n+1≤m∧m≤I.L) (hlk:O5 k≤1+rest.length) (hrv:v=rvb) :
 ∃ k w n' ps rest A len c,o = .ok (.mk k w frm n' (x::rest)) n'∧(n+1≤n'∧n'≤I.L)∧fL rest∧O5 k≤1+rest.length∧v=rvb ∧
  HS ⟨hE,[br,bn,bf],[(900,br,H5 I M t n'),(901,bn,D6 k w frm n' (.val (.slice A len c)))]⟩ h'∧D3 E1 h' [br,bn] A len (px::ps)∧(∀ a,0<len→A=some a→hE.size≤a.block∨a.block=bf)∧L3 hE.size h' [br,bn,bf] ps rest:=by
 have hkn:=lA hkn
 have hsub:∀ b∈[br,bn],b∈blks S.ch:=fun b hb=>by
  simp only [mL,or_false] at hb
  rcases hb with rfl|rfl
  ·exact J0 hf
  ·exact J0 hfn
 have l1:=hs.lB.less hsub
 have hT:=W.its _ hi
 refine⟨k,w,m,ps,rest,A,len,c,ho,hr,hT.2,hlk,hrv,HS.back W.later hs (hs.two hf hfn hkn.symm 900 901) hsub (fun e he=>.inl ?_),hh.later l1,ha,?_⟩
 ·simp only [mL,or_false] at he ⊢
  rcases he with rfl|rfl
  ·exact .inl rfl
  ·exact .inr rfl
 ·refine L3.recap (fun b hb=>?_) (Nat.le_refl _) rest (L3.later l1 (Nat.le_refl _) rest hT.1)
  simp only [mL,or_false] at hb ⊢
  rcases hb with rfl|rfl|rfl
  ·exact .inl (.inl rfl)
  ·exact .inl (.inr rfl)
  ·exact .inr hbf
end
end Go.Ex
namespace Go.Ex
open Go.Proofs
attribute [local irreducible] CH X2 word B9
section
variable {I:In}{M:O6}{g:Gt}{N:Int}{t:Bool}{n:Int}
theorem Tu(ok:C6 I)(H:O8 I M g N)(px:Option Addr)(x0:Nd)(frm:Int)(hs0:n<I.L)(hn:0≤n∧n≤I.L)(hN:32*(I.L+1-n)+7≤N):Ly I M 191 [] (fun _=>.tuple #[]) px x0 frm (zU I g t frm x0 (n+1)) t n:=fun br bn bf h hs hB=>by
 refine O9 2 [0,1,13,28] [] [.own 900 br 0,.own 901 bn 0] Tryz.func191 rfl hs ?_
 have W:=Wd.start ok hB
 have hl:=ok.len
 have hbf:bf<h.size:=(hs.chunk (902,bf,_) (List.mem_cons_of_mem _ (List.mem_cons_of_mem _ List.mem_cons_self))).1
 ((repeat' (conv=>whnf);first|(refine C2 (id:=7) (.pl [0,1,2,3,5] (.br 4 6 (.on [6,7,8] (.pl [9,10] (.on [11] .e))) (.bp 4 7 (.on [8] (.pl [9,10] (.on [11] .e)))))) (by kernel_rfl) ?_)|(refine Ar.fit (by omega) ?_)|(refine VC.mk (by (first|omega|(and_intros<;>first|omega|rfl|(simp only [maxLen];omega)|(simp only [lL];omega)))) ?_)|(refine E5.mk ?_;intro b hb)|(refine X0.mk ?_;intro b c hb hbc)|(refine SR.same ?_)|(refine dD.mk ?_ ?_)|(refine CK.maybe W.ok W.base (by decide) rfl rfl (fun hx hm=>?_) (fun hx=>?_))|(refine CK.con W (Q6 ok (by omega)) rfl rfl (fun x hx=>?_) (fun x m bq h' hx hm1 hm2=>?_);rotate_left;(conv=>whnf);intro W)|(refine F2 W (H .typ _ _ (by simp only [C5,A6];omega) (by omega) trivial) rfl rfl (fun x m bq h' hx hm1 hm2=>?_) fun x hx=>?_;(try dsimp only [D1] at hm1);(conv=>whnf);intro W)|(refine CK.want W (by decide) (by omega) rfl rfl (fun hx=>?_) (fun hx hm=>?_);rotate_left)|(have hws:=W.later.size;refine CK.closeXO 901 902 W rfl rfl rfl rfl rfl rfl rfl rfl rfl rfl rfl rfl rfl rfl (rN) (rC W (by repeat constructor) (rN)) (by simp) (fun A len c h' hA=>?_);(conv=>whnf);intro hHd W)|(have hws:=W.later.size;refine CK.closeXN 901 902 W rfl rfl rfl rfl rfl rfl rfl rfl rfl (rN) (by simp) (fun A len c h' hA=>?_);(conv=>whnf);intro hHd W)|(have hws:=W.later.size;refine CK.closeXN 901 40 W rfl rfl rfl rfl rfl rfl rfl rfl rfl (rC W (by repeat constructor) (rN)) (by simp) (fun A len c h' hA=>?_);(conv=>whnf);intro hHd W)|fail);all_goals try conv=>whnf)
 all_goals first|(refine⟨fun h' hs=>W.finN 901 (t:=t) hs hbf rfl rfl rfl hHd (by first|exact hA|exact Ca hA (hb.imp (fun q=>q) fun q=>q.1) hws) (by repeat constructor) ?_ (by omega) (by simp [O5]) rfl⟩;(simp [zU,bnd,want, *];done))|(simp [zU,bnd,want, *];done)|contradiction|skip
end
end Go.Ex
