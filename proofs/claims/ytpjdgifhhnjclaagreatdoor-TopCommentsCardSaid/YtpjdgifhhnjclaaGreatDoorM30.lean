/-
  Top: TopComments: whatever the input, the law answers true (part 30)
-/
import Derived.Test.YtpjdgifhhnjclaaGreatDoorM27
import Derived.Test.YtpjdgifhhnjclaaGreatDoorM29
set_option linter.unusedVariables false
set_option linter.unusedSimpArgs false
set_option maxHeartbeats 4000000
set_option maxRecDepth 10000
namespace Go.Ex
open Go.Proofs
attribute [local irreducible] CH X2 word B9
section
variable {I:In}{M:O6}{br:Nat}{t:Bool}{n:Int}{h:A3}{lo:Nat}
theorem A9.kindC{S:St}{b:Nat}{x:Nd}{κ:KV→Prop}{cap:List Nat}(hsub:∀ c∈S.cap,c∈cap)(hT:Q2 lo S.h0 cap (some ⟨b,0,none⟩) x)(hk:G8 false (O7 [.int .u8 x.kind]) κ):A9 S ⟨b,0+0,none⟩ 1 false κ:=A9.kind (Q2.later ((G1.refl _ cap).less hsub) (Nat.le_refl _) x hT) hk
theorem A9.wordC{S:St}{b:Nat}{x:Nd}{κ:KV→Prop}{cap:List Nat}(hsub:∀ c∈S.cap,c∈cap)(hT:Q2 lo S.h0 cap (some ⟨b,0,none⟩) x)(hk:G8 false (O7 [.int .i64 x.word]) κ):A9 S ⟨b,0+1,none⟩ 1 false κ:=A9.word (Q2.later ((G1.refl _ cap).less hsub) (Nat.le_refl _) x hT) hk
theorem A9.frmC{S:St}{b:Nat}{x:Nd}{κ:KV→Prop}{cap:List Nat}(hsub:∀ c∈S.cap,c∈cap)(hT:Q2 lo S.h0 cap (some ⟨b,0,none⟩) x)(hk:G8 false (O7 [.int .i64 x.frm]) κ):A9 S ⟨b,0+2,none⟩ 1 false κ:=A9.frm (Q2.later ((G1.refl _ cap).less hsub) (Nat.le_refl _) x hT) hk
theorem A9.kidsC{S:St}{b:Nat}{x:Nd}{κ:KV→Prop}{cap:List Nat}(hsub:∀ c∈S.cap,c∈cap)(hT:Q2 lo S.h0 cap (some ⟨b,0,none⟩) x)(hk:∀ A n c ps,D3 E1 S.h0 cap A n ps→L3 lo S.h0 cap ps x.kids→n=x.kids.length→G8 false (O7 [.slice A n c]) κ):A9 S ⟨b,0+4,none⟩ 1 false κ:=by
 obtain⟨A,n,c,ps,⟨h0,h1,h2⟩,h3,h4,_,h5⟩:=hT.at
 refine⟨.inl ⟨h1,fun hm=>h2 (hsub _ hm),rfl,[.slice A n c],rfl,fun i u hi=>?_,_,N9 _,hk A n c ps h4 h5 (by rw [←h4.sl.len_eq,h5.len])⟩⟩
 cases i with
 |zero=>
  cases hi
  simp only [K5,h3]
  rfl
 |succ i=>cases hi
theorem C1.kidC{S:St}{A:Option Addr}{n:Nat}{ps:List (Option Addr)}{l:List Nd}{κ:KV→Prop}{cap:List Nat}(i:Nat)(hsub:∀ c∈S.cap,c∈cap)(hA:D3 E1 S.h0 cap A n ps)(hT:L3 lo S.h0 cap ps l)(hl:i<l.length)
 (hk:∀ b,Q2 lo S.h0 cap (some ⟨b,0,none⟩) (l.getD i I3)→G8 false (O7 [.pointer (some ⟨b,0,none⟩)]) κ):C1 S A 1 (i:Int) 0 1 false κ:=by
 obtain⟨b,h1,h2⟩:=hT.get i hl
 have hlen:=hA.sl.len_eq
 have hll:=hT.len
 exact C1.held (hA.later ((G1.refl _ cap).less hsub)) rfl (by omega) (by omega) (W7 h1 (i:Int) rfl) (hk b h2)
theorem Kq{b0:Nat}{cap:List Nat}{s:Nd}(ok:C6 I)(hs:HS ⟨h,[br],G5 I M br t n⟩ h)(hB:J4 I M h [br])(hsub:∀ c∈[br],c∈cap)(hcap:∀ c∈cap,c<h.size)(hT:Q2 lo h cap (some ⟨b0,0,none⟩) s)(hw:Wf s) :
 CH Tryz.prog 225 #[ptr br,ptr b0] h fun v h'=>(aL I s=none∧v = .tuple #[.pointer none,.pointer none]∧A5 h h') ∨
  ∃ a x b1 b2,aL I s=some (a,x)∧v = .tuple #[ptr b1,ptr b2]∧A5 h h'∧Wf a∧Wf x∧(Q2 lo h cap (some ⟨b1,0,none⟩) a∨Q2 h.size h' cap (some ⟨b1,0,none⟩) a)∧Q2 lo h cap (some ⟨b2,0,none⟩) x:=by
 refine hX 2 [0,1,4,5,6,7,8,47,121] [] [.own 900 br 0,.val (ptr b0)] Tryz.func225 rfl hs ?_
 have W:=Wd.start ok hB
 have hs0:=hs
 have hwk:=hw.kids
 have lk:∀ (y:Nd) (k:Int),Wf y→y.kind=k→0<O5 k→0<y.kids.length:=fun y k hy e h=>by
  have:=hy.kids.1
  rw [e] at this
  omega
 by_cases k50:s.kind=50
 ·have l0:0<s.kids.length:=lk s 50 hw k50 (by decide)
  have w0:=hwk.2.get 0 l0
  by_cases k33:(s.kids.getD 0 I3).kind=33
  ·have l1:0<(s.kids.getD 0 I3).kids.length:=lk _ 33 w0 k33 (by decide)
   have w1:=w0.kids.2.get 0 l1
   have e0:aL I s=some (.mk 0 (-1) s.frm s.frm [],(s.kids.getD 0 I3).kids.getD 0 I3):=by rw [aL,if_pos ⟨k50,k33⟩]
   ((repeat' (conv=>whnf);first|(refine C2 (id:=2) (.pl [0,1,2,4,5,6,10,11,12] (.alt 3 (.br 7 13 (.pl [8] (.br 9 13 (.pl [21,13,14,15,16,17,18,19,20,22] .e) (.pl [14] (.br 9 15 (.pl [21,15,16,17,18,19,20,22] .e) (.pl [16,17] (.br 9 18 (.pl [21,18,19,20,22] .e) (.pl [19] (.br 9 20 (.pl [21,20,22] .e) (.on [9] (.pl [21,22] .e)))))))))) (.pl [14] (.br 7 15 (.pl [8] (.br 9 15 (.pl [21,15,16,17,18,19,20,22] .e) (.pl [16,17] (.br 9 18 (.pl [21,18,19,20,22] .e) (.pl [19] (.br 9 20 (.pl [21,20,22] .e) (.on [9] (.pl [21,22] .e)))))))) (.pl [16,17,7,8] (.br 9 18 (.pl [21,18,19,20,22] .e) (.pl [19] (.br 9 20 (.pl [21,20,22] .e) (.on [9] (.pl [21,22] .e))))))))) (.alt 7 (.br 3 13 (.pl [8] (.br 9 13 (.pl [21,13,14,15,16,17,18,19,20,22] .e) (.pl [14] (.br 9 15 (.pl [21,15,16,17,18,19,20,22] .e) (.pl [16,17] (.br 9 18 (.pl [21,18,19,20,22] .e) (.pl [19] (.br 9 20 (.pl [21,20,22] .e) (.on [9] (.pl [21,22] .e)))))))))) (.pl [14] (.br 3 15 (.pl [8] (.br 9 15 (.pl [21,15,16,17,18,19,20,22] .e) (.pl [16,17] (.br 9 18 (.pl [21,18,19,20,22] .e) (.pl [19] (.br 9 20 (.pl [21,20,22] .e) (.on [9] (.pl [21,22] .e)))))))) (.pl [16,17,3,8] (.br 9 18 (.pl [21,18,19,20,22] .e) (.pl [19] (.br 9 20 (.pl [21,20,22] .e) (.on [9] (.pl [21,22] .e))))))))) (.alt 13 (.pl [14] (.alt 3 (.br 7 15 (.pl [8] (.br 9 15 (.pl [21,15,16,17,18,19,20,22] .e) (.pl [16,17] (.br 9 18 (.pl [21,18,19,20,22] .e) (.pl [19] (.br 9 20 (.pl [21,20,22] .e) (.on [9] (.pl [21,22] .e)))))))) (.pl [16,17,7,8] (.br 9 18 (.pl [21,18,19,20,22] .e) (.pl [19] (.br 9 20 (.pl [21,20,22] .e) (.on [9] (.pl [21,22] .e))))))) (.alt 7 (.br 3 15 (.pl [8] (.br 9 15 (.pl [21,15,16,17,18,19,20,22] .e) (.pl [16,17] (.br 9 18 (.pl [21,18,19,20,22] .e) (.pl [19] (.br 9 20 (.pl [21,20,22] .e) (.on [9] (.pl [21,22] .e)))))))) (.pl [16,17,3,8] (.br 9 18 (.pl [21,18,19,20,22] .e) (.pl [19] (.br 9 20 (.pl [21,20,22] .e) (.on [9] (.pl [21,22] .e))))))) (.alt 15 (.pl [16,17,3,7,8] (.br 9 18 (.pl [21,18,19,20,22] .e) (.pl [19] (.br 9 20 (.pl [21,20,22] .e) (.on [9] (.pl [21,22] .e)))))) .e)))) .e)))) (by kernel_rfl) ?_)|(refine VC.mk (by (first|omega|exact Sl.plain (by assumption) (by omega))) ?_)|(refine Br.mk ?_ ?_<;>intro hb<;>(try replace hb:=nN hb)<;>(try exact absurd hb (by decide))<;>(try omega))|(refine E5.mk ?_;intro b hb)|(refine dD.mk ?_ ?_)|(refine dD.mk ?_ ?_)|(refine A9.kindC hsub (by assumption) ?_)|(refine A9.kidsC hsub (by assumption) ?_;intro A n1 c1 ps1 hA hTs hnl;subst hnl;have hAs:=hA.sl)|(refine C1.kidC 0 hsub hA hTs (by omega) ?_;intro bq hT0)|(refine A9.frmC hsub (by assumption) ?_)|fail);all_goals try conv=>whnf)
   all_goals exact⟨fun h' hs=>.inr ⟨.mk 0 (-1) s.frm s.frm [],(s.kids.getD 0 I3).kids.getD 0 I3,_,bq,e0,rfl,hs0.gB hs rfl,iT (by decide),w1,.inr (cM ⟨by assumption,(hs.chunk _ List.mem_cons_self).1,fun hm=>absurd (hcap _ hm) (by dsimp only at *;omega)⟩ (hs.chunk _ List.mem_cons_self).2.2),hT0⟩⟩
  ·have eN:aL I s=none:=by rw [aL,if_neg (fun h=>k33 h.2),if_neg (fun h=>absurd (k50.symm.trans h.1) (by decide))]
   ((repeat' (conv=>whnf);first|(refine VC.mk (by (first|omega|exact Sl.plain (by assumption) (by omega))) ?_)|(refine Br.mk ?_ ?_<;>intro hb<;>(try replace hb:=nN hb)<;>(try exact absurd hb (by decide))<;>(try omega))|(refine A9.kindC hsub (by assumption) ?_)|(refine A9.kidsC hsub (by assumption) ?_;intro A n1 c1 ps1 hA hTs hnl;subst hnl;have hAs:=hA.sl)|(refine C1.kidC 0 hsub hA hTs (by omega) ?_;intro bq hT0)|fail);all_goals try conv=>whnf)
   all_goals first
    |exact⟨fun h' hs=>.inl ⟨by first|exact eN|exact eF (by assumption),rfl,hs0.gB hs rfl⟩⟩
 ·by_cases k53:s.kind=53
  ·have l0:2≤s.kids.length:=by have:=hwk.1;rw [k53] at this;simpa [O5] using this
   have w0:=hwk.2.get 0 (by omega)
   have w1:=hwk.2.get 1 (by omega)
   by_cases kw:word I s.word=(⟨#[58,61]⟩:ByteArray)
   ·by_cases n0:((s.kids.getD 0 I3).kids.length:Int)=1
    ·by_cases n1:((s.kids.getD 1 I3).kids.length:Int)=1
     ·have w2:=w0.kids.2.get 0 (by omega)
      have w3:=w1.kids.2.get 0 (by omega)
      by_cases kb:((s.kids.getD 1 I3).kids.getD 0 I3).kind=33
      ·have l3:0<((s.kids.getD 1 I3).kids.getD 0 I3).kids.length:=lk _ 33 w3 kb (by decide)
       have w4:=w3.kids.2.get 0 l3
       have eY:((s.kids.getD 0 I3).kids.getD 0 I3).kind=26→aL I s=some ((s.kids.getD 0 I3).kids.getD 0 I3,((s.kids.getD 1 I3).kids.getD 0 I3).kids.getD 0 I3):=fun k26=>by rw [aL,if_neg (fun h=>k50 h.1),if_pos ⟨k53,kw,n0,n1,k26,kb⟩]
       have eF:¬ ((s.kids.getD 0 I3).kids.getD 0 I3).kind=26→aL I s=none:=fun k26=>by rw [aL,if_neg (fun h=>k50 h.1),if_neg (fun h=>k26 h.2.2.2.2.1)]
       ((repeat' (conv=>whnf);first|(refine VC.mk (by (first|omega|exact Sl.plain (by assumption) (by omega))) ?_)|(refine Br.mk ?_ ?_<;>intro hb<;>(try replace hb:=nN hb)<;>(try exact absurd hb (by decide))<;>(try (first|omega|exact absurd rfl hb)))|(refine A7 ?_ fun h1 hs=>qW W.ok W.base hs rfl (by assumption))|(refine A9.kindC hsub (by assumption) ?_)|(refine A9.wordC hsub (by assumption) ?_)|(refine A9.kidsC hsub (by assumption) ?_;intro A n1 c1 ps1 hA hTs hnl;subst hnl;have hAs:=hA.sl)|(refine C1.kidC 0 hsub hA hTs (by omega) ?_;intro bq hT0)|(refine C1.kidC 1 hsub hA hTs (by omega) ?_;intro bq hT0)|(refine (drawn tO mixed (by kernel_rfl) ?_))|fail);all_goals try conv=>whnf)
       all_goals first
        |exact⟨fun h' hs=>.inr ⟨(s.kids.getD 0 I3).kids.getD 0 I3,((s.kids.getD 1 I3).kids.getD 0 I3).kids.getD 0 I3,_,_,eY (by assumption),rfl,hs0.gB hs rfl,w2,w4,.inl (by assumption),by assumption⟩⟩
        |exact⟨fun h' hs=>.inl ⟨by first|exact eN|exact eF (by assumption),rfl,hs0.gB hs rfl⟩⟩
      ·have eN:aL I s=none:=by rw [aL,if_neg (fun h=>k50 h.1),if_neg (fun h=>kb h.2.2.2.2.2)]
       ((repeat' (conv=>whnf);first|(refine VC.mk (by (first|omega|exact Sl.plain (by assumption) (by omega))) ?_)|(refine Br.mk ?_ ?_<;>intro hb<;>(try replace hb:=nN hb)<;>(try exact absurd hb (by decide))<;>(try (first|omega|exact absurd rfl hb)))|(refine A7 ?_ fun h1 hs=>qW W.ok W.base hs rfl (by assumption))|(refine A9.kindC hsub (by assumption) ?_)|(refine A9.wordC hsub (by assumption) ?_)|(refine A9.kidsC hsub (by assumption) ?_;intro A n1 c1 ps1 hA hTs hnl;subst hnl;have hAs:=hA.sl)|(refine C1.kidC 0 hsub hA hTs (by omega) ?_;intro bq hT0)|(refine C1.kidC 1 hsub hA hTs (by omega) ?_;intro bq hT0)|(refine (drawn tO mixed (by kernel_rfl) ?_))|fail);all_goals try conv=>whnf)
       all_goals first
        |exact⟨fun h' hs=>.inl ⟨by first|exact eN|exact eF (by assumption),rfl,hs0.gB hs rfl⟩⟩
     ·have eN:aL I s=none:=by rw [aL,if_neg (fun h=>k50 h.1),if_neg (fun h=>n1 h.2.2.2.1)]
      ((repeat' (conv=>whnf);first|(refine VC.mk (by (first|omega|exact Sl.plain (by assumption) (by omega))) ?_)|(refine Br.mk ?_ ?_<;>intro hb<;>(try replace hb:=nN hb)<;>(try exact absurd hb (by decide))<;>(try (first|omega|exact absurd rfl hb)))|(refine A7 ?_ fun h1 hs=>qW W.ok W.base hs rfl (by assumption))|(refine A9.kindC hsub (by assumption) ?_)|(refine A9.wordC hsub (by assumption) ?_)|(refine A9.kidsC hsub (by assumption) ?_;intro A n1 c1 ps1 hA hTs hnl;subst hnl;have hAs:=hA.sl)|(refine C1.kidC 0 hsub hA hTs (by omega) ?_;intro bq hT0)|(refine C1.kidC 1 hsub hA hTs (by omega) ?_;intro bq hT0)|fail);all_goals try conv=>whnf)
      all_goals first
       |exact⟨fun h' hs=>.inl ⟨by first|exact eN|exact eF (by assumption),rfl,hs0.gB hs rfl⟩⟩
    ·have eN:aL I s=none:=by rw [aL,if_neg (fun h=>k50 h.1),if_neg (fun h=>n0 h.2.2.1)]
     ((repeat' (conv=>whnf);first|(refine VC.mk (by (first|omega|exact Sl.plain (by assumption) (by omega))) ?_)|(refine Br.mk ?_ ?_<;>intro hb<;>(try replace hb:=nN hb)<;>(try exact absurd hb (by decide))<;>(try (first|omega|exact absurd rfl hb)))|(refine A7 ?_ fun h1 hs=>qW W.ok W.base hs rfl (by assumption))|(refine A9.kindC hsub (by assumption) ?_)|(refine A9.wordC hsub (by assumption) ?_)|(refine A9.kidsC hsub (by assumption) ?_;intro A n1 c1 ps1 hA hTs hnl;subst hnl;have hAs:=hA.sl)|(refine C1.kidC 0 hsub hA hTs (by omega) ?_;intro bq hT0)|fail);all_goals try conv=>whnf)
     all_goals first
      |exact⟨fun h' hs=>.inl ⟨by first|exact eN|exact eF (by assumption),rfl,hs0.gB hs rfl⟩⟩
   ·have eN:aL I s=none:=by rw [aL,if_neg (fun h=>k50 h.1),if_neg (fun h=>kw h.2.1)]
    ((repeat' (conv=>whnf);first|(refine Br.mk ?_ ?_<;>intro hb<;>(try replace hb:=nN hb)<;>(try exact absurd hb (by decide))<;>(try (have hlt:=T9 hb (by decide)))<;>(try (first|omega|contradiction)))|(refine A7 ?_ fun h1 hs=>T1 W.ok W.base hs rfl _)|(refine A9.kindC hsub (by assumption) ?_)|(refine A9.wordC hsub (by assumption) ?_)|fail);all_goals try conv=>whnf)
    all_goals first
     |exact⟨fun h' hs=>.inl ⟨by first|exact eN|exact eF (by assumption),rfl,hs0.gB hs rfl⟩⟩
  ·have eN:aL I s=none:=by rw [aL,if_neg (fun h=>k50 h.1),if_neg (fun h=>k53 h.1)]
   ((repeat' (conv=>whnf);first|(refine Br.mk ?_ ?_<;>intro hb<;>(try replace hb:=nN hb)<;>(try exact absurd hb (by decide))<;>(try omega))|(refine A9.kindC hsub (by assumption) ?_)|fail);all_goals try conv=>whnf)
   all_goals first
    |exact⟨fun h' hs=>.inl ⟨by first|exact eN|exact eF (by assumption),rfl,hs0.gB hs rfl⟩⟩
end
end Go.Ex
namespace Go.Ex
open Go.Proofs
attribute [local irreducible] CH X2 word B9
section
variable {I:In}{M:O6}{br:Nat}{t:Bool}{n:Int}
section
variable {cE:List Nat}{hE:A3}{its:List It}{S:St}{args caps:List KV}{κ:KV→St→Prop}{E:Value→A3→Prop}
theorem CK.asked{b0:Nat}{s:Nd}(W:Wd I M cE hE S.h0 S.cap its)(hi:It.one (some ⟨b0,0,none⟩) s∈its)(ha:args.map A1++caps.map A0=[ptr br,ptr b0])(hf:B3 S.ch 900=some (br,H5 I M t n))
 (hn:aL I s=none→κ (.tup [.val (.pointer none),.val (.pointer none)]) S)
 (hy:∀ a x b1 b2 h',aL I s=some (a,x)→Wd I M cE hE h' (blks S.ch) (.one (some ⟨b1,0,none⟩) a::.one (some ⟨b2,0,none⟩) x::its)→κ (.tup [.val (.pointer (some ⟨b1,0,none⟩)),.val (.pointer (some ⟨b2,0,none⟩))]) ⟨h',blks S.ch,S.ch⟩):CK Tryz.prog E 225 args caps S κ:=
 ⟨fun h hs=>.inl (by
  rw [ha]
  have hl:G1 S.h0 S.cap h (blks S.ch):=hs.lB
  have hb:∀ c∈[br],c∈blks S.ch:=fun c hc=>by rw [List.mem_singleton.1 hc];exact J0 hf
  refine (Kq W.ok (L9 hs hf) (W.base.at1 hs hf) hb (fun c hc=>(hs.blks_of hc).1) (Q2.later hl (Nat.le_refl _) s (W.one hi)) (W.wf hi)).mono fun v h' hv=>?_
  rcases hv with ⟨e1,e2,e3⟩|⟨a,x,b1,b2,e1,e2,e3,w1,w2,t1,t2⟩
  ·exact⟨_,_,by rw [e2];rfl,hs.later e3,hn e1⟩
  ·have hl2:G1 h (blks S.ch) h' (blks S.ch):=⟨e3.size,fun i hi _=>e3.same i hi,fun c hc=>.inl hc⟩
   have hsz:hE.size≤h.size:=Nat.le_trans W.later.size hs.size
   refine⟨_,_,by rw [e2];rfl,(hs.later e3).anew,hy a x b1 b2 h' e1 (((W.anew (hl.trans hl2)).add (i:=.one (some ⟨b2,0,none⟩) x) ⟨Q2.later hl2 (Nat.le_refl _) x t2,w2⟩).add (i:=.one (some ⟨b1,0,none⟩) a) ⟨?_,w1⟩)⟩
   rcases t1 with t1|t1
   ·exact Q2.later hl2 (Nat.le_refl _) a t1
   ·exact Q2.later (G1.refl _ _) hsz a t1)⟩
end
end
end Go.Ex
namespace Go.Ex
open Go.Proofs
attribute [local irreducible] CH X2 word B9
section
variable {I:In}{M:O6}{g:Gt}{N:Int}{t:Bool}{n:Int}
theorem pS(ok:C6 I)(H:O8 I M g N)(hs0:n<I.L)(w0:word I (n+1)=(⟨#[123]⟩:ByteArray))(hn:0≤n∧n≤I.L)(hN:32*(I.L+1-n)+2≤N):N3 I M 203 [] (J6 I g t n) t n 1:=fun br h hs hB=>by
 refine O9 1 [0,2,3,4,5,6,7,8,9,30,36,38,44,50,68] [] [.own 900 br 0] Tryz.func203 rfl hs ?_
 have W:=Wd.start ok hB
 have hl:=ok.len
 ((repeat' (conv=>whnf);first|(exfalso;rw [w0] at hx;exact absurd hx (by decide))|(refine Ar.fit (by omega) ?_)|(refine VC.mk (by (first|omega|(and_intros<;>first|rfl|(simp only [maxLen];omega)))) ?_)|(refine Br.mk ?_ ?_<;>intro hb<;>(try replace hb:=nN hb)<;>(try exact absurd hb (by decide))<;>(try (first|omega|exact absurd rfl hb)))|(refine E5.mk ?_;intro b hb)|(refine A7 ?_ fun h1 hs=>F5 W.ok W.base hs rfl (by assumption))|(refine CK.box 901 _ (fun h1 hs=>D9 hs rfl 60) ?_;intro bo hbo)|(refine CK.sure W (G0 0 (by decide) (by omega)) rfl rfl ?_;intro bq h';(conv=>whnf);intro W)|(refine CK.maybe W.ok W.base (by decide) rfl rfl (fun hx hm=>?_) (fun hx=>?_))|(refine qM ?_)|(refine CK.cO 901 W rfl rfl rfl (fun h hs hm=>hs.ne (k:=901) (k':=900) rfl rfl (by decide) (List.mem_singleton.1 hm)) rfl rfl rfl rfl rfl rfl (rC W (by repeat constructor) (rC W (by repeat constructor) (rC W (by repeat constructor) (rN)))) (by simp [O5]) (by simp) ?_;intro h';(conv=>whnf);intro W)|(refine CK.con1 W (Y6 (N:=N) ok H (by decide) (fun m hm1 hm2=>H .exprs _ m (by simp only [C5,A6];omega) ⟨by omega,hm2⟩ trivial) (by omega) (by omega)) rfl rfl (fun x hx=>?_) (fun x m bq h' hx hm1 hm2=>?_);rotate_left;(conv=>whnf);intro W)|fail);all_goals try conv=>whnf)
 all_goals first|(refine W.fn rfl (by repeat constructor) ?_ (by omega);(simp [J6,eM,bU,V8,bnd,want, *];done))|(simp [J6,eM,bU,V8,bnd,want, *];done)|contradiction
end
end Go.Ex
namespace Go.Ex
open Go.Proofs
attribute [local irreducible] CH X2 word B9
section
variable {I:In}{M:O6}{g:Gt}{N:Int}{t:Bool}{n:Int}
theorem pR(ok:C6 I)(H:O8 I M g N)(hs0:n<I.L)(w1:word I (n+1)=(⟨#[59]⟩:ByteArray))(hn:0≤n∧n≤I.L)(hN:32*(I.L+1-n)+2≤N):N3 I M 203 [] (J6 I g t n) t n 1:=fun br h hs hB=>by
 refine O9 1 [0,2,3,4,5,6,7,8,9,30,36,38,44,50,68] [] [.own 900 br 0] Tryz.func203 rfl hs ?_
 have W:=Wd.start ok hB
 have hl:=ok.len
 ((repeat' (conv=>whnf);first|(exact absurd w1 hx)|(refine Ar.fit (by omega) ?_)|(refine VC.mk (by (first|omega|exact Sl.plain (by assumption) (by omega)|(and_intros<;>first|rfl|(simp only [maxLen];omega)))) ?_)|(refine Br.mk ?_ ?_<;>intro hb<;>(try replace hb:=nN hb)<;>(try exact absurd hb (by decide))<;>(try (have hlt:=T9 hb (by decide)))<;>(try (first|omega|exact absurd rfl hb)))|(refine E5.mk ?_;intro b hb)|(apply CK.pure;case hh=>intro h1 hs;first|exact F5 W.ok W.base hs rfl (by assumption)|exact E0 W.ok W.base hs rfl)|(refine CK.inline (rep:=rep) tO Tryz.func222 rfl (by decide) (rs:=[.tmp 4]) rfl 4 [4,5,6] [] rfl rfl rfl ?_)|(refine CK.box 901 _ (fun h1 hs=>D9 hs rfl 60) ?_;intro bo hbo)|(refine CK.sure W (G0 0 (by decide) (by omega)) rfl rfl ?_;intro bq h';(conv=>whnf);intro W)|(refine F2 W (H .simple _ _ (by simp only [C5,A6];omega) (by omega) trivial) rfl rfl (fun x m bq h' hx hm1 hm2=>?_) fun x hx=>?_;(try dsimp only [D1] at hm1);(conv=>whnf);intro W)|(refine CK.maybe W.ok W.base (by decide) rfl rfl (fun hx hm=>?_) (fun hx=>?_))|(refine qM ?_)|(refine rO ?_)|(refine Nk ?_)|(refine Qb ?_)|(refine A9.kind (W.one (by repeat constructor)) ?_)|(refine CK.fail W rfl rfl (by omega) ?_)|(refine CK.cO 901 W rfl rfl rfl (fun h hs hm=>hs.ne (k:=901) (k':=900) rfl rfl (by decide) (List.mem_singleton.1 hm)) rfl rfl rfl rfl rfl rfl (rC W (by repeat constructor) (rC W (by repeat constructor) (rC W (by repeat constructor) (rN)))) (by simp [O5]) (by simp) ?_;intro h';(conv=>whnf);intro W)|(refine CK.cO 901 W rfl rfl rfl (fun h hs hm=>hs.ne (k:=901) (k':=900) rfl rfl (by decide) (List.mem_singleton.1 hm)) rfl rfl rfl rfl rfl rfl (rC W (by repeat constructor) (rC W (by repeat constructor) (rC W (by repeat constructor) (rC W (by repeat constructor) (rN))))) (by simp [O5]) (by simp) ?_;intro h';(conv=>whnf);intro W)|(refine CK.con1 W (Y6 (N:=N) ok H (by decide) (fun m hm1 hm2=>H .exprs _ m (by simp only [C5,A6];omega) ⟨by omega,hm2⟩ trivial) (by omega) (by omega)) rfl rfl (fun x hx=>?_) (fun x m bq h' hx hm1 hm2=>?_);rotate_left;(conv=>whnf);intro W)|(refine CK.con1 W (Y6 (N:=N) ok H (by decide) (fun m hm1 hm2=>H .types _ m (by simp only [C5,A6];omega) ⟨by omega,hm2⟩ trivial) (by omega) (by omega)) rfl rfl (fun x hx=>?_) (fun x m bq h' hx hm1 hm2=>?_);rotate_left;(conv=>whnf);intro W)|(refine CK.asked W (by repeat constructor) rfl rfl (fun hq=>?_) (fun aq xq b1 b2 h' hq W=>?_))|(refine CK.inline (rep:=rep) tO Tryz.func223 rfl (by decide) (rs:=[.tmp 4]) rfl 4 [4,9] [] rfl rfl rfl ?_)|(refine A9.kids (W.one (by repeat constructor)) ?_;intro A n1 c1 ps1 hA hTs hnl;subst hnl;have hAs:=hA.sl;have hl1:=W.len1 hb (by repeat constructor) (by decide))|(refine C1.kid 0 hA hTs (by omega) ?_;intro bq hT0;have W:=W.kid (by repeat constructor) hT0 (by omega))|fail);all_goals try conv=>whnf)
 all_goals first|(refine W.fn rfl (by repeat constructor) ?_ (by omega);(simp [J6,eM,bU,V8,bnd,want, *];done))|(simp [J6,eM,bU,V8,bnd,want, *];done)|contradiction
end
end Go.Ex
namespace Go.Ex
open Go.Proofs
attribute [local irreducible] CH X2 word B9
section
variable {I:In}{M:O6}{g:Gt}{N:Int}{t:Bool}{n:Int}
theorem rD(ok:C6 I)(H:O8 I M g N)(hs0:n<I.L)(w0:¬ word I (n+1)=(⟨#[123]⟩:ByteArray))(w1:¬ word I (n+1)=(⟨#[59]⟩:ByteArray))(hn:0≤n∧n≤I.L)(hN:32*(I.L+1-n)+2≤N):N3 I M 203 [] (J6 I g t n) t n 1:=fun br h hs hB=>by
 refine O9 1 [0,2,3,4,5,6,7,8,9,30,36,38,44,50,68] [] [.own 900 br 0] Tryz.func203 rfl hs ?_
 have W:=Wd.start ok hB
 have hl:=ok.len
 ((repeat' (conv=>whnf);first|(refine Ar.fit (by omega) ?_)|(refine VC.mk (by (first|omega|exact Sl.plain (by assumption) (by omega)|(and_intros<;>first|rfl|(simp only [maxLen];omega)))) ?_)|(refine Br.mk ?_ ?_<;>intro hb<;>(try replace hb:=nN hb)<;>(try exact absurd hb (by decide))<;>(try (have hlt:=T9 hb (by decide)))<;>(try (first|omega|contradiction)))|(refine E5.mk ?_;intro b hb)|(refine A7 ?_ fun h1 hs=>E0 W.ok W.base hs rfl)|(refine CK.inline (rep:=rep) tO Tryz.func222 rfl (by decide) (rs:=[.tmp 4]) rfl 4 [4,5,6] [] rfl rfl rfl ?_)|(refine CK.box 901 _ (fun h1 hs=>D9 hs rfl 60) ?_;intro bo hbo)|(refine CK.sure W (G0 0 (by decide) (by omega)) rfl rfl ?_;intro bq h';(conv=>whnf);intro W)|(refine F2 W (H .simple _ _ (by simp only [C5,A6];omega) (by omega) trivial) rfl rfl (fun x m bq h' hx hm1 hm2=>?_) fun x hx=>?_;(try dsimp only [D1] at hm1);(conv=>whnf);intro W)|(refine CK.maybe W.ok W.base (by decide) rfl rfl (fun hx hm=>?_) (fun hx=>?_))|(refine qM ?_)|(refine rO ?_)|(refine Nk ?_)|(refine Qb ?_)|(refine A9.kind (W.one (by repeat constructor)) ?_)|(refine CK.fail W rfl rfl (by omega) ?_)|(refine CK.cO 901 W rfl rfl rfl (fun h hs hm=>hs.ne (k:=901) (k':=900) rfl rfl (by decide) (List.mem_singleton.1 hm)) rfl rfl rfl rfl rfl rfl (rC W (by repeat constructor) (rC W (by repeat constructor) (rC W (by repeat constructor) (rN)))) (by simp [O5]) (by simp) ?_;intro h';(conv=>whnf);intro W)|(refine CK.cO 901 W rfl rfl rfl (fun h hs hm=>hs.ne (k:=901) (k':=900) rfl rfl (by decide) (List.mem_singleton.1 hm)) rfl rfl rfl rfl rfl rfl (rC W (by repeat constructor) (rC W (by repeat constructor) (rC W (by repeat constructor) (rC W (by repeat constructor) (rN))))) (by simp [O5]) (by simp) ?_;intro h';(conv=>whnf);intro W)|(refine CK.con1 W (Y6 (N:=N) ok H (by decide) (fun m hm1 hm2=>H .exprs _ m (by simp only [C5,A6];omega) ⟨by omega,hm2⟩ trivial) (by omega) (by omega)) rfl rfl (fun x hx=>?_) (fun x m bq h' hx hm1 hm2=>?_);rotate_left;(conv=>whnf);intro W)|(refine CK.con1 W (Y6 (N:=N) ok H (by decide) (fun m hm1 hm2=>H .types _ m (by simp only [C5,A6];omega) ⟨by omega,hm2⟩ trivial) (by omega) (by omega)) rfl rfl (fun x hx=>?_) (fun x m bq h' hx hm1 hm2=>?_);rotate_left;(conv=>whnf);intro W)|(refine CK.asked W (by repeat constructor) rfl rfl (fun hq=>?_) (fun aq xq b1 b2 h' hq W=>?_))|(refine CK.inline (rep:=rep) tO Tryz.func223 rfl (by decide) (rs:=[.tmp 4]) rfl 4 [4,9] [] rfl rfl rfl ?_)|(refine A9.kids (W.one (by repeat constructor)) ?_;intro A n1 c1 ps1 hA hTs hnl;subst hnl;have hAs:=hA.sl;have hl1:=W.len1 hb (by repeat constructor) (by decide))|(refine C1.kid 0 hA hTs (by omega) ?_;intro bq hT0;have W:=W.kid (by repeat constructor) hT0 (by omega))|fail);all_goals try conv=>whnf)
 all_goals first|(refine W.fn rfl (by repeat constructor) ?_ (by omega);(simp [J6,eM,bU,V8,bnd,want, *];done))|(simp [J6,eM,bU,V8,bnd,want, *];done)|contradiction
end
end Go.Ex
namespace Go.Ex
open Go.Proofs
section
variable {I:In}{M:O6}{g:Gt}{N:Int}{t:Bool}{n:Int}
theorem Nr(ok:C6 I)(H:O8 I M g N)(hn:0≤n∧n≤I.L)(hN:32*(I.L+1-n)+20≤N):N3 I M 144 [] (F8 I g t n) t n 1:=by
 by_cases w0:word I n=(⟨#[99,111,110,115,116]⟩:ByteArray)
 ·exact Kb ok H w0 hn hN
 by_cases w1:word I n=(⟨#[118,97,114]⟩:ByteArray)
 ·exact Jb ok H w1 hn hN
 by_cases w2:word I n=(⟨#[116,121,112,101]⟩:ByteArray)
 ·exact Ib ok H w2 hn hN
 by_cases w3:word I n=(⟨#[103,111]⟩:ByteArray)
 ·exact Hb ok H w3 hn hN
 by_cases w4:word I n=(⟨#[100,101,102,101,114]⟩:ByteArray)
 ·exact Gb ok H w4 hn hN
 by_cases w5:word I n=(⟨#[114,101,116,117,114,110]⟩:ByteArray)
 ·exact Fb ok H w5 hn hN
 by_cases w6:word I n=(⟨#[98,114,101,97,107]⟩:ByteArray)
 ·exact Eb ok H w6 hn hN
 by_cases w7:word I n=(⟨#[99,111,110,116,105,110,117,101]⟩:ByteArray)
 ·exact Db ok H w7 hn hN
 by_cases w8:word I n=(⟨#[103,111,116,111]⟩:ByteArray)
 ·exact Cb ok H w8 hn hN
 by_cases w9:word I n=(⟨#[102,97,108,108,116,104,114,111,117,103,104]⟩:ByteArray)
 ·exact Bb ok H w9 hn hN
 by_cases w10:word I n=(⟨#[123]⟩:ByteArray)
 ·exact yK ok H w10 hn hN
 by_cases w11:word I n=(⟨#[105,102]⟩:ByteArray)
 ·exact yJ ok H w11 hn hN
 by_cases w12:word I n=(⟨#[115,119,105,116,99,104]⟩:ByteArray)
 ·exact yI ok H w12 hn hN
 by_cases w13:word I n=(⟨#[115,101,108,101,99,116]⟩:ByteArray)
 ·exact yH ok H w13 hn hN
 by_cases w14:word I n=(⟨#[102,111,114]⟩:ByteArray)
 ·exact yG ok H w14 hn hN
 exact Fg ok H w0 w1 w2 w3 w4 w5 w6 w7 w8 w9 w10 w11 w12 w13 w14 hn hN
theorem yC(ok:C6 I)(H:O8 I M g N)(hs0:n<I.L)(hn:0≤n∧n≤I.L)(hN:32*(I.L+1-n)+2≤N):N3 I M 203 [] (J6 I g t n) t n 1:=by
 by_cases w0:word I (n+1)=(⟨#[123]⟩:ByteArray)
 ·exact pS ok H hs0 w0 hn hN
 by_cases w1:word I (n+1)=(⟨#[59]⟩:ByteArray)
 ·exact pR ok H hs0 w1 hn hN
 exact rD ok H hs0 w0 w1 hn hN
end
end Go.Ex
namespace Go.Ex
open Go.Proofs
attribute [local irreducible] CH X2 word B9
section
variable {I:In}{M:O6}{g:Gt}{N:Int}{t:Bool}{n:Int}
theorem Rd(ok:C6 I)(H:O8 I M g N)(hs0:n<I.L)(w0:word I (n+1)=(⟨#[123]⟩:ByteArray))(hn:0≤n∧n≤I.L)(hN:32*(I.L+1-n)+2≤N):N3 I M 205 [] (W9 I g t n) t n 1:=fun br h hs hB=>by
 refine O9 1 [1,2,3,4,5,6,7,8,9,10,11,24,48,72,88,101,107,115,126] [] [.own 900 br 0] Tryz.func205 rfl hs ?_
 have W:=Wd.start ok hB
 have hl:=ok.len
 ((repeat' (conv=>whnf);first|(refine Ar.fit (by omega) ?_)|(refine VC.mk (by (first|omega|(and_intros<;>first|rfl|(simp only [maxLen];omega)))) ?_)|(refine Br.mk ?_ ?_<;>intro hb<;>(try replace hb:=nN hb)<;>(try exact absurd hb (by decide))<;>(try (exact absurd rfl hb)))|(refine E5.mk ?_;intro b hb)|(refine dD.mk ?_ ?_)|(refine dD.mk ?_ ?_)|(refine A7 ?_ fun h1 hs=>F5 W.ok W.base hs rfl (by assumption))|(refine CK.box 901 _ (fun h1 hs=>D9 hs rfl 65) ?_;intro bo hbo)|(refine CK.sure W (G0 0 (by decide) (by omega)) rfl rfl ?_;intro bq h';(conv=>whnf);intro W)|(refine F2 W (H .block _ _ (by simp only [C5,A6];omega) (by omega) trivial) rfl rfl (fun x m bq h' hx hm1 hm2=>?_) fun x hx=>?_;(try dsimp only [D1] at hm1);(conv=>whnf);intro W)|(refine CK.cO 901 W rfl rfl rfl (fun h hs hm=>hs.ne (k:=901) (k':=900) rfl rfl (by decide) (List.mem_singleton.1 hm)) rfl rfl rfl rfl rfl rfl (rC W (by repeat constructor) (rC W (by repeat constructor) (rC W (by repeat constructor) (rC W (by repeat constructor) (rN))))) (by simp [O5]) (by simp) ?_;intro h';(conv=>whnf);intro W)|(refine C2 (id:=19) (.pl [1,2,3] (.alt 0 (.alt 4 (.pl [5] (.pb 6 7 (.on [8,9,10] (.pl [11] .e)))) (.alt 5 (.br 4 7 (.pb 6 7 (.on [8,9,10] (.pl [11] .e))) (.on [4,6,8,9,10] (.pl [11] .e))) (.alt 7 (.pb 4 5 (.on [6,8,9,10] (.pl [11] .e))) .e))) (.alt 4 (.pl [5] (.alt 0 (.pb 6 7 (.on [8,9,10] (.pl [11] .e))) (.alt 6 (.pl [7] (.br 0 8 (.on [8,9,10] (.pl [11] .e)) (.bp 0 9 (.on [10] (.pl [11] .e))))) (.alt 7 (.br 0 6 (.on [6,8,9,10] (.pl [11] .e)) (.br 0 8 (.on [8,9,10] (.pl [11] .e)) (.bp 0 9 (.on [10] (.pl [11] .e))))) .e)))) (.alt 5 (.alt 0 (.br 4 7 (.pb 6 7 (.on [8,9,10] (.pl [11] .e))) (.on [4,6,8,9,10] (.pl [11] .e))) (.alt 4 (.alt 0 (.pb 6 7 (.on [8,9,10] (.pl [11] .e))) (.alt 6 (.pl [7] (.br 0 8 (.on [8,9,10] (.pl [11] .e)) (.bp 0 9 (.on [10] (.pl [11] .e))))) (.alt 7 (.br 0 6 (.on [6,8,9,10] (.pl [11] .e)) (.br 0 8 (.on [8,9,10] (.pl [11] .e)) (.bp 0 9 (.on [10] (.pl [11] .e))))) .e))) (.alt 7 (.br 0 4 (.on [4,6,8,9,10] (.pl [11] .e)) (.br 0 6 (.on [6,8,9,10] (.pl [11] .e)) (.br 0 8 (.on [8,9,10] (.pl [11] .e)) (.bp 0 9 (.on [10] (.pl [11] .e)))))) .e))) (.alt 7 (.alt 0 (.pb 4 5 (.on [6,8,9,10] (.pl [11] .e))) (.alt 4 (.pl [5] (.br 0 6 (.on [6,8,9,10] (.pl [11] .e)) (.br 0 8 (.on [8,9,10] (.pl [11] .e)) (.bp 0 9 (.on [10] (.pl [11] .e)))))) (.alt 5 (.br 0 4 (.on [4,6,8,9,10] (.pl [11] .e)) (.br 0 6 (.on [6,8,9,10] (.pl [11] .e)) (.br 0 8 (.on [8,9,10] (.pl [11] .e)) (.bp 0 9 (.on [10] (.pl [11] .e)))))) .e))) .e))))) (by kernel_rfl) ?_)|(refine dD.mk ?_ ?_)|fail);all_goals try conv=>whnf)
 all_goals first|(refine W.fn rfl (by repeat constructor) ?_ (by omega);(simp [W9,N8,T6,Q1,U3,V8,bnd,want, *];done))|(simp [W9,N8,T6,Q1,U3,V8,bnd,want, *];done)|contradiction
end
end Go.Ex
namespace Go.Ex
open Go.Proofs
attribute [local irreducible] CH X2 word B9
section
variable {I:In}{M:O6}{g:Gt}{N:Int}{t:Bool}{n:Int}
theorem Qd(ok:C6 I)(H:O8 I M g N)(hs0:n<I.L)(w1:word I (n+1)=(⟨#[114,97,110,103,101]⟩:ByteArray))(hn:0≤n∧n≤I.L)(hN:32*(I.L+1-n)+2≤N):N3 I M 205 [] (W9 I g t n) t n 1:=fun br h hs hB=>by
 refine O9 1 [1,2,3,4,5,6,7,8,9,10,11,24,48,72,88,101,107,115,126] [] [.own 900 br 0] Tryz.func205 rfl hs ?_
 have W:=Wd.start ok hB
 have hl:=ok.len
 ((repeat' (conv=>whnf);first|(refine Ar.fit (by omega) ?_)|(refine VC.mk (by (first|omega|(and_intros<;>first|rfl|(simp only [maxLen];omega)))) ?_)|(refine Br.mk ?_ ?_<;>intro hb<;>(try replace hb:=nN hb)<;>(try exact absurd hb (by decide))<;>(try (exact absurd rfl hb)))|(refine E5.mk ?_;intro b hb)|(refine A7 ?_ fun h1 hs=>F5 W.ok W.base hs rfl (by assumption))|(refine CK.box 901 _ (fun h1 hs=>D9 hs rfl 65) ?_;intro bo hbo)|(refine CK.sure W (G0 0 (by decide) (by omega)) rfl rfl ?_;intro bq h';(conv=>whnf);intro W)|(refine F2 W (H .block _ _ (by simp only [C5,A6];omega) (by omega) trivial) rfl rfl (fun x m bq h' hx hm1 hm2=>?_) fun x hx=>?_;(try dsimp only [D1] at hm1);(conv=>whnf);intro W)|(refine F2 W (H .expr _ _ (by simp only [C5,A6];omega) (by omega) trivial) rfl rfl (fun x m bq h' hx hm1 hm2=>?_) fun x hx=>?_;(try dsimp only [D1] at hm1);(conv=>whnf);intro W)|(refine CK.want W (by decide) (by omega) rfl rfl (fun hx=>?_) (fun hx hm=>?_);rotate_left)|(refine CK.cO 901 W rfl rfl rfl (fun h hs hm=>hs.ne (k:=901) (k':=900) rfl rfl (by decide) (List.mem_singleton.1 hm)) rfl rfl rfl rfl rfl rfl (rC W (by repeat constructor) (rC W (by repeat constructor) (rC W (by repeat constructor) (rN)))) (by simp [O5]) (by simp) ?_;intro h';(conv=>whnf);intro W)|(refine CK.inline (rep:=rep) tO Tryz.func222 rfl (by decide) (rs:=[.tmp 4]) rfl 4 [4,5,6] [] rfl rfl rfl ?_)|(refine CK.inline (rep:=rep) tO Tryz.func227 rfl (by decide) (rs:=[.tmp 6]) rfl 4 [6,7] [] rfl rfl rfl ?_)|fail);all_goals try conv=>whnf)
 all_goals first|(refine W.fn rfl (by repeat constructor) ?_ (by omega);(simp [W9,N8,T6,Q1,U3,V8,bnd,want, *];done))|(simp [W9,N8,T6,Q1,U3,V8,bnd,want, *];done)|contradiction
end
end Go.Ex
namespace Go.Ex
open Go.Proofs
attribute [local irreducible] CH X2 word B9
section
variable {I:In}{M:O6}{g:Gt}{N:Int}{t:Bool}{n:Int}
theorem Pd(ok:C6 I)(H:O8 I M g N)(hs0:n<I.L)(w2:word I (n+1)=(⟨#[59]⟩:ByteArray))(hn:0≤n∧n≤I.L)(hN:32*(I.L+1-n)+2≤N):N3 I M 205 [] (W9 I g t n) t n 1:=fun br h hs hB=>by
 refine O9 1 [1,2,3,4,5,6,7,8,9,10,11,24,48,72,88,101,107,115,126] [] [.own 900 br 0] Tryz.func205 rfl hs ?_
 have W:=Wd.start ok hB
 have hl:=ok.len
 ((repeat' (conv=>whnf);first|(refine C2 (id:=31) (.pl [1,2,3,4,5] (.br 0 6 (.on [6,7,8] (.pl [9] .e)) (.bp 0 7 (.on [8] (.pl [9] .e))))) (by kernel_rfl) ?_)|(refine Ar.fit (by omega) ?_)|(refine VC.mk (by (first|omega|(and_intros<;>first|rfl|(simp only [maxLen];omega)))) ?_)|(refine Br.mk ?_ ?_<;>intro hb<;>(try replace hb:=nN hb)<;>(try exact absurd hb (by decide))<;>(try (have hlt:=T9 hb (by decide)))<;>(try (exact absurd rfl hb)))|(refine E5.mk ?_;intro b hb)|(refine dD.mk ?_ ?_)|(apply CK.pure;case hh=>intro h1 hs;first|exact F5 W.ok W.base hs rfl (by assumption)|exact E0 W.ok W.base hs rfl)|(refine CK.box 901 _ (fun h1 hs=>D9 hs rfl 65) ?_;intro bo hbo)|(refine CK.sure W (G0 0 (by decide) (by omega)) rfl rfl ?_;intro bq h';(conv=>whnf);intro W)|(refine F2 W (H .block _ _ (by simp only [C5,A6];omega) (by omega) trivial) rfl rfl (fun x m bq h' hx hm1 hm2=>?_) fun x hx=>?_;(try dsimp only [D1] at hm1);(conv=>whnf);intro W)|(refine F2 W (H .expr _ _ (by simp only [C5,A6];omega) (by omega) trivial) rfl rfl (fun x m bq h' hx hm1 hm2=>?_) fun x hx=>?_;(try dsimp only [D1] at hm1);(conv=>whnf);intro W)|(refine F2 W (H .simple _ _ (by simp only [C5,A6];omega) (by omega) trivial) rfl rfl (fun x m bq h' hx hm1 hm2=>?_) fun x hx=>?_;(try dsimp only [D1] at hm1);(conv=>whnf);intro W)|(refine CK.want W (by decide) (by omega) rfl rfl (fun hx=>?_) (fun hx hm=>?_);rotate_left)|(refine CK.cO 901 W rfl rfl rfl (fun h hs hm=>hs.ne (k:=901) (k':=900) rfl rfl (by decide) (List.mem_singleton.1 hm)) rfl rfl rfl rfl rfl rfl (rC W (by repeat constructor) (rC W (by repeat constructor) (rC W (by repeat constructor) (rC W (by repeat constructor) (rN))))) (by simp [O5]) (by simp) ?_;intro h';(conv=>whnf);intro W)|(refine CK.inline (rep:=rep) tO Tryz.func222 rfl (by decide) (rs:=[.tmp 4]) rfl 4 [4,5,6] [] rfl rfl rfl ?_)|fail);all_goals try conv=>whnf)
 all_goals first|(refine W.fn rfl (by repeat constructor) ?_ (by omega);(simp [W9,N8,T6,Q1,U3,V8,bnd,want, *];done))|(simp [W9,N8,T6,Q1,U3,V8,bnd,want, *];done)|contradiction
end
end Go.Ex
