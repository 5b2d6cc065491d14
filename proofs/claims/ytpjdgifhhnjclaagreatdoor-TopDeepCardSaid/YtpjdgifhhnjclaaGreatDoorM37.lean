/-
  Top: TopDeep: whatever the input, the law answers true (part 37)
-/
import Derived.Test.YtpjdgifhhnjclaaGreatDoorM33
import Derived.Test.YtpjdgifhhnjclaaGreatDoorM36
set_option linter.unusedVariables false
set_option linter.unusedSimpArgs false
set_option maxHeartbeats 4000000
set_option maxRecDepth 10000
namespace Go.Ex
open Go.Proofs
attribute [local irreducible] CH CsP word kindT
section
variable {I:In}{M:Loc}{br:Nat}{t:Bool}{n:Int}{h:Heap}{lo:Nat}
theorem TrI.kid{cap:List Nat}{p:Option Addr}{x:Nd}(hT:TrI lo h cap p x)(i:Nat)(hi:i<x.kids.length):∃ b,TrI lo h cap (some ⟨b,0,none⟩) (x.kids.getD i nd0):=by
 obtain⟨b,rfl⟩:=hT.ptr
 obtain⟨A,n,c,ps,_,_,_,_,h5⟩:=hT.at
 obtain⟨b,_,h6⟩:=h5.get i hi
 exact⟨b,h6⟩
theorem PLoad.kindC{S:St}{b:Nat}{x:Nd}{κ:KV→Prop}{cap:List Nat}(hsub:∀ c∈S.cap,c∈cap)(hT:TrI lo S.h0 cap (some ⟨b,0,none⟩) x)(hk:readK false (mapC [.int .u8 x.kind]) κ):PLoad S ⟨b,0+0,none⟩ 1 false κ:=PLoad.kind (TrI.later ((Later.refl _ cap).less hsub) (Nat.le_refl _) x hT) hk
theorem PLoad.wordC{S:St}{b:Nat}{x:Nd}{κ:KV→Prop}{cap:List Nat}(hsub:∀ c∈S.cap,c∈cap)(hT:TrI lo S.h0 cap (some ⟨b,0,none⟩) x)(hk:readK false (mapC [.int .i64 x.word]) κ):PLoad S ⟨b,0+1,none⟩ 1 false κ:=PLoad.word (TrI.later ((Later.refl _ cap).less hsub) (Nat.le_refl _) x hT) hk
theorem PLoad.frmC{S:St}{b:Nat}{x:Nd}{κ:KV→Prop}{cap:List Nat}(hsub:∀ c∈S.cap,c∈cap)(hT:TrI lo S.h0 cap (some ⟨b,0,none⟩) x)(hk:readK false (mapC [.int .i64 x.frm]) κ):PLoad S ⟨b,0+2,none⟩ 1 false κ:=PLoad.frm (TrI.later ((Later.refl _ cap).less hsub) (Nat.le_refl _) x hT) hk
theorem PLoad.kidsC{S:St}{b:Nat}{x:Nd}{κ:KV→Prop}{cap:List Nat}(hsub:∀ c∈S.cap,c∈cap)(hT:TrI lo S.h0 cap (some ⟨b,0,none⟩) x)(hk:∀ A n c ps,Held ptrR S.h0 cap A n ps→TsI lo S.h0 cap ps x.kids→n=x.kids.length→readK false (mapC [.slice A n c]) κ):PLoad S ⟨b,0+4,none⟩ 1 false κ:=by
 obtain⟨A,n,c,ps,⟨h0,h1,h2⟩,h3,h4,_,h5⟩:=hT.at
 refine⟨.inl ⟨h1,fun hm=>h2 (hsub _ hm),rfl,[.slice A n c],rfl,fun i u hi=>?_,_,mapC_map _,hk A n c ps h4 h5 (by rw [←h4.sl.len_eq,h5.len])⟩⟩
 cases i with
 |zero=>
  cases hi
  simp only [hcell,h3]
  rfl
 |succ i=>cases hi
theorem XLoad.kidC{S:St}{A:Option Addr}{n:Nat}{ps:List (Option Addr)}{l:List Nd}{κ:KV→Prop}{cap:List Nat}(i:Nat)(hsub:∀ c∈S.cap,c∈cap)(hA:Held ptrR S.h0 cap A n ps)(hT:TsI lo S.h0 cap ps l)(hl:i<l.length)
 (hk:∀ b,TrI lo S.h0 cap (some ⟨b,0,none⟩) (l.getD i nd0)→readK false (mapC [.pointer (some ⟨b,0,none⟩)]) κ):XLoad S A 1 (i:Int) 0 1 false κ:=by
 obtain⟨b,h1,h2⟩:=hT.get i hl
 have hlen:=hA.sl.len_eq
 have hll:=hT.len
 exact XLoad.held (hA.later ((Later.refl _ cap).less hsub)) rfl (by omega) (by omega) (getI_ptr h1 (i:Int) rfl) (hk b h2)
theorem asked_any{b0:Nat}{cap:List Nat}{s:Nd}(ok:InOk I)(hs:HS ⟨h,[br],rdC I M br t n⟩ h)(hB:Base I M h [br])(hsub:∀ c∈[br],c∈cap)(hcap:∀ c∈cap,c<h.size)(hT:TrI lo h cap (some ⟨b0,0,none⟩) s)(hw:Wf s) :
 CH Tryz.prog 225 #[ptr br,ptr b0] h fun v h'=>(askN I s=none∧v = .tuple #[.pointer none,.pointer none]∧Grows h h') ∨
  ∃ a x b1 b2,askN I s=some (a,x)∧v = .tuple #[ptr b1,ptr b2]∧Grows h h'∧Wf a∧Wf x∧(TrI lo h cap (some ⟨b1,0,none⟩) a∨TrI h.size h' cap (some ⟨b1,0,none⟩) a)∧TrI lo h cap (some ⟨b2,0,none⟩) x:=by
 refine eIn (rep:=rep) (m:=2) (ex:=[0,1,4,5,6,7,8,47,121]) (cu:=[]) (args:=[.own 900 br 0,.val (ptr b0)]) tO Tryz.func225 rfl (by decide) (rs:=[.tmp 4,.tmp 5]) rfl rfl rfl hs ?_
 have W:=Wd.start ok hB
 have hs0:=hs
 have hwk:=hw.kids
 have lk:∀ (y:Nd) (k:Int),Wf y→y.kind=k→0<leK k→0<y.kids.length:=fun y k hy e h=>by
  have:=hy.kids.1
  rw [e] at this
  omega
 by_cases k50:s.kind=50
 ·have l0:0<s.kids.length:=lk s 50 hw k50 (by decide)
  have w0:=hwk.2.get 0 l0
  by_cases k33:(s.kids.getD 0 nd0).kind=33
  ·have l1:0<(s.kids.getD 0 nd0).kids.length:=lk _ 33 w0 k33 (by decide)
   have w1:=w0.kids.2.get 0 l1
   have e0:askN I s=some (.mk 0 (-1) s.frm s.frm [],(s.kids.getD 0 nd0).kids.getD 0 nd0):=by rw [askN,if_pos ⟨k50,k33⟩]
   ((repeat' ((conv=>whnf);(first|(refine dW (id:=2) tO mixed (.pull 0 [1,2,3,8,9,21,22] (.pull 1 [2,3,8,9,21,22] (.pull 2 [3,8,9,21,22] (.pull 4 [5,6,7,8,9,21,22] (.pull 5 [6,7,8,9,21,22] (.pull 6 [7,8,9,21,22] (.pull 10 [11,12,13,14,15,16,17,18,19,20,22] (.pull 11 [12,13,14,15,16,17,18,19,20,22] (.pull 12 [13,14,15,16,17,18,19,20,22] (.tri 3 7 13 (.br 7 13 (.pull 8 [9,21,22] (.br 9 13 (.pull 21 [22] (.pull 13 [14,15,16,17,18,19,20,22] (.pull 14 [15,16,17,18,19,20,22] (.pull 15 [16,17,18,19,20,22] (.pull 16 [17,18,19,20,22] (.pull 17 [18,19,20,22] (.pull 18 [19,20,22] (.pull 19 [20,22] (.pull 20 [22] (.pull 22 [] .done)))))))))) (.pull 14 [15,16,17,18,19,20,22] (.br 9 15 (.pull 21 [22] (.pull 15 [16,17,18,19,20,22] (.pull 16 [17,18,19,20,22] (.pull 17 [18,19,20,22] (.pull 18 [19,20,22] (.pull 19 [20,22] (.pull 20 [22] (.pull 22 [] .done)))))))) (.pull 16 [17,18,19,20,22] (.pull 17 [18,19,20,22] (.br 9 18 (.pull 21 [22] (.pull 18 [19,20,22] (.pull 19 [20,22] (.pull 20 [22] (.pull 22 [] .done))))) (.pull 19 [20,22] (.br 9 20 (.pull 21 [22] (.pull 20 [22] (.pull 22 [] .done))) (.one 9 (.pull 21 [22] (.pull 22 [] .done)))))))))))) (.pull 14 [15,16,17,18,19,20,22] (.br 7 15 (.pull 8 [9,21,22] (.br 9 15 (.pull 21 [22] (.pull 15 [16,17,18,19,20,22] (.pull 16 [17,18,19,20,22] (.pull 17 [18,19,20,22] (.pull 18 [19,20,22] (.pull 19 [20,22] (.pull 20 [22] (.pull 22 [] .done)))))))) (.pull 16 [17,18,19,20,22] (.pull 17 [18,19,20,22] (.br 9 18 (.pull 21 [22] (.pull 18 [19,20,22] (.pull 19 [20,22] (.pull 20 [22] (.pull 22 [] .done))))) (.pull 19 [20,22] (.br 9 20 (.pull 21 [22] (.pull 20 [22] (.pull 22 [] .done))) (.one 9 (.pull 21 [22] (.pull 22 [] .done)))))))))) (.pull 16 [17,18,19,20,22] (.pull 17 [18,19,20,22] (.pull 7 [8,9,21,22] (.pull 8 [9,21,22] (.br 9 18 (.pull 21 [22] (.pull 18 [19,20,22] (.pull 19 [20,22] (.pull 20 [22] (.pull 22 [] .done))))) (.pull 19 [20,22] (.br 9 20 (.pull 21 [22] (.pull 20 [22] (.pull 22 [] .done))) (.one 9 (.pull 21 [22] (.pull 22 [] .done))))))))))))) (.br 3 13 (.pull 8 [9,21,22] (.br 9 13 (.pull 21 [22] (.pull 13 [14,15,16,17,18,19,20,22] (.pull 14 [15,16,17,18,19,20,22] (.pull 15 [16,17,18,19,20,22] (.pull 16 [17,18,19,20,22] (.pull 17 [18,19,20,22] (.pull 18 [19,20,22] (.pull 19 [20,22] (.pull 20 [22] (.pull 22 [] .done)))))))))) (.pull 14 [15,16,17,18,19,20,22] (.br 9 15 (.pull 21 [22] (.pull 15 [16,17,18,19,20,22] (.pull 16 [17,18,19,20,22] (.pull 17 [18,19,20,22] (.pull 18 [19,20,22] (.pull 19 [20,22] (.pull 20 [22] (.pull 22 [] .done)))))))) (.pull 16 [17,18,19,20,22] (.pull 17 [18,19,20,22] (.br 9 18 (.pull 21 [22] (.pull 18 [19,20,22] (.pull 19 [20,22] (.pull 20 [22] (.pull 22 [] .done))))) (.pull 19 [20,22] (.br 9 20 (.pull 21 [22] (.pull 20 [22] (.pull 22 [] .done))) (.one 9 (.pull 21 [22] (.pull 22 [] .done)))))))))))) (.pull 14 [15,16,17,18,19,20,22] (.br 3 15 (.pull 8 [9,21,22] (.br 9 15 (.pull 21 [22] (.pull 15 [16,17,18,19,20,22] (.pull 16 [17,18,19,20,22] (.pull 17 [18,19,20,22] (.pull 18 [19,20,22] (.pull 19 [20,22] (.pull 20 [22] (.pull 22 [] .done)))))))) (.pull 16 [17,18,19,20,22] (.pull 17 [18,19,20,22] (.br 9 18 (.pull 21 [22] (.pull 18 [19,20,22] (.pull 19 [20,22] (.pull 20 [22] (.pull 22 [] .done))))) (.pull 19 [20,22] (.br 9 20 (.pull 21 [22] (.pull 20 [22] (.pull 22 [] .done))) (.one 9 (.pull 21 [22] (.pull 22 [] .done)))))))))) (.pull 16 [17,18,19,20,22] (.pull 17 [18,19,20,22] (.pull 3 [8,9,21,22] (.pull 8 [9,21,22] (.br 9 18 (.pull 21 [22] (.pull 18 [19,20,22] (.pull 19 [20,22] (.pull 20 [22] (.pull 22 [] .done))))) (.pull 19 [20,22] (.br 9 20 (.pull 21 [22] (.pull 20 [22] (.pull 22 [] .done))) (.one 9 (.pull 21 [22] (.pull 22 [] .done))))))))))))) (.pull 14 [15,16,17,18,19,20,22] (.tri 3 7 15 (.br 7 15 (.pull 8 [9,21,22] (.br 9 15 (.pull 21 [22] (.pull 15 [16,17,18,19,20,22] (.pull 16 [17,18,19,20,22] (.pull 17 [18,19,20,22] (.pull 18 [19,20,22] (.pull 19 [20,22] (.pull 20 [22] (.pull 22 [] .done)))))))) (.pull 16 [17,18,19,20,22] (.pull 17 [18,19,20,22] (.br 9 18 (.pull 21 [22] (.pull 18 [19,20,22] (.pull 19 [20,22] (.pull 20 [22] (.pull 22 [] .done))))) (.pull 19 [20,22] (.br 9 20 (.pull 21 [22] (.pull 20 [22] (.pull 22 [] .done))) (.one 9 (.pull 21 [22] (.pull 22 [] .done)))))))))) (.pull 16 [17,18,19,20,22] (.pull 17 [18,19,20,22] (.pull 7 [8,9,21,22] (.pull 8 [9,21,22] (.br 9 18 (.pull 21 [22] (.pull 18 [19,20,22] (.pull 19 [20,22] (.pull 20 [22] (.pull 22 [] .done))))) (.pull 19 [20,22] (.br 9 20 (.pull 21 [22] (.pull 20 [22] (.pull 22 [] .done))) (.one 9 (.pull 21 [22] (.pull 22 [] .done))))))))))) (.br 3 15 (.pull 8 [9,21,22] (.br 9 15 (.pull 21 [22] (.pull 15 [16,17,18,19,20,22] (.pull 16 [17,18,19,20,22] (.pull 17 [18,19,20,22] (.pull 18 [19,20,22] (.pull 19 [20,22] (.pull 20 [22] (.pull 22 [] .done)))))))) (.pull 16 [17,18,19,20,22] (.pull 17 [18,19,20,22] (.br 9 18 (.pull 21 [22] (.pull 18 [19,20,22] (.pull 19 [20,22] (.pull 20 [22] (.pull 22 [] .done))))) (.pull 19 [20,22] (.br 9 20 (.pull 21 [22] (.pull 20 [22] (.pull 22 [] .done))) (.one 9 (.pull 21 [22] (.pull 22 [] .done)))))))))) (.pull 16 [17,18,19,20,22] (.pull 17 [18,19,20,22] (.pull 3 [8,9,21,22] (.pull 8 [9,21,22] (.br 9 18 (.pull 21 [22] (.pull 18 [19,20,22] (.pull 19 [20,22] (.pull 20 [22] (.pull 22 [] .done))))) (.pull 19 [20,22] (.br 9 20 (.pull 21 [22] (.pull 20 [22] (.pull 22 [] .done))) (.one 9 (.pull 21 [22] (.pull 22 [] .done))))))))))) (.pull 16 [17,18,19,20,22] (.pull 17 [18,19,20,22] (.pull 3 [8,9,21,22] (.pull 7 [8,9,21,22] (.pull 8 [9,21,22] (.br 9 18 (.pull 21 [22] (.pull 18 [19,20,22] (.pull 19 [20,22] (.pull 20 [22] (.pull 22 [] .done))))) (.pull 19 [20,22] (.br 9 20 (.pull 21 [22] (.pull 20 [22] (.pull 22 [] .done))) (.one 9 (.pull 21 [22] (.pull 22 [] .done))))))))))))))))))))))) (by kernel_rfl) (by kernel_rfl) ?_)|(refine VC.mk (by (first|omega|exact Sl.plain (by assumption) (by omega))) ?_)|(refine Br.mk ?_ ?_<;>intro hb<;>(try replace hb:=Classical.not_not.1 hb)<;>(try exact absurd hb (show ¬ (ByteArray.mk _=ByteArray.mk _) from by decide))<;>(try (exfalso;omega)))|(refine New.mk ?_;intro b hb)|(refine Two.mk ?_ ?_)|(refine Tri.mk ?_ ?_ ?_)|(refine PLoad.kindC hsub (by assumption) ?_)|(refine PLoad.kidsC hsub (by assumption) ?_;intro A n1 c1 ps1 hA hTs hnl;subst hnl;have hAs:=hA.sl)|(refine XLoad.kidC 0 hsub hA hTs (by omega) ?_;intro bq hT0)|(refine PLoad.frmC hsub (by assumption) ?_)|fail)));all_goals (try (conv=>whnf)))
   all_goals exact⟨fun h' hs=>.inr ⟨.mk 0 (-1) s.frm s.frm [],(s.kids.getD 0 nd0).kids.getD 0 nd0,_,bq,e0,rfl,hs0.gB hs rfl,wf_leaf (by decide),w1,.inr (tree_leaf ⟨by assumption,(hs.chunk _ List.mem_cons_self).1,fun hm=>absurd (hcap _ hm) (by dsimp only at *;omega)⟩ (hs.chunk _ List.mem_cons_self).2.2),hT0⟩⟩
  ·have eN:askN I s=none:=by rw [askN,if_neg (fun h=>k33 h.2),if_neg (fun h=>absurd (k50.symm.trans h.1) (by decide))]
   ((repeat' ((conv=>whnf);(first|(refine VC.mk (by (first|omega|exact Sl.plain (by assumption) (by omega))) ?_)|(refine Br.mk ?_ ?_<;>intro hb<;>(try replace hb:=Classical.not_not.1 hb)<;>(try exact absurd hb (show ¬ (ByteArray.mk _=ByteArray.mk _) from by decide))<;>(try (exfalso;omega)))|(refine PLoad.kindC hsub (by assumption) ?_)|(refine PLoad.kidsC hsub (by assumption) ?_;intro A n1 c1 ps1 hA hTs hnl;subst hnl;have hAs:=hA.sl)|(refine XLoad.kidC 0 hsub hA hTs (by omega) ?_;intro bq hT0)|fail)));all_goals (try (conv=>whnf)))
   all_goals first
    |exact⟨fun h' hs=>.inl ⟨by first|exact eN|exact eF (by assumption),rfl,hs0.gB hs rfl⟩⟩
 ·by_cases k53:s.kind=53
  ·have l0:2≤s.kids.length:=by have:=hwk.1;rw [k53] at this;simpa [leK] using this
   have w0:=hwk.2.get 0 (by omega)
   have w1:=hwk.2.get 1 (by omega)
   by_cases kw:word I s.word=(⟨#[58,61]⟩:ByteArray)
   ·by_cases n0:((s.kids.getD 0 nd0).kids.length:Int)=1
    ·by_cases n1:((s.kids.getD 1 nd0).kids.length:Int)=1
     ·have w2:=w0.kids.2.get 0 (by omega)
      have w3:=w1.kids.2.get 0 (by omega)
      by_cases kb:((s.kids.getD 1 nd0).kids.getD 0 nd0).kind=33
      ·have l3:0<((s.kids.getD 1 nd0).kids.getD 0 nd0).kids.length:=lk _ 33 w3 kb (by decide)
       have w4:=w3.kids.2.get 0 l3
       have eY:((s.kids.getD 0 nd0).kids.getD 0 nd0).kind=26→askN I s=some ((s.kids.getD 0 nd0).kids.getD 0 nd0,((s.kids.getD 1 nd0).kids.getD 0 nd0).kids.getD 0 nd0):=fun k26=>by rw [askN,if_neg (fun h=>k50 h.1),if_pos ⟨k53,kw,n0,n1,k26,kb⟩]
       have eF:¬ ((s.kids.getD 0 nd0).kids.getD 0 nd0).kind=26→askN I s=none:=fun k26=>by rw [askN,if_neg (fun h=>k50 h.1),if_neg (fun h=>k26 h.2.2.2.2.1)]
       ((repeat' ((conv=>whnf);(first|(refine VC.mk (by (first|omega|exact Sl.plain (by assumption) (by omega))) ?_)|(refine Br.mk ?_ ?_<;>intro hb<;>(try replace hb:=Classical.not_not.1 hb)<;>(try exact absurd hb (show ¬ (ByteArray.mk _=ByteArray.mk _) from by decide))<;>(try (first|(exfalso;omega)|exact absurd rfl hb)))|(apply CK.pure;(case hh=>(intro h1 hs;first|exact word_e W.ok W.base hs rfl (by assumption))))|(refine PLoad.kindC hsub (by assumption) ?_)|(refine PLoad.wordC hsub (by assumption) ?_)|(refine PLoad.kidsC hsub (by assumption) ?_;intro A n1 c1 ps1 hA hTs hnl;subst hnl;have hAs:=hA.sl)|(refine XLoad.kidC 0 hsub hA hTs (by omega) ?_;intro bq hT0)|(refine XLoad.kidC 1 hsub hA hTs (by omega) ?_;intro bq hT0)|(refine (drawn tO mixed (by kernel_rfl) ?_))|fail)));all_goals (try (conv=>whnf)))
       all_goals first
        |exact⟨fun h' hs=>.inr ⟨(s.kids.getD 0 nd0).kids.getD 0 nd0,((s.kids.getD 1 nd0).kids.getD 0 nd0).kids.getD 0 nd0,_,_,eY (by assumption),rfl,hs0.gB hs rfl,w2,w4,.inl (by assumption),by assumption⟩⟩
        |exact⟨fun h' hs=>.inl ⟨by first|exact eN|exact eF (by assumption),rfl,hs0.gB hs rfl⟩⟩
      ·have eN:askN I s=none:=by rw [askN,if_neg (fun h=>k50 h.1),if_neg (fun h=>kb h.2.2.2.2.2)]
       ((repeat' ((conv=>whnf);(first|(refine VC.mk (by (first|omega|exact Sl.plain (by assumption) (by omega))) ?_)|(refine Br.mk ?_ ?_<;>intro hb<;>(try replace hb:=Classical.not_not.1 hb)<;>(try exact absurd hb (show ¬ (ByteArray.mk _=ByteArray.mk _) from by decide))<;>(try (first|(exfalso;omega)|exact absurd rfl hb)))|(apply CK.pure;(case hh=>(intro h1 hs;first|exact word_e W.ok W.base hs rfl (by assumption))))|(refine PLoad.kindC hsub (by assumption) ?_)|(refine PLoad.wordC hsub (by assumption) ?_)|(refine PLoad.kidsC hsub (by assumption) ?_;intro A n1 c1 ps1 hA hTs hnl;subst hnl;have hAs:=hA.sl)|(refine XLoad.kidC 0 hsub hA hTs (by omega) ?_;intro bq hT0)|(refine XLoad.kidC 1 hsub hA hTs (by omega) ?_;intro bq hT0)|(refine (drawn tO mixed (by kernel_rfl) ?_))|fail)));all_goals (try (conv=>whnf)))
       all_goals first
        |exact⟨fun h' hs=>.inl ⟨by first|exact eN|exact eF (by assumption),rfl,hs0.gB hs rfl⟩⟩
     ·have eN:askN I s=none:=by rw [askN,if_neg (fun h=>k50 h.1),if_neg (fun h=>n1 h.2.2.2.1)]
      ((repeat' ((conv=>whnf);(first|(refine VC.mk (by (first|omega|exact Sl.plain (by assumption) (by omega))) ?_)|(refine Br.mk ?_ ?_<;>intro hb<;>(try replace hb:=Classical.not_not.1 hb)<;>(try exact absurd hb (show ¬ (ByteArray.mk _=ByteArray.mk _) from by decide))<;>(try (first|(exfalso;omega)|exact absurd rfl hb)))|(apply CK.pure;(case hh=>(intro h1 hs;first|exact word_e W.ok W.base hs rfl (by assumption))))|(refine PLoad.kindC hsub (by assumption) ?_)|(refine PLoad.wordC hsub (by assumption) ?_)|(refine PLoad.kidsC hsub (by assumption) ?_;intro A n1 c1 ps1 hA hTs hnl;subst hnl;have hAs:=hA.sl)|(refine XLoad.kidC 0 hsub hA hTs (by omega) ?_;intro bq hT0)|(refine XLoad.kidC 1 hsub hA hTs (by omega) ?_;intro bq hT0)|fail)));all_goals (try (conv=>whnf)))
      all_goals first
       |exact⟨fun h' hs=>.inl ⟨by first|exact eN|exact eF (by assumption),rfl,hs0.gB hs rfl⟩⟩
    ·have eN:askN I s=none:=by rw [askN,if_neg (fun h=>k50 h.1),if_neg (fun h=>n0 h.2.2.1)]
     ((repeat' ((conv=>whnf);(first|(refine VC.mk (by (first|omega|exact Sl.plain (by assumption) (by omega))) ?_)|(refine Br.mk ?_ ?_<;>intro hb<;>(try replace hb:=Classical.not_not.1 hb)<;>(try exact absurd hb (show ¬ (ByteArray.mk _=ByteArray.mk _) from by decide))<;>(try (first|(exfalso;omega)|exact absurd rfl hb)))|(apply CK.pure;(case hh=>(intro h1 hs;first|exact word_e W.ok W.base hs rfl (by assumption))))|(refine PLoad.kindC hsub (by assumption) ?_)|(refine PLoad.wordC hsub (by assumption) ?_)|(refine PLoad.kidsC hsub (by assumption) ?_;intro A n1 c1 ps1 hA hTs hnl;subst hnl;have hAs:=hA.sl)|(refine XLoad.kidC 0 hsub hA hTs (by omega) ?_;intro bq hT0)|fail)));all_goals (try (conv=>whnf)))
     all_goals first
      |exact⟨fun h' hs=>.inl ⟨by first|exact eN|exact eF (by assumption),rfl,hs0.gB hs rfl⟩⟩
   ·have eN:askN I s=none:=by rw [askN,if_neg (fun h=>k50 h.1),if_neg (fun h=>kw h.2.1)]
    ((repeat' ((conv=>whnf);(first|(refine Br.mk ?_ ?_<;>intro hb<;>(try replace hb:=Classical.not_not.1 hb)<;>(try exact absurd hb (show ¬ (ByteArray.mk _=ByteArray.mk _) from by decide))<;>(try (have hlt:=wlt hb (by decide)))<;>(try (first|(exfalso;omega)|contradiction)))|(apply CK.pure;(case hh=>(intro h1 hs;first|exact word_k W.ok W.base hs rfl _)))|(refine PLoad.kindC hsub (by assumption) ?_)|(refine PLoad.wordC hsub (by assumption) ?_)|fail)));all_goals (try (conv=>whnf)))
    all_goals first
     |exact⟨fun h' hs=>.inl ⟨by first|exact eN|exact eF (by assumption),rfl,hs0.gB hs rfl⟩⟩
  ·have eN:askN I s=none:=by rw [askN,if_neg (fun h=>k50 h.1),if_neg (fun h=>k53 h.1)]
   ((repeat' ((conv=>whnf);(first|(refine Br.mk ?_ ?_<;>intro hb<;>(try replace hb:=Classical.not_not.1 hb)<;>(try exact absurd hb (show ¬ (ByteArray.mk _=ByteArray.mk _) from by decide))<;>(try (exfalso;omega)))|(refine PLoad.kindC hsub (by assumption) ?_)|fail)));all_goals (try (conv=>whnf)))
   all_goals first
    |exact⟨fun h' hs=>.inl ⟨by first|exact eN|exact eF (by assumption),rfl,hs0.gB hs rfl⟩⟩
end
end Go.Ex
namespace Go.Ex
open Go.Proofs
attribute [local irreducible] CH CsP word kindT
section
variable {I:In}{M:Loc}{br:Nat}{t:Bool}{n:Int}
section
variable {cE:List Nat}{hE:Heap}{its:List It}{S:St}{args caps:List KV}{κ:KV→St→Prop}{E:Value→Heap→Prop}
theorem CK.asked{b0:Nat}{s:Nd}(W:Wd I M cE hE S.h0 S.cap its)(hi:It.one (some ⟨b0,0,none⟩) s∈its)(ha:args.map den1++caps.map denC=[ptr br,ptr b0])(hf:findC S.ch 900=some (br,rdB I M t n))
 (hn:askN I s=none→κ (.tup [.val (.pointer none),.val (.pointer none)]) S)
 (hy:∀ a x b1 b2 h',askN I s=some (a,x)→Wd I M cE hE h' (blks S.ch) (.one (some ⟨b1,0,none⟩) a::.one (some ⟨b2,0,none⟩) x::its)→κ (.tup [.val (.pointer (some ⟨b1,0,none⟩)),.val (.pointer (some ⟨b2,0,none⟩))]) ⟨h',blks S.ch,S.ch⟩):CK Tryz.prog E 225 args caps S κ:=
 ⟨fun h hs=>.inl (by
  rw [ha]
  have hl:Later S.h0 S.cap h (blks S.ch):=hs.lB
  have hb:∀ c∈[br],c∈blks S.ch:=fun c hc=>by rw [List.mem_singleton.1 hc];exact blk_mem hf
  refine (asked_any W.ok (rd_at hs hf) (W.base.at1 hs hf) hb (fun c hc=>(hs.blks_of hc).1) (TrI.later hl (Nat.le_refl _) s (W.one hi)) (W.wf hi)).mono fun v h' hv=>?_
  rcases hv with ⟨e1,e2,e3⟩|⟨a,x,b1,b2,e1,e2,e3,w1,w2,t1,t2⟩
  ·exact⟨_,_,by rw [e2];rfl,hs.later e3,hn e1⟩
  ·have hl2:Later h (blks S.ch) h' (blks S.ch):=⟨e3.size,fun i hi _=>e3.same i hi,fun c hc=>.inl hc⟩
   have hsz:hE.size≤h.size:=Nat.le_trans W.later.size hs.size
   refine⟨_,_,by rw [e2];rfl,(hs.later e3).anew,hy a x b1 b2 h' e1 (((W.anew (hl.trans hl2)).add (i:=.one (some ⟨b2,0,none⟩) x) ⟨TrI.later hl2 (Nat.le_refl _) x t2,w2⟩).add (i:=.one (some ⟨b1,0,none⟩) a) ⟨?_,w1⟩)⟩
   rcases t1 with t1|t1
   ·exact TrI.later hl2 (Nat.le_refl _) a t1
   ·exact TrI.later (Later.refl _ _) hsz a t1)⟩
end
end
end Go.Ex
namespace Go.Ex
open Go.Proofs
attribute [local irreducible] CH CsP word kindT
section
variable {I:In}{M:Loc}{g:Gt}{N:Int}{t:Bool}{n:Int}
theorem switches_w0_con(ok:InOk I)(H:Hyp I M g N)(hs0:n<I.L)(w0:word I (n+1)=(⟨#[123]⟩:ByteArray))(hn:0≤n∧n≤I.L)(hN:32*(I.L+1-n)+2≤N):Con I M 203 [] (switchesS I g t n) t n 1:=fun br h hs hB=>by
 refine eP (rep:=rep) (m:=1) (ex:=[0,2,3,4,5,6,7,8,9,30,36,38,44,50,68]) (cu:=[]) (args:=[.own 900 br 0]) tO Tryz.func203 rfl (by decide) (rs:=[.tmp 2]) rfl rfl rfl hs ?_
 have W:=Wd.start ok hB
 have hl:=ok.len
 ((repeat' ((conv=>whnf);(first|(exfalso;rw [w0] at hx;exact absurd hx (by decide))|(refine Ar.fit (by omega) ?_)|(refine VC.mk (by (first|omega|(and_intros<;>first|rfl|(simp only [maxLen];omega)))) ?_)|(refine Br.mk ?_ ?_<;>intro hb<;>(try replace hb:=Classical.not_not.1 hb)<;>(try exact absurd hb (show ¬ (ByteArray.mk _=ByteArray.mk _) from by decide))<;>(try (first|(exfalso;omega)|exact absurd rfl hb)))|(refine New.mk ?_;intro b hb)|(apply CK.pure;(case hh=>(intro h1 hs;first|exact next_e W.ok W.base hs rfl (by assumption))))|(refine CK.box 901 _ (fun h1 hs=>open_k hs rfl 60) ?_;intro bo hbo)|(refine CK.sure W (none_con 0 (by decide) ⟨by omega,by omega⟩) rfl rfl ?_;intro bq h';(conv=>whnf);intro W)|(refine CK.maybe W.ok W.base (by decide) rfl rfl (fun hx hm=>?_) (fun hx=>?_))|(refine nil_eql ?_)|(refine CK.cO 901 W rfl rfl rfl (fun h hs hm=>hs.ne (k:=901) (k':=900) rfl rfl (by decide) (List.mem_singleton.1 hm)) rfl rfl rfl rfl rfl rfl (rC W (by repeat (first|exact List.Mem.head _|apply List.Mem.tail)) (rC W (by repeat (first|exact List.Mem.head _|apply List.Mem.tail)) (rC W (by repeat (first|exact List.Mem.head _|apply List.Mem.tail)) (rN)))) (by simp [leK]) (by simp) ?_;intro h';(conv=>whnf);intro W)|(refine CK.con1 W (clauses_con (N:=N) ok H (by decide) (fun m hm1 hm2=>H .exprs _ m (by simp only [need,rank];omega) ⟨by omega,hm2⟩ trivial) ⟨by omega,by omega⟩ (by omega)) rfl rfl (fun x hx=>?_) (fun x m bq h' hx hm1 hm2=>?_);rotate_left;(conv=>whnf);intro W)|fail)));all_goals (try (conv=>whnf)))
 all_goals first|(refine⟨fun h' hs=>W.fin hs rfl (by repeat (first|exact List.Mem.head _|apply List.Mem.tail)) ?_ ⟨by omega,by omega⟩⟩;(simp [switchesS,swTwo,swEnd,onlyS,bnd,want, *];done))|(simp [switchesS,swTwo,swEnd,onlyS,bnd,want, *];done)|contradiction
end
end Go.Ex
namespace Go.Ex
open Go.Proofs
attribute [local irreducible] CH CsP word kindT
section
variable {I:In}{M:Loc}{g:Gt}{N:Int}{t:Bool}{n:Int}
theorem switches_w1_con(ok:InOk I)(H:Hyp I M g N)(hs0:n<I.L)(w1:word I (n+1)=(⟨#[59]⟩:ByteArray))(hn:0≤n∧n≤I.L)(hN:32*(I.L+1-n)+2≤N):Con I M 203 [] (switchesS I g t n) t n 1:=fun br h hs hB=>by
 refine eP (rep:=rep) (m:=1) (ex:=[0,2,3,4,5,6,7,8,9,30,36,38,44,50,68]) (cu:=[]) (args:=[.own 900 br 0]) tO Tryz.func203 rfl (by decide) (rs:=[.tmp 2]) rfl rfl rfl hs ?_
 have W:=Wd.start ok hB
 have hl:=ok.len
 ((repeat' ((conv=>whnf);(first|(exact absurd w1 hx)|(refine Ar.fit (by omega) ?_)|(refine VC.mk (by (first|omega|exact Sl.plain (by assumption) (by omega)|(and_intros<;>first|rfl|(simp only [maxLen];omega)))) ?_)|(refine Br.mk ?_ ?_<;>intro hb<;>(try replace hb:=Classical.not_not.1 hb)<;>(try exact absurd hb (show ¬ (ByteArray.mk _=ByteArray.mk _) from by decide))<;>(try (have hlt:=wlt hb (by decide)))<;>(try (first|(exfalso;omega)|exact absurd rfl hb)))|(refine New.mk ?_;intro b hb)|(apply CK.pure;(case hh=>(intro h1 hs;first|exact next_e W.ok W.base hs rfl (by assumption)|exact next_k W.ok W.base hs rfl)))|(refine CK.inline (rep:=rep) tO Tryz.func222 rfl (by decide) (rs:=[.tmp 4]) rfl 4 [4,5,6] [] rfl rfl rfl ?_)|(refine CK.box 901 _ (fun h1 hs=>open_k hs rfl 60) ?_;intro bo hbo)|(refine CK.sure W (none_con 0 (by decide) ⟨by omega,by omega⟩) rfl rfl ?_;intro bq h';(conv=>whnf);intro W)|(refine CK.con W (H (.simple) _ _ (by simp only [need,rank];omega) ⟨by omega,by omega⟩ (by exact trivial)) rfl rfl (fun x hx=>?_) (fun x m bq h' hx hm1 hm2=>?_);rotate_left;(try dsimp only [fstr] at hm1);(conv=>whnf);intro W)|(refine CK.maybe W.ok W.base (by decide) rfl rfl (fun hx hm=>?_) (fun hx=>?_))|(refine nil_eql ?_)|(refine some_eql ?_)|(refine nil_neq ?_)|(refine some_neq ?_)|(refine PLoad.kind (W.one (by repeat (exact List.Mem.head _))) ?_)|(refine CK.fail W rfl rfl ⟨by omega,by omega⟩ ?_)|(refine CK.cO 901 W rfl rfl rfl (fun h hs hm=>hs.ne (k:=901) (k':=900) rfl rfl (by decide) (List.mem_singleton.1 hm)) rfl rfl rfl rfl rfl rfl (rC W (by repeat (first|exact List.Mem.head _|apply List.Mem.tail)) (rC W (by repeat (first|exact List.Mem.head _|apply List.Mem.tail)) (rC W (by repeat (first|exact List.Mem.head _|apply List.Mem.tail)) (rN)))) (by simp [leK]) (by simp) ?_;intro h';(conv=>whnf);intro W)|(refine CK.cO 901 W rfl rfl rfl (fun h hs hm=>hs.ne (k:=901) (k':=900) rfl rfl (by decide) (List.mem_singleton.1 hm)) rfl rfl rfl rfl rfl rfl (rC W (by repeat (first|exact List.Mem.head _|apply List.Mem.tail)) (rC W (by repeat (first|exact List.Mem.head _|apply List.Mem.tail)) (rC W (by repeat (first|exact List.Mem.head _|apply List.Mem.tail)) (rC W (by repeat (first|exact List.Mem.head _|apply List.Mem.tail)) (rN))))) (by simp [leK]) (by simp) ?_;intro h';(conv=>whnf);intro W)|(refine CK.con1 W (clauses_con (N:=N) ok H (by decide) (fun m hm1 hm2=>H .exprs _ m (by simp only [need,rank];omega) ⟨by omega,hm2⟩ trivial) ⟨by omega,by omega⟩ (by omega)) rfl rfl (fun x hx=>?_) (fun x m bq h' hx hm1 hm2=>?_);rotate_left;(conv=>whnf);intro W)|(refine CK.con1 W (clauses_con (N:=N) ok H (by decide) (fun m hm1 hm2=>H .types _ m (by simp only [need,rank];omega) ⟨by omega,hm2⟩ trivial) ⟨by omega,by omega⟩ (by omega)) rfl rfl (fun x hx=>?_) (fun x m bq h' hx hm1 hm2=>?_);rotate_left;(conv=>whnf);intro W)|(refine CK.asked W (by repeat (first|exact List.Mem.head _|apply List.Mem.tail)) rfl rfl (fun hq=>?_) (fun aq xq b1 b2 h' hq W=>?_))|(refine CK.inline (rep:=rep) tO Tryz.func223 rfl (by decide) (rs:=[.tmp 4]) rfl 4 [4,9] [] rfl rfl rfl ?_)|(refine PLoad.kids (W.one (by repeat (exact List.Mem.head _))) ?_;intro A n1 c1 ps1 hA hTs hnl;subst hnl;have hAs:=hA.sl;have hl1:=W.len1 hb (by repeat (exact List.Mem.head _)) (by decide))|(refine XLoad.kid 0 hA hTs (by omega) ?_;intro bq hT0;have W:=W.kid (by repeat (exact List.Mem.head _)) hT0 (by omega))|fail)));all_goals (try (conv=>whnf)))
 all_goals first|(refine⟨fun h' hs=>W.fin hs rfl (by repeat (first|exact List.Mem.head _|apply List.Mem.tail)) ?_ ⟨by omega,by omega⟩⟩;(simp [switchesS,swTwo,swEnd,onlyS,bnd,want, *];done))|(simp [switchesS,swTwo,swEnd,onlyS,bnd,want, *];done)|contradiction
end
end Go.Ex
namespace Go.Ex
open Go.Proofs
attribute [local irreducible] CH CsP word kindT
section
variable {I:In}{M:Loc}{g:Gt}{N:Int}{t:Bool}{n:Int}
theorem switches_d_con(ok:InOk I)(H:Hyp I M g N)(hs0:n<I.L)(w0:¬ word I (n+1)=(⟨#[123]⟩:ByteArray))(w1:¬ word I (n+1)=(⟨#[59]⟩:ByteArray))(hn:0≤n∧n≤I.L)(hN:32*(I.L+1-n)+2≤N):Con I M 203 [] (switchesS I g t n) t n 1:=fun br h hs hB=>by
 refine eP (rep:=rep) (m:=1) (ex:=[0,2,3,4,5,6,7,8,9,30,36,38,44,50,68]) (cu:=[]) (args:=[.own 900 br 0]) tO Tryz.func203 rfl (by decide) (rs:=[.tmp 2]) rfl rfl rfl hs ?_
 have W:=Wd.start ok hB
 have hl:=ok.len
 ((repeat' ((conv=>whnf);(first|(refine Ar.fit (by omega) ?_)|(refine VC.mk (by (first|omega|exact Sl.plain (by assumption) (by omega)|(and_intros<;>first|rfl|(simp only [maxLen];omega)))) ?_)|(refine Br.mk ?_ ?_<;>intro hb<;>(try replace hb:=Classical.not_not.1 hb)<;>(try exact absurd hb (show ¬ (ByteArray.mk _=ByteArray.mk _) from by decide))<;>(try (have hlt:=wlt hb (by decide)))<;>(try (first|(exfalso;omega)|contradiction)))|(refine New.mk ?_;intro b hb)|(apply CK.pure;(case hh=>(intro h1 hs;first|exact next_k W.ok W.base hs rfl)))|(refine CK.inline (rep:=rep) tO Tryz.func222 rfl (by decide) (rs:=[.tmp 4]) rfl 4 [4,5,6] [] rfl rfl rfl ?_)|(refine CK.box 901 _ (fun h1 hs=>open_k hs rfl 60) ?_;intro bo hbo)|(refine CK.sure W (none_con 0 (by decide) ⟨by omega,by omega⟩) rfl rfl ?_;intro bq h';(conv=>whnf);intro W)|(refine CK.con W (H (.simple) _ _ (by simp only [need,rank];omega) ⟨by omega,by omega⟩ (by exact trivial)) rfl rfl (fun x hx=>?_) (fun x m bq h' hx hm1 hm2=>?_);rotate_left;(try dsimp only [fstr] at hm1);(conv=>whnf);intro W)|(refine CK.maybe W.ok W.base (by decide) rfl rfl (fun hx hm=>?_) (fun hx=>?_))|(refine nil_eql ?_)|(refine some_eql ?_)|(refine nil_neq ?_)|(refine some_neq ?_)|(refine PLoad.kind (W.one (by repeat (exact List.Mem.head _))) ?_)|(refine CK.fail W rfl rfl ⟨by omega,by omega⟩ ?_)|(refine CK.cO 901 W rfl rfl rfl (fun h hs hm=>hs.ne (k:=901) (k':=900) rfl rfl (by decide) (List.mem_singleton.1 hm)) rfl rfl rfl rfl rfl rfl (rC W (by repeat (first|exact List.Mem.head _|apply List.Mem.tail)) (rC W (by repeat (first|exact List.Mem.head _|apply List.Mem.tail)) (rC W (by repeat (first|exact List.Mem.head _|apply List.Mem.tail)) (rN)))) (by simp [leK]) (by simp) ?_;intro h';(conv=>whnf);intro W)|(refine CK.cO 901 W rfl rfl rfl (fun h hs hm=>hs.ne (k:=901) (k':=900) rfl rfl (by decide) (List.mem_singleton.1 hm)) rfl rfl rfl rfl rfl rfl (rC W (by repeat (first|exact List.Mem.head _|apply List.Mem.tail)) (rC W (by repeat (first|exact List.Mem.head _|apply List.Mem.tail)) (rC W (by repeat (first|exact List.Mem.head _|apply List.Mem.tail)) (rC W (by repeat (first|exact List.Mem.head _|apply List.Mem.tail)) (rN))))) (by simp [leK]) (by simp) ?_;intro h';(conv=>whnf);intro W)|(refine CK.con1 W (clauses_con (N:=N) ok H (by decide) (fun m hm1 hm2=>H .exprs _ m (by simp only [need,rank];omega) ⟨by omega,hm2⟩ trivial) ⟨by omega,by omega⟩ (by omega)) rfl rfl (fun x hx=>?_) (fun x m bq h' hx hm1 hm2=>?_);rotate_left;(conv=>whnf);intro W)|(refine CK.con1 W (clauses_con (N:=N) ok H (by decide) (fun m hm1 hm2=>H .types _ m (by simp only [need,rank];omega) ⟨by omega,hm2⟩ trivial) ⟨by omega,by omega⟩ (by omega)) rfl rfl (fun x hx=>?_) (fun x m bq h' hx hm1 hm2=>?_);rotate_left;(conv=>whnf);intro W)|(refine CK.asked W (by repeat (first|exact List.Mem.head _|apply List.Mem.tail)) rfl rfl (fun hq=>?_) (fun aq xq b1 b2 h' hq W=>?_))|(refine CK.inline (rep:=rep) tO Tryz.func223 rfl (by decide) (rs:=[.tmp 4]) rfl 4 [4,9] [] rfl rfl rfl ?_)|(refine PLoad.kids (W.one (by repeat (exact List.Mem.head _))) ?_;intro A n1 c1 ps1 hA hTs hnl;subst hnl;have hAs:=hA.sl;have hl1:=W.len1 hb (by repeat (exact List.Mem.head _)) (by decide))|(refine XLoad.kid 0 hA hTs (by omega) ?_;intro bq hT0;have W:=W.kid (by repeat (exact List.Mem.head _)) hT0 (by omega))|fail)));all_goals (try (conv=>whnf)))
 all_goals first|(refine⟨fun h' hs=>W.fin hs rfl (by repeat (first|exact List.Mem.head _|apply List.Mem.tail)) ?_ ⟨by omega,by omega⟩⟩;(simp [switchesS,swTwo,swEnd,onlyS,bnd,want, *];done))|(simp [switchesS,swTwo,swEnd,onlyS,bnd,want, *];done)|contradiction
end
end Go.Ex
namespace Go.Ex
open Go.Proofs
section
variable {I:In}{M:Loc}{g:Gt}{N:Int}{t:Bool}{n:Int}
theorem stmt_con(ok:InOk I)(H:Hyp I M g N)(hn:0≤n∧n≤I.L)(hN:32*(I.L+1-n)+20≤N):Con I M 144 [] (stmtS I g t n) t n 1:=by
 by_cases w0:word I n=(⟨#[99,111,110,115,116]⟩:ByteArray)
 ·exact stmt_w0_con ok H w0 hn hN
 by_cases w1:word I n=(⟨#[118,97,114]⟩:ByteArray)
 ·exact stmt_w1_con ok H w1 hn hN
 by_cases w2:word I n=(⟨#[116,121,112,101]⟩:ByteArray)
 ·exact stmt_w2_con ok H w2 hn hN
 by_cases w3:word I n=(⟨#[103,111]⟩:ByteArray)
 ·exact stmt_w3_con ok H w3 hn hN
 by_cases w4:word I n=(⟨#[100,101,102,101,114]⟩:ByteArray)
 ·exact stmt_w4_con ok H w4 hn hN
 by_cases w5:word I n=(⟨#[114,101,116,117,114,110]⟩:ByteArray)
 ·exact stmt_w5_con ok H w5 hn hN
 by_cases w6:word I n=(⟨#[98,114,101,97,107]⟩:ByteArray)
 ·exact stmt_w6_con ok H w6 hn hN
 by_cases w7:word I n=(⟨#[99,111,110,116,105,110,117,101]⟩:ByteArray)
 ·exact stmt_w7_con ok H w7 hn hN
 by_cases w8:word I n=(⟨#[103,111,116,111]⟩:ByteArray)
 ·exact stmt_w8_con ok H w8 hn hN
 by_cases w9:word I n=(⟨#[102,97,108,108,116,104,114,111,117,103,104]⟩:ByteArray)
 ·exact stmt_w9_con ok H w9 hn hN
 by_cases w10:word I n=(⟨#[123]⟩:ByteArray)
 ·exact stmt_w10_con ok H w10 hn hN
 by_cases w11:word I n=(⟨#[105,102]⟩:ByteArray)
 ·exact stmt_w11_con ok H w11 hn hN
 by_cases w12:word I n=(⟨#[115,119,105,116,99,104]⟩:ByteArray)
 ·exact stmt_w12_con ok H w12 hn hN
 by_cases w13:word I n=(⟨#[115,101,108,101,99,116]⟩:ByteArray)
 ·exact stmt_w13_con ok H w13 hn hN
 by_cases w14:word I n=(⟨#[102,111,114]⟩:ByteArray)
 ·exact stmt_w14_con ok H w14 hn hN
 exact stmt_d_con ok H w0 w1 w2 w3 w4 w5 w6 w7 w8 w9 w10 w11 w12 w13 w14 hn hN
theorem switches_con(ok:InOk I)(H:Hyp I M g N)(hs0:n<I.L)(hn:0≤n∧n≤I.L)(hN:32*(I.L+1-n)+2≤N):Con I M 203 [] (switchesS I g t n) t n 1:=by
 by_cases w0:word I (n+1)=(⟨#[123]⟩:ByteArray)
 ·exact switches_w0_con ok H hs0 w0 hn hN
 by_cases w1:word I (n+1)=(⟨#[59]⟩:ByteArray)
 ·exact switches_w1_con ok H hs0 w1 hn hN
 exact switches_d_con ok H hs0 w0 w1 hn hN
end
end Go.Ex
