/-
  Top: TopComments: whatever the input, the law answers true (part 45)
-/
import Derived.Test.YtpjdgifhhnjclaaGreatDoorM44
set_option linter.unusedVariables false
set_option linter.unusedSimpArgs false
set_option maxHeartbeats 4000000
set_option maxRecDepth 10000
namespace Go.Ex
open Go.Proofs
attribute [local irreducible] CH Zj uH
def CB:Nat→Option oP
 |115=>some ⟨kC⟩
 |90=>some ⟨pY⟩
 |112=>some ⟨E1⟩
 |k=>rep k
structure Fx where
 i:Nat
 L:List (Int×Int)
 o:Option (Nat×Nat)
def dZ(x:Fx):KV:=match x.o with
 |none=>.val (.slice none 0 0)
 |some (b,c)=>.osl 45 b x.L.length c
def Gi(x:Fx):L8:=match x.o with
 |none=>[]
 |some (b,c)=>[(45,b,.arr 90 pY x.L c)]
structure BE(x:Fx):Prop where
 no:x.o=none→x.L=[]
 le:∀ b c,x.o=some (b,c)→x.L.length≤c
def ET(L:List M8)(h:A3)(v:Value)(h':A3):Prop:=∃ A m c,v = .tuple #[.slice A m c,.int .i64 0]∧A5 h h'∧S8 pY 90 h h' (.slice A m c) (kR L)
theorem tF(L:List M8)(B:List Bn)(i x:Nat)(hx:x<15):bW L B i (I1.take (x+1))=bW L B i (I1.take x)++(if @decide (Zj L B (B1 kC.dflt I1 (x:Int)).2 i) (Classical.propDecidable _)=true then [((B1 kC.dflt I1 (x:Int)).1,(i:Int))] else []):=by
 have hl:x<I1.length:=hx
 have e:I1.take (x+1)=I1.take x++[B1 kC.dflt I1 (x:Int)]:=by
  rw [List.take_add_one,List.getElem?_eq_getElem hl]
  unfold B1
  rw [Int.toNat_natCast,List.getD_eq_getElem?_getD,List.getElem?_eq_getElem hl]
  rfl
 rw [e,xA]
 simp only [bW,List.append_nil]
theorem Ip(A:Option Addr)(n c:Nat)(L:List M8)(h:A3)(ht:D2 h)(hL:Sl P3 h A n L)(hn:n≤1000000000)(hw:Pk.WellL L)(hP:∀ p∈L,P8 p) :
 CH Tryz.prog 39 #[.slice A n c] h (ET L h):=by
 refine enter (rep:=CB) (m:=1) (ex:=[0,2,3,4,5,6,7,9,11,15,20,21,22,23,26,27,28,29,35]) (cu:=[]) tO Tryz.func39 rfl (by decide) (rs:=[.tmp 2,.tmp 3]) rfl rfl [.val (.slice A n c)] rfl ?_
 have hlen:=hL.len_eq
 have cb:=fun h1 (hg:A5 h h1)=>Gq A n c L h1 (hL.grows hg) hn hw
 ((repeat' (conv=>whnf);first|(refine Br.mk ?_ ?_<;>intro hb<;>(try replace hb:=nN hb)<;>(try omega))|(refine A7 ?_ fun h1 hs=>Bg A n c L h1 (ht.at hs) (hL.grows hs.grows) hn hw hP)|(refine CK.anewQ (f:=50) (Q:=fun h1 v h'=>∃ q,v = .slice (some ⟨q,0,none⟩) 15 15∧Sl kC h' (some ⟨q,0,none⟩) 15 I1∧h1.size≤q) (fun h1 hs=>(An h1).mono fun v h' ⟨a,b⟩=>⟨b,a⟩) ?_;rintro h1 u h2 hs1 hg1 ⟨q,rfl,hR,hq⟩;refine⟨.val (.slice (some ⟨q,0,none⟩) 15 15),rfl,?_⟩;have hg2:A5 h h2:=hs1.grows.trans hg1)|(refine CK.anewQ (f:=51) (Q:=fun h1 v h'=>∃ bs q,v = .slice (some ⟨q,0,none⟩) n n∧Sl E1 h' (some ⟨q,0,none⟩) n ((List.range n).map (nd bs))∧ND h' bs L (uH L)∧h1.size≤q) (fun h1 hs=>(cb h1 (hg2.trans hs.grows)).mono fun v h' ⟨a,b⟩=>⟨b,a⟩) ?_;rintro h3 u h4 hs3 hg3 ⟨bs,q2,rfl,hNS,hN,hq2⟩;refine⟨.val (.slice (some ⟨q2,0,none⟩) n n),rfl,?_⟩;have hg4:A5 h h4:=hg2.trans (hs3.grows.trans hg3);have hR4:=hR.grows (hs3.grows.trans hg3))|fail);all_goals try conv=>whnf)
 all_goals (try omega)
 have hsm:=hNS.small
 have hpq:O1 (some ⟨q,0,none⟩):=⟨q,0,rfl⟩
 have hpq2:O1 (some ⟨q2,0,none⟩):=⟨q2,0,rfl⟩
 refine gG tO [5,22] (fun x:Fx=>[(5,dZ x),(22,.val (.int .i64 x.i))]) (fun x=>⟨h4,[],Gi x⟩) (fun μ x=>x.i+μ=n∧x.L=zM L (uH L) x.i∧BE x) ?_
 conv=>whnf
 refine⟨fun h5 hs=>⟨n,⟨0,[],none⟩,⟨Nat.zero_add _,rfl,fun _=>rfl,fun b c e=>by cases e⟩,?_,hs.ren [] trivial⟩,?_⟩
 ·(repeat (refine And.intro ⟨_,rfl,by first|rfl|(simp [B0,A1,A0];done)⟩ ?_));exact trivial
 rintro μ ⟨i,out,o⟩ ⟨hi,hout,hok⟩
 dsimp only at hi hout
 by_cases hin:i<n
 ·have hiL:i<L.length:=by omega
  have hlo:=Ud L (uH L) i
  have hnd:((List.range n).map (nd bs))[i]?=some (nd bs i):=by
   rw [List.getElem?_map,List.getElem?_range hin]
   rfl
  have hNH:D3 E1 h4 [] (some ⟨q2,0,none⟩) n ((List.range n).map (nd bs)):=D3.start hNS
  have hRH:D3 kC h4 [] (some ⟨q,0,none⟩) 15 I1:=D3.start hR4
  clear hR4 hNS
  have inner:∀ (ν:Nat) (y:Fx),y.i+ν=15→y.L=zM L (uH L) i++bW L (uH L) i (I1.take y.i)→y.L.length≤15*i+y.i:=fun ν y h1 h2=>by
   have h3:=nY L (uH L) i (I1.take y.i)
   rw [List.length_take] at h3
   rw [h2,List.length_append]
   omega
  rcases o with _|⟨b0,c0⟩
  ·dsimp only [dZ,Gi]
   ((repeat' (conv=>whnf);first|(refine VC.mk (by omega) ?_)|(refine Br.mk ?_ ?_<;>intro hb<;>(try replace hb:=nN hb)<;>(try omega))|(refine C1.held hNH rfl (by omega) (by omega) (W7 hnd _ (by omega)) ?_)|fail);all_goals try conv=>whnf)
   refine gG tO [5,28] (fun y:Fx=>[(5,dZ y),(28,.val (.int .i64 y.i))]) (fun y=>⟨h4,[],Gi y⟩) (fun ν y=>y.i+ν=15∧y.L=zM L (uH L) i++bW L (uH L) i (I1.take y.i)∧BE y) ?_
   conv=>whnf
   refine⟨fun h5 hs=>⟨15,⟨0,out,none⟩,⟨rfl,by rw [hout];simp [bW],hok.no,hok.le⟩,?_,hs.ren [] trivial⟩,?_⟩
   ·(repeat (refine And.intro ⟨_,rfl,by first|rfl|(simp [B0,A1,A0,dZ];done)|(simp [B0,A1,A0,dZ];omega)⟩ ?_));exact trivial
   rintro ν ⟨x,out2,o2⟩ ⟨hx,hout2,hok2⟩
   have hle2:=inner ν _ hx hout2
   dsimp only at hx hout2 hle2
   by_cases hx15:x<15
   ·have hsn:=tF L (uH L) i x hx15
    have hrm:B1 kC.dflt I1 (x:Int)∈I1:=W8 kC.dflt I1 (x:Int) (by omega) (by show (x:Int)<15;omega)
    rcases o2 with _|⟨b2,c2⟩
    ·have hnil:out2=[]:=hok2.no rfl
     dsimp only [dZ,Gi]
     ((repeat' (conv=>whnf);first|(refine C2 (id:=14) (.pl [0,1,3,4,5,2,6,7] (.on [8,9] (.pl [10] .e))) (by kernel_rfl) ?_)|(refine Ar.fit (by omega) ?_)|(refine VC.mk (by (first|omega|(and_intros<;>first|omega|rfl|(simp only [maxLen];omega)|(simp only [lL];omega)))) ?_)|(refine Br.mk ?_ ?_<;>intro hb<;>(try replace hb:=nN hb)<;>(try (first|omega|contradiction)))|(refine E5.mk ?_;intro b hb)|(refine aH.mk ?_;intro b c hb hbc)|(refine SR.same ?_)|(refine C1.held hRH rfl (by omega) (by omega) rfl ?_)|(refine H2 ?_ fun h1 hs=>iZ (hN.later hs.grows) hP hiL _ hrm)|(refine A9.ndAt hN hiL rfl ?_)|fail);all_goals try conv=>whnf)
     all_goals first
      |omega
      | (intro h6 hs
         refine⟨ν-1,⟨x+1,out2,none⟩,⟨by dsimp only;omega,by rw [hsn,if_neg (by simpa using hb),List.append_nil];exact hout2,⟨fun _=>hnil,fun b c e=>by cases e⟩⟩,by omega,?_,hs.ren [] trivial⟩
         (repeat (refine And.intro ⟨_,rfl,by first|rfl|(simp [B0,A1,A0,dZ];done)|(simp [B0,A1,A0,dZ];omega)⟩ ?_));exact trivial)
      | (intro h6 hs
         refine⟨ν-1,⟨x+1,out2++[((B1 kC.dflt I1 (x:Int)).1,(i:Int))],some (b,c)⟩,⟨by dsimp only;omega,by dsimp only;rw [hsn,if_pos (by simp only [decide_eq_true_eq];assumption),←List.append_assoc,←hout2],⟨fun e=>(by cases e),fun b' c' e=>?_⟩⟩,by omega,?_,hs.ren [45] ⟨⟨_,rfl,by first|exact SC.rfl|exact SC.arr (by rw [hnil];rfl)⟩,rfl,trivial⟩⟩
         ·cases e
          rw [hnil]
          exact hbc
         ·(repeat (refine And.intro ⟨_,rfl,by first|rfl|(simp [B0,A1,A0,dZ];done)|(simp [B0,A1,A0,dZ];omega)⟩ ?_));exact trivial)
    ·have hc2:=hok2.le b2 c2 rfl
     dsimp only at hc2
     dsimp only [dZ,Gi]
     ((repeat' (conv=>whnf);first|(refine C2 (id:=14) (.pl [0,1,3,4,5,2,6,7] (.on [8,9] (.pl [10] .e))) (by kernel_rfl) ?_)|(refine Ar.fit (by omega) ?_)|(refine VC.mk (by (first|omega|(and_intros<;>first|omega|rfl|(simp only [maxLen];omega)|(simp only [lL];omega)))) ?_)|(refine Br.mk ?_ ?_<;>intro hb<;>(try replace hb:=nN hb)<;>(try omega))|(refine E5.mk ?_;intro b hb)|(refine X0.mk ?_;intro b c hb hbc)|(refine SR.same ?_)|(refine C1.held hRH rfl (by omega) (by omega) rfl ?_)|(refine H2 ?_ fun h1 hs=>iZ (hN.later hs.grows) hP hiL _ hrm)|(refine A9.ndAt hN hiL rfl ?_)|fail);all_goals try conv=>whnf)
     all_goals first
      |omega
      | (intro h6 hs
         refine⟨ν-1,⟨x+1,out2,some (b2,c2)⟩,⟨by dsimp only;omega,by rw [hsn,if_neg (by simpa using hb),List.append_nil];exact hout2,⟨fun e=>(by cases e),hok2.le⟩⟩,by omega,?_,hs.ren [45] (B4 rfl rfl E8)⟩
         (repeat (refine And.intro ⟨_,rfl,by first|rfl|(simp [B0,A1,A0,dZ];done)|(simp [B0,A1,A0,dZ];omega)⟩ ?_));exact trivial)
      | (intro h6 hs
         refine⟨ν-1,⟨x+1,out2++[((B1 kC.dflt I1 (x:Int)).1,(i:Int))],some (b,c)⟩,⟨by dsimp only;omega,by dsimp only;rw [hsn,if_pos (by simp only [decide_eq_true_eq];assumption),←List.append_assoc,←hout2],⟨fun e=>(by cases e),fun b' c' e=>?_⟩⟩,by omega,?_,hs.ren [45] ⟨⟨_,rfl,by first|exact SC.rfl|exact SC.arr (by simp)⟩,rfl,trivial⟩⟩
         ·cases e
          simp only [lC2]
          simp at hbc
          omega
         ·(repeat (refine And.intro ⟨_,rfl,by first|rfl|(simp [B0,A1,A0,dZ];done)|(simp [B0,A1,A0,dZ];omega)⟩ ?_));exact trivial)
   ·rcases o2 with _|⟨b2,c2⟩
    ·dsimp only [dZ,Gi]
     ((repeat' (conv=>whnf);first|(refine Ar.fit (by omega) ?_)|(refine Br.mk ?_ ?_<;>intro hb<;>(try replace hb:=nN hb)<;>(try omega))|fail);all_goals try conv=>whnf)
     all_goals first
      |omega
      | (intro h6 hs
         obtain rfl:x=15:=by omega
         refine⟨μ-1,⟨i+1,out2,none⟩,⟨by dsimp only;omega,hout2,hok2.no,hok2.le⟩,by omega,?_,hs.ren [] trivial⟩
         (repeat (refine And.intro ⟨_,rfl,by first|rfl|(simp [B0,A1,A0,dZ];done)|(simp [B0,A1,A0,dZ];omega)⟩ ?_));exact trivial)
    ·dsimp only [dZ,Gi]
     ((repeat' (conv=>whnf);first|(refine Ar.fit (by omega) ?_)|(refine Br.mk ?_ ?_<;>intro hb<;>(try replace hb:=nN hb)<;>(try omega))|fail);all_goals try conv=>whnf)
     all_goals first
      |omega
      | (intro h6 hs
         obtain rfl:x=15:=by omega
         refine⟨μ-1,⟨i+1,out2,some (b2,c2)⟩,⟨by dsimp only;omega,hout2,hok2.no,hok2.le⟩,by omega,?_,hs.ren [45] (B4 rfl rfl E8)⟩
         (repeat (refine And.intro ⟨_,rfl,by first|rfl|(simp [B0,A1,A0,dZ];done)|(simp [B0,A1,A0,dZ];omega)⟩ ?_));exact trivial)
  ·dsimp only [dZ,Gi]
   ((repeat' (conv=>whnf);first|(refine VC.mk (by omega) ?_)|(refine Br.mk ?_ ?_<;>intro hb<;>(try replace hb:=nN hb)<;>(try omega))|(refine C1.held hNH rfl (by omega) (by omega) (W7 hnd _ (by omega)) ?_)|fail);all_goals try conv=>whnf)
   refine gG tO [5,28] (fun y:Fx=>[(5,dZ y),(28,.val (.int .i64 y.i))]) (fun y=>⟨h4,[],Gi y⟩) (fun ν y=>y.i+ν=15∧y.L=zM L (uH L) i++bW L (uH L) i (I1.take y.i)∧BE y) ?_
   conv=>whnf
   refine⟨fun h5 hs=>⟨15,⟨0,out,some (b0,c0)⟩,⟨rfl,by rw [hout];simp [bW],hok.no,hok.le⟩,?_,hs.ren [45] (B4 rfl rfl E8)⟩,?_⟩
   ·(repeat (refine And.intro ⟨_,rfl,by first|rfl|(simp [B0,A1,A0,dZ];done)|(simp [B0,A1,A0,dZ];omega)⟩ ?_));exact trivial
   rintro ν ⟨x,out2,o2⟩ ⟨hx,hout2,hok2⟩
   have hle2:=inner ν _ hx hout2
   dsimp only at hx hout2 hle2
   by_cases hx15:x<15
   ·have hsn:=tF L (uH L) i x hx15
    have hrm:B1 kC.dflt I1 (x:Int)∈I1:=W8 kC.dflt I1 (x:Int) (by omega) (by show (x:Int)<15;omega)
    rcases o2 with _|⟨b2,c2⟩
    ·have hnil:out2=[]:=hok2.no rfl
     dsimp only [dZ,Gi]
     ((repeat' (conv=>whnf);first|(refine C2 (id:=14) (.pl [0,1,3,4,5,2,6,7] (.on [8,9] (.pl [10] .e))) (by kernel_rfl) ?_)|(refine Ar.fit (by omega) ?_)|(refine VC.mk (by (first|omega|(and_intros<;>first|omega|rfl|(simp only [maxLen];omega)|(simp only [lL];omega)))) ?_)|(refine Br.mk ?_ ?_<;>intro hb<;>(try replace hb:=nN hb)<;>(try (first|omega|contradiction)))|(refine E5.mk ?_;intro b hb)|(refine aH.mk ?_;intro b c hb hbc)|(refine SR.same ?_)|(refine C1.held hRH rfl (by omega) (by omega) rfl ?_)|(refine H2 ?_ fun h1 hs=>iZ (hN.later hs.grows) hP hiL _ hrm)|(refine A9.ndAt hN hiL rfl ?_)|fail);all_goals try conv=>whnf)
     all_goals first
      |omega
      | (intro h6 hs
         refine⟨ν-1,⟨x+1,out2,none⟩,⟨by dsimp only;omega,by rw [hsn,if_neg (by simpa using hb),List.append_nil];exact hout2,⟨fun _=>hnil,fun b c e=>by cases e⟩⟩,by omega,?_,hs.ren [] trivial⟩
         (repeat (refine And.intro ⟨_,rfl,by first|rfl|(simp [B0,A1,A0,dZ];done)|(simp [B0,A1,A0,dZ];omega)⟩ ?_));exact trivial)
      | (intro h6 hs
         refine⟨ν-1,⟨x+1,out2++[((B1 kC.dflt I1 (x:Int)).1,(i:Int))],some (b,c)⟩,⟨by dsimp only;omega,by dsimp only;rw [hsn,if_pos (by simp only [decide_eq_true_eq];assumption),←List.append_assoc,←hout2],⟨fun e=>(by cases e),fun b' c' e=>?_⟩⟩,by omega,?_,hs.ren [45] ⟨⟨_,rfl,by first|exact SC.rfl|exact SC.arr (by rw [hnil];rfl)⟩,rfl,trivial⟩⟩
         ·cases e
          rw [hnil]
          exact hbc
         ·(repeat (refine And.intro ⟨_,rfl,by first|rfl|(simp [B0,A1,A0,dZ];done)|(simp [B0,A1,A0,dZ];omega)⟩ ?_));exact trivial)
    ·have hc2:=hok2.le b2 c2 rfl
     dsimp only at hc2
     dsimp only [dZ,Gi]
     ((repeat' (conv=>whnf);first|(refine C2 (id:=14) (.pl [0,1,3,4,5,2,6,7] (.on [8,9] (.pl [10] .e))) (by kernel_rfl) ?_)|(refine Ar.fit (by omega) ?_)|(refine VC.mk (by (first|omega|(and_intros<;>first|omega|rfl|(simp only [maxLen];omega)|(simp only [lL];omega)))) ?_)|(refine Br.mk ?_ ?_<;>intro hb<;>(try replace hb:=nN hb)<;>(try omega))|(refine E5.mk ?_;intro b hb)|(refine X0.mk ?_;intro b c hb hbc)|(refine SR.same ?_)|(refine C1.held hRH rfl (by omega) (by omega) rfl ?_)|(refine H2 ?_ fun h1 hs=>iZ (hN.later hs.grows) hP hiL _ hrm)|(refine A9.ndAt hN hiL rfl ?_)|fail);all_goals try conv=>whnf)
     all_goals first
      |omega
      | (intro h6 hs
         refine⟨ν-1,⟨x+1,out2,some (b2,c2)⟩,⟨by dsimp only;omega,by rw [hsn,if_neg (by simpa using hb),List.append_nil];exact hout2,⟨fun e=>(by cases e),hok2.le⟩⟩,by omega,?_,hs.ren [45] (B4 rfl rfl E8)⟩
         (repeat (refine And.intro ⟨_,rfl,by first|rfl|(simp [B0,A1,A0,dZ];done)|(simp [B0,A1,A0,dZ];omega)⟩ ?_));exact trivial)
      | (intro h6 hs
         refine⟨ν-1,⟨x+1,out2++[((B1 kC.dflt I1 (x:Int)).1,(i:Int))],some (b,c)⟩,⟨by dsimp only;omega,by dsimp only;rw [hsn,if_pos (by simp only [decide_eq_true_eq];assumption),←List.append_assoc,←hout2],⟨fun e=>(by cases e),fun b' c' e=>?_⟩⟩,by omega,?_,hs.ren [45] ⟨⟨_,rfl,by first|exact SC.rfl|exact SC.arr (by simp)⟩,rfl,trivial⟩⟩
         ·cases e
          simp only [lC2]
          simp at hbc
          omega
         ·(repeat (refine And.intro ⟨_,rfl,by first|rfl|(simp [B0,A1,A0,dZ];done)|(simp [B0,A1,A0,dZ];omega)⟩ ?_));exact trivial)
   ·rcases o2 with _|⟨b2,c2⟩
    ·dsimp only [dZ,Gi]
     ((repeat' (conv=>whnf);first|(refine Ar.fit (by omega) ?_)|(refine Br.mk ?_ ?_<;>intro hb<;>(try replace hb:=nN hb)<;>(try omega))|fail);all_goals try conv=>whnf)
     all_goals first
      |omega
      | (intro h6 hs
         obtain rfl:x=15:=by omega
         refine⟨μ-1,⟨i+1,out2,none⟩,⟨by dsimp only;omega,hout2,hok2.no,hok2.le⟩,by omega,?_,hs.ren [] trivial⟩
         (repeat (refine And.intro ⟨_,rfl,by first|rfl|(simp [B0,A1,A0,dZ];done)|(simp [B0,A1,A0,dZ];omega)⟩ ?_));exact trivial)
    ·dsimp only [dZ,Gi]
     ((repeat' (conv=>whnf);first|(refine Ar.fit (by omega) ?_)|(refine Br.mk ?_ ?_<;>intro hb<;>(try replace hb:=nN hb)<;>(try omega))|fail);all_goals try conv=>whnf)
     all_goals first
      |omega
      | (intro h6 hs
         obtain rfl:x=15:=by omega
         refine⟨μ-1,⟨i+1,out2,some (b2,c2)⟩,⟨by dsimp only;omega,hout2,hok2.no,hok2.le⟩,by omega,?_,hs.ren [45] (B4 rfl rfl E8)⟩
         (repeat (refine And.intro ⟨_,rfl,by first|rfl|(simp [B0,A1,A0,dZ];done)|(simp [B0,A1,A0,dZ];omega)⟩ ?_));exact trivial)
 ·obtain rfl:i=n:=by omega
  have hfl:kR L=out:=by
   rw [hout]
   show zM L (uH L) L.length = _
   rw [hlen]
  rcases o with _|⟨b0,c0⟩
  ·have hnil:out=[]:=hok.no rfl
   dsimp only [dZ,Gi]
   ((repeat' (conv=>whnf);first|(refine Br.mk ?_ ?_<;>intro hb<;>(try replace hb:=nN hb)<;>(try omega))|fail);all_goals try conv=>whnf)
   all_goals first
    |omega
    |exact⟨fun h' hs=>⟨none,0,0,rfl,hg4.trans hs.grows,by rw [hfl,hnil];exact S8.nil⟩⟩
  ·dsimp only [dZ,Gi]
   ((repeat' (conv=>whnf);first|(refine Br.mk ?_ ?_<;>intro hb<;>(try replace hb:=nN hb)<;>(try omega))|fail);all_goals try conv=>whnf)
   all_goals first
    |omega
    |exact⟨fun h' hs=>⟨some ⟨b0,0,none⟩,out.length,c0,rfl,hg4.trans hs.grows,S8.ofC hs (k:=45) rfl hg4.size (fun c hc=>by cases hc) rfl hfl.symm⟩⟩
end Go.Ex
namespace Go.Ex
open Go.Proofs
attribute [local irreducible] CH aK M0 kR
theorem BW:Tryz.prog.stoodInHeld 51=false:=by kernel_rfl
theorem CM:Tryz.prog.eqGuardType Tryz.prog.depth 51=false:=by kernel_rfl
theorem Ty : Tryz.prog.fieldsOf 51 = #[{ name := "Kind", type := 5, offset := 0, embedded := false, tag := "", pkgPath := "", byteOffset := 0 },
 { name := "Kids", type := 3, offset := 1, embedded := false, tag := "", pkgPath := "", byteOffset := 8 },
 { name := "Word", type := 9, offset := 2, embedded := false, tag := "", pkgPath := "", byteOffset := 16 }] := by kernel_rfl
theorem DO(k n:Int)(s:ByteArray)(w:World):(Op.equalIn 10000 51 (.agg #[.int .u8 k,.int .i64 n,.string s]) (.agg #[.int .u8 k,.int .i64 n,.string s])).run Tryz.prog w = .ok true w:=by
 have h1:Tryz.prog.underlying 51=some (.struct (Tryz.prog.fieldsOf 51)):=by rw [Ty];exact Tryz.underlying51
 have h3:=Tryz.underlying3
 have h5:=Tryz.underlying5
 have h9:=Tryz.underlying9
 rw [run_equalIn_agg _ _ _ _ _ h1 BW,Ty]
 simp [Op.eqFields,part,isAgg,underlying,h3,h5,h9,run_equalIn_int,run_equalIn_string]
theorem Uz{k n:Int}{s:ByteArray}{κ:KV→Prop}(h:κ (.prop False)) :
 Ij Tryz.prog .neq 51 (.agg [.val (.int .u8 k),.val (.int .i64 n),.val (.string s)]) (.agg [.val (.int .u8 k),.val (.int .i64 n),.val (.string s)]) κ:=⟨False,fun u v w=>by
 show (do eqGuard .neq 51 u v (.agg #[.int .u8 k,.int .i64 n,.string s]) (.agg #[.int .u8 k,.int .i64 n,.string s]);binOp .neq 51 (.agg #[.int .u8 k,.int .i64 n,.string s]) (.agg #[.int .u8 k,.int .i64 n,.string s]):Sem Value).run Tryz.prog w = _
 simp only [Sem.run_bind,run_eqGuard_agg _ _ _ _ _ _ _ CM,Result.andThen_ok,run_neq_struct,DO]
 simp [A0],h⟩
theorem BV:Tryz.prog.stoodInHeld 90=false:=by kernel_rfl
theorem CL:Tryz.prog.eqGuardType Tryz.prog.depth 90=false:=by kernel_rfl
theorem Sy : Tryz.prog.fieldsOf 90 = #[{ name := "Rule", type := 5, offset := 0, embedded := false, tag := "", pkgPath := "", byteOffset := 0 },
 { name := "Part", type := 3, offset := 1, embedded := false, tag := "", pkgPath := "", byteOffset := 8 }] := by kernel_rfl
theorem DN(k n:Int)(w:World):(Op.equalIn 10000 90 (.agg #[.int .u8 k,.int .i64 n]) (.agg #[.int .u8 k,.int .i64 n])).run Tryz.prog w = .ok true w:=by
 have h1:Tryz.prog.underlying 90=some (.struct (Tryz.prog.fieldsOf 90)):=by rw [Sy];exact Tryz.underlying90
 have h3:=Tryz.underlying3
 have h5:=Tryz.underlying5
 rw [run_equalIn_agg _ _ _ _ _ h1 BV,Sy]
 simp [Op.eqFields,part,isAgg,underlying,h3,h5,run_equalIn_int]
theorem AJ{k n:Int}{κ:KV→Prop}(h:κ (.prop False)) :
 Ij Tryz.prog .neq 90 (.agg [.val (.int .u8 k),.val (.int .i64 n)]) (.agg [.val (.int .u8 k),.val (.int .i64 n)]) κ:=⟨False,fun u v w=>by
 show (do eqGuard .neq 90 u v (.agg #[.int .u8 k,.int .i64 n]) (.agg #[.int .u8 k,.int .i64 n]);binOp .neq 90 (.agg #[.int .u8 k,.int .i64 n]) (.agg #[.int .u8 k,.int .i64 n]):Sem Value).run Tryz.prog w = _
 simp only [Sem.run_bind,run_eqGuard_agg _ _ _ _ _ _ _ CL,Result.andThen_ok,run_neq_struct,DN]
 simp [A0],h⟩
theorem Ym(A A':Option Addr)(n c c':Nat)(L:List M8)(h:A3)(hA:Sl P3 h A n L)(hA':Sl P3 h A' n L) :
 CH Tryz.prog 21 #[.slice A n c,.slice A' n c'] h fun v h'=>v = .bool true∧A5 h h':=by
 refine Q0 2 [0,1,4,5,10,14,25] [] [.val (.slice A n c),.val (.slice A' n c')] Tryz.func21 rfl ?_
 have hsm:=hA.small
 ((repeat' (conv=>whnf);first|(refine Br.mk ?_ ?_<;>intro hb<;>(try replace hb:=nN hb)<;>(try omega))|fail);all_goals try conv=>whnf)
 all_goals (try omega)
 refine gG tO [5] (fun i:Nat=>[(5,.val (.int .i64 i))]) (fun _=>⟨h,[],[]⟩) (fun μ i=>i+μ=n) ?_
 conv=>whnf
 refine⟨fun h5 hs=>⟨n,0,Nat.zero_add _,?_,hs.ren [] trivial⟩,?_⟩
 ·(repeat (refine And.intro ⟨_,rfl,by first|rfl|(simp [B0,A1,A0];done)⟩ ?_));exact trivial
 rintro μ i hi
 by_cases hin:i<n
 ·have hp:=hA.plain (by omega)
  have hp':=hA'.plain (by omega)
  have hH:D3 P3 h [] A n L:=D3.start hA
  have hH':D3 P3 h [] A' n L:=D3.start hA'
  clear hA hA'
  ((repeat' (conv=>whnf);first|(refine Ar.fit (by omega) ?_)|(refine VC.mk (by omega) ?_)|(refine Br.mk ?_ ?_<;>intro hb<;>(try replace hb:=nN hb)<;>(try omega))|(refine (drawn tO mixed (by kernel_rfl) ?_))|(refine C1.held hH rfl (by omega) (by omega) rfl ?_)|(refine C1.held hH' rfl (by omega) (by omega) rfl ?_)|(refine Uz ?_)|fail);all_goals try conv=>whnf)
  all_goals first
   |(exfalso;assumption)
   |omega
   | (intro h6 hs
      refine⟨μ-1,i+1,by omega,by omega,?_,hs.ren [] trivial⟩
      (repeat (refine And.intro ⟨_,rfl,by first|rfl|(simp [B0,A1,A0];done)⟩ ?_));exact trivial)
 ·((repeat' (conv=>whnf);first|(refine Br.mk ?_ ?_<;>intro hb<;>(try replace hb:=nN hb)<;>(try omega))|fail);all_goals try conv=>whnf)
  all_goals first
   |omega
   |exact⟨fun h' hs=>⟨rfl,hs.grows⟩⟩
theorem Zm(A A':Option Addr)(n c c':Nat)(L:List (Int×Int))(h:A3)(hA:Sl pY h A n L)(hA':Sl pY h A' n L) :
 CH Tryz.prog 22 #[.slice A n c,.slice A' n c'] h fun v h'=>v = .bool true∧A5 h h':=by
 refine enter (rep:=CB) (m:=2) (ex:=[0,1,4,5,10,14,25]) (cu:=[]) tO Tryz.func22 rfl (by decide) (rs:=[.tmp 4]) rfl rfl [.val (.slice A n c),.val (.slice A' n c')] rfl ?_
 have hsm:=hA.small
 ((repeat' (conv=>whnf);first|(refine Br.mk ?_ ?_<;>intro hb<;>(try replace hb:=nN hb)<;>(try omega))|fail);all_goals try conv=>whnf)
 all_goals (try omega)
 refine gG tO [5] (fun i:Nat=>[(5,.val (.int .i64 i))]) (fun _=>⟨h,[],[]⟩) (fun μ i=>i+μ=n) ?_
 conv=>whnf
 refine⟨fun h5 hs=>⟨n,0,Nat.zero_add _,?_,hs.ren [] trivial⟩,?_⟩
 ·(repeat (refine And.intro ⟨_,rfl,by first|rfl|(simp [B0,A1,A0];done)⟩ ?_));exact trivial
 rintro μ i hi
 by_cases hin:i<n
 ·have hp:=hA.plain (by omega)
  have hp':=hA'.plain (by omega)
  have hH:D3 pY h [] A n L:=D3.start hA
  have hH':D3 pY h [] A' n L:=D3.start hA'
  clear hA hA'
  ((repeat' (conv=>whnf);first|(refine Ar.fit (by omega) ?_)|(refine VC.mk (by omega) ?_)|(refine Br.mk ?_ ?_<;>intro hb<;>(try replace hb:=nN hb)<;>(try omega))|(refine (drawn tO mixed (by kernel_rfl) ?_))|(refine C1.held hH rfl (by omega) (by omega) rfl ?_)|(refine C1.held hH' rfl (by omega) (by omega) rfl ?_)|(refine AJ ?_)|fail);all_goals try conv=>whnf)
  all_goals first
   |(exfalso;assumption)
   |omega
   | (intro h6 hs
      refine⟨μ-1,i+1,by omega,by omega,?_,hs.ren [] trivial⟩
      (repeat (refine And.intro ⟨_,rfl,by first|rfl|(simp [B0,A1,A0];done)⟩ ?_));exact trivial)
 ·((repeat' (conv=>whnf);first|(refine Br.mk ?_ ?_<;>intro hb<;>(try replace hb:=nN hb)<;>(try omega))|fail);all_goals try conv=>whnf)
  all_goals first
   |omega
   |exact⟨fun h' hs=>⟨rfl,hs.grows⟩⟩
def CZ(s:ByteArray)(goal:Int)(h:A3)(v:Value)(h':A3):Prop:=
 A5 h h'∧match aK s goal with
  |.inl ea=>v = .tuple #[.slice none 0 0,.agg #[.int .i64 ea.1,.int .i64 ea.2]]
  |.inr tx=>∃ B m d,v = .tuple #[.slice B m d,.agg #[.int .i64 0,.int .i64 0]]∧(D3 pY h' [] B m (kR ((I5 tx.2).map (M0 ⟨s,tx.1,[]⟩)))∧∀ x,0<m→B=some x→h.size≤x.block)
theorem AO(A:Option Addr)(n c:Nat)(L:List M8)(h:A3)(ht:D2 h)(hL:Sl P3 h A n L)(hn:n≤1000000000)(hw:Pk.WellL L)(hP:∀ p∈L,P8 p) :
 CH Tryz.prog 39 #[.slice A n c] h fun v h'=>A5 h h'∧∃ B m d,v = .tuple #[.slice B m d,.int .i64 0]∧(D3 pY h' [] B m (kR L)∧∀ x,0<m→B=some x→h.size≤x.block):=
 (Ip A n c L h ht hL hn hw hP).mono fun v h' ⟨B,m,d,h1,h2,h3⟩=>by
  obtain⟨B2,m2,d2,e,h4,h5⟩:=h3.at_
  cases e
  exact⟨h2,B,m,d,h1,D3.start h4,fun x _ hx=>(h5 x hx).1⟩
theorem vT(s:ByteArray)(goal:Int)(h:A3)(ht:D2 h)(hz:s.size≤140737488355328):CH Tryz.prog 20 #[.int .u8 goal,.string s] h (CZ s goal h):=by
 refine Q0 2 [0,1,4,5,6,7,8,18] [] [.val (.int .u8 goal),.val (.string s)] Tryz.func20 rfl ?_
 have cp:=fun h1 (ht:D2 h1)=>lJ s goal h1 ht hz (fun T x h=>⟨(bF h).nn,(bF h).wrd⟩)
 unfold Oq at cp
 unfold CZ
 obtain⟨O,hO⟩:∃ O,aK s goal=O:=⟨_,rfl⟩
 rw [hO] at cp ⊢
 rcases O with ⟨e,a⟩|⟨T,x⟩
 ·have hne:=yY hO
  dsimp only at cp ⊢
  ((repeat' (conv=>whnf);first|(refine C2 (id:=3) (.pl [1,0] (.on [2] .e)) (by kernel_rfl) ?_)|(refine VC.mk (by omega) ?_)|(refine Br.mk ?_ ?_<;>intro hb<;>(try replace hb:=nN hb)<;>(try omega))|(refine E5.mk ?_;intro b hb)|(refine CK.anewQ (f:=16) (Q:=fun h u h'=>u = .tuple #[.slice none 0 0,.agg #[.int .i64 e,.int .i64 a] ]) (fun h hs=>cp h (ht.at hs)) ?_;rintro h1 u h2 hs1 hg1 rfl;refine⟨.tup [.val (.slice none 0 0),.agg [.val (.int .i64 e),.val (.int .i64 a)] ],rfl,?_⟩;have hl1:G1 h [] h2 _:=(hs1.later hg1).lB)|(refine kQ ?_)|fail);all_goals try conv=>whnf)
  all_goals first
   |exact⟨fun h' hs=>⟨hl1.bas.fin hs,rfl⟩⟩
   |omega
 ·have hW:=bF hO
  dsimp only at cp ⊢
  have hwell:=hW.well
  have hpart:=hW.part
  have hnn:=hW.nn
  obtain⟨L,hL⟩:∃ L,(I5 x).map (M0 ⟨s,T,[]⟩)=L:=⟨_,rfl⟩
  have hLn:L.length=(I5 x).length:=by rw [←hL,List.length_map]
  rw [hL] at cp hwell hpart ⊢
  clear hW hO
  ((repeat' (conv=>whnf);first|(refine C2 (id:=5) (.pl [0,2,1] (.on [3] .e)) (by kernel_rfl) ?_)|(refine VC.mk (by omega) ?_)|(refine Br.mk ?_ ?_<;>intro hb<;>(try replace hb:=nN hb)<;>(try omega))|(refine E5.mk ?_;intro b hb)|(refine CK.anewQ (f:=16) (Q:=fun h u h'=>∃ B m d,u = .tuple #[.slice B m d,.agg #[.int .i64 0,.int .i64 0] ]∧(D3 P3 h' [] B m L∧∀ x,0<m→B=some x→h.size≤x.block)) (fun h hs=>cp h (ht.at hs)) ?_;rintro h1 u h2 hs1 hg1 ⟨B,m,d,rfl,hP0,hPf⟩;refine⟨.tup [.val (.slice B m d),.agg [.val (.int .i64 0),.val (.int .i64 0)] ],rfl,?_⟩;have hl1:G1 h [] h2 _:=(hs1.later hg1).lB;have hP1:=hP0.freshen hPf hs1;have hPn:=hP0.sl.len_eq)|(refine kQ ?_)|(refine CK.anewQ (f:=39) (Q:=fun h u h'=>∃ B m d,u = .tuple #[.slice B m d,.int .i64 0]∧(D3 pY h' [] B m (kR L)∧∀ x,0<m→B=some x→h.size≤x.block)) (fun h1 hs=>AO B m d L h1 (ht.later (hl1.trans hs.lB)) (hP1.at_ hs) (by omega) hwell hpart) ?_;rintro h3 u h4 hs3 hg3 ⟨B2,m2,d2,rfl,hF0,hFf⟩;refine⟨.tup [.val (.slice B2 m2 d2),.val (.int .i64 0)],rfl,?_⟩;have hl3:G1 h [] h4 _:=hl1.trans ((hs3.later hg3).lB);have hF1:=hF0.freshen hFf hs3)|fail);all_goals try conv=>whnf)
  all_goals first
   |exact⟨fun h' hs=>⟨hl3.bas.fin hs,B2,m2,d2,rfl,hF1.endS hs,fun x h0 hx=>Nat.le_trans (Nat.le_trans hl1.size hs3.size) (hFf x h0 hx)⟩⟩
   |(exfalso;apply hb;simp;done)
   |omega
end Go.Ex
