/-
  Top: TopComments: whatever the input, the law answers true (part 43)
-/
import Derived.Test.YtpjdgifhhnjclaaGreatDoorM41
set_option linter.unusedVariables false
set_option linter.unusedSimpArgs false
set_option maxHeartbeats 4000000
set_option maxRecDepth 10000
namespace Go.Ex
open Go.Proofs
attribute [local irreducible] CH
section
variable {bs:List Nat}{L:List M8}{B:List Bn}{h:A3}
theorem D7{A:Option Addr}{n c:Nat}{a:Int}{i:Nat}(hN:ND h bs L B)(hi:i<L.length)(hk:Sl (E9 .u8) h A n [a]) :
 CH Tryz.prog 79 #[.pointer (nd bs i),.slice A n c] h fun v h'=>v=A0 (.prop ((H3 L i).kind=a))∧A5 h h':=by
 refine (Zh A n c [a] i bs L B h hN hi hk).mono fun v h' ⟨h1,h2⟩=>⟨h1.trans (congrArg (fun p=>A0 (.prop p)) ?_),h2⟩
 simp
theorem dO{A:Option Addr}{n c:Nat}{a b:Int}{i:Nat}(hN:ND h bs L B)(hi:i<L.length)(hk:Sl (E9 .u8) h A n [a,b]) :
 CH Tryz.prog 79 #[.pointer (nd bs i),.slice A n c] h fun v h'=>v=A0 (.prop ((H3 L i).kind=a∨(H3 L i).kind=b))∧A5 h h':=by
 refine (Zh A n c [a,b] i bs L B h hN hi hk).mono fun v h' ⟨h1,h2⟩=>⟨h1.trans (congrArg (fun p=>A0 (.prop p)) ?_),h2⟩
 simp
theorem zF{A:Option Addr}{n c:Nat}{a b d:Int}{i:Nat}(hN:ND h bs L B)(hi:i<L.length)(hk:Sl (E9 .u8) h A n [a,b,d]) :
 CH Tryz.prog 79 #[.pointer (nd bs i),.slice A n c] h fun v h'=>v=A0 (.prop ((H3 L i).kind=a∨(H3 L i).kind=b∨(H3 L i).kind=d))∧A5 h h':=by
 refine (Zh A n c [a,b,d] i bs L B h hN hi hk).mono fun v h' ⟨h1,h2⟩=>⟨h1.trans (congrArg (fun p=>A0 (.prop p)) ?_),h2⟩
 simp
theorem Gk{i:Nat}(hi:i<L.length):H3 L i∈L:=by
 unfold H3
 rw [List.getD_eq_getElem?_getD,List.getElem?_eq_getElem hi]
 exact List.getElem_mem hi
theorem I9(hN:Sq L B)(hP:∀ p∈L,P8 p){i:Nat}(hi:i<L.length){k:Int}(m:Nat)(hk:(H3 L i).kind=k)(e:dY k=m):m≤(E4 B i).kids.length:=by
 have h1:=(hP _ (Gk hi)).least
 have h2:=hN.num i hi
 rw [hk,e] at h1
 omega
def tR(L:List M8)(B:List Bn):Nat→Nat→Nat
 |0,i=>i
 |f+1,i=>if (H3 L i).kind=28 then tR L B f (X7 B i 0) else i
def iK(L:List M8)(B:List Bn)(i:Nat):Nat:=tR L B L.length i
theorem Ve(hN:Sq L B)(hP:∀ p∈L,P8 p):∀ (f i:Nat),i<L.length→tR L B f i<L.length
 |0,i,hi=>hi
 |f+1,i,hi=>by
  simp only [tR]
  split
  ·rename_i hk
   exact Ve hN hP f _ (I2 hN hi (I9 hN hP hi 1 hk (by decide))).2
  ·exact hi
theorem We(hN:Sq L B)(hP:∀ p∈L,P8 p){i:Nat}(hi:i<L.length):iK L B i<L.length:=Ve hN hP _ i hi
theorem wC{i:Nat}(hN:ND h bs L B)(hP:∀ p∈L,P8 p)(hi:i<L.length) :
 CH Tryz.prog 91 #[.pointer (nd bs i)] h fun v h'=>v = .pointer (nd bs (iK L B i))∧A5 h h':=by
 refine Q0 1 [0,2,5] [] [.val (.pointer (nd bs i))] Tryz.func91 rfl ?_
 (try (conv=>whnf))
 refine gG tO [0] (fun j:Nat=>[(0,.val (.pointer (nd bs j)))]) (fun _=>⟨h,[],[]⟩) (fun μ j=>j<L.length∧L.length-j≤μ∧tR L B μ j=iK L B i) ?_
 conv=>whnf
 refine⟨fun h5 hs=>⟨L.length,i,⟨hi,by omega,rfl⟩,?_,hs.ren [] trivial⟩,?_⟩
 ·(repeat (refine And.intro ⟨_,rfl,by first|rfl|(simp [B0,A1,A0];done)⟩ ?_));exact trivial
 rintro μ j ⟨hj,hm,he⟩
 by_cases hk:(H3 L j).kind=28
 ·have h0:=I9 hN.ok hP hj 1 hk (by decide)
  have hkl:=I2 hN.ok hj h0
  ((repeat' (conv=>whnf);first|(refine VC.mk (by (first|omega|(and_intros<;>first|rfl|(simp only [maxLen];omega)))) ?_)|(refine Br.mk ?_ ?_<;>intro hb<;>(try replace hb:=nN hb)<;>(try omega))|(refine E5.mk ?_;intro b hb)|(refine H2 ?_ fun h1 hs=>D7 (hN.later hs.grows) hj (Sl.mem hs (by repeat constructor) rfl))|(refine A9.ndKids hN hj rfl ?_;intro A n c hA hnl hpl hnc;replace hpl:=hpl (by omega))|(refine C1.ndKid hA 0 (by omega) (by omega) ?_)|fail);all_goals try conv=>whnf)
  all_goals first
   |omega
   | (intro h6 hs
      refine⟨μ-1,X7 B j 0,⟨hkl.2,by omega,?_⟩,by omega,?_,hs.ren [] trivial⟩
      ·rw [←he]
       match μ,hm with
       |0,hm=>omega
       |μ+1,hm=>simp only [tR];rw [if_pos hk];rfl
      ·(repeat (refine And.intro ⟨_,rfl,by first|rfl|(simp [B0,A1,A0];done)⟩ ?_));exact trivial)
 ·have e:iK L B i=j:=by
   rw [←he]
   match μ,hm with
   |0,hm=>omega
   |μ+1,hm=>simp only [tR];rw [if_neg hk]
  rw [e]
  ((repeat' (conv=>whnf);first|(refine VC.mk (by (first|omega|(and_intros<;>first|rfl|(simp only [maxLen];omega)))) ?_)|(refine Br.mk ?_ ?_<;>intro hb<;>(try replace hb:=nN hb)<;>(try omega))|(refine E5.mk ?_;intro b hb)|(refine H2 ?_ fun h1 hs=>D7 (hN.later hs.grows) hj (Sl.mem hs (by repeat constructor) rfl))|fail);all_goals try conv=>whnf)
  all_goals first
   |omega
   |exact⟨fun h' hs=>⟨rfl,hs.grows⟩⟩
def oV(L:List M8)(B:List Bn)(i:Nat):Prop:=(H3 L (iK L B i)).kind=36∧(H3 L (iK L B i)).word=(⟨#[60,45]⟩:ByteArray)
theorem gA{i:Nat}(hN:ND h bs L B)(hP:∀ p∈L,P8 p)(hi:i<L.length) :
 CH Tryz.prog 92 #[.pointer (nd bs i)] h fun v h'=>v=A0 (.prop (oV L B i))∧A5 h h':=by
 refine Q0 1 [0,2,3] [] [.val (.pointer (nd bs i))] Tryz.func92 rfl ?_
 have hbl:=We hN.ok hP hi
 unfold oV
 have cb:=fun h1 (hg:A5 h h1)=>wC (hN.later hg) hP hi
 generalize iK L B i=j at *
 ((repeat' (conv=>whnf);first|(refine VC.mk (by (first|omega|(and_intros<;>first|rfl|(simp only [maxLen];omega)))) ?_)|(refine Br.mk ?_ ?_<;>intro hb<;>(try replace hb:=nN hb))|(refine E5.mk ?_;intro b hb)|(refine A7 ?_ fun h1 hs=>cb h1 hs.grows)|(refine H2 ?_ fun h1 hs=>D7 (hN.later hs.grows) hbl (Sl.mem hs (by repeat constructor) rfl))|(refine A9.ndWord hN hbl rfl ?_)|fail);all_goals try conv=>whnf)
 all_goals first
  |(refine⟨fun h' hs=>⟨C3 ?_,hs.grows⟩⟩;grind)
  |(refine⟨fun h' hs=>⟨C0 ?_,hs.grows⟩⟩;grind)
def nS(L:List M8)(B:List Bn)(i:Nat):Prop:=∀ k∈(E4 B i).kids,(H3 L k).kind=26
theorem wN{i:Nat}(hN:ND h bs L B)(hi:i<L.length) :
 CH Tryz.prog 85 #[.pointer (nd bs i)] h fun v h'=>v=A0 (.prop (nS L B i))∧A5 h h':=by
 refine Q0 1 [0,2,4,8,9,10,11,17] [] [.val (.pointer (nd bs i))] Tryz.func85 rfl ?_
 ((repeat' (conv=>whnf);first|(refine A9.ndKids hN hi rfl ?_;intro A n c hA hnl hpl hnc)|fail);all_goals try conv=>whnf)
 have hsm:=hA.sl.small
 refine gG tO [10] (fun j:Nat=>[(10,.val (.int .i64 j))]) (fun _=>⟨h,[],[]⟩) (fun μ j=>j+μ=n∧∀ q,q<j→(H3 L (X7 B i q)).kind=26) ?_
 conv=>whnf
 refine⟨fun h5 hs=>⟨n,0,⟨Nat.zero_add _,fun q hq=>absurd hq (Nat.not_lt_zero _)⟩,?_,hs.ren [] trivial⟩,?_⟩
 ·(repeat (refine And.intro ⟨_,rfl,by first|rfl|(simp [B0,A1,A0];done)⟩ ?_));exact trivial
 rintro μ j ⟨hj,hall⟩
 by_cases hjn:j<n
 ·replace hpl:=hpl (by omega)
  have hkl:=I2 hN.ok hi (m:=j) (by omega)
  ((repeat' (conv=>whnf);first|(refine Ar.fit (by omega) ?_)|(refine VC.mk (by (first|omega|(and_intros<;>first|rfl|(simp only [maxLen];omega)))) ?_)|(refine Br.mk ?_ ?_<;>intro hb<;>(try replace hb:=nN hb)<;>(try omega))|(refine E5.mk ?_;intro b hb)|(refine C1.ndKid hA j (by omega) (by omega) ?_)|(refine H2 ?_ fun h1 hs=>D7 (hN.later hs.grows) hkl.2 (Sl.mem hs (by repeat constructor) rfl))|fail);all_goals try conv=>whnf)
  all_goals first
   |omega
   | (intro h6 hs
      refine⟨μ-1,j+1,⟨by omega,fun q hq=>?_⟩,by omega,?_,hs.ren [] trivial⟩
      ·by_cases e:q=j
       ·subst e;assumption
       ·exact hall q (by omega)
      ·(repeat (refine And.intro ⟨_,rfl,by first|rfl|(simp [B0,A1,A0];done)⟩ ?_));exact trivial)
   | (refine⟨fun h' hs=>⟨C0 fun hq=>?_,hs.grows⟩⟩
      have:=hq (X7 B i j) (by unfold X7;rw [List.getD_eq_getElem?_getD,List.getElem?_eq_getElem (by omega)];exact List.getElem_mem _)
      contradiction)
 ·((repeat' (conv=>whnf);first|(refine Br.mk ?_ ?_<;>intro hb<;>(try replace hb:=nN hb)<;>(try omega))|fail);all_goals try conv=>whnf)
  all_goals first
   |omega
   | (refine⟨fun h' hs=>⟨B8 fun k hk=>?_,hs.grows⟩⟩
      obtain⟨q,hq,e⟩:=List.getElem_of_mem hk
      have:=hall q (by omega)
      unfold X7 at this
      rw [List.getD_eq_getElem?_getD,List.getElem?_eq_getElem hq] at this
      rw [←e]
      exact this)
theorem Rb{i f:Nat}{Q:Nat→Prop}(hN:ND h bs L B)(hi:i<L.length)(hf:∀ h1 k,A5 h h1→k<L.length→CH Tryz.prog f #[.pointer (nd bs k)] h1 fun v h'=>v=A0 (.prop (Q k))∧A5 h1 h') :
 CH Tryz.prog 131 #[.pointer (nd bs i),.func (.func f) #[] #[]] h fun v h'=>v=A0 (.prop (∃ k∈(E4 B i).kids,Q k))∧A5 h h':=by
 refine Q0 2 [0,1,4,6,10,11,12,13,18] [] [.val (.pointer (nd bs i)),.val (.func (.func f) #[] #[])] Tryz.func131 rfl ?_
 ((repeat' (conv=>whnf);first|(refine A9.ndKids hN hi rfl ?_;intro A n c hA hnl hpl hnc)|fail);all_goals try conv=>whnf)
 have hsm:=hA.sl.small
 refine gG tO [12] (fun j:Nat=>[(12,.val (.int .i64 j))]) (fun _=>⟨h,[],[]⟩) (fun μ j=>j+μ=n∧∀ q,q<j→¬ Q (X7 B i q)) ?_
 conv=>whnf
 refine⟨fun h5 hs=>⟨n,0,⟨Nat.zero_add _,fun q hq=>absurd hq (Nat.not_lt_zero _)⟩,?_,hs.ren [] trivial⟩,?_⟩
 ·(repeat (refine And.intro ⟨_,rfl,by first|rfl|(simp [B0,A1,A0];done)⟩ ?_));exact trivial
 rintro μ j ⟨hj,hall⟩
 by_cases hjn:j<n
 ·replace hpl:=hpl (by omega)
  have hkl:=I2 hN.ok hi (m:=j) (by omega)
  ((repeat' (conv=>whnf);first|(refine Ar.fit (by omega) ?_)|(refine VC.mk (by omega) ?_)|(refine Br.mk ?_ ?_<;>intro hb<;>(try replace hb:=nN hb)<;>(try omega))|(refine C1.ndKid hA j (by omega) (by omega) ?_)|(refine H2 ?_ fun h1 hs=>hf h1 (X7 B i j) hs.grows hkl.2)|fail);all_goals try conv=>whnf)
  all_goals first
   |omega
   | (intro h6 hs
      refine⟨μ-1,j+1,⟨by omega,fun q hq=>?_⟩,by omega,?_,hs.ren [] trivial⟩
      ·by_cases e:q=j
       ·subst e;assumption
       ·exact hall q (by omega)
      ·(repeat (refine And.intro ⟨_,rfl,by first|rfl|(simp [B0,A1,A0];done)⟩ ?_));exact trivial)
   | (refine⟨fun h' hs=>⟨B8 ⟨X7 B i j,?_,by assumption⟩,hs.grows⟩⟩
      unfold X7;rw [List.getD_eq_getElem?_getD,List.getElem?_eq_getElem (by omega)];exact List.getElem_mem _)
 ·((repeat' (conv=>whnf);first|(refine Br.mk ?_ ?_<;>intro hb<;>(try replace hb:=nN hb)<;>(try omega))|fail);all_goals try conv=>whnf)
  all_goals first
   |omega
   | (refine⟨fun h' hs=>⟨C0 ?_,hs.grows⟩⟩
      rintro⟨k,hk,hq⟩
      obtain⟨q,hq1,e⟩:=List.getElem_of_mem hk
      refine hall q (by omega) ?_
      unfold X7
      rw [List.getD_eq_getElem?_getD,List.getElem?_eq_getElem hq1]
      rw [←e] at hq
      exact hq)
def cB(L:List M8)(B:List Bn)(i:Nat):Prop:=(H3 L i).kind=15∧¬ (H3 L (X7 B i 0)).kind=0
theorem jZ{i:Nat}(hN:ND h bs L B)(hP:∀ p∈L,P8 p)(hi:i<L.length) :
 CH Tryz.prog 130 #[.pointer (nd bs i)] h fun v h'=>v=A0 (.prop (cB L B i))∧A5 h h':=by
 refine Q0 1 [0,2] [] [.val (.pointer (nd bs i))] Tryz.func130 rfl ?_
 unfold cB
 by_cases hk:(H3 L i).kind=15
 ·have h0:=I9 hN.ok hP hi 2 hk (by decide)
  have hkl:=I2 hN.ok hi (m:=0) (by omega)
  ((repeat' (conv=>whnf);first|(refine VC.mk (by (first|omega|(and_intros<;>first|rfl|(simp only [maxLen];omega)))) ?_)|(refine Br.mk ?_ ?_<;>intro hb<;>(try replace hb:=nN hb)<;>(try omega))|(refine E5.mk ?_;intro b hb)|(refine H2 ?_ fun h1 hs=>D7 (hN.later hs.grows) hi (Sl.mem hs (by repeat constructor) rfl))|(refine H2 ?_ fun h1 hs=>D7 (hN.later hs.grows) hkl.2 (Sl.mem hs (by repeat constructor) rfl))|(refine A9.ndKids hN hi rfl ?_;intro A n c hA hnl hpl hnc;replace hpl:=hpl (by omega))|(refine C1.ndKid hA 0 (by omega) (by omega) ?_)|fail);all_goals try conv=>whnf)
  all_goals first
   |omega
   |(refine⟨fun h' hs=>⟨C3 ?_,hs.grows⟩⟩;grind)
   |(refine⟨fun h' hs=>⟨C0 ?_,hs.grows⟩⟩;grind)
 ·((repeat' (conv=>whnf);first|(refine VC.mk (by (first|omega|(and_intros<;>first|rfl|(simp only [maxLen];omega)))) ?_)|(refine Br.mk ?_ ?_<;>intro hb<;>(try replace hb:=nN hb)<;>(try omega))|(refine E5.mk ?_;intro b hb)|(refine H2 ?_ fun h1 hs=>D7 (hN.later hs.grows) hi (Sl.mem hs (by repeat constructor) rfl))|fail);all_goals try conv=>whnf)
  all_goals first
   |omega
   |(refine⟨fun h' hs=>⟨C3 ?_,hs.grows⟩⟩;grind)
   |(refine⟨fun h' hs=>⟨C0 ?_,hs.grows⟩⟩;grind)
theorem Tm{i:Nat}(hN:ND h bs L B)(hi:i<L.length) :
 CH Tryz.prog 132 #[.pointer (nd bs i)] h fun v h'=>v=A0 (.prop ((H3 L i).kind=15∧¬ (H3 L i).word=⟨#[]⟩))∧A5 h h':=by
 refine Q0 1 [0,2] [] [.val (.pointer (nd bs i))] Tryz.func132 rfl ?_
 ((repeat' (conv=>whnf);first|(refine VC.mk (by (first|omega|(and_intros<;>first|rfl|(simp only [maxLen];omega)))) ?_)|(refine Br.mk ?_ ?_<;>intro hb<;>(try replace hb:=nN hb))|(refine E5.mk ?_;intro b hb)|(refine H2 ?_ fun h1 hs=>D7 (hN.later hs.grows) hi (Sl.mem hs (by repeat constructor) rfl))|(refine A9.ndWord hN hi rfl ?_)|fail);all_goals try conv=>whnf)
 all_goals first
  |omega
  |(refine⟨fun h' hs=>⟨C3 ?_,hs.grows⟩⟩;grind)
  |(refine⟨fun h' hs=>⟨C0 ?_,hs.grows⟩⟩;grind)
def fR(L:List M8)(B:List Bn)(i:Nat):Prop:=(H3 L i).kind=14∧∃ k∈(E4 B i).kids,(H3 L k).kind=15∧¬ (H3 L k).word=⟨#[]⟩
theorem rM{i:Nat}(hN:ND h bs L B)(hi:i<L.length) :
 CH Tryz.prog 97 #[.pointer (nd bs i)] h fun v h'=>v=A0 (.prop (fR L B i))∧A5 h h':=by
 refine Q0 1 [0,2] [] [.val (.pointer (nd bs i))] Tryz.func97 rfl ?_
 unfold fR
 ((repeat' (conv=>whnf);first|(refine VC.mk (by (first|omega|(and_intros<;>first|rfl|(simp only [maxLen];omega)))) ?_)|(refine Br.mk ?_ ?_<;>intro hb<;>(try replace hb:=nN hb))|(refine E5.mk ?_;intro b hb)|(refine H2 ?_ fun h1 hs=>D7 (hN.later hs.grows) hi (Sl.mem hs (by repeat constructor) rfl))|(refine H2 ?_ fun h1 hs=>Rb (hN.later hs.grows) hi (fun h2 k hg hk=>Tm (hN.later (hs.grows.trans hg)) hk))|fail);all_goals try conv=>whnf)
 all_goals first
  |omega
  |(refine⟨fun h' hs=>⟨C3 ?_,hs.grows⟩⟩;grind)
  |(refine⟨fun h' hs=>⟨C0 ?_,hs.grows⟩⟩;grind)
end
end Go.Ex
namespace Go.Ex
open Go.Proofs
attribute [local irreducible] CH oV nS cB fR iK X7
section
variable {bs:List Nat}{L:List M8}{B:List Bn}{h:A3}
def Pv(L:List M8)(B:List Bn)(i:Nat):Int:=if (E4 B i).up<0 then -1 else (H3 L (E4 B i).up.toNat).kind
theorem iC{i:Nat}(hu:(E4 B i).up = -1):Pv L B i = -1:=by unfold Pv;rw [hu];rfl
theorem iB{i j:Nat}(hu:(E4 B i).up=j):Pv L B i=(H3 L j).kind:=by unfold Pv;rw [hu,if_neg (by omega),Int.toNat_natCast]
def BI(B:List Bn)(i:Nat):List Nat:=if (E4 B i).up<0 then [] else (E4 B (E4 B i).up.toNat).kids
theorem iA{i j:Nat}(hu:(E4 B i).up=j):BI B i=(E4 B j).kids:=by unfold BI;rw [hu,if_neg (by omega),Int.toNat_natCast]
def DC(L:List M8)(B:List Bn)(i:Nat):ByteArray:=(H3 L (E4 B i).up.toNat).word
theorem Pa{i j:Nat}(hu:(E4 B i).up=j):DC L B i=(H3 L j).word:=by unfold DC;rw [hu,Int.toNat_natCast]
def Fs(L:List M8)(B:List Bn)(i:Nat):Prop:=(H3 L i).kind=33
theorem Mn{i:Nat}(hN:ND h bs L B)(hP:∀ p∈L,P8 p)(hi:i<L.length) :
 CH Tryz.prog 80 #[.pointer (nd bs i)] h fun v h'=>v=A0 (.prop (Fs L B i))∧A5 h h':=by
 refine Q0 1 [0,2] [] [.val (.pointer (nd bs i))] Tryz.func80 rfl ?_
 unfold Fs
 ((repeat' (conv=>whnf);first|(refine VC.mk (by (first|omega|(and_intros<;>first|rfl|(simp only [maxLen];omega)))) ?_)|(refine E5.mk ?_;intro b hb)|(refine H2 ?_ fun h1 hs=>D7 (hN.later hs.grows) (by omega) (Sl.mem hs (by repeat constructor) rfl))|fail);all_goals try conv=>whnf)
 all_goals first
  |omega
  |(refine⟨fun h' hs=>⟨C3 ?_,hs.grows⟩⟩;grind)
  |(refine⟨fun h' hs=>⟨C0 ?_,hs.grows⟩⟩;grind)
  |(refine⟨fun h' hs=>⟨B8 ?_,hs.grows⟩⟩;grind)
def Gs(L:List M8)(B:List Bn)(i:Nat):Prop:=(H3 L i).kind=42∧¬ (Pv L B i=39∧(E4 B i).nth=0)
theorem Nn{i:Nat}(hN:ND h bs L B)(hP:∀ p∈L,P8 p)(hi:i<L.length) :
 CH Tryz.prog 78 #[.pointer (nd bs i)] h fun v h'=>v=A0 (.prop (Gs L B i))∧A5 h h':=by
 refine Q0 1 [0,2] [] [.val (.pointer (nd bs i))] Tryz.func78 rfl ?_
 unfold Gs
 rcases hN.ok.up i hi with ⟨hu,hn⟩|⟨j,m,hu,hj,hm,hkj⟩
 ·have e1:=iC (L:=L) hu
  rw [e1]
  ((repeat' (conv=>whnf);first|(refine VC.mk (by (first|omega|(and_intros<;>first|rfl|(simp only [maxLen];omega)))) ?_)|(refine Br.mk ?_ ?_<;>intro hb<;>(try replace hb:=nN hb)<;>(try (exact Bool.noConfusion hb)))|(refine E5.mk ?_;intro b hb)|(refine H2 ?_ fun h1 hs=>D7 (hN.later hs.grows) (by omega) (Sl.mem hs (by repeat constructor) rfl))|(refine A7 ?_ fun h1 hs=>mB _ _ _ _ h1 (Sl.mem hs (by repeat constructor) rfl))|(refine A9.ndUp0 hN (by omega) rfl (by assumption) ?_)|fail);all_goals try conv=>whnf)
  all_goals first
   |omega
   |(refine⟨fun h' hs=>⟨C3 ?_,hs.grows⟩⟩;grind)
   |(refine⟨fun h' hs=>⟨C0 ?_,hs.grows⟩⟩;grind)
   |(refine⟨fun h' hs=>⟨B8 ?_,hs.grows⟩⟩;grind)
 ·have e1:=iB (L:=L) hu
  have e2:=iA hu
  have e3:=Pa (L:=L) hu
  rw [e1]
  ((repeat' (conv=>whnf);first|(refine VC.mk (by (first|omega|(and_intros<;>first|rfl|(simp only [maxLen];omega)))) ?_)|(refine Br.mk ?_ ?_<;>intro hb<;>(try replace hb:=nN hb))|(refine E5.mk ?_;intro b hb)|(refine H2 ?_ fun h1 hs=>D7 (hN.later hs.grows) (by omega) (Sl.mem hs (by repeat constructor) rfl))|(refine A9.ndNth hN (by omega) rfl ?_)|(refine A9.ndUp hN (by omega) rfl (by assumption) ?_)|fail);all_goals try conv=>whnf)
  all_goals first
   |omega
   |(refine⟨fun h' hs=>⟨C3 ?_,hs.grows⟩⟩;grind)
   |(refine⟨fun h' hs=>⟨C0 ?_,hs.grows⟩⟩;grind)
   |(refine⟨fun h' hs=>⟨B8 ?_,hs.grows⟩⟩;grind)
def Cs(L:List M8)(B:List Bn)(i:Nat):Prop:=((H3 L i).kind=54∨(H3 L i).kind=55)∧¬ (H3 L (X7 B i 0)).kind=34
theorem Hn{i:Nat}(hN:ND h bs L B)(hP:∀ p∈L,P8 p)(hi:i<L.length) :
 CH Tryz.prog 83 #[.pointer (nd bs i)] h fun v h'=>v=A0 (.prop (Cs L B i))∧A5 h h':=by
 refine Q0 1 [0,2] [] [.val (.pointer (nd bs i))] Tryz.func83 rfl ?_
 unfold Cs
 by_cases hk0:(H3 L i).kind=54∨(H3 L i).kind=55
 ·have hl0:1≤(E4 B i).kids.length:=hk0.elim (fun hk=>I9 hN.ok hP hi 1 hk (by decide)) fun hk=>I9 hN.ok hP hi 1 hk (by decide)
  have hk1:=I2 hN.ok hi (m:=0) (by omega)
  ((repeat' (conv=>whnf);first|(refine VC.mk (by (first|omega|(and_intros<;>first|rfl|(simp only [maxLen];omega)))) ?_)|(refine Br.mk ?_ ?_<;>intro hb<;>(try replace hb:=nN hb)<;>(try omega))|(refine E5.mk ?_;intro b hb)|(refine H2 ?_ fun h1 hs=>D7 (hN.later hs.grows) (by omega) (Sl.mem hs (by repeat constructor) rfl))|(refine H2 ?_ fun h1 hs=>dO (hN.later hs.grows) (by omega) (Sl.mem hs (by repeat constructor) rfl))|(refine A9.ndKids hN (by omega) rfl ?_;intro A n c hA hnl hpl hnc;try replace hpl:=hpl (by omega))|(refine C1.ndKid (by assumption) 0 (by omega) (by omega) ?_)|fail);all_goals try conv=>whnf)
  all_goals first
   |omega
   |(refine⟨fun h' hs=>⟨C3 ?_,hs.grows⟩⟩;grind)
   |(refine⟨fun h' hs=>⟨C0 ?_,hs.grows⟩⟩;grind)
   |(refine⟨fun h' hs=>⟨B8 ?_,hs.grows⟩⟩;grind)
 ·((repeat' (conv=>whnf);first|(refine VC.mk (by (first|omega|(and_intros<;>first|rfl|(simp only [maxLen];omega)))) ?_)|(refine Br.mk ?_ ?_<;>intro hb<;>(try replace hb:=nN hb)<;>(try omega))|(refine E5.mk ?_;intro b hb)|(refine H2 ?_ fun h1 hs=>dO (hN.later hs.grows) (by omega) (Sl.mem hs (by repeat constructor) rfl))|fail);all_goals try conv=>whnf)
  all_goals first
   |omega
   |(refine⟨fun h' hs=>⟨C3 ?_,hs.grows⟩⟩;grind)
   |(refine⟨fun h' hs=>⟨C0 ?_,hs.grows⟩⟩;grind)
   |(refine⟨fun h' hs=>⟨B8 ?_,hs.grows⟩⟩;grind)
def As(L:List M8)(B:List Bn)(i:Nat):Prop:=(H3 L i).kind=53∧(H3 L i).word=(⟨#[58,61]⟩:ByteArray)∧¬ nS L B (X7 B i 0)
theorem Gn{i:Nat}(hN:ND h bs L B)(hP:∀ p∈L,P8 p)(hi:i<L.length) :
 CH Tryz.prog 84 #[.pointer (nd bs i)] h fun v h'=>v=A0 (.prop (As L B i))∧A5 h h':=by
 refine Q0 1 [0,2] [] [.val (.pointer (nd bs i))] Tryz.func84 rfl ?_
 unfold As
 by_cases hk:(H3 L i).kind=53
 ·have hl0:=I9 hN.ok hP hi 2 hk (by decide)
  have hk0:=I2 hN.ok hi (m:=0) (by omega)
  have hk1:=I2 hN.ok hi (m:=1) (by omega)
  ((repeat' (conv=>whnf);first|(refine VC.mk (by (first|omega|(and_intros<;>first|rfl|(simp only [maxLen];omega)))) ?_)|(refine Br.mk ?_ ?_<;>intro hb<;>(try replace hb:=nN hb)<;>(try omega))|(refine E5.mk ?_;intro b hb)|(refine H2 ?_ fun h1 hs=>D7 (hN.later hs.grows) (by omega) (Sl.mem hs (by repeat constructor) rfl))|(refine H2 ?_ fun h1 hs=>wN (hN.later hs.grows) (by omega))|(refine A9.ndWord hN (by omega) rfl ?_)|(refine A9.ndKids hN (by omega) rfl ?_;intro A n c hA hnl hpl hnc;try replace hpl:=hpl (by omega))|(refine C1.ndKid (by assumption) 0 (by omega) (by omega) ?_)|fail);all_goals try conv=>whnf)
  all_goals first
   |omega
   |(refine⟨fun h' hs=>⟨C3 ?_,hs.grows⟩⟩;grind)
   |(refine⟨fun h' hs=>⟨C0 ?_,hs.grows⟩⟩;grind)
   |(refine⟨fun h' hs=>⟨B8 ?_,hs.grows⟩⟩;grind)
 ·((repeat' (conv=>whnf);first|(refine VC.mk (by (first|omega|(and_intros<;>first|rfl|(simp only [maxLen];omega)))) ?_)|(refine Br.mk ?_ ?_<;>intro hb<;>(try replace hb:=nN hb)<;>(try omega))|(refine E5.mk ?_;intro b hb)|(refine H2 ?_ fun h1 hs=>D7 (hN.later hs.grows) (by omega) (Sl.mem hs (by repeat constructor) rfl))|fail);all_goals try conv=>whnf)
  all_goals first
   |omega
   |(refine⟨fun h' hs=>⟨C3 ?_,hs.grows⟩⟩;grind)
   |(refine⟨fun h' hs=>⟨C0 ?_,hs.grows⟩⟩;grind)
   |(refine⟨fun h' hs=>⟨B8 ?_,hs.grows⟩⟩;grind)
def Zr(L:List M8)(B:List Bn)(i:Nat):Prop:=(H3 L i).kind=53∧if (H3 L i).word=(⟨#[61]⟩:ByteArray)∨(H3 L i).word=(⟨#[58,61]⟩:ByteArray) then ¬ (E4 B (X7 B i 1)).kids.length=1∧¬ (E4 B (X7 B i 1)).kids.length=(E4 B (X7 B i 0)).kids.length else ¬ (E4 B (X7 B i 0)).kids.length=1∨¬ (E4 B (X7 B i 1)).kids.length=1
theorem En{i:Nat}(hN:ND h bs L B)(hP:∀ p∈L,P8 p)(hi:i<L.length) :
 CH Tryz.prog 86 #[.pointer (nd bs i)] h fun v h'=>v=A0 (.prop (Zr L B i))∧A5 h h':=by
 refine Q0 1 [0,2,3,4,8,42] [] [.val (.pointer (nd bs i))] Tryz.func86 rfl ?_
 unfold Zr
 by_cases hk:(H3 L i).kind=53
 ·have hl0:=I9 hN.ok hP hi 2 hk (by decide)
  have hk0:=I2 hN.ok hi (m:=0) (by omega)
  have hk1:=I2 hN.ok hi (m:=1) (by omega)
  ((repeat' (conv=>whnf);first|(refine VC.mk (by (first|omega|(and_intros<;>first|rfl|(simp only [maxLen];omega)))) ?_)|(refine Br.mk ?_ ?_<;>intro hb<;>(try replace hb:=nN hb)<;>(try omega))|(refine E5.mk ?_;intro b hb)|(refine (drawn tO mixed (by kernel_rfl) ?_))|(refine H2 ?_ fun h1 hs=>D7 (hN.later hs.grows) (by omega) (Sl.mem hs (by repeat constructor) rfl))|(refine A9.ndWord hN (by omega) rfl ?_)|(refine A9.ndKids hN (by omega) rfl ?_;intro A n c hA hnl hpl hnc;try replace hpl:=hpl (by omega))|(refine C1.ndKid (by assumption) 0 (by omega) (by omega) ?_)|(refine C1.ndKid (by assumption) 1 (by omega) (by omega) ?_)|fail);all_goals try conv=>whnf)
  all_goals first
   |omega
   |(refine⟨fun h' hs=>⟨C3 ?_,hs.grows⟩⟩;grind)
   |(refine⟨fun h' hs=>⟨C0 ?_,hs.grows⟩⟩;grind)
   |(refine⟨fun h' hs=>⟨B8 ?_,hs.grows⟩⟩;grind)
 ·((repeat' (conv=>whnf);first|(refine VC.mk (by (first|omega|(and_intros<;>first|rfl|(simp only [maxLen];omega)))) ?_)|(refine Br.mk ?_ ?_<;>intro hb<;>(try replace hb:=nN hb)<;>(try omega))|(refine E5.mk ?_;intro b hb)|(refine H2 ?_ fun h1 hs=>D7 (hN.later hs.grows) (by omega) (Sl.mem hs (by repeat constructor) rfl))|fail);all_goals try conv=>whnf)
  all_goals first
   |omega
   |(refine⟨fun h' hs=>⟨C3 ?_,hs.grows⟩⟩;grind)
   |(refine⟨fun h' hs=>⟨C0 ?_,hs.grows⟩⟩;grind)
   |(refine⟨fun h' hs=>⟨B8 ?_,hs.grows⟩⟩;grind)
def Ah(L:List M8)(B:List Bn)(i:Nat):Prop:=(H3 L i).kind=8∧¬ (H3 L (X7 B i 0)).kind=0∧(¬ (E4 B (X7 B i 0)).kids.length=1∨¬ (H3 L (X7 B i 2)).kind=0)
theorem Zg{i:Nat}(hN:ND h bs L B)(hP:∀ p∈L,P8 p)(hi:i<L.length) :
 CH Tryz.prog 89 #[.pointer (nd bs i)] h fun v h'=>v=A0 (.prop (Ah L B i))∧A5 h h':=by
 refine Q0 1 [0,2] [] [.val (.pointer (nd bs i))] Tryz.func89 rfl ?_
 unfold Ah
 by_cases hk:(H3 L i).kind=8
 ·have hl0:=I9 hN.ok hP hi 5 hk (by decide)
  have hk0:=I2 hN.ok hi (m:=0) (by omega)
  have hk1:=I2 hN.ok hi (m:=1) (by omega)
  have hk2:=I2 hN.ok hi (m:=2) (by omega)
  have hk3:=I2 hN.ok hi (m:=3) (by omega)
  have hk4:=I2 hN.ok hi (m:=4) (by omega)
  ((repeat' (conv=>whnf);first|(refine VC.mk (by (first|omega|(and_intros<;>first|rfl|(simp only [maxLen];omega)))) ?_)|(refine Br.mk ?_ ?_<;>intro hb<;>(try replace hb:=nN hb)<;>(try omega))|(refine E5.mk ?_;intro b hb)|(refine H2 ?_ fun h1 hs=>D7 (hN.later hs.grows) (by omega) (Sl.mem hs (by repeat constructor) rfl))|(refine A9.ndKids hN (by omega) rfl ?_;intro A n c hA hnl hpl hnc;try replace hpl:=hpl (by omega))|(refine C1.ndKid (by assumption) 0 (by omega) (by omega) ?_)|(refine C1.ndKid (by assumption) 2 (by omega) (by omega) ?_)|fail);all_goals try conv=>whnf)
  all_goals first
   |omega
   |(refine⟨fun h' hs=>⟨C3 ?_,hs.grows⟩⟩;grind)
   |(refine⟨fun h' hs=>⟨C0 ?_,hs.grows⟩⟩;grind)
   |(refine⟨fun h' hs=>⟨B8 ?_,hs.grows⟩⟩;grind)
 ·((repeat' (conv=>whnf);first|(refine VC.mk (by (first|omega|(and_intros<;>first|rfl|(simp only [maxLen];omega)))) ?_)|(refine Br.mk ?_ ?_<;>intro hb<;>(try replace hb:=nN hb)<;>(try omega))|(refine E5.mk ?_;intro b hb)|(refine H2 ?_ fun h1 hs=>D7 (hN.later hs.grows) (by omega) (Sl.mem hs (by repeat constructor) rfl))|fail);all_goals try conv=>whnf)
  all_goals first
   |omega
   |(refine⟨fun h' hs=>⟨C3 ?_,hs.grows⟩⟩;grind)
   |(refine⟨fun h' hs=>⟨C0 ?_,hs.grows⟩⟩;grind)
   |(refine⟨fun h' hs=>⟨B8 ?_,hs.grows⟩⟩;grind)
def Yg(L:List M8)(B:List Bn)(i:Nat):Prop:=(H3 L i).kind=50∧¬ (H3 L (iK L B (X7 B i 0))).kind=34∧¬ oV L B (X7 B i 0)
theorem Xg{i:Nat}(hN:ND h bs L B)(hP:∀ p∈L,P8 p)(hi:i<L.length) :
 CH Tryz.prog 90 #[.pointer (nd bs i)] h fun v h'=>v=A0 (.prop (Yg L B i))∧A5 h h':=by
 refine Q0 1 [0,2] [] [.val (.pointer (nd bs i))] Tryz.func90 rfl ?_
 unfold Yg
 by_cases hk:(H3 L i).kind=50
 ·have hl0:=I9 hN.ok hP hi 1 hk (by decide)
  have hk0:=I2 hN.ok hi (m:=0) (by omega)
  have hb0:=We hN.ok hP hk0.2
  ((repeat' (conv=>whnf);first|(refine VC.mk (by (first|omega|(and_intros<;>first|rfl|(simp only [maxLen];omega)))) ?_)|(refine Br.mk ?_ ?_<;>intro hb<;>(try replace hb:=nN hb)<;>(try omega))|(refine E5.mk ?_;intro b hb)|(refine H2 ?_ fun h1 hs=>D7 (hN.later hs.grows) (by omega) (Sl.mem hs (by repeat constructor) rfl))|(refine H2 ?_ fun h1 hs=>gA (hN.later hs.grows) hP (by omega))|(refine A7 ?_ fun h1 hs=>wC (hN.later hs.grows) hP (by omega))|(refine A9.ndKids hN (by omega) rfl ?_;intro A n c hA hnl hpl hnc;try replace hpl:=hpl (by omega))|(refine C1.ndKid (by assumption) 0 (by omega) (by omega) ?_)|fail);all_goals try conv=>whnf)
  all_goals first
   |omega
   |(refine⟨fun h' hs=>⟨C3 ?_,hs.grows⟩⟩;grind)
   |(refine⟨fun h' hs=>⟨C0 ?_,hs.grows⟩⟩;grind)
   |(refine⟨fun h' hs=>⟨B8 ?_,hs.grows⟩⟩;grind)
 ·((repeat' (conv=>whnf);first|(refine VC.mk (by (first|omega|(and_intros<;>first|rfl|(simp only [maxLen];omega)))) ?_)|(refine Br.mk ?_ ?_<;>intro hb<;>(try replace hb:=nN hb)<;>(try omega))|(refine E5.mk ?_;intro b hb)|(refine H2 ?_ fun h1 hs=>D7 (hN.later hs.grows) (by omega) (Sl.mem hs (by repeat constructor) rfl))|fail);all_goals try conv=>whnf)
  all_goals first
   |omega
   |(refine⟨fun h' hs=>⟨C3 ?_,hs.grows⟩⟩;grind)
   |(refine⟨fun h' hs=>⟨C0 ?_,hs.grows⟩⟩;grind)
   |(refine⟨fun h' hs=>⟨B8 ?_,hs.grows⟩⟩;grind)
def Wg(L:List M8)(B:List Bn)(i:Nat):Prop:=(H3 L i).kind=66∧(2<(E4 B (X7 B i 0)).kids.length∨(H3 L i).word=(⟨#[58,61]⟩:ByteArray)∧¬ nS L B (X7 B i 0))
theorem Vg{i:Nat}(hN:ND h bs L B)(hP:∀ p∈L,P8 p)(hi:i<L.length) :
 CH Tryz.prog 93 #[.pointer (nd bs i)] h fun v h'=>v=A0 (.prop (Wg L B i))∧A5 h h':=by
 refine Q0 1 [0,2] [] [.val (.pointer (nd bs i))] Tryz.func93 rfl ?_
 unfold Wg
 by_cases hk:(H3 L i).kind=66
 ·have hl0:=I9 hN.ok hP hi 3 hk (by decide)
  have hk0:=I2 hN.ok hi (m:=0) (by omega)
  have hk1:=I2 hN.ok hi (m:=1) (by omega)
  have hk2:=I2 hN.ok hi (m:=2) (by omega)
  ((repeat' (conv=>whnf);first|(refine VC.mk (by (first|omega|(and_intros<;>first|rfl|(simp only [maxLen];omega)))) ?_)|(refine Br.mk ?_ ?_<;>intro hb<;>(try replace hb:=nN hb)<;>(try omega))|(refine E5.mk ?_;intro b hb)|(refine H2 ?_ fun h1 hs=>D7 (hN.later hs.grows) (by omega) (Sl.mem hs (by repeat constructor) rfl))|(refine H2 ?_ fun h1 hs=>wN (hN.later hs.grows) (by omega))|(refine A9.ndWord hN (by omega) rfl ?_)|(refine A9.ndKids hN (by omega) rfl ?_;intro A n c hA hnl hpl hnc;try replace hpl:=hpl (by omega))|(refine C1.ndKid (by assumption) 0 (by omega) (by omega) ?_)|fail);all_goals try conv=>whnf)
  all_goals first
   |omega
   |(refine⟨fun h' hs=>⟨C3 ?_,hs.grows⟩⟩;grind)
   |(refine⟨fun h' hs=>⟨C0 ?_,hs.grows⟩⟩;grind)
   |(refine⟨fun h' hs=>⟨B8 ?_,hs.grows⟩⟩;grind)
 ·((repeat' (conv=>whnf);first|(refine VC.mk (by (first|omega|(and_intros<;>first|rfl|(simp only [maxLen];omega)))) ?_)|(refine Br.mk ?_ ?_<;>intro hb<;>(try replace hb:=nN hb)<;>(try omega))|(refine E5.mk ?_;intro b hb)|(refine H2 ?_ fun h1 hs=>D7 (hN.later hs.grows) (by omega) (Sl.mem hs (by repeat constructor) rfl))|fail);all_goals try conv=>whnf)
  all_goals first
   |omega
   |(refine⟨fun h' hs=>⟨C3 ?_,hs.grows⟩⟩;grind)
   |(refine⟨fun h' hs=>⟨C0 ?_,hs.grows⟩⟩;grind)
   |(refine⟨fun h' hs=>⟨B8 ?_,hs.grows⟩⟩;grind)
def Sg(L:List M8)(B:List Bn)(i:Nat):Prop:=(H3 L i).kind=6∧(Pv L B i=3∨Pv L B i=4)∧DC L B i=(⟨#[99,111,110,115,116]⟩:ByteArray)∧(E4 B i).nth=0∧(H3 L (X7 B i 2)).kind=0
theorem Rg{i:Nat}(hN:ND h bs L B)(hP:∀ p∈L,P8 p)(hi:i<L.length) :
 CH Tryz.prog 95 #[.pointer (nd bs i)] h fun v h'=>v=A0 (.prop (Sg L B i))∧A5 h h':=by
 refine Q0 1 [0,2] [] [.val (.pointer (nd bs i))] Tryz.func95 rfl ?_
 unfold Sg
 by_cases hk:(H3 L i).kind=6
 ·have hl0:=I9 hN.ok hP hi 3 hk (by decide)
  have hk2:=I2 hN.ok hi (m:=2) (by omega)
  rcases hN.ok.up i hi with ⟨hu,hn⟩|⟨j,m,hu,hj,hm,hkj⟩
  ·have e1:=iC (L:=L) hu
   rw [e1]
   ((repeat' (conv=>whnf);first|(refine VC.mk (by (first|omega|(and_intros<;>first|rfl|(simp only [maxLen];omega)))) ?_)|(refine Br.mk ?_ ?_<;>intro hb<;>(try replace hb:=nN hb)<;>(try (first|omega|exact Bool.noConfusion hb)))|(refine E5.mk ?_;intro b hb)|(refine H2 ?_ fun h1 hs=>D7 (hN.later hs.grows) (by omega) (Sl.mem hs (by repeat constructor) rfl))|(refine A7 ?_ fun h1 hs=>mB _ _ _ _ h1 (Sl.mem hs (by repeat constructor) rfl))|(refine A9.ndUp0 hN (by omega) rfl (by assumption) ?_)|fail);all_goals try conv=>whnf)
   all_goals first
    |omega
    |(refine⟨fun h' hs=>⟨C3 ?_,hs.grows⟩⟩;grind)
    |(refine⟨fun h' hs=>⟨C0 ?_,hs.grows⟩⟩;grind)
    |(refine⟨fun h' hs=>⟨B8 ?_,hs.grows⟩⟩;grind)
  ·have e1:=iB (L:=L) hu
   have e2:=iA hu
   have e3:=Pa (L:=L) hu
   rw [e1]
   ((repeat' (conv=>whnf);first|(refine VC.mk (by (first|omega|(and_intros<;>first|rfl|(simp only [maxLen];omega)))) ?_)|(refine Br.mk ?_ ?_<;>intro hb<;>(try replace hb:=nN hb)<;>(try omega))|(refine E5.mk ?_;intro b hb)|(refine H2 ?_ fun h1 hs=>D7 (hN.later hs.grows) (by omega) (Sl.mem hs (by repeat constructor) rfl))|(refine H2 ?_ fun h1 hs=>dO (hN.later hs.grows) (by omega) (Sl.mem hs (by repeat constructor) rfl))|(refine A9.ndWord hN (by omega) rfl ?_)|(refine A9.ndNth hN (by omega) rfl ?_)|(refine A9.ndUp hN (by omega) rfl (by assumption) ?_)|(refine A9.ndKids hN (by omega) rfl ?_;intro A n c hA hnl hpl hnc;try replace hpl:=hpl (by omega))|(refine C1.ndKid (by assumption) 2 (by omega) (by omega) ?_)|fail);all_goals try conv=>whnf)
   all_goals first
    |omega
    |(refine⟨fun h' hs=>⟨C3 ?_,hs.grows⟩⟩;grind)
    |(refine⟨fun h' hs=>⟨C0 ?_,hs.grows⟩⟩;grind)
    |(refine⟨fun h' hs=>⟨B8 ?_,hs.grows⟩⟩;grind)
 ·((repeat' (conv=>whnf);first|(refine VC.mk (by (first|omega|(and_intros<;>first|rfl|(simp only [maxLen];omega)))) ?_)|(refine Br.mk ?_ ?_<;>intro hb<;>(try replace hb:=nN hb)<;>(try omega))|(refine E5.mk ?_;intro b hb)|(refine H2 ?_ fun h1 hs=>D7 (hN.later hs.grows) (by omega) (Sl.mem hs (by repeat constructor) rfl))|fail);all_goals try conv=>whnf)
  all_goals first
   |omega
   |(refine⟨fun h' hs=>⟨C3 ?_,hs.grows⟩⟩;grind)
   |(refine⟨fun h' hs=>⟨C0 ?_,hs.grows⟩⟩;grind)
   |(refine⟨fun h' hs=>⟨B8 ?_,hs.grows⟩⟩;grind)
def Qg(L:List M8)(B:List Bn)(i:Nat):Prop:=(H3 L i).kind=9∧fR L B (X7 B i 1)∨(H3 L i).kind=8∧fR L B (X7 B i 0)
theorem Pg{i:Nat}(hN:ND h bs L B)(hP:∀ p∈L,P8 p)(hi:i<L.length) :
 CH Tryz.prog 96 #[.pointer (nd bs i)] h fun v h'=>v=A0 (.prop (Qg L B i))∧A5 h h':=by
 refine Q0 1 [0,2] [] [.val (.pointer (nd bs i))] Tryz.func96 rfl ?_
 unfold Qg
 by_cases hk:(H3 L i).kind=9
 ·have hl0:=I9 hN.ok hP hi 2 hk (by decide)
  have hk1:=I2 hN.ok hi (m:=1) (by omega)
  ((repeat' (conv=>whnf);first|(refine VC.mk (by (first|omega|(and_intros<;>first|rfl|(simp only [maxLen];omega)))) ?_)|(refine Br.mk ?_ ?_<;>intro hb<;>(try replace hb:=nN hb)<;>(try omega))|(refine E5.mk ?_;intro b hb)|(refine H2 ?_ fun h1 hs=>D7 (hN.later hs.grows) (by omega) (Sl.mem hs (by repeat constructor) rfl))|(refine H2 ?_ fun h1 hs=>rM (hN.later hs.grows) (by omega))|(refine A9.ndKids hN (by omega) rfl ?_;intro A n c hA hnl hpl hnc;try replace hpl:=hpl (by omega))|(refine C1.ndKid (by assumption) 1 (by omega) (by omega) ?_)|fail);all_goals try conv=>whnf)
  all_goals first
   |omega
   |(refine⟨fun h' hs=>⟨C3 ?_,hs.grows⟩⟩;grind)
   |(refine⟨fun h' hs=>⟨C0 ?_,hs.grows⟩⟩;grind)
   |(refine⟨fun h' hs=>⟨B8 ?_,hs.grows⟩⟩;grind)
 ·by_cases hk2:(H3 L i).kind=8
  ·have hl0:=I9 hN.ok hP hi 5 hk2 (by decide)
   have hk1:=I2 hN.ok hi (m:=0) (by omega)
   ((repeat' (conv=>whnf);first|(refine VC.mk (by (first|omega|(and_intros<;>first|rfl|(simp only [maxLen];omega)))) ?_)|(refine Br.mk ?_ ?_<;>intro hb<;>(try replace hb:=nN hb)<;>(try omega))|(refine E5.mk ?_;intro b hb)|(refine H2 ?_ fun h1 hs=>D7 (hN.later hs.grows) (by omega) (Sl.mem hs (by repeat constructor) rfl))|(refine H2 ?_ fun h1 hs=>rM (hN.later hs.grows) (by omega))|(refine A9.ndKids hN (by omega) rfl ?_;intro A n c hA hnl hpl hnc;try replace hpl:=hpl (by omega))|(refine C1.ndKid (by assumption) 0 (by omega) (by omega) ?_)|fail);all_goals try conv=>whnf)
   all_goals first
    |omega
    |(refine⟨fun h' hs=>⟨C3 ?_,hs.grows⟩⟩;grind)
    |(refine⟨fun h' hs=>⟨C0 ?_,hs.grows⟩⟩;grind)
    |(refine⟨fun h' hs=>⟨B8 ?_,hs.grows⟩⟩;grind)
  ·((repeat' (conv=>whnf);first|(refine VC.mk (by (first|omega|(and_intros<;>first|rfl|(simp only [maxLen];omega)))) ?_)|(refine Br.mk ?_ ?_<;>intro hb<;>(try replace hb:=nN hb)<;>(try omega))|(refine E5.mk ?_;intro b hb)|(refine H2 ?_ fun h1 hs=>D7 (hN.later hs.grows) (by omega) (Sl.mem hs (by repeat constructor) rfl))|fail);all_goals try conv=>whnf)
   all_goals first
    |omega
    |(refine⟨fun h' hs=>⟨C3 ?_,hs.grows⟩⟩;grind)
    |(refine⟨fun h' hs=>⟨C0 ?_,hs.grows⟩⟩;grind)
    |(refine⟨fun h' hs=>⟨B8 ?_,hs.grows⟩⟩;grind)
end
end Go.Ex
