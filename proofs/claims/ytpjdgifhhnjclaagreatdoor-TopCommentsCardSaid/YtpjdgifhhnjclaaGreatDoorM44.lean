/-
  Top: TopComments: whatever the input, the law answers true (part 44)
-/
import Derived.Test.YtpjdgifhhnjclaaGreatDoorM42
import Derived.Test.YtpjdgifhhnjclaaGreatDoorM43
set_option linter.unusedVariables false
set_option linter.unusedSimpArgs false
set_option maxHeartbeats 4000000
set_option maxRecDepth 10000
namespace Go.Ex
open Go.Proofs
attribute [local irreducible] CH oV nS cB fR iK X7
section
variable {bs:List Nat}{L:List M8}{B:List Bn}{h:A3}
theorem C1.ndAny{S:St}{A:Option Addr}{n:Nat}{kd:List Nat}{κ:KV→Prop}(hA:D3 E1 S.h0 S.cap A n (kd.map (nd bs)))(m:Nat){j:Int}(hj:j=m)(hm:m<kd.length)(hk:G8 false (O7 [.pointer (nd bs (kd.getD m 0))]) κ):C1 S A 1 j 0 1 false κ:=by
 have hn:n=kd.length:=by rw [←hA.sl.len_eq,List.length_map]
 have e:(kd.map (nd bs))[m]?=some (nd bs (kd.getD m 0)):=by
  rw [List.getElem?_map,List.getElem?_eq_getElem hm,List.getD_eq_getElem?_getD,List.getElem?_eq_getElem hm];rfl
 refine C1.held hA rfl (by omega) (by omega) (W7 e j (by omega)) hk
theorem Md{kd:List Nat}{m:Nat}(hm:m<kd.length):kd.getD m 0∈kd:=by
 rw [List.getD_eq_getElem?_getD,List.getElem?_eq_getElem hm];exact List.getElem_mem hm
theorem qS{kd:List Nat}{j:Nat}{Q:Nat→Prop}(hj:j<kd.length):(∃ k∈kd.take (j+1),Q k)↔(∃ k∈kd.take j,Q k)∨Q (kd.getD j 0):=by
 rw [List.take_add_one,List.getElem?_eq_getElem hj,List.getD_eq_getElem?_getD,List.getElem?_eq_getElem hj]
 simp only [Option.toList_some,List.mem_append,List.mem_singleton,Option.getD_some]
 constructor
 ·rintro⟨k,hk|rfl,hq⟩
  ·exact .inl ⟨k,hk,hq⟩
  ·exact .inr hq
 ·rintro (⟨k,hk,hq⟩|hq)
  ·exact⟨k,.inl hk,hq⟩
  ·exact⟨_,.inr rfl,hq⟩
def Es(L:List M8)(B:List Bn)(i:Nat):Prop:=(H3 L i).kind=15∧Pv L B i=14∧¬ cB L B i∧(∃ k∈BI B i,cB L B k)∧¬ ((∃ k∈(BI B i).drop ((E4 B i).nth.toNat+1),cB L B k)∧(H3 L (X7 B i 1)).kind=26)
theorem Ln{i:Nat}(hN:ND h bs L B)(hP:∀ p∈L,P8 p)(hi:i<L.length) :
 CH Tryz.prog 81 #[.pointer (nd bs i)] h fun v h'=>v=A0 (.prop (Es L B i))∧A5 h h':=by
 refine Q0 1 [0,2,3,5,30,43,44,45,46] [] [.val (.pointer (nd bs i))] Tryz.func81 rfl ?_
 unfold Es
 by_cases hk:(H3 L i).kind=15
 case neg=>
  ((repeat' (conv=>whnf);first|(refine VC.mk (by (first|omega|(and_intros<;>first|rfl|(simp only [maxLen];omega)))) ?_)|(refine Br.mk ?_ ?_<;>intro hb<;>(try replace hb:=nN hb)<;>(try omega))|(refine E5.mk ?_;intro b hb)|(refine H2 ?_ fun h1 hs=>D7 (hN.later hs.grows) (by omega) (Sl.mem hs (by repeat constructor) rfl))|fail);all_goals try conv=>whnf)
  all_goals first
   |omega
   |(refine⟨fun h' hs=>⟨C3 ?_,hs.grows⟩⟩;grind)
   |(refine⟨fun h' hs=>⟨C0 ?_,hs.grows⟩⟩;grind)
   |(refine⟨fun h' hs=>⟨B8 ?_,hs.grows⟩⟩;grind)
 have hl0:=I9 hN.ok hP hi 2 hk (by decide)
 have hk0:=I2 hN.ok hi (m:=1) (by omega)
 rcases hN.ok.up i hi with ⟨hu,hn⟩|⟨j,m,hu,hj,hm,hkj⟩
 ·have e1:=iC (L:=L) hu
  rw [e1]
  ((repeat' (conv=>whnf);first|(refine VC.mk (by (first|omega|(and_intros<;>first|rfl|(simp only [maxLen];omega)))) ?_)|(refine Br.mk ?_ ?_<;>intro hb<;>(try replace hb:=nN hb)<;>(try (first|omega|exact Bool.noConfusion hb)))|(refine E5.mk ?_;intro b hb)|(refine H2 ?_ fun h1 hs=>D7 (hN.later hs.grows) (by omega) (Sl.mem hs (by repeat constructor) rfl))|(refine A7 ?_ fun h1 hs=>mB _ _ _ _ h1 (Sl.mem hs (by repeat constructor) rfl))|(refine A9.ndUp0 hN (by omega) rfl (by assumption) ?_)|fail);all_goals try conv=>whnf)
  all_goals first
   |omega
   |(refine⟨fun h' hs=>⟨C3 ?_,hs.grows⟩⟩;grind)
   |(refine⟨fun h' hs=>⟨C0 ?_,hs.grows⟩⟩;grind)
   |(refine⟨fun h' hs=>⟨B8 ?_,hs.grows⟩⟩;grind)
 have e1:=iB (L:=L) hu
 have e2:=iA hu
 have hml:m<(E4 B j).kids.length:=(List.getElem?_eq_some_iff.1 hkj).1
 have hsl:(E4 B j).kids.length≤9223372036854775807:=by
  obtain⟨A,n,c,_,h2,_⟩:=hN.at_ j (by omega)
  have:=h2.small
  have:=h2.len_eq
  rw [List.length_map] at this
  omega
 rw [e1,e2,hm,Int.toNat_natCast]
 ((repeat' (conv=>whnf);first|(refine Ar.fit (by omega) ?_)|(refine VC.mk (by (first|omega|(and_intros<;>first|rfl|(simp only [maxLen];omega)))) ?_)|(refine Br.mk ?_ ?_<;>intro hb<;>(try replace hb:=nN hb)<;>(try omega))|(refine E5.mk ?_;intro b hb)|(refine (drawn tO mixed (by kernel_rfl) ?_))|(refine H2 ?_ fun h1 hs=>D7 (hN.later hs.grows) (by omega) (Sl.mem hs (by repeat constructor) rfl))|(refine H2 ?_ fun h1 hs=>jZ (hN.later hs.grows) hP (by omega))|(refine H2 ?_ fun h1 hs=>Rb (hN.later hs.grows) (by omega) (fun h2 k hg hk=>jZ (hN.later (hs.grows.trans hg)) hP hk))|(refine A9.ndNth hN (by omega) rfl ?_)|(refine A9.ndUp hN (by omega) rfl (by assumption) ?_)|(refine A9.ndKids hN (by omega) rfl ?_;intro A n c hA hnl hpl hnc;try replace hpl:=hpl (by omega))|fail);all_goals try conv=>whnf)
 all_goals (try omega)
 all_goals (try (refine⟨fun h' hs=>⟨C0 ?_,hs.grows⟩⟩;grind))
 have hA2:=(by assumption:D3 E1 _ _ A n ((E4 B j).kids.map (nd bs))).sl.tail hnc (m+1) (by omega)
 rw [←List.map_drop] at hA2
 obtain⟨kd,hkd⟩:∃ kd,(E4 B j).kids.drop (m+1)=kd:=⟨_,rfl⟩
 have hkl:kd.length=(E4 B j).kids.length-(m+1):=by rw [←hkd,List.length_drop]
 have hin:∀ k∈kd,k<L.length:=fun k hk=>(hN.ok.kid j (by omega) k (by rw [←hkd] at hk;exact List.mem_of_mem_drop hk)).2
 rw [hkd] at hA2 ⊢
 rw [show ((m+1:Nat):Int)=(E4 B i).nth+1 by omega] at hA2
 have hsm:=hA2.small
 replace hA2:Sl E1 h (Ff A c ((E4 B i).nth+1) 1) (n-(m+1)) (kd.map (nd bs)):=hA2
 replace hA2:=D3.start hA2
 refine gG tO [3,45] (fun x:Nat=>[(3,.prop (∃ k∈kd.take x,cB L B k)),(45,.val (.int .i64 x))]) (fun _=>⟨h,[],[]⟩) (fun μ x=>x+μ=kd.length) ?_
 conv=>whnf
 refine⟨fun h5 hs=>⟨kd.length,0,Nat.zero_add _,?_,hs.ren [] trivial⟩,?_⟩
 ·refine And.intro ⟨_,rfl,by simp [B0,A1,A0]⟩ ?_
  (repeat (refine And.intro ⟨_,rfl,by first|rfl|(simp [B0,A1,A0];done)⟩ ?_));exact trivial
 rintro μ x hx
 by_cases hxl:x<kd.length
 ·have hpl2:=hA2.sl.plain (by omega)
  have hkx:=hin _ (Md hxl)
  ((repeat' (conv=>whnf);first|(refine Ar.fit (by omega) ?_)|(refine VC.mk (by omega) ?_)|(refine Br.mk ?_ ?_<;>intro hb<;>(try replace hb:=nN hb)<;>(try omega))|(refine C1.ndAny hA2 x (by omega) (by omega) ?_)|(refine H2 ?_ fun h1 hs=>jZ (hN.later hs.grows) hP (by omega))|fail);all_goals try conv=>whnf)
  all_goals first
   |omega
   | (intro h6 hs
      refine⟨μ-1,x+1,by omega,by omega,?_,hs.ren [] trivial⟩
      refine And.intro ⟨_,rfl,?_⟩ ?_
      ·first|exact C3 (by rw [qS hxl];grind)|exact B8 (by rw [qS hxl];grind)|exact C0 (by rw [qS hxl];grind)
      ·(repeat (refine And.intro ⟨_,rfl,by first|rfl|(simp [B0,A1,A0];done)⟩ ?_));exact trivial)
 ·have e:kd.take x=kd:=List.take_of_length_le (by omega)
  rw [e]
  ((repeat' (conv=>whnf);first|(refine VC.mk (by (first|omega|(and_intros<;>first|rfl|(simp only [maxLen];omega)))) ?_)|(refine Br.mk ?_ ?_<;>intro hb<;>(try replace hb:=nN hb)<;>(try omega))|(refine E5.mk ?_;intro b hb)|(refine H2 ?_ fun h1 hs=>D7 (hN.later hs.grows) (by omega) (Sl.mem hs (by repeat constructor) rfl))|(refine A9.ndKids hN (by omega) rfl ?_;intro A n c hA hnl hpl hnc;try replace hpl:=hpl (by omega))|(refine C1.ndKid (by assumption) 1 (by omega) (by omega) ?_)|fail);all_goals try conv=>whnf)
  all_goals first
   |omega
   |(refine⟨fun h' hs=>⟨C3 ?_,hs.grows⟩⟩;grind)
   |(refine⟨fun h' hs=>⟨C0 ?_,hs.grows⟩⟩;grind)
   |(refine⟨fun h' hs=>⟨B8 ?_,hs.grows⟩⟩;grind)
def Ds(L:List M8)(B:List Bn)(i:Nat):Prop:=(H3 L i).kind=15∧Pv L B i=14∧¬ (H3 L i).word=⟨#[]⟩∧¬ (E4 B i).nth=(BI B i).length-1
theorem Jn{i:Nat}(hN:ND h bs L B)(hP:∀ p∈L,P8 p)(hi:i<L.length) :
 CH Tryz.prog 82 #[.pointer (nd bs i)] h fun v h'=>v=A0 (.prop (Ds L B i))∧A5 h h':=by
 refine Q0 1 [0,2] [] [.val (.pointer (nd bs i))] Tryz.func82 rfl ?_
 unfold Ds
 rcases hN.ok.up i hi with ⟨hu,hn⟩|⟨j,m,hu,hj,hm,hkj⟩
 ·have e1:=iC (L:=L) hu
  rw [e1]
  ((repeat' (conv=>whnf);first|(refine C2 (id:=1) (.pl [0] (.on [1,2] (.pl [3,4,5,6] (.bp 7 8 (.on [9] (.pl [10,11,12,13,14,15,16,17,18,19,20,21,22,24,25,26,27,28,29,30,31,32,23,33,34,35] .e)))))) (by kernel_rfl) ?_)|(refine VC.mk (by (first|omega|(and_intros<;>first|rfl|(simp only [maxLen];omega)))) ?_)|(refine Br.mk ?_ ?_<;>intro hb<;>(try replace hb:=nN hb)<;>(try (exact Bool.noConfusion hb)))|(refine E5.mk ?_;intro b hb)|(refine dD.mk ?_ ?_)|(refine H2 ?_ fun h1 hs=>D7 (hN.later hs.grows) (by omega) (Sl.mem hs (by repeat constructor) rfl))|(refine A7 ?_ fun h1 hs=>mB _ _ _ _ h1 (Sl.mem hs (by repeat constructor) rfl))|(refine A9.ndUp0 hN (by omega) rfl (by assumption) ?_)|fail);all_goals try conv=>whnf)
  all_goals first
   |omega
   |(refine⟨fun h' hs=>⟨C3 ?_,hs.grows⟩⟩;grind)
   |(refine⟨fun h' hs=>⟨C0 ?_,hs.grows⟩⟩;grind)
   |(refine⟨fun h' hs=>⟨B8 ?_,hs.grows⟩⟩;grind)
 have e1:=iB (L:=L) hu
 have e2:=iA hu
 have hml:m<(E4 B j).kids.length:=(List.getElem?_eq_some_iff.1 hkj).1
 have hsl:(E4 B j).kids.length≤9223372036854775807:=by
  obtain⟨A,n,c,_,h2,_⟩:=hN.at_ j (by omega)
  have:=h2.small
  have:=h2.len_eq
  rw [List.length_map] at this
  omega
 rw [e1,e2,hm]
 ((repeat' (conv=>whnf);first|(refine C2 (id:=1) (.pl [0] (.on [1,2] (.pl [3,4,5,6] (.bp 7 8 (.on [9] (.pl [10,11,12,13,14,15,16,17,18,19,20,21,22,24,25,26,27,28,29,30,31,32,23,33,34,35] .e)))))) (by kernel_rfl) ?_)|(refine Ar.fit (by omega) ?_)|(refine VC.mk (by (first|omega|(and_intros<;>first|rfl|(simp only [maxLen];omega)))) ?_)|(refine Br.mk ?_ ?_<;>intro hb<;>(try replace hb:=nN hb))|(refine E5.mk ?_;intro b hb)|(refine dD.mk ?_ ?_)|(refine H2 ?_ fun h1 hs=>D7 (hN.later hs.grows) (by omega) (Sl.mem hs (by repeat constructor) rfl))|(refine A9.ndWord hN (by omega) rfl ?_)|(refine A9.ndNth hN (by omega) rfl ?_)|(refine A9.ndUp hN (by omega) rfl (by assumption) ?_)|(refine A9.ndKids hN (by omega) rfl ?_;intro A n c hA hnl hpl hnc;try replace hpl:=hpl (by omega))|fail);all_goals try conv=>whnf)
 all_goals first
  |omega
  |(refine⟨fun h' hs=>⟨C3 ?_,hs.grows⟩⟩;grind)
  |(refine⟨fun h' hs=>⟨C0 ?_,hs.grows⟩⟩;grind)
  |(refine⟨fun h' hs=>⟨B8 ?_,hs.grows⟩⟩;grind)
def iN(L:List M8)(B:List Bn)(k:Nat):Prop:=((H3 L k).kind=62∨(H3 L k).kind=64)∧(H3 L (X7 B k 0)).kind=0
def Yr(L:List M8)(B:List Bn)(i:Nat):Prop:=((H3 L i).kind=62∨(H3 L i).kind=64)∧Pv L B i=25∧(H3 L (X7 B i 0)).kind=0∧∃ k∈(BI B i).take (E4 B i).nth.toNat,iN L B k
theorem Dn{i:Nat}(hN:ND h bs L B)(hP:∀ p∈L,P8 p)(hi:i<L.length) :
 CH Tryz.prog 87 #[.pointer (nd bs i)] h fun v h'=>v=A0 (.prop (Yr L B i))∧A5 h h':=by
 refine Q0 1 [0,2,4,28,40,41,42,43,58] [] [.val (.pointer (nd bs i))] Tryz.func87 rfl ?_
 unfold Yr
 by_cases hk:(H3 L i).kind=62∨(H3 L i).kind=64
 case neg=>
  ((repeat' (conv=>whnf);first|(refine VC.mk (by (first|omega|(and_intros<;>first|rfl|(simp only [maxLen];omega)))) ?_)|(refine Br.mk ?_ ?_<;>intro hb<;>(try replace hb:=nN hb)<;>(try omega))|(refine E5.mk ?_;intro b hb)|(refine H2 ?_ fun h1 hs=>dO (hN.later hs.grows) (by omega) (Sl.mem hs (by repeat constructor) rfl))|fail);all_goals try conv=>whnf)
  all_goals first
   |omega
   |(refine⟨fun h' hs=>⟨C3 ?_,hs.grows⟩⟩;grind)
   |(refine⟨fun h' hs=>⟨C0 ?_,hs.grows⟩⟩;grind)
   |(refine⟨fun h' hs=>⟨B8 ?_,hs.grows⟩⟩;grind)
 have hl0:2≤(E4 B i).kids.length:=hk.elim (fun hk=>I9 hN.ok hP hi 2 hk (by decide)) fun hk=>I9 hN.ok hP hi 2 hk (by decide)
 have hk0:=I2 hN.ok hi (m:=0) (by omega)
 rcases hN.ok.up i hi with ⟨hu,hn⟩|⟨j,m,hu,hj,hm,hkj⟩
 ·have e1:=iC (L:=L) hu
  rw [e1]
  ((repeat' (conv=>whnf);first|(refine VC.mk (by (first|omega|(and_intros<;>first|rfl|(simp only [maxLen];omega)))) ?_)|(refine Br.mk ?_ ?_<;>intro hb<;>(try replace hb:=nN hb)<;>(try (first|omega|exact Bool.noConfusion hb)))|(refine E5.mk ?_;intro b hb)|(refine H2 ?_ fun h1 hs=>dO (hN.later hs.grows) (by omega) (Sl.mem hs (by repeat constructor) rfl))|(refine A7 ?_ fun h1 hs=>mB _ _ _ _ h1 (Sl.mem hs (by repeat constructor) rfl))|(refine A9.ndUp0 hN (by omega) rfl (by assumption) ?_)|fail);all_goals try conv=>whnf)
  all_goals first
   |omega
   |(refine⟨fun h' hs=>⟨C3 ?_,hs.grows⟩⟩;grind)
   |(refine⟨fun h' hs=>⟨C0 ?_,hs.grows⟩⟩;grind)
   |(refine⟨fun h' hs=>⟨B8 ?_,hs.grows⟩⟩;grind)
 have e1:=iB (L:=L) hu
 have e2:=iA hu
 have hml:m<(E4 B j).kids.length:=(List.getElem?_eq_some_iff.1 hkj).1
 rw [e1,e2,hm,Int.toNat_natCast]
 ((repeat' (conv=>whnf);first|(refine VC.mk (by (first|omega|(and_intros<;>first|rfl|(simp only [maxLen];omega)))) ?_)|(refine Br.mk ?_ ?_<;>intro hb<;>(try replace hb:=nN hb)<;>(try omega))|(refine E5.mk ?_;intro b hb)|(refine (drawn tO mixed (by kernel_rfl) ?_))|(refine H2 ?_ fun h1 hs=>D7 (hN.later hs.grows) (by omega) (Sl.mem hs (by repeat constructor) rfl))|(refine H2 ?_ fun h1 hs=>dO (hN.later hs.grows) (by omega) (Sl.mem hs (by repeat constructor) rfl))|(refine A9.ndNth hN (by omega) rfl ?_)|(refine A9.ndUp hN (by omega) rfl (by assumption) ?_)|(refine A9.ndKids hN (by omega) rfl ?_;intro A n c hA hnl hpl hnc;try replace hpl:=hpl (by omega))|(refine C1.ndKid (by assumption) 0 (by omega) (by omega) ?_)|fail);all_goals try conv=>whnf)
 all_goals (try omega)
 all_goals (try (refine⟨fun h' hs=>⟨C0 ?_,hs.grows⟩⟩;grind))
 have hA2:=(by assumption:D3 E1 _ _ A n ((E4 B j).kids.map (nd bs))).sl.head m (by omega)
 replace hA2:=hA2.tail (c:=c) (by omega) 0 (Nat.zero_le _)
 rw [List.drop_zero,Nat.sub_zero] at hA2
 rw [←List.map_take] at hA2
 obtain⟨kd,hkd⟩:∃ kd,(E4 B j).kids.take m=kd:=⟨_,rfl⟩
 have hkl:kd.length=m:=by rw [←hkd,List.length_take];omega
 have hin:∀ k∈kd,k<L.length:=fun k hk=>(hN.ok.kid j (by omega) k (by rw [←hkd] at hk;exact List.mem_of_mem_take hk)).2
 rw [hkd] at hA2 ⊢
 have hsm:=hA2.small
 replace hA2:Sl E1 h (Ff A c 0 1) m (kd.map (nd bs)):=hA2
 replace hA2:=D3.start hA2
 refine gG tO [42] (fun x:Nat=>[(42,.val (.int .i64 x))]) (fun _=>⟨h,[],[]⟩) (fun μ x=>x+μ=kd.length∧¬ ∃ k∈kd.take x,iN L B k) ?_
 conv=>whnf
 refine⟨fun h5 hs=>⟨kd.length,0,⟨Nat.zero_add _,by simp⟩,?_,hs.ren [] trivial⟩,?_⟩
 ·(repeat (refine And.intro ⟨_,rfl,by first|rfl|(simp [B0,A1,A0];done)⟩ ?_));exact trivial
 rintro μ x ⟨hx,hno⟩
 by_cases hxl:x<kd.length
 ·have hpl2:=hA2.sl.plain (by omega)
  have hmem:=Md hxl
  have hkx:=hin _ hmem
  have hsn:=qS (Q:=iN L B) hxl
  obtain⟨y,hy⟩:∃ y,kd.getD x 0=y:=⟨_,rfl⟩
  rw [hy] at hmem hkx hsn
  by_cases hky:(H3 L y).kind=62∨(H3 L y).kind=64
  ·have hly:2≤(E4 B y).kids.length:=hky.elim (fun hk=>I9 hN.ok hP hkx 2 hk (by decide)) fun hk=>I9 hN.ok hP hkx 2 hk (by decide)
   have hk1:=I2 hN.ok hkx (m:=0) (by omega)
   ((repeat' (conv=>whnf);first|(refine Ar.fit (by omega) ?_)|(refine VC.mk (by (first|omega|(and_intros<;>first|rfl|(simp only [maxLen];omega)))) ?_)|(refine Br.mk ?_ ?_<;>intro hb<;>(try replace hb:=nN hb)<;>(try omega))|(refine E5.mk ?_;intro b hb)|(refine C1.ndAny hA2 x (by omega) (by omega) ?_;rw [hy])|(refine H2 ?_ fun h1 hs=>D7 (hN.later hs.grows) (by omega) (Sl.mem hs (by repeat constructor) rfl))|(refine H2 ?_ fun h1 hs=>dO (hN.later hs.grows) (by omega) (Sl.mem hs (by repeat constructor) rfl))|(refine A9.ndKids hN (by omega) rfl ?_;intro A n c hA hnl hpl hnc;try replace hpl:=hpl (by omega))|(refine C1.ndKid (by assumption) 0 (by omega) (by omega) ?_)|fail);all_goals try conv=>whnf)
   all_goals first
    |omega
    | (intro h6 hs
       refine⟨μ-1,x+1,⟨by omega,by rw [hsn];unfold iN;unfold iN at hno;grind⟩,by omega,?_,hs.ren [] trivial⟩
       (repeat (refine And.intro ⟨_,rfl,by first|rfl|(simp [B0,A1,A0];done)⟩ ?_));exact trivial)
    |(refine⟨fun h' hs=>⟨B8 ⟨by assumption,by assumption,by assumption,y,hmem,?_⟩,hs.grows⟩⟩;unfold iN;grind)
  ·((repeat' (conv=>whnf);first|(refine Ar.fit (by omega) ?_)|(refine VC.mk (by (first|omega|(and_intros<;>first|rfl|(simp only [maxLen];omega)))) ?_)|(refine Br.mk ?_ ?_<;>intro hb<;>(try replace hb:=nN hb)<;>(try omega))|(refine E5.mk ?_;intro b hb)|(refine C1.ndAny hA2 x (by omega) (by omega) ?_;rw [hy])|(refine H2 ?_ fun h1 hs=>dO (hN.later hs.grows) (by omega) (Sl.mem hs (by repeat constructor) rfl))|fail);all_goals try conv=>whnf)
   all_goals first
    |omega
    | (intro h6 hs
       refine⟨μ-1,x+1,⟨by omega,by rw [hsn];unfold iN;unfold iN at hno;grind⟩,by omega,?_,hs.ren [] trivial⟩
       (repeat (refine And.intro ⟨_,rfl,by first|rfl|(simp [B0,A1,A0];done)⟩ ?_));exact trivial)
 ·have e:kd.take x=kd:=List.take_of_length_le (by omega)
  rw [e] at hno
  ((repeat' (conv=>whnf);first|(refine Br.mk ?_ ?_<;>intro hb<;>(try replace hb:=nN hb)<;>(try omega))|fail);all_goals try conv=>whnf)
  all_goals first
   |omega
   |(refine⟨fun h' hs=>⟨C3 ?_,hs.grows⟩⟩;grind)
   |(refine⟨fun h' hs=>⟨C0 ?_,hs.grows⟩⟩;grind)
   |(refine⟨fun h' hs=>⟨B8 ?_,hs.grows⟩⟩;grind)
def Xj(L:List M8)(B:List Bn)(s:Nat):Prop:=(¬ (H3 L s).word=(⟨#[61]⟩:ByteArray)∧¬ (H3 L s).word=(⟨#[58,61]⟩:ByteArray))∨(¬ (E4 B (X7 B s 0)).kids.length=1∧¬ (E4 B (X7 B s 0)).kids.length=2)∨¬ (E4 B (X7 B s 1)).kids.length=1∨¬ oV L B (X7 B (X7 B s 1) 0)
def Xr(L:List M8)(B:List Bn)(i:Nat):Prop:=(H3 L i).kind=64∧¬ (H3 L (X7 B i 0)).kind=0∧¬ (H3 L (X7 B i 0)).kind=51∧((H3 L (X7 B i 0)).kind=50→¬ oV L B (X7 B (X7 B i 0) 0))∧((H3 L (X7 B i 0)).kind=53→Xj L B (X7 B i 0))
theorem Cn{i:Nat}(hN:ND h bs L B)(hP:∀ p∈L,P8 p)(hi:i<L.length) :
 CH Tryz.prog 88 #[.pointer (nd bs i)] h fun v h'=>v=A0 (.prop (Xr L B i))∧A5 h h':=by
 refine Q0 1 [0,2,3,4,5,9,20,21,24,34] [] [.val (.pointer (nd bs i))] Tryz.func88 rfl ?_
 unfold Xr
 by_cases hk:(H3 L i).kind=64
 case neg=>
  ((repeat' (conv=>whnf);first|(refine VC.mk (by (first|omega|(and_intros<;>first|rfl|(simp only [maxLen];omega)))) ?_)|(refine Br.mk ?_ ?_<;>intro hb<;>(try replace hb:=nN hb)<;>(try omega))|(refine E5.mk ?_;intro b hb)|(refine H2 ?_ fun h1 hs=>D7 (hN.later hs.grows) (by omega) (Sl.mem hs (by repeat constructor) rfl))|fail);all_goals try conv=>whnf)
  all_goals first
   |omega
   |(refine⟨fun h' hs=>⟨C3 ?_,hs.grows⟩⟩;grind)
   |(refine⟨fun h' hs=>⟨C0 ?_,hs.grows⟩⟩;grind)
   |(refine⟨fun h' hs=>⟨B8 ?_,hs.grows⟩⟩;grind)
 have hl0:=I9 hN.ok hP hi 2 hk (by decide)
 have hk0:=I2 hN.ok hi (m:=0) (by omega)
 obtain⟨s,hs0⟩:∃ s,X7 B i 0=s:=⟨_,rfl⟩
 rw [hs0] at hk0 ⊢
 by_cases c1:(H3 L s).kind=50
 ·have hl1:=I9 hN.ok hP hk0.2 1 c1 (by decide)
  have hk1:=I2 hN.ok hk0.2 (m:=0) (by omega)
  ((repeat' (conv=>whnf);first|(refine VC.mk (by (first|omega|(and_intros<;>first|rfl|(simp only [maxLen];omega)))) ?_)|(refine Br.mk ?_ ?_<;>intro hb<;>(try replace hb:=nN hb)<;>(try omega))|(refine E5.mk ?_;intro b hb)|(refine C1.ndKid (by assumption) 0 (by omega) (by omega) ?_;rw [hs0])|(refine H2 ?_ fun h1 hs=>D7 (hN.later hs.grows) (by omega) (Sl.mem hs (by repeat constructor) rfl))|(refine H2 ?_ fun h1 hs=>gA (hN.later hs.grows) hP (by omega))|(refine A9.ndKind hN (by omega) rfl ?_)|(refine A9.ndKids hN (by omega) rfl ?_;intro A n c hA hnl hpl hnc;try replace hpl:=hpl (by omega))|(refine C1.ndKid (by assumption) 0 (by omega) (by omega) ?_)|fail);all_goals try conv=>whnf)
  all_goals first
   |omega
   |(refine⟨fun h' hs=>⟨C3 ?_,hs.grows⟩⟩;grind)
   |(refine⟨fun h' hs=>⟨C0 ?_,hs.grows⟩⟩;grind)
   |(refine⟨fun h' hs=>⟨B8 ?_,hs.grows⟩⟩;grind)
 by_cases c2:(H3 L s).kind=53
 ·have hl1:=I9 hN.ok hP hk0.2 2 c2 (by decide)
  have hk1:=I2 hN.ok hk0.2 (m:=0) (by omega)
  have hk2:=I2 hN.ok hk0.2 (m:=1) (by omega)
  unfold Xj
  by_cases c3:(E4 B (X7 B s 1)).kids.length=1
  ·have hk3:=I2 hN.ok hk2.2 (m:=0) (by omega)
   ((repeat' (conv=>whnf);first|(refine VC.mk (by (first|omega|(and_intros<;>first|rfl|(simp only [maxLen];omega)))) ?_)|(refine Br.mk ?_ ?_<;>intro hb<;>(try replace hb:=nN hb)<;>(try omega))|(refine E5.mk ?_;intro b hb)|(refine (drawn tO mixed (by kernel_rfl) ?_))|(refine C1.ndKid (by assumption) 0 (by omega) (by omega) ?_;rw [hs0])|(refine H2 ?_ fun h1 hs=>D7 (hN.later hs.grows) (by omega) (Sl.mem hs (by repeat constructor) rfl))|(refine H2 ?_ fun h1 hs=>gA (hN.later hs.grows) hP (by omega))|(refine A9.ndWord hN (by omega) rfl ?_)|(refine A9.ndKind hN (by omega) rfl ?_)|(refine A9.ndKids hN (by omega) rfl ?_;intro A n c hA hnl hpl hnc;try replace hpl:=hpl (by omega))|(refine C1.ndKid (by assumption) 0 (by omega) (by omega) ?_)|(refine C1.ndKid (by assumption) 1 (by omega) (by omega) ?_)|fail);all_goals try conv=>whnf)
   all_goals first
    |omega
    |(refine⟨fun h' hs=>⟨C3 ?_,hs.grows⟩⟩;grind)
    |(refine⟨fun h' hs=>⟨C0 ?_,hs.grows⟩⟩;grind)
    |(refine⟨fun h' hs=>⟨B8 ?_,hs.grows⟩⟩;grind)
  ·((repeat' (conv=>whnf);first|(refine VC.mk (by (first|omega|(and_intros<;>first|rfl|(simp only [maxLen];omega)))) ?_)|(refine Br.mk ?_ ?_<;>intro hb<;>(try replace hb:=nN hb)<;>(try omega))|(refine E5.mk ?_;intro b hb)|(refine (drawn tO mixed (by kernel_rfl) ?_))|(refine C1.ndKid (by assumption) 0 (by omega) (by omega) ?_;rw [hs0])|(refine H2 ?_ fun h1 hs=>D7 (hN.later hs.grows) (by omega) (Sl.mem hs (by repeat constructor) rfl))|(refine A9.ndWord hN (by omega) rfl ?_)|(refine A9.ndKind hN (by omega) rfl ?_)|(refine A9.ndKids hN (by omega) rfl ?_;intro A n c hA hnl hpl hnc;try replace hpl:=hpl (by omega))|(refine C1.ndKid (by assumption) 0 (by omega) (by omega) ?_)|(refine C1.ndKid (by assumption) 1 (by omega) (by omega) ?_)|fail);all_goals try conv=>whnf)
   all_goals first
    |omega
    |(refine⟨fun h' hs=>⟨C3 ?_,hs.grows⟩⟩;grind)
    |(refine⟨fun h' hs=>⟨C0 ?_,hs.grows⟩⟩;grind)
    |(refine⟨fun h' hs=>⟨B8 ?_,hs.grows⟩⟩;grind)
 ·((repeat' (conv=>whnf);first|(refine VC.mk (by (first|omega|(and_intros<;>first|rfl|(simp only [maxLen];omega)))) ?_)|(refine Br.mk ?_ ?_<;>intro hb<;>(try replace hb:=nN hb)<;>(try omega))|(refine E5.mk ?_;intro b hb)|(refine C1.ndKid (by assumption) 0 (by omega) (by omega) ?_;rw [hs0])|(refine H2 ?_ fun h1 hs=>D7 (hN.later hs.grows) (by omega) (Sl.mem hs (by repeat constructor) rfl))|(refine A9.ndKind hN (by omega) rfl ?_)|(refine A9.ndKids hN (by omega) rfl ?_;intro A n c hA hnl hpl hnc;try replace hpl:=hpl (by omega))|fail);all_goals try conv=>whnf)
  all_goals first
   |omega
   |(refine⟨fun h' hs=>⟨C3 ?_,hs.grows⟩⟩;grind)
   |(refine⟨fun h' hs=>⟨C0 ?_,hs.grows⟩⟩;grind)
   |(refine⟨fun h' hs=>⟨B8 ?_,hs.grows⟩⟩;grind)
theorem Ww{p:M8}(hp:P8 p)(hk:p.kind=27):0<p.word.size:=by
 have h:Qq p.word:=by
  have h:=hp.spelt
  rw [hk] at h
  exact h
 by_cases h0:0<p.word.size
 ·exact h0
 ·have e:p.word=⟨#[]⟩:=by
   have h1:p.word.data.size=0:=by
    have:p.word.data.size=p.word.size:=rfl
    omega
   exact ByteArray.ext (Array.eq_empty_of_size_eq_zero h1)
  rw [e] at h
  exact absurd h (by unfold Qq Bj;decide +kernel)
def Ug(L:List M8)(B:List Bn)(i:Nat):Prop:=((H3 L i).kind=5∨(H3 L i).kind=22∨(H3 L i).kind=21)∧(H3 L (X7 B i ((E4 B i).kids.length-1))).kind=27∧¬ A4 (H3 L (X7 B i ((E4 B i).kids.length-1))).word 0=34∧¬ A4 (H3 L (X7 B i ((E4 B i).kids.length-1))).word 0=96
theorem Tg{i:Nat}(hN:ND h bs L B)(hP:∀ p∈L,P8 p)(hi:i<L.length) :
 CH Tryz.prog 94 #[.pointer (nd bs i)] h fun v h'=>v=A0 (.prop (Ug L B i))∧A5 h h':=by
 refine Q0 1 [0,2,3,7] [] [.val (.pointer (nd bs i))] Tryz.func94 rfl ?_
 unfold Ug
 by_cases hk:(H3 L i).kind=5∨(H3 L i).kind=22∨(H3 L i).kind=21
 case neg=>
  ((repeat' (conv=>whnf);first|(refine VC.mk (by (first|omega|(and_intros<;>first|rfl|(simp only [maxLen];omega)))) ?_)|(refine Br.mk ?_ ?_<;>intro hb<;>(try replace hb:=nN hb)<;>(try omega))|(refine E5.mk ?_;intro b hb)|(refine H2 ?_ fun h1 hs=>zF (hN.later hs.grows) (by omega) (Sl.mem hs (by repeat constructor) rfl))|fail);all_goals try conv=>whnf)
  all_goals first
   |omega
   |(refine⟨fun h' hs=>⟨C3 ?_,hs.grows⟩⟩;grind)
   |(refine⟨fun h' hs=>⟨C0 ?_,hs.grows⟩⟩;grind)
   |(refine⟨fun h' hs=>⟨B8 ?_,hs.grows⟩⟩;grind)
 have hl0:2≤(E4 B i).kids.length:=by
  rcases hk with hk|hk|hk
  ·exact I9 hN.ok hP hi 2 hk (by decide)
  ·exact I9 hN.ok hP hi 2 hk (by decide)
  ·have:=I9 hN.ok hP hi 3 hk (by decide)
   omega
 have hsl:(E4 B i).kids.length≤9223372036854775807:=by
  obtain⟨A,n,c,_,h2,_⟩:=hN.at_ i hi
  have:=h2.small
  have:=h2.len_eq
  rw [List.length_map] at this
  omega
 obtain⟨m,hm⟩:∃ m,(E4 B i).kids.length-1=m:=⟨_,rfl⟩
 have hk0:=I2 hN.ok hi (m:=m) (by omega)
 rw [hm]
 have hwd:(H3 L (X7 B i m)).kind=27→0<(H3 L (X7 B i m)).word.size:=fun e=>Ww (hP _ (Gk hk0.2)) e
 obtain⟨wd,hwd0⟩:∃ wd,(H3 L (X7 B i m)).word=wd:=⟨_,rfl⟩
 by_cases c1:(H3 L (X7 B i m)).kind=27
 ·have hw1:=hwd c1
  ((repeat' (conv=>whnf);first|(refine Ar.fit (by omega) ?_)|(refine VC.mk (by (first|omega|(and_intros<;>first|rfl|(simp only [maxLen];omega)))) ?_)|(refine Br.mk ?_ ?_<;>intro hb<;>(try replace hb:=nN hb)<;>(try omega))|(refine E5.mk ?_;intro b hb)|(refine (drawn tO mixed (by kernel_rfl) ?_))|(refine C1.ndKid (by assumption) m (by omega) (by omega) ?_)|(refine H2 ?_ fun h1 hs=>D7 (hN.later hs.grows) (by omega) (Sl.mem hs (by repeat constructor) rfl))|(refine H2 ?_ fun h1 hs=>zF (hN.later hs.grows) (by omega) (Sl.mem hs (by repeat constructor) rfl))|(refine A9.ndWord hN (by omega) rfl ?_)|(refine A9.ndKids hN (by omega) rfl ?_;intro A n c hA hnl hpl hnc;try replace hpl:=hpl (by omega))|fail);all_goals try conv=>whnf)
  all_goals first
   |omega
   |(refine⟨fun h' hs=>⟨C3 ?_,hs.grows⟩⟩;grind)
   |(refine⟨fun h' hs=>⟨C0 ?_,hs.grows⟩⟩;grind)
   |(refine⟨fun h' hs=>⟨B8 ?_,hs.grows⟩⟩;grind)
 ·((repeat' (conv=>whnf);first|(refine Ar.fit (by omega) ?_)|(refine VC.mk (by (first|omega|(and_intros<;>first|rfl|(simp only [maxLen];omega)))) ?_)|(refine Br.mk ?_ ?_<;>intro hb<;>(try replace hb:=nN hb)<;>(try omega))|(refine E5.mk ?_;intro b hb)|(refine (drawn tO mixed (by kernel_rfl) ?_))|(refine C1.ndKid (by assumption) m (by omega) (by omega) ?_)|(refine H2 ?_ fun h1 hs=>D7 (hN.later hs.grows) (by omega) (Sl.mem hs (by repeat constructor) rfl))|(refine H2 ?_ fun h1 hs=>zF (hN.later hs.grows) (by omega) (Sl.mem hs (by repeat constructor) rfl))|(refine A9.ndKids hN (by omega) rfl ?_;intro A n c hA hnl hpl hnc;try replace hpl:=hpl (by omega))|fail);all_goals try conv=>whnf)
  all_goals first
   |omega
   |(refine⟨fun h' hs=>⟨C3 ?_,hs.grows⟩⟩;grind)
   |(refine⟨fun h' hs=>⟨C0 ?_,hs.grows⟩⟩;grind)
   |(refine⟨fun h' hs=>⟨B8 ?_,hs.grows⟩⟩;grind)
end
end Go.Ex
namespace Go.Ex
open Go.Proofs Go.RowKit
attribute [local irreducible] CH oV nS cB fR iK X7
def kC:Y7 (Int×Nat) where
 dflt:=(0,0)
 sz:=2
 cells:=fun x=>[.int .u8 x.1,.func (.func x.2) #[] #[]]
 un:=fun l=>match l with
  |[.int .u8 a,.func (.func f) ⟨[]⟩ ⟨[]⟩]=>some (a,f)
  |_=>none
 len:=fun _=>rfl
 un_ok:=fun l x h=>by
  split at h
  ·cases h;rfl
  ·cases h
 one:=fun x v h=>by simp at h;rcases h with rfl|rfl<;>rfl
 pos:=by decide
def pY:Y7 (Int×Int) where
 dflt:=(0,0)
 sz:=2
 cells:=fun x=>[.int .u8 x.1,.int .i64 x.2]
 un:=fun l=>match l with
  |[.int .u8 a,.int .i64 b]=>some (a,b)
  |_=>none
 len:=fun _=>rfl
 un_ok:=fun l x h=>by
  split at h
  ·cases h;rfl
  ·cases h
 one:=fun x v h=>by simp at h;rcases h with rfl|rfl<;>rfl
 pos:=by decide
def I1:List (Int×Nat):=[(1,78),(2,80),(3,81),(4,82),(5,83),(6,84),(7,86),(8,87),(9,88),(10,89),(11,90),(12,93),(13,94),(14,95),(15,96)]
theorem sI(h:A3)(o:Obj):A5 h (h.push o):=
 ⟨by simp,fun i hi=>by simp [Array.getElem?_push,Nat.ne_of_lt hi]⟩
theorem Nw{τ:Type}{R:Y7 τ}{T:Nat}(h:A3)(c:Array Value)(xs:List τ)(h1:c.toList=xs.flatMap R.cells)(h2:xs.length≤maxLen):Sl R (h.push (.cells c T (0,0))) (some ⟨h.size,0,none⟩) xs.length xs:=by
 have hg:(h.push (Obj.cells c T (0,0)))[h.size]?=some (.cells c T (0,0)):=Array.getElem?_push_size
 have hs:HS ⟨h,[],[(0,h.size,.arr T R xs xs.length)]⟩ (h.push (.cells c T (0,0))):=⟨by simp,fun b hb _=>(sI h _).same b hb,fun e he=>by
  have:=List.mem_singleton.1 he
  subst this
  refine⟨by simp,.inl (Nat.le_refl _),c,hg,?_,Nat.le_refl _,h2,?_⟩
  ·rw [←G4 R xs,h1];exact List.take_length
  ·have:c.toList.length=c.size:=by simp
   rw [←this,h1,G4],List.pairwise_singleton _ _⟩
 exact Sl.mem hs (List.mem_singleton.2 rfl) rfl
theorem An(h:A3):CH Tryz.prog 50 #[] h fun v h'=>(∃ q,v = .slice (some ⟨q,0,none⟩) 15 15∧Sl kC h' (some ⟨q,0,none⟩) 15 I1∧h.size≤q)∧A5 h h':=by
 unfold CH
 refine⟨Q9 Tryz.func50 (by decide) rfl,fun w hw=>?_⟩
 subst hw
 go_enter Tryz.func50,Tryz.ntmps50
 go_wp2
 go_ret
 exact⟨⟨rfl,rfl,rfl⟩,_,rfl,⟨w.heap.size,rfl,Nw w.heap _ I1 rfl (by decide),Nat.le_refl _⟩,sI _ _⟩
def Zj(L:List M8)(B:List Bn)(f i:Nat):Prop:=match f with
 |78=>Gs L B i
 |80=>Fs L B i
 |81=>Es L B i
 |82=>Ds L B i
 |83=>Cs L B i
 |84=>As L B i
 |86=>Zr L B i
 |87=>Yr L B i
 |88=>Xr L B i
 |89=>Ah L B i
 |90=>Yg L B i
 |93=>Wg L B i
 |94=>Ug L B i
 |95=>Sg L B i
 |_=>Qg L B i
theorem iZ{bs:List Nat}{L:List M8}{B:List Bn}{h:A3}{i:Nat}(hN:ND h bs L B)(hP:∀ p∈L,P8 p)(hi:i<L.length):∀ p∈I1,CH Tryz.prog p.2 #[.pointer (nd bs i)] h fun v h'=>v=A0 (.prop (Zj L B p.2 i))∧A5 h h':=by
 intro p hp
 unfold I1 at hp
 simp only [mL,or_false] at hp
 rcases hp with rfl|rfl|rfl|rfl|rfl|rfl|rfl|rfl|rfl|rfl|rfl|rfl|rfl|rfl|rfl
 ·exact Nn hN hP hi
 ·exact Mn hN hP hi
 ·exact Ln hN hP hi
 ·exact Jn hN hP hi
 ·exact Hn hN hP hi
 ·exact Gn hN hP hi
 ·exact En hN hP hi
 ·exact Dn hN hP hi
 ·exact Cn hN hP hi
 ·exact Zg hN hP hi
 ·exact Xg hN hP hi
 ·exact Vg hN hP hi
 ·exact Tg hN hP hi
 ·exact Rg hN hP hi
 ·exact Pg hN hP hi
noncomputable def bW(L:List M8)(B:List Bn)(i:Nat):List (Int×Nat)→List (Int×Int)
 |[]=>[]
 |p::r=>(if @decide (Zj L B p.2 i) (Classical.propDecidable _)=true then [(p.1,(i:Int))] else [])++bW L B i r
noncomputable def zM(L:List M8)(B:List Bn):Nat→List (Int×Int)
 |0=>[]
 |i+1=>zM L B i++bW L B i I1
noncomputable def kR(L:List M8):List (Int×Int):=zM L (uH L) L.length
theorem xA(L:List M8)(B:List Bn)(i:Nat):∀ a b,bW L B i (a++b)=bW L B i a++bW L B i b
 |[],b=>rfl
 |p::r,b=>by
  rw [List.cons_append]
  simp only [bW]
  rw [xA L B i r b,List.append_assoc]
theorem nY(L:List M8)(B:List Bn)(i:Nat):∀ l,(bW L B i l).length≤l.length
 |[]=>Nat.le_refl _
 |p::r=>by
  have:=nY L B i r
  simp only [bW,List.length_append,List.length_cons]
  split
  ·simp only [List.length_cons,List.length_nil];omega
  ·simp only [List.length_nil];omega
theorem Ud(L:List M8)(B:List Bn):∀ i,(zM L B i).length≤15*i
 |0=>Nat.le_refl _
 |i+1=>by
  have h1:=Ud L B i
  have h2:=nY L B i I1
  have e:I1.length=15:=rfl
  simp only [zM,List.length_append]
  omega
end Go.Ex
namespace Go.Ex
open Go.Proofs
attribute [local irreducible] CH
theorem eX(e a:Int)(h:A3):CH Tryz.prog 12 #[.agg #[.int .i64 e,.int .i64 a]] h fun v h'=>v=A0 (.prop (e=0∧a=0))∧A5 h h':=by
 refine Q0 1 [1,2] [] [.agg [.val (.int .i64 e),.val (.int .i64 a)]] Tryz.func12 rfl ?_
 ((repeat' (conv=>whnf);first|(refine VC.mk (by omega) ?_)|(refine E5.mk ?_;intro b hb)|(refine AK ?_)|fail);all_goals try conv=>whnf)
 all_goals exact⟨fun h' hs=>⟨rfl,hs.grows⟩⟩
theorem Dp(n:Int)(h:A3)(hn:0≤n∧n<256):CH Tryz.prog 9 #[.int .u8 n] h fun v h'=>v = .int .u8 (1+n % 4)∧A5 h h':=by
 refine Q0 1 [0,2] [] [.val (.int .u8 n)] Tryz.func9 rfl ?_
 ((repeat' (conv=>whnf);first|(refine Ar.fit (by omega) ?_)|(refine VC.mk (by omega) ?_)|(refine Br.mk ?_ ?_<;>intro hb<;>(try omega))|fail);all_goals try conv=>whnf)
 all_goals exact⟨fun h' hs=>⟨by first|rfl|(simp [B0,A1,A0];omega),hs.grows⟩⟩
abbrev s0:ByteArray:=(⟨#[97,32,43,32,98,32,47,42,32,99,32,42,47]⟩:ByteArray)
theorem Ms:aK s0 2 = .inr ([⟨1,0,1⟩,⟨8,2,3⟩,⟨1,4,5⟩,⟨9,5,5⟩],.mk 37 1 0 3 [.mk 26 0 0 1 [],.mk 26 2 2 3 []]):=by kernel_rfl
theorem Px:(I5 (.mk 37 1 0 3 [.mk 26 0 0 1 [],.mk 26 2 2 3 []])).map (M0 ⟨s0,[⟨1,0,1⟩,⟨8,2,3⟩,⟨1,4,5⟩,⟨9,5,5⟩],[]⟩)=[⟨37,2,(⟨#[43]⟩:ByteArray)⟩,⟨26,0,(⟨#[97]⟩:ByteArray)⟩,⟨26,0,(⟨#[98]⟩:ByteArray)⟩]:=by kernel_rfl
theorem Tz{κ:KV→Prop}(h:κ (.prop True)):Ij Tryz.prog .eql 51 (.agg [.val (.int .u8 37),.val (.int .i64 2),.val (.string ⟨#[43]⟩)]) (.agg [.val (.int .u8 37),.val (.int .i64 2),.val (.string ⟨#[43]⟩)]) κ:=⟨True,fun u v w=>by
 have e:A0 (.prop True) = .bool true:=by simp [A0]
 show (do eqGuard .eql 51 u v (.agg #[.int .u8 37,.int .i64 2,.string ⟨#[43]⟩]) (.agg #[.int .u8 37,.int .i64 2,.string ⟨#[43]⟩]);binOp .eql 51 (.agg #[.int .u8 37,.int .i64 2,.string ⟨#[43]⟩]) (.agg #[.int .u8 37,.int .i64 2,.string ⟨#[43]⟩]):Sem Value).run Tryz.prog w = .ok (A0 (.prop True)) w
 rw [e]
 kernel_rfl,h⟩
theorem Lm(h:A3)(ht:D2 h):CH Tryz.prog 16 #[.int .u8 2,.string s0] h fun v h'=>A5 h h'∧∃ B m d,v = .tuple #[.slice B m d,.agg #[.int .i64 0,.int .i64 0]]∧(D3 P3 h' [] B m [⟨37,2,(⟨#[43]⟩:ByteArray)⟩,⟨26,0,(⟨#[97]⟩:ByteArray)⟩,⟨26,0,(⟨#[98]⟩:ByteArray)⟩]∧∀ x,0<m→B=some x→h.size≤x.block):=by
 refine (lJ s0 2 h ht (by decide) (fun T x e=>?_)).mono fun v h' h1=>?_
 ·rw [Ms] at e
  cases e
  exact⟨by decide,by decide⟩
 ·unfold Oq at h1
  rw [Ms] at h1
  dsimp only at h1
  rw [Px] at h1
  exact h1
theorem oL(h:A3)(ht:D2 h):CH Tryz.prog 13 #[] h fun v h'=>v = .bool true∧A5 h h':=by
 refine Q0 0 [0,1,2] [] [] Tryz.func13 rfl ?_
 ((repeat' (conv=>whnf);first|(refine VC.mk (by omega) ?_)|(refine Br.mk ?_ ?_<;>intro hb<;>(try replace hb:=nN hb)<;>(try (contradiction)))|(refine E5.mk ?_;intro b hb)|(refine CK.anewQ (f:=16) (Q:=fun h u h'=>∃ B m d,u = .tuple #[.slice B m d,.agg #[.int .i64 0,.int .i64 0] ]∧(D3 P3 h' [] B m [⟨37,2,(⟨#[43]⟩:ByteArray)⟩,⟨26,0,(⟨#[97]⟩:ByteArray)⟩,⟨26,0,(⟨#[98]⟩:ByteArray)⟩]∧∀ x,0<m→B=some x→h.size≤x.block)) (fun h hs=>Lm h (ht.at hs)) ?_;rintro h1 u h2 hs1 hg ⟨B,m,d,rfl,hP,hf⟩;refine⟨.tup [.val (.slice B m d),.agg [.val (.int .i64 0),.val (.int .i64 0)] ],rfl,?_⟩;have hPf:=hP.freshen hf hs1;have hn:=hP.sl.len_eq;have hpl:O1 B:=hP.sl.plain (by rw [←hn];decide))|(refine A7 ?_ fun h1 hs=>eX _ _ h1)|(refine C1.held hPf rfl (by omega) (by omega) rfl ?_)|(refine Tz ?_)|fail);all_goals try conv=>whnf)
 all_goals first
  |exact⟨fun h' hs=>⟨D0 rfl,(show G1 h [] h2 _ from (hs1.later hg).lB).bas.fin hs⟩⟩
  |(exfalso;simp only [List.length_cons,List.length_nil] at hn;omega)
  |(exfalso;simp_all;done)
end Go.Ex
namespace Go.Ex
open Go.Proofs
theorem D2.later{h h':A3}{c:List Nat}(ht:D2 h)(hl:G1 h [] h' c):D2 h':=ht.congr fun b hb=>hl.same b (Nat.lt_of_lt_of_le hb ht.size) List.not_mem_nil
attribute [local irreducible] CH aK F0 bV W5 bH V5
end Go.Ex
