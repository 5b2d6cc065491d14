/-
  Top: TopComments: whatever the input, the law answers true (part 41)
-/
import Derived.Test.YtpjdgifhhnjclaaGreatDoorM40
set_option linter.unusedVariables false
set_option linter.unusedSimpArgs false
set_option maxHeartbeats 4000000
set_option maxRecDepth 10000
namespace Go.Ex
open Go.Proofs
theorem Lx.asc{u:ByteArray}{a:Int}{w r:List UInt8}(h:Lx u a (w++r))(hw:∀ x∈w,0<x.toNat∧x.toNat<128):jV u a.toNat (a.toNat+w.length):=by
 have hl:=h.len
 have h0:=h.lo
 rw [List.length_append] at hl
 refine jV.asc w.length a.toNat (by omega) fun i hi=>?_
 have q:=h.part w
 have q1:=C8 u a (a+w.length) i h0 (by omega) (by omega) (by omega) (by omega)
 rw [q] at q1
 have e:A4 ⟨w.toArray⟩ (i:Int)=(w[i]).toNat:=by
  unfold A4
  rw [Int.toNat_natCast]
  show ((w.toArray.toList.getD i 0).toNat:Int) = _
  rw [List.toList_toArray,List.getD_eq_getElem?_getD,List.getElem?_eq_getElem hi]
  rfl
 rw [e] at q1
 rw [show ((a.toNat+i:Nat):Int)=a+i by omega,←q1]
 have:=hw _ (List.getElem_mem hi)
 omega
def uG(note:List UInt8):Prop:=∀ x∈note,32≤x.toNat∧x.toNat<127∧x≠42
theorem Bl{note:List UInt8}(hn:uG note):∀ x∈eG note,0<x.toNat∧x.toNat<128:=by
 intro x hx
 unfold eG at hx
 simp only [List.mem_cons,List.mem_append,List.not_mem_nil,or_false] at hx
 rcases hx with rfl|rfl|rfl|hx|rfl|rfl|rfl
 ·decide
 ·decide
 ·decide
 ·have:=hn x hx;omega
 ·decide
 ·decide
 ·decide
theorem Xt{s u:ByteArray}{note e:List UInt8}(hs:¬ 0≤W1 s)(hn:uG note)(he:∀ x∈e,0<x.toNat∧x.toNat<128) :
 ∀ (R:List M7) (a:Int),(∀ x∈R,DP s x)→Lx u a (tB s (eG note) e R)→jV u a.toNat u.size
 |[],a,hR,h=>by
  have h':Lx u a (e++[]):=by rw [List.append_nil];exact h
  have hl:=h.len
  have h0:=h.lo
  have:=h'.asc he
  have q:((tB s (eG note) e []).length:Int)=e.length:=rfl
  rwa [show a.toNat+e.length=u.size by omega] at this
 |x::r,a,hR,h=>by
  have hx:=hR x List.mem_cons_self
  obtain⟨w,hw⟩:∃ w,(N5 s x).data.toList=w:=⟨_,rfl⟩
  have hw':N5 s x=⟨w.toArray⟩:=ByteArray.ext (by rw [←hw])
  simp only [tB] at h
  rw [hw] at h
  have h0:=h.lo
  have h1:=h.skip w
  have h2:=h1.skip (eG note)
  have k3:=Xt hs hn he r _ (fun y hy=>hR y (List.mem_cons_of_mem _ hy)) h2
  have k2:=h1.asc (Bl hn)
  rw [show (a+(w.length:Int)).toNat=a.toNat+w.length by omega] at k2
  rw [show (a+(w.length:Int)+((eG note).length:Int)).toNat=a.toNat+w.length+(eG note).length by omega] at k3
  refine jV.trans ?_ (k2.trans k3)
  by_cases hk:x.kind=9
  ·rw [kA s hk] at hw
   have hw2:w=[59]:=hw.symm
   subst hw2
   exact h.asc (by decide)
  ·rcases hx with ⟨⟨f0,f1⟩,hlx,hkr,hft,hto⟩|⟨e,rfl⟩
   ·have et:N5 s x=sub s x.frm x.to:=by unfold N5;rw [if_neg hk]
    have z:=J1 s x.frm x.to ⟨f0,by omega,hto⟩
    have hwl:(w.length:Int)=x.to-x.frm:=by
     rw [←hw,et,←z]
     exact congrArg Int.ofNat (Lib.size_eq _).symm
    have hlen:=h.len
    rw [List.length_append] at hlen
    obtain⟨fa,hfa⟩:∃ n:Nat,x.frm=n:=⟨x.frm.toNat,by omega⟩
    obtain⟨fb,hfb⟩:∃ n:Nat,x.to=n:=⟨x.to.toNat,by omega⟩
    obtain⟨ca,hca⟩:∃ n:Nat,a=n:=⟨a.toNat,by omega⟩
    have hag:Ll s (fa:Int) (fb:Int) u (ca:Int):=by
     rw [←hfa,←hfb,←hca]
     refine⟨⟨f0,by omega,hto⟩,⟨h0,by omega⟩,fun p p0 p1=>?_⟩
     have q1:=C8 s x.frm x.to p f0 (by omega) hto p0 p1
     have q2:=h.part w
     have q3:=C8 u a (a+w.length) p h0 (by omega) (by omega) p0 (by omega)
     rw [q2,←hw',et,q1] at q3
     exact q3.symm
    rw [hfa,hfb] at hlx
    obtain⟨t1,t2⟩:=Cw hs (a:=fa) (b:=fb) (by omega) (by omega) (by omega) hlx (by omega)
    have:=jV.agr hag t2 t1 (Nat.le_refl _)
    rw [Nat.sub_self,Nat.add_zero] at this
    rw [hca,Int.toNat_natCast,show w.length=fb-fa by omega]
    exact this
   ·exact absurd rfl hk
def eO(s:ByteArray):List M7→Nat
 |[]=>0
 |t::r=>(N5 s t).size+eO s r
theorem rE(s:ByteArray):∀ a b,eO s (a++b)=eO s a+eO s b
 |[],b=>by simp [eO]
 |t::r,b=>by simp only [List.cons_append,eO,rE s r b];omega
def Dg:List M7→Int
 |[]=>0
 |t::r=>(t.to-t.frm)+Dg r
theorem xB(s:ByteArray)(x:List M7×Int):eO s (T4 x).1≤eO s x.1+1∧(T4 x).1.length≤x.1.length+1:=by
 obtain⟨acc,e⟩:=x
 by_cases c:0≤e
 ·rw [fD c]
  dsimp only
  rw [rE]
  simp only [eO,List.length_append,List.length_cons,List.length_nil]
  rw [kA s rfl]
  exact⟨by show eO s acc+(1+0)≤_;omega,by omega⟩
 ·rw [fE c]
  exact⟨by dsimp only;omega,by dsimp only;omega⟩
theorem Td(s:ByteArray):∀ (al:List M7) (x:List M7×Int),(∀ t∈al,0≤t.frm∧t.frm<t.to∧t.to≤s.size)→(eO s (al.foldl (D4 s) x).1:Int)≤eO s x.1+Dg al∧(al.foldl (D4 s) x).1.length≤x.1.length+al.length
 |[],x,h=>by simp [Dg]
 |t::al,x,h=>by
  have ht:=h t List.mem_cons_self
  rw [List.foldl_cons]
  obtain⟨i1,i2⟩:=Td s al (D4 s x t) fun t ht=>h t (List.mem_cons_of_mem _ ht)
  have key:(eO s (D4 s x t).1:Int)≤eO s x.1+(t.to-t.frm)∧(D4 s x t).1.length≤x.1.length+1:=by
   unfold D4
   by_cases hs:gT t.kind
   ·rw [if_pos hs]
    by_cases hn:0≤H7 (sub s t.frm t.to) 10
    ·rw [if_pos hn]
     have:=xB s x
     omega
    ·rw [if_neg hn]
     omega
   ·rw [if_neg hs]
    dsimp only
    rw [rE]
    simp only [eO,List.length_append,List.length_cons,List.length_nil]
    have z:=J1 s t.frm t.to ⟨ht.1,by omega,ht.2.2⟩
    have:((N5 s t).size:Int)≤t.to-t.frm:=by
     unfold N5
     split
     ·show (1:Int)≤_;omega
     ·omega
    omega
  simp only [Dg,List.length_cons]
  omega
theorem Sa{s:ByteArray}:∀ {l:List M7} {a b:Int},oO s l a b→Dg l=b-a
 |[],a,b,h=>by
  have:a=b:=h
  simp [Dg,this]
 |t::r,a,b,h=>by
  obtain⟨h1,h2,h3,h4⟩:=h
  have:=Sa h4
  simp only [Dg]
  have e:t.frm=a:=by rw [h3]
  omega
theorem Lw{s:ByteArray}{T:List M7}(h:P2 s=(T,0,0)):eO s T≤s.size+1∧T.length≤s.size+1:=by
 obtain⟨e1,e2,e3⟩:=qG s (by rw [h]) (by rw [h])
 have hok:=mY s
 have hT:T=uP s (V5 s).1:=by
  unfold P2 at h
  rw [if_pos ⟨e1,e2⟩] at h
  exact (congrArg Prod.fst h).symm
 have ht:=Sa (oN s e1)
 have h1:=Td s (V5 s).1 ([],-1) hok.1
 have h2:=xB s ((V5 s).1.foldl (D4 s) ([],-1))
 rw [hT]
 unfold uP
 simp only [eO,List.length_nil] at h1
 omega
theorem Yk(s:ByteArray)(cc e:List UInt8):∀ R:List M7,(tB s cc e R).length=e.length+eO s R+R.length*cc.length
 |[]=>by simp [tB,eO]
 |x::r=>by
  have:=Yk s cc e r
  have z:(N5 s x).data.toList.length=(N5 s x).size:=(Lib.size_eq _).symm
  simp only [tB,List.length_append,eO,List.length_cons,this,z,Nat.succ_mul]
  omega
theorem Ou:∀ x∈oB,0<x.toNat∧x.toNat<128:=by decide
theorem Ay{s u:ByteArray}{goal:Int}{T:List M7}{x:Nd}{note e:List UInt8}(hO:aK s goal = .inr (T,x))(hz:s.size≤1000)(hn:uG note)(hl:note.length≤20)(he:e=[]∨e=oB)(hu:u.data.toList=eG note++tB s (eG note) e T) :
 u.size≤65536∧∃ U,aK u goal = .inr (U,x)∧(I5 x).map (M0 ⟨u,U,[]⟩)=(I5 x).map (M0 ⟨s,T,[]⟩):=by
 obtain⟨hne,hT,_⟩:=lW hO
 have hsem:P2 s=(T,0,0):=by rw [hT];exact jC hne
 obtain⟨s1,s2⟩:=Lw hsem
 have hcl:(eG note).length=note.length+6:=by unfold eG;simp
 have hel:e.length≤6:=by rcases he with rfl|rfl<;>decide
 have hzu:u.size≤65536:=by
  have q:=congrArg List.length hu
  have z:u.data.toList.length=u.size:=(Lib.size_eq u).symm
  rw [z,List.length_append,Yk,hcl] at q
  have:=Nat.mul_le_mul s2 (show note.length+6≤26 by omega)
  omega
 have hcs:¬ 0≤W1 s:=by
  obtain⟨e1,e2,_⟩:=qG s (by rw [hsem]) (by rw [hsem])
  intro q
  unfold V5 at e1
  split at e1
  ·dsimp only at e1;omega
  ·dsimp only at e1
   omega
 have l0:Lx u 0 (eG note++tB s (eG note) e T):=⟨Int.le_refl _,hu,by omega⟩
 have hcu:¬ 0≤W1 u:=by
  refine zZ ?_
  have k1:=l0.asc (Bl hn)
  have k2:=Xt hcs hn (by
   rcases he with rfl|rfl
   ·exact fun x hx=>(by cases hx)
   ·exact Ou) T _ (Wr hsem).1 (l0.skip (eG note))
  rw [show ((0:Int)+((eG note).length:Int)).toNat=(0:Int).toNat+(eG note).length by omega] at k2
  exact k1.trans k2
 obtain⟨U,h1,h2⟩:=Yx hsem (fun x hx=>⟨(hn x hx).2.2,fun q=>by have:=(hn x hx).1;rw [q] at this;exact absurd this (by decide)⟩) he hu hzu hcu
 obtain⟨h3,h4⟩:=Zx hO h1 h2
 exact⟨hzu,U,h3,h4⟩
end Go.Ex
namespace Go.Ex
open Go.Proofs
structure Bn where
 up:Int
 nth:Int
 kids:List Nat
def Ka:Bn:=⟨-1,0,[]⟩
def E4(B:List Bn)(i:Nat):Bn:=B.getD i Ka
def H3(L:List M8)(i:Nat):M8:=L.getD i P3.dflt
def kH(L:List M8)(B:List Bn):List Nat→List Nat
 |[]=>[]
 |j::r=>if ((E4 B j).kids.length:Int)=(H3 L j).kids then kH L B r else j::r
structure Bs where
 B:List Bn
 st:List Nat
def dG(B:List Bn)(j i:Nat):List Bn:=B.set j ⟨(E4 B j).up,(E4 B j).nth,(E4 B j).kids++[i]⟩
def oK(x:Bs)(i:Nat):List Nat→Bs
 |[]=>⟨x.B++[Ka],[i]⟩
 |j::r=>⟨dG x.B j i++[⟨j,(E4 x.B j).kids.length,[]⟩],i::j::r⟩
def hJ(L:List M8)(x:Bs)(i:Nat):Bs:=oK x i (kH L x.B x.st)
def cK(L:List M8):Nat→Bs
 |0=>⟨[],[]⟩
 |i+1=>hJ L (cK L i) i
def dV(L:List M8)(B:List Bn):List Nat→Int
 |[]=>0
 |j::r=>((H3 L j).kids-(E4 B j).kids.length)+dV L B r
theorem gR{B:List Bn}{x:Bn}{j:Nat}(h:j<B.length):E4 (B++[x]) j=E4 B j:=by
 unfold E4
 rw [List.getD_eq_getElem?_getD,List.getD_eq_getElem?_getD,List.getElem?_append_left h]
theorem tS{B:List Bn}{x:Bn}:E4 (B++[x]) B.length=x:=by
 unfold E4
 rw [List.getD_eq_getElem?_getD,List.getElem?_append_right (Nat.le_refl _),Nat.sub_self]
 rfl
theorem Fc(B:List Bn)(j i:Nat):(dG B j i).length=B.length:=by unfold dG;rw [List.length_set]
theorem Dk{B:List Bn}{j i:Nat}(h:j<B.length):E4 (dG B j i) j=⟨(E4 B j).up,(E4 B j).nth,(E4 B j).kids++[i]⟩:=by
 show (dG B j i).getD j Ka = _
 unfold dG
 rw [List.getD_eq_getElem?_getD,List.getElem?_set_self h]
 rfl
theorem Ck{B:List Bn}{j i k:Nat}(h:j≠k):E4 (dG B j i) k=E4 B k:=by
 show (dG B j i).getD k Ka=B.getD k Ka
 unfold dG
 rw [List.getD_eq_getElem?_getD,List.getD_eq_getElem?_getD,List.getElem?_set_ne h]
theorem sA{L:List M8}{B B':List Bn}:∀ {st:List Nat},(∀ j∈st,E4 B' j=E4 B j)→dV L B' st=dV L B st
 |[],h=>rfl
 |j::r,h=>by
  simp only [dV]
  rw [h j (List.mem_cons_self ..),sA fun k hk=>h k (List.mem_cons_of_mem _ hk)]
theorem oU{L:List M8}{B:List Bn}:∀ {st:List Nat},(∀ j∈st,((E4 B j).kids.length:Int)≤(H3 L j).kids)→0≤dV L B st
 |[],h=>Int.le_refl _
 |j::r,h=>by
  have h1:=h j (List.mem_cons_self ..)
  have h2:=oU fun k hk=>h k (List.mem_cons_of_mem _ hk)
  simp only [dV]
  omega
theorem wE{L:List M8}{B:List Bn}:∀ {st:List Nat},(∀ j∈st,((E4 B j).kids.length:Int)≤(H3 L j).kids)→dV L B st=0→∀ j∈st,((E4 B j).kids.length:Int)=(H3 L j).kids
 |[],h,h0,j,hj=>by cases hj
 |i::r,h,h0,j,hj=>by
  have h1:=h i (List.mem_cons_self ..)
  have h2:=oU fun k hk=>h k (List.mem_cons_of_mem _ hk)
  simp only [dV] at h0
  rcases List.mem_cons.1 hj with rfl|hj
  ·omega
  ·exact wE (fun k hk=>h k (List.mem_cons_of_mem _ hk)) (by omega) j hj
theorem jB{L:List M8}{B:List Bn}:∀ (st:List Nat),∃ q,st=q++kH L B st∧(∀ j∈q,((E4 B j).kids.length:Int)=(H3 L j).kids)∧dV L B (kH L B st)=dV L B st∧∀ j r,kH L B st=j::r→¬ ((E4 B j).kids.length:Int)=(H3 L j).kids
 |[]=>⟨[],rfl,fun j h=>(by cases h),rfl,fun j r h=>(by cases h)⟩
 |i::r=>by
  obtain⟨q,h1,h2,h3,h4⟩:=jB (L:=L) (B:=B) r
  simp only [kH]
  by_cases h:((E4 B i).kids.length:Int)=(H3 L i).kids
  ·rw [if_pos h]
   refine⟨i::q,by rw [List.cons_append,←h1],fun j hj=>?_,?_,h4⟩
   ·rcases List.mem_cons.1 hj with rfl|hj
    ·exact h
    ·exact h2 j hj
   ·rw [h3]
    simp only [dV]
    omega
  ·rw [if_neg h]
   refine⟨[],rfl,fun j hj=>(by cases hj),rfl,fun j r' e=>?_⟩
   cases e
   exact h
def Qv(ks:List Int)(i:Nat):Int:=match Pk.sufS (ks.drop i) i with
 |some st=>st.length
 |none=>0
theorem Ya:∀ (i:Nat) (ks:List Int) (i0:Int),(Pk.sufS ks i0).isSome=true→(Pk.sufS (ks.drop i) (i0+i)).isSome=true
 |0,ks,i0,h=>by rw [List.drop_zero];simpa using h
 |i+1,[],i0,h=>by simp [Pk.sufS]
 |i+1,k::r,i0,h=>by
  rw [List.drop_succ_cons]
  have h1:(Pk.sufS r (i0+1)).isSome=true:=by
   simp only [Pk.sufS] at h
   revert h
   cases Pk.sufS r (i0+1) with
   |none=>intro h;cases h
   |some st=>intro _;rfl
  have:=Ya i r (i0+1) h1
  rw [show i0+((i+1:Nat):Int)=i0+1+(i:Int) by omega]
  exact this
theorem He{ks:List Int}(h:(Pk.sufS ks 0).isSome=true){i:Nat}(hi:i<ks.length):0≤ks.getD i 0∧ks.getD i 0≤Qv ks (i+1)∧Qv ks i=Qv ks (i+1)-ks.getD i 0+1:=by
 have h1:=Ya i ks 0 h
 have e:ks.drop i=ks.getD i 0::ks.drop (i+1):=by
  rw [List.drop_eq_getElem_cons hi,List.getD_eq_getElem?_getD,List.getElem?_eq_getElem hi]
  rfl
 unfold Qv
 rw [Int.zero_add] at h1
 rw [e] at h1 ⊢
 simp only [Pk.sufS] at h1 ⊢
 rw [show (i:Int)+1=((i+1:Nat):Int) by omega] at h1 ⊢
 cases hq:Pk.sufS (ks.drop (i+1)) ((i+1:Nat):Int) with
 |none=>rw [hq] at h1;cases h1
 |some st=>
  rw [hq] at h1
  dsimp only at h1 ⊢
  by_cases c:ks.getD i 0<0∨(st.length:Int)<ks.getD i 0
  ·rw [if_pos c] at h1;cases h1
  ·rw [if_neg c]
   dsimp only
   rw [List.length_cons,List.length_drop]
   omega
structure EA(L:List M8)(x:Bs)(i:Nat):Prop where
 len:x.B.length=i
 st:∀ j∈x.st,j<i
 nd:x.st.Nodup
 kid:∀ j,j<i→∀ k∈(E4 x.B j).kids,j<k∧k<i
 few:∀ j,(E4 x.B j).kids.length≤i
 le:∀ j,j<i→((E4 x.B j).kids.length:Int)≤(H3 L j).kids
 full:∀ j,j<i→j∉x.st→((E4 x.B j).kids.length:Int)=(H3 L j).kids
 rem:0<i→dV L x.B x.st=Qv (Pk.kidsL L) i
 up:∀ k,k<i→(E4 x.B k).up = -1∧(E4 x.B k).nth=0∨∃ j m:Nat,(E4 x.B k).up=j∧j<k∧(E4 x.B k).nth=m∧(E4 x.B j).kids[m]?=some k
 stl:x.st.length≤i
theorem Ot(L:List M8)(i:Nat):(Pk.kidsL L).getD i 0=(H3 L i).kids:=by
 unfold Pk.kidsL H3
 rw [List.getD_eq_getElem?_getD,List.getD_eq_getElem?_getD,List.getElem?_map]
 cases L[i]?<;>rfl
theorem nV(L:List M8):(Pk.kidsL L).length=L.length:=by unfold Pk.kidsL;rw [List.length_map]
theorem qT{L:List M8}(hw:Pk.WellL L):∀ i,i≤L.length→EA L (cK L i) i
 |0,h=>⟨rfl,fun j h=>(by cases h),List.nodup_nil,fun j h=>absurd h (Nat.not_lt_zero _),fun j=>Nat.le_refl _,fun j h=>absurd h (Nat.not_lt_zero _),fun j h=>absurd h (Nat.not_lt_zero _),fun h=>absurd h (Nat.lt_irrefl _),fun k h=>absurd h (Nat.not_lt_zero _),Nat.le_refl _⟩
 |i+1,h=>by
  have ih:=qT hw i (by omega)
  obtain⟨st0,hs0,hs1⟩:=hw
  have hsome:(Pk.sufS (Pk.kidsL L) 0).isSome=true:=by rw [hs0];rfl
  obtain⟨d1,d2,d3⟩:=He hsome (i:=i) (by rw [nV];omega)
  rw [Ot] at d1 d2 d3
  have d0:Qv (Pk.kidsL L) 0=1:=by
   show (match Pk.sufS (Pk.kidsL L) 0 with|some st=>(st.length:Int)|none=>0)=1
   rw [hs0]
   dsimp only
   omega
  obtain⟨x,hx⟩:∃ x,cK L i=x:=⟨_,rfl⟩
  rw [hx] at ih
  show EA L (hJ L (cK L i) i) (i+1)
  rw [hx]
  unfold hJ
  obtain⟨q,p1,p2,p3,p4⟩:=jB (L:=L) (B:=x.B) x.st
  have hlen:=ih.len
  cases hp:kH L x.B x.st with
  |nil=>
   rw [hp] at p1 p3
   rw [List.append_nil] at p1
   have hi0:i=0:=by
    by_cases h0:0<i
    ·have e:=ih.rem h0
     rw [←p3] at e
     simp only [dV] at e
     omega
    ·omega
   subst hi0
   have hB:x.B=[]:=List.eq_nil_of_length_eq_zero hlen
   have hself:E4 (x.B++[Ka]) 0=Ka:=by rw [hB];rfl
   have hall:∀ j,E4 (x.B++[Ka]) j=Ka:=by
    intro j
    rw [hB]
    cases j with
    |zero=>rfl
    |succ j=>rfl
   refine⟨?_,?_,?_,?_,?_,?_,?_,?_,?_,?_⟩
   ·show (x.B++[Ka]).length=1
    rw [hB];rfl
   ·intro j hj
    have:j=0:=List.mem_singleton.1 hj
    omega
   ·exact List.nodup_cons.2 ⟨List.not_mem_nil,List.nodup_nil⟩
   ·intro j hj k hk
    rw [show E4 (oK x 0 []).B j=Ka from hall j] at hk
    cases hk
   ·intro j
    rw [show E4 (oK x 0 []).B j=Ka from hall j]
    exact Nat.zero_le _
   ·intro j hj
    rw [show E4 (oK x 0 []).B j=Ka from hall j]
    have:j=0:=by omega
    subst this
    exact d1
   ·intro j hj hn
    have:j=0:=by omega
    subst this
    exact absurd (List.mem_singleton.2 rfl) hn
   ·intro _
    show dV L (x.B++[Ka]) [0]=Qv (Pk.kidsL L) 1
    simp only [dV,hself]
    show (H3 L 0).kids-((0:Nat):Int)+0 = _
    rw [Nat.zero_add] at d2 d3
    omega
   ·intro k hk
    rw [show E4 (oK x 0 []).B k=Ka from hall k]
    exact .inl ⟨rfl,rfl⟩
   ·exact Nat.le_refl _
  |cons j r=>
   rw [hp] at p1 p3
   have hjr:j∈x.st:=by rw [p1];exact List.mem_append_right _ (List.mem_cons_self ..)
   have hj:=ih.st j hjr
   have hjB:j<x.B.length:=by omega
   have hnd2:(j::r).Nodup:=by
    have:=ih.nd
    rw [p1] at this
    exact (List.nodup_append.1 this).2.1
   have hjn:j∉r:=(List.nodup_cons.1 hnd2).1
   have hne:=p4 j r hp
   have hle:=ih.le j hj
   have hrs:∀ k∈r,k∈x.st:=fun k hk=>by rw [p1];exact List.mem_append_right _ (List.mem_cons_of_mem _ hk)
   let nb:Bn:=⟨j,(E4 x.B j).kids.length,[]⟩
   have hB:(oK x i (j::r)).B=dG x.B j i++[nb]:=rfl
   have hS:(oK x i (j::r)).st=i::j::r:=rfl
   have hpl:(dG x.B j i).length=i:=by rw [Fc,hlen]
   have a1:E4 (dG x.B j i++[nb]) i=nb:=by
    have:=tS (B:=dG x.B j i) (x:=nb)
    rw [hpl] at this
    exact this
   have a2:E4 (dG x.B j i++[nb]) j=⟨(E4 x.B j).up,(E4 x.B j).nth,(E4 x.B j).kids++[i]⟩:=by
    rw [gR (by rw [hpl];exact hj),Dk hjB]
   have a3:∀ k,k<i→k≠j→E4 (dG x.B j i++[nb]) k=E4 x.B k:=fun k hk hkj=>by
    rw [gR (by rw [hpl];exact hk),Ck (Ne.symm hkj)]
   have a4:∀ k,i<k→E4 (dG x.B j i++[nb]) k=Ka:=fun k hk=>by
    unfold E4
    rw [List.getD_eq_getElem?_getD,List.getElem?_eq_none (by rw [List.length_append,hpl];exact hk)]
    rfl
   refine⟨?_,?_,?_,?_,?_,?_,?_,?_,?_,?_⟩
   ·rw [hB,List.length_append,hpl];rfl
   ·intro k hk
    rw [hS] at hk
    rcases List.mem_cons.1 hk with rfl|hk
    ·omega
    ·rcases List.mem_cons.1 hk with rfl|hk
     ·omega
     ·have:=ih.st k (hrs k hk);omega
   ·rw [hS]
    refine List.nodup_cons.2 ⟨fun hm=>?_,hnd2⟩
    rcases List.mem_cons.1 hm with rfl|hm
    ·omega
    ·have:=ih.st i (hrs i hm);omega
   ·intro k hk m hm
    rw [hB] at hm
    by_cases c1:k=i
    ·subst c1;rw [a1] at hm;cases hm
    by_cases c2:k=j
    ·subst c2
     rw [a2] at hm
     rcases List.mem_append.1 hm with hm|hm
     ·have:=ih.kid k hj m hm;omega
     ·have:=List.mem_singleton.1 hm;omega
    ·rw [a3 k (by omega) c2] at hm
     have:=ih.kid k (by omega) m hm;omega
   ·intro k
    rw [hB]
    by_cases c1:k=i
    ·subst c1;rw [a1];exact Nat.zero_le _
    by_cases c2:k=j
    ·subst c2
     rw [a2]
     show ((E4 x.B k).kids++[i]).length≤i+1
     rw [List.length_append]
     have:=ih.few k
     simp only [List.length_singleton]
     omega
    by_cases c3:k<i
    ·rw [a3 k c3 c2]
     have:=ih.few k;omega
    ·rw [a4 k (by omega)]
     exact Nat.zero_le _
   ·intro k hk
    rw [hB]
    by_cases c1:k=i
    ·subst c1;rw [a1];exact d1
    by_cases c2:k=j
    ·subst c2
     rw [a2]
     show (((E4 x.B k).kids++[i]).length:Int)≤_
     rw [List.length_append]
     simp only [List.length_singleton]
     omega
    ·rw [a3 k (by omega) c2]
     exact ih.le k (by omega)
   ·intro k hk hn
    rw [hS] at hn
    have n1:k≠i:=fun e=>hn (by rw [e];exact List.mem_cons_self ..)
    have n2:k≠j:=fun e=>hn (by rw [e];exact List.mem_cons_of_mem _ (List.mem_cons_self ..))
    rw [hB,a3 k (by omega) n2]
    by_cases hks:k∈x.st
    ·rw [p1] at hks
     rcases List.mem_append.1 hks with hq|hq
     ·exact p2 k hq
     ·exact absurd (List.mem_cons_of_mem _ hq) hn
    ·exact ih.full k (by omega) hks
   ·intro _
    rw [hB,hS]
    have e1:dV L (dG x.B j i++[nb]) r=dV L x.B r:=sA fun k hk=>a3 k (ih.st k (hrs k hk)) fun e=>hjn (e▸hk)
    have e2:dV L x.B x.st=Qv (Pk.kidsL L) i:=ih.rem (by omega)
    rw [←p3] at e2
    simp only [dV] at e2 ⊢
    rw [a1,a2,e1]
    show (H3 L i).kids-((0:Nat):Int)+((H3 L j).kids-(((E4 x.B j).kids++[i]).length:Int)+dV L x.B r) = _
    rw [List.length_append]
    simp only [List.length_singleton]
    omega
   ·intro k hk
    rw [hB]
    by_cases c1:k=i
    ·subst c1
     rw [a1]
     refine .inr ⟨j,(E4 x.B j).kids.length,rfl,hj,rfl,?_⟩
     rw [a2]
     show ((E4 x.B j).kids++[k])[(E4 x.B j).kids.length]?=some k
     rw [List.getElem?_append_right (Nat.le_refl _),Nat.sub_self]
     rfl
    ·have hki:k<i:=by omega
     have key:∀ j' m:Nat,j'<k→(E4 x.B j').kids[m]?=some k→(E4 (dG x.B j i++[nb]) j').kids[m]?=some k:=by
      intro j' m hj' hm
      by_cases c3:j'=j
      ·subst c3
       rw [a2]
       show ((E4 x.B j').kids++[i])[m]?=some k
       have hml:m<(E4 x.B j').kids.length:=(List.getElem?_eq_some_iff.1 hm).1
       rw [List.getElem?_append_left hml]
       exact hm
      ·rw [a3 j' (by omega) c3]
       exact hm
     by_cases c2:k=j
     ·subst c2
      rw [a2]
      rcases ih.up k hki with h1|⟨j',m,h1,h2,h3,h4⟩
      ·exact .inl h1
      ·exact .inr ⟨j',m,h1,h2,h3,key j' m h2 h4⟩
     ·rw [a3 k hki c2]
      rcases ih.up k hki with h1|⟨j',m,h1,h2,h3,h4⟩
      ·exact .inl h1
      ·exact .inr ⟨j',m,h1,h2,h3,key j' m h2 h4⟩
   ·rw [hS]
    have:=ih.stl
    rw [p1,List.length_append] at this
    simp only [List.length_cons] at this ⊢
    omega
def uH(L:List M8):List Bn:=(cK L L.length).B
structure Sq(L:List M8)(B:List Bn):Prop where
 len:B.length=L.length
 kid:∀ j,j<L.length→∀ k∈(E4 B j).kids,j<k∧k<L.length
 num:∀ j,j<L.length→((E4 B j).kids.length:Int)=(H3 L j).kids
 up:∀ k,k<L.length→(E4 B k).up = -1∧(E4 B k).nth=0∨∃ j m:Nat,(E4 B k).up=j∧j<k∧(E4 B k).nth=m∧(E4 B j).kids[m]?=some k
theorem AU{L:List M8}(hw:Pk.WellL L):Sq L (uH L):=by
 have hb:=qT hw L.length (Nat.le_refl _)
 refine⟨hb.len,hb.kid,fun j hj=>?_,hb.up⟩
 by_cases h0:0<L.length
 ·have hr:=hb.rem h0
  have hd:Qv (Pk.kidsL L) L.length=0:=by
   unfold Qv
   rw [List.drop_eq_nil_of_le (by rw [nV];exact Nat.le_refl _)]
   rfl
  rw [hd] at hr
  by_cases hs:j∈(cK L L.length).st
  ·exact wE (fun k hk=>hb.le k (hb.st k hk)) hr j hs
  ·exact hb.full j hj hs
 ·omega
end Go.Ex
namespace Go.Ex
open Go.Proofs
attribute [local irreducible] CH
abbrev nd(bs:List Nat)(i:Nat):Option Addr:=some ⟨bs.getD i 0,0,none⟩
def Mf(bs:List Nat)(u:Int):Option Addr:=if u<0 then none else nd bs u.toNat
structure ND(h:A3)(bs:List Nat)(L:List M8)(B:List Bn):Prop where
 ok:Sq L B
 at_:∀ i,i<L.length→∃ A n c,h[bs.getD i 0]?=some (.cells #[.int .u8 (H3 L i).kind,.int .i64 (H3 L i).kids,.string (H3 L i).word,.int .i64 i,.pointer (Mf bs (E4 B i).up),.int .i64 (E4 B i).nth,.slice A n c] 117 (0,0))∧Sl E1 h A n ((E4 B i).kids.map (nd bs))∧n≤c
theorem ND.lt{h:A3}{bs:List Nat}{L:List M8}{B:List Bn}(hN:ND h bs L B){i:Nat}(hi:i<L.length):bs.getD i 0<h.size:=by
 obtain⟨A,n,c,h1,_⟩:=hN.at_ i hi
 exact (Array.getElem?_eq_some_iff.1 h1).1
theorem ND.later{h h':A3}{bs:List Nat}{L:List M8}{B:List Bn}(hN:ND h bs L B)(hg:A5 h h'):ND h' bs L B:=
 ⟨hN.ok,fun i hi=>by
  obtain⟨A,n,c,h1,h2,h3⟩:=hN.at_ i hi
  exact⟨A,n,c,by rw [hg.same _ (hN.lt hi)];exact h1,h2.grows hg,h3⟩⟩
section
variable {S:St}{bs:List Nat}{L:List M8}{B:List Bn}{κ:KV→Prop}{i:Nat}
theorem A9.nd(hN:ND S.h0 bs L B)(hi:i<L.length)(hc:S.cap=[])(j:Nat)(v:Value)(hj:∀ A n c,(#[Value.int .u8 (H3 L i).kind,.int .i64 (H3 L i).kids,.string (H3 L i).word,.int .i64 i,.pointer (Mf bs (E4 B i).up),.int .i64 (E4 B i).nth,.slice A n c]:Array Value)[j]?=some v)(hk:G8 false (O7 [v]) κ):A9 S ⟨bs.getD i 0,j,none⟩ 1 false κ:=by
 obtain⟨A,n,c,h1,_⟩:=hN.at_ i hi
 refine⟨.inl ⟨hN.lt hi,by rw [hc];exact List.not_mem_nil,rfl,[v],rfl,fun q u hq=>?_,_,N9 _,hk⟩⟩
 cases q with
 |zero=>
  cases hq
  simp only [K5,h1,Nat.add_zero]
  exact hj A n c
 |succ q=>cases hq
theorem A9.ndKind(hN:ND S.h0 bs L B)(hi:i<L.length)(hc:S.cap=[])(hk:G8 false (O7 [.int .u8 (H3 L i).kind]) κ):A9 S ⟨bs.getD i 0,0+0+0,none⟩ 1 false κ:=A9.nd hN hi hc 0 _ (fun _ _ _=>rfl) hk
theorem A9.ndWord(hN:ND S.h0 bs L B)(hi:i<L.length)(hc:S.cap=[])(hk:G8 false (O7 [.string (H3 L i).word]) κ):A9 S ⟨bs.getD i 0,0+0+2,none⟩ 1 false κ:=A9.nd hN hi hc 2 _ (fun _ _ _=>rfl) hk
theorem A9.ndAt(hN:ND S.h0 bs L B)(hi:i<L.length)(hc:S.cap=[])(hk:G8 false (O7 [.int .i64 i]) κ):A9 S ⟨bs.getD i 0,0+3,none⟩ 1 false κ:=A9.nd hN hi hc 3 _ (fun _ _ _=>rfl) hk
theorem A9.ndNth(hN:ND S.h0 bs L B)(hi:i<L.length)(hc:S.cap=[])(hk:G8 false (O7 [.int .i64 (E4 B i).nth]) κ):A9 S ⟨bs.getD i 0,0+5,none⟩ 1 false κ:=A9.nd hN hi hc 5 _ (fun _ _ _=>rfl) hk
theorem A9.ndUp0(hN:ND S.h0 bs L B)(hi:i<L.length)(hc:S.cap=[])(hu:(E4 B i).up = -1)(hk:G8 false (O7 [.pointer none]) κ):A9 S ⟨bs.getD i 0,0+4,none⟩ 1 false κ:=A9.nd hN hi hc 4 (.pointer none) (fun _ _ _=>by rw [hu];rfl) hk
theorem A9.ndUp(hN:ND S.h0 bs L B)(hi:i<L.length)(hc:S.cap=[]){j:Nat}(hu:(E4 B i).up=j)(hk:G8 false (O7 [.pointer (Go.Ex.nd bs j)]) κ):A9 S ⟨bs.getD i 0,0+4,none⟩ 1 false κ:=A9.nd hN hi hc 4 (.pointer (Go.Ex.nd bs j)) (fun _ _ _=>by
 show some (Value.pointer (Mf bs (E4 B i).up)) = _
 rw [hu]
 unfold Mf
 rw [if_neg (by omega),Int.toNat_natCast]) hk
theorem A9.ndKids(hN:ND S.h0 bs L B)(hi:i<L.length)(hc:S.cap=[])(hk:∀ A n c,D3 E1 S.h0 S.cap A n ((E4 B i).kids.map (Go.Ex.nd bs))→n=(E4 B i).kids.length→(0<n→O1 A)→n≤c→G8 false (O7 [.slice A n c]) κ):A9 S ⟨bs.getD i 0,0+6,none⟩ 1 false κ:=by
 obtain⟨A,n,c,h1,h2,h3⟩:=hN.at_ i hi
 have hh:D3 E1 S.h0 S.cap A n ((E4 B i).kids.map (Go.Ex.nd bs)):=by rw [hc];exact D3.start h2
 refine⟨.inl ⟨hN.lt hi,by rw [hc];exact List.not_mem_nil,rfl,[.slice A n c],rfl,fun q u hq=>?_,_,N9 _,hk A n c hh (by rw [←h2.len_eq,List.length_map]) (fun h0=>h2.plain h0) h3⟩⟩
 cases q with
 |zero=>
  cases hq
  simp only [K5,h1,Nat.add_zero]
  rfl
 |succ q=>cases hq
def X7(B:List Bn)(i m:Nat):Nat:=(E4 B i).kids.getD m 0
theorem I2(hN:Sq L B)(hi:i<L.length){m:Nat}(hm:m<(E4 B i).kids.length):i<X7 B i m∧X7 B i m<L.length:=by
 have e:(E4 B i).kids[m]?=some (X7 B i m):=by
  unfold X7
  rw [List.getD_eq_getElem?_getD,List.getElem?_eq_getElem hm];rfl
 exact hN.kid i hi _ (List.mem_of_getElem? e)
theorem C1.ndKid{A:Option Addr}{n:Nat}(hA:D3 E1 S.h0 S.cap A n ((E4 B i).kids.map (Go.Ex.nd bs)))(m:Nat){j:Int}(hj:j=m)(hm:m<(E4 B i).kids.length)(hk:G8 false (O7 [.pointer (Go.Ex.nd bs (X7 B i m))]) κ):C1 S A 1 j 0 1 false κ:=by
 have hn:n=(E4 B i).kids.length:=by rw [←hA.sl.len_eq,List.length_map]
 have e:((E4 B i).kids.map (Go.Ex.nd bs))[m]?=some (Go.Ex.nd bs (X7 B i m)):=by
  rw [List.getElem?_map,List.getElem?_eq_getElem hm]
  unfold X7
  rw [List.getD_eq_getElem?_getD,List.getElem?_eq_getElem hm];rfl
 exact C1.held hA rfl (by omega) (by omega) (W7 e j (by omega)) hk
end
theorem Sl.tail{τ:Type}{R:Y7 τ}{h:A3}{A:Option Addr}{n c:Nat}{xs:List τ}(hs:Sl R h A n xs)(hc:n≤c)(l:Nat)(hl:l≤n):Sl R h (Ff A c (l:Int) R.sz) (n-l) (xs.drop l):=by
 have h1:=hs.len_eq
 have h2:=hs.small
 refine⟨by rw [List.length_drop];omega,by omega,fun h0=>?_⟩
 obtain⟨b,o,rfl,hb,hv⟩:=hs.at_ (by omega)
 refine⟨b,o+l*R.sz,?_,hb,fun i hi j v hj=>?_⟩
 ·unfold Ff
  rw [Int.toNat_natCast,if_neg (by omega)]
  show some (Addr.add ⟨b,o,none⟩ (l*R.sz)) = _
  rw [bT]
 ·have e:(xs.drop l).getD i R.dflt=xs.getD (l+i) R.dflt:=by
   rw [List.getD_eq_getElem?_getD,List.getD_eq_getElem?_getD,List.getElem?_drop]
  rw [e] at hj
  have:=hv (l+i) (by omega) j v hj
  rw [Nat.add_mul] at this
  rw [show o+l*R.sz+i*R.sz+j=o+(l*R.sz+i*R.sz)+j by omega]
  exact this
theorem Sl.head{τ:Type}{R:Y7 τ}{h:A3}{A:Option Addr}{n:Nat}{xs:List τ}(hs:Sl R h A n xs)(l:Nat)(hl:l≤n):Sl R h A l (xs.take l):=by
 have h1:=hs.len_eq
 have h2:=hs.small
 refine⟨by rw [List.length_take];omega,by omega,fun h0=>?_⟩
 obtain⟨b,o,rfl,hb,hv⟩:=hs.at_ (by omega)
 refine⟨b,o,rfl,hb,fun i hi j v hj=>?_⟩
 have e:(xs.take l).getD i R.dflt=xs.getD i R.dflt:=by
  rw [List.getD_eq_getElem?_getD,List.getD_eq_getElem?_getD,List.getElem?_take_of_lt hi]
 rw [e] at hj
 exact hv i (by omega) j v hj
theorem Sl.mem{τ:Type}{R:Y7 τ}{S:St}{h:A3}(hs:HS S h){k b T cap:Nat}{xs:List τ}(hm:(k,b,D8.arr T R xs cap)∈S.ch){n:Nat}(hn:n=xs.length):Sl R h (some ⟨b,0,none⟩) n xs:=by
 obtain⟨h1,_,h3⟩:=hs.chunk _ hm
 have h2:HS ⟨h,blks [(0,b,D8.arr T R xs cap)],[(0,b,.arr T R xs cap)]⟩ h:=⟨Nat.le_refl _,fun _ _ _=>rfl,fun e he=>by
  have:=List.mem_singleton.1 he
  subst this
  exact⟨h1,.inr (List.mem_singleton.2 rfl),h3⟩,List.pairwise_singleton _ _⟩
 exact (D3.ofC h2 (k:=0) rfl hn).sl
theorem BO:Tryz.prog.underlying 112=some (.pointer 117):=by kernel_rfl
theorem AS(d:Nat)(w:World):(Op.equalIn (d+1) 112 (.pointer none) (.pointer none)).run Tryz.prog w = .ok true w:=by
 simp [Op.equalIn,underlying,BO]
theorem AR(d:Nat)(a:Addr)(w:World):(Op.equalIn (d+1) 112 (.pointer (some a)) (.pointer none)).run Tryz.prog w = .ok false w:=by
 simp [Op.equalIn,underlying,BO]
theorem Tx(w:World):(Op.equalIn Op.maxDepth 112 (.pointer none) (.pointer none)).run Tryz.prog w = .ok true w:=AS 9999 w
theorem Sx(a:Addr)(w:World):(Op.equalIn Op.maxDepth 112 (.pointer (some a)) (.pointer none)).run Tryz.prog w = .ok false w:=AR 9999 a w
theorem AE{κ:KV→Prop}(h:κ (.prop ((0:Int)=1))):Ij Tryz.prog .neq 112 (.val (.pointer none)) (.val (.pointer none)) κ:=⟨_,fun u v w=>by
 show (do eqGuard .neq 112 u v (.pointer none) (.pointer none);binOp .neq 112 (.pointer none) (.pointer none):Sem Value).run Tryz.prog w = _
 simp [eqGuard,binOp,Op.equal,Tx,A0],h⟩
theorem Iw{κ:KV→Prop}{a:Addr}(h:κ (.prop ((0:Int)=0))):Ij Tryz.prog .neq 112 (.val (.pointer (some a))) (.val (.pointer none)) κ:=⟨_,fun u v w=>by
 show (do eqGuard .neq 112 u v (.pointer (some a)) (.pointer none);binOp .neq 112 (.pointer (some a)) (.pointer none):Sem Value).run Tryz.prog w = _
 simp [eqGuard,binOp,Op.equal,Sx,A0],h⟩
theorem mB(A:Option Addr)(n c:Nat)(ks:List Int)(h:A3)(hk:Sl (E9 .u8) h A n ks):CH Tryz.prog 79 #[.pointer none,.slice A n c] h fun v h'=>v = .bool false∧A5 h h':=by
 refine Q0 2 [4,6,7,8,9,10,23] [] [.val (.pointer none),.val (.slice A n c)] Tryz.func79 rfl ?_
 have hkn:=hk.len_eq
 (try (conv=>whnf))
 refine gG tO [9] (fun j:Nat=>[(9,.val (.int .i64 j))]) (fun _=>⟨h,[],[]⟩) (fun μ j=>j+μ=n) ?_
 conv=>whnf
 refine⟨fun h5 hs=>⟨n,0,Nat.zero_add _,?_,hs.ren [] trivial⟩,?_⟩
 ·(repeat (refine And.intro ⟨_,rfl,by first|rfl|(simp [B0,A1,A0];done)⟩ ?_));exact trivial
 rintro μ j hj
 have hsm:=hk.small
 by_cases hjn:j<n
 ·have hpl:O1 A:=hk.plain (by omega)
  ((repeat' (conv=>whnf);first|(refine Ar.fit (by omega) ?_)|(refine VC.mk (by omega) ?_)|(refine Br.mk ?_ ?_<;>intro hb<;>(try replace hb:=nN hb)<;>(try omega))|(refine C1.of (by assumption) rfl rfl (by omega) (by omega) rfl ?_)|(refine AE ?_)|fail);all_goals try conv=>whnf)
  all_goals first
   |omega
   | (intro h6 hs
      refine⟨μ-1,j+1,by omega,by omega,?_,hs.ren [] trivial⟩
      (repeat (refine And.intro ⟨_,rfl,by first|rfl|(simp [B0,A1,A0];done)⟩ ?_));exact trivial)
 ·((repeat' (conv=>whnf);first|(refine Br.mk ?_ ?_<;>intro hb<;>(try replace hb:=nN hb)<;>(try omega))|fail);all_goals try conv=>whnf)
  all_goals first
   |omega
   |exact⟨fun h' hs=>⟨rfl,hs.grows⟩⟩
theorem Zh(A:Option Addr)(n c:Nat)(ks:List Int)(i:Nat)(bs:List Nat)(L:List M8)(B:List Bn)(h:A3)(hN:ND h bs L B)(hi:i<L.length)(hk:Sl (E9 .u8) h A n ks) :
 CH Tryz.prog 79 #[.pointer (nd bs i),.slice A n c] h fun v h'=>v=A0 (.prop ((H3 L i).kind∈ks))∧A5 h h':=by
 refine Q0 2 [4,6,7,8,9,10,23] [] [.val (.pointer (nd bs i)),.val (.slice A n c)] Tryz.func79 rfl ?_
 have hkn:=hk.len_eq
 (try (conv=>whnf))
 refine gG tO [9] (fun j:Nat=>[(9,.val (.int .i64 j))]) (fun _=>⟨h,[],[]⟩) (fun μ j=>j+μ=n∧∀ q,q<j→¬ (H3 L i).kind=B1 0 ks (q:Int)) ?_
 conv=>whnf
 refine⟨fun h5 hs=>⟨n,0,⟨Nat.zero_add _,fun q hq=>absurd hq (Nat.not_lt_zero _)⟩,?_,hs.ren [] trivial⟩,?_⟩
 ·(repeat (refine And.intro ⟨_,rfl,by first|rfl|(simp [B0,A1,A0];done)⟩ ?_));exact trivial
 rintro μ j ⟨hj,hno⟩
 have hsm:=hk.small
 by_cases hjn:j<n
 ·have hpl:O1 A:=hk.plain (by omega)
  ((repeat' (conv=>whnf);first|(refine Ar.fit (by omega) ?_)|(refine VC.mk (by omega) ?_)|(refine Br.mk ?_ ?_<;>intro hb<;>(try replace hb:=nN hb)<;>(try omega))|(refine C1.of (by assumption) rfl rfl (by omega) (by omega) rfl ?_)|(refine Iw ?_)|(refine A9.ndKind hN hi rfl ?_)|fail);all_goals try conv=>whnf)
  all_goals first
   |omega
   | (refine⟨fun h' hs=>⟨B8 ?_,hs.grows⟩⟩
      have e:(H3 L i).kind=B1 0 ks (j:Int):=by assumption
      rw [e]
      exact W8 0 ks _ (by omega) (by omega))
   | (intro h6 hs
      refine⟨μ-1,j+1,⟨by omega,fun q hq=>?_⟩,by omega,?_,hs.ren [] trivial⟩
      ·by_cases e:q=j
       ·subst e;assumption
       ·exact hno q (by omega)
      ·(repeat (refine And.intro ⟨_,rfl,by first|rfl|(simp [B0,A1,A0];done)⟩ ?_));exact trivial)
 ·((repeat' (conv=>whnf);first|(refine Br.mk ?_ ?_<;>intro hb<;>(try replace hb:=nN hb)<;>(try omega))|fail);all_goals try conv=>whnf)
  all_goals first
   |omega
   | (refine⟨fun h' hs=>⟨C0 ?_,hs.grows⟩⟩
      intro hm
      obtain⟨q,hq,e⟩:=List.getElem_of_mem hm
      refine hno q (by omega) ?_
      unfold B1
      rw [Int.toNat_natCast,List.getD_eq_getElem?_getD,List.getElem?_eq_getElem hq]
      exact e.symm)
end Go.Ex
