/-
  Top: TopFaults, TopLossless: whatever the input, the law answers true (part 51)
-/
import Derived.Test.YtpjdgifhhnjclaaGreatDoorM47
import Derived.Test.YtpjdgifhhnjclaaGreatDoorM50
set_option linter.unusedVariables false
set_option linter.unusedSimpArgs false
set_option maxHeartbeats 4000000
set_option maxRecDepth 10000
namespace Go.Ex.Tr
open Go.Ex Go.Proofs
def RootP(L:List Nd):Prop:=0<L.length∧Ms L 0 1 L.length
theorem RootP.node{L:List Nd}(h:RootP L)(j:Int)(h0:0≤j)(h1:j<L.length):0≤(nd L j).c∧(nd L j).c≤L.length∧∃ e:Int,e≤L.length∧Ms L (j+1) (nd L j).c e:=by
 obtain⟨hl,_,e,he,hk⟩:=Kd.nest h.2 j h0 h1
 exact⟨hl.1,hl.2,e,he,Ms.of (hk.ms (fun _ h=>h) 0 0)⟩
theorem TreeP.root{L:List Nd}{n:Int}(h:TreeP L n):RootP L:=
 ⟨h.1,Ms.cons (by omega) (by omega) (by have:=h.1;omega) (lcP_c h.2.1) (Ms.of (h.2.2.ms (fun _ h=>lcP_c h) 0 0)) (Ms.nil _)⟩
theorem RootP.ends{L:List Nd}{E:List Int}(h:RootP L)(hE:EndsOk L E):getI 0 E 0=L.length:=by
 have h0:=h.1
 have h1:=Ms.cons (c:=1) (by omega) (Int.le_refl 0) (by omega) ⟨(h.node 0 (by omega) (by omega)).1,(h.node 0 (by omega) (by omega)).2.1⟩ (hE.at_ 0 (by omega) (by omega)) (Ms.nil _)
 exact h1.uniq h.2
def mkI(N:Nat)(g:Int→Int):List Int:=(List.range N).map fun j=>g (j:Nat)
theorem mkI_get{N:Nat}{g:Int→Int}(j:Int)(h0:0≤j)(h1:j<N):getI 0 (mkI N g) j=g j:=by
 have:j.toNat<N:=by omega
 simp only [getI,List.getD,mkI,List.getElem?_map,List.getElem?_range this,Option.map_some,Option.getD_some]
 congr 1;omega
def upGo(E:List Int)(i:Int):Nat→Int
 |0=>-1
 |k+1=>if i<getI 0 E k then k else upGo E i k
theorem upGo_spec(E:List Int)(i:Int):∀ n:Nat,(upGo E i n = -1∧∀ k:Int,0≤k→k<n→getI 0 E k≤i)∨(0≤upGo E i n∧upGo E i n<n∧i<getI 0 E (upGo E i n)∧∀ k:Int,upGo E i n<k→k<n→getI 0 E k≤i)
 |0=>.inl ⟨rfl,fun k h1 h2=>by omega⟩
 |n+1=>by
  simp only [upGo]
  split
  ·rename_i h
   exact .inr ⟨by omega,by omega,h,fun k h1 h2=>by omega⟩
  ·rename_i h
   rcases upGo_spec E i n with ⟨h1,h2⟩|⟨h1,h2,h3,h4⟩
   ·refine .inl ⟨h1,fun k h3 h4=>?_⟩
    by_cases hk:k=n
    ·subst hk;omega
    ·exact h2 k h3 (by omega)
   ·refine .inr ⟨h1,by omega,h3,fun k h5 h6=>?_⟩
    by_cases hk:k=n
    ·subst hk;omega
    ·exact h4 k h5 (by omega)
def deepGo(U:List Int):Nat→Int→Int
 |0,_=>1
 |f+1,j=>if getI 0 U j<0 then 1 else deepGo U f (getI 0 U j)+1
theorem deepGo_fuel{L:List Nd}{E U:List Int}(hU:UpsOk L E U):∀ (f f':Nat) (j:Int),0≤j→j<L.length→j≤f→j≤f'→deepGo U f j=deepGo U f' j
 |0,f',j,h0,h1,h2,h3=>by
  have hj:j=0:=by omega
  subst hj
  rcases hU.at_ 0 h0 h1 with ⟨_,h⟩|⟨h,_⟩
  ·cases f' with
   |zero=>rfl
   |succ f'=>simp only [deepGo];rw [if_pos (by omega)]
  ·omega
 |f+1,0,j,h0,h1,h2,h3=>by
  have hj:j=0:=by omega
  subst hj
  rcases hU.at_ 0 h0 h1 with ⟨_,h⟩|⟨h,_⟩
  ·simp only [deepGo];rw [if_pos (by omega)]
  ·omega
 |f+1,f'+1,j,h0,h1,h2,h3=>by
  simp only [deepGo]
  rcases hU.at_ j h0 h1 with ⟨_,h⟩|⟨h,g1,g2,_⟩
  ·rw [if_pos (by omega),if_pos (by omega)]
  ·rw [if_neg (by omega),if_neg (by omega),deepGo_fuel hU f f' _ g1 (by omega) (by omega) (by omega)]
def maxGo(g:Int→Int):Nat→Int
 |0=>0
 |n+1=>max (maxGo g n) (g n)
theorem maxGo_spec(g:Int→Int):∀ n:Nat,(∀ j:Int,0≤j→j<n→0<g j)→(∀ j:Int,0≤j→j<n→g j≤maxGo g n)∧0≤maxGo g n∧(0<n→∃ j:Int,0≤j∧j<n∧g j=maxGo g n)
 |0,_=>⟨fun j h1 h2=>by omega,Int.le_refl _,fun h=>by omega⟩
 |n+1,hp=>by
  obtain⟨h1,h2,h3⟩:=maxGo_spec g n fun j a b=>hp j a (by omega)
  have hn:=hp n (by omega) (by omega)
  simp only [maxGo]
  refine⟨fun j a b=>?_,by omega,fun _=>?_⟩
  ·by_cases hj:j=n
   ·subst hj;omega
   ·have:=h1 j a (by omega);omega
  ·by_cases hm:maxGo g n≤g n
   ·exact⟨n,by omega,by omega,by omega⟩
   ·have:0<n:=by
     rcases Nat.eq_zero_or_pos n with h|h
     ·subst h;simp only [maxGo] at hm;omega
     ·exact h
    obtain⟨j,a,b,c⟩:=h3 this
    exact⟨j,a,by omega,by omega⟩
theorem RootP.all{L:List Nd}(h:RootP L):∃ E U D,EndsOk L E∧UpsOk L E U∧U=mkI L.length (fun i=>upGo E i i.toNat)∧DeepOk L U (maxGo D L.length) D:=by
 obtain⟨g,hg⟩:∃ g:Int→Int,∀ j:Int,0≤j→j<L.length→g j≤L.length∧Ms L (j+1) (nd L j).c (g j):=by
  refine⟨fun j=>Classical.epsilon fun e=>e≤L.length∧Ms L (j+1) (nd L j).c e,fun j h0 h1=>?_⟩
  obtain⟨_,_,e,h2,h3⟩:=h.node j h0 h1
  exact Classical.epsilon_spec (p:=fun e:Int=>e≤L.length∧Ms L (j+1) (nd L j).c e) ⟨e,h2,h3⟩
 have hE:EndsOk L (mkI L.length g):=⟨by simp [mkI],fun i h0 h1=>by rw [mkI_get i h0 h1];exact (hg i h0 h1).2,fun i h0 h1=>by rw [mkI_get i h0 h1];exact (hg i h0 h1).1⟩
 have h00:=h.1
 have hr:=h.ends hE
 generalize mkI L.length g=E at hE hr
 have hU:UpsOk L E (mkI L.length fun i=>upGo E i i.toNat):=by
  refine⟨by simp [mkI],fun j h0 h1=>?_⟩
  rw [mkI_get j h0 h1]
  by_cases hj:j=0
  ·subst hj;exact .inl ⟨rfl,rfl⟩
  ·rcases upGo_spec E j j.toNat with ⟨h2,h3⟩|⟨h2,h3,h4,h5⟩
   ·have:=h3 0 (by omega) (by omega);omega
   ·exact .inr ⟨by omega,h2,by omega,h4,fun k h6 h7=>h5 k h6 (by omega)⟩
 refine⟨E,_,deepGo (mkI L.length fun i=>upGo E i i.toNat) L.length,hE,hU,rfl,?_⟩
 generalize mkI L.length (fun i=>upGo E i i.toNat)=U at hU
 have hup:∀ j:Int,0≤j→j<L.length→(j=0∧deepGo U L.length j=1)∨(0<j∧deepGo U L.length j=deepGo U L.length (getI 0 U j)+1):=by
  intro j h0 h1
  obtain⟨N,hN⟩:∃ N,L.length=N+1:=⟨L.length-1,by omega⟩
  rcases hU.at_ j h0 h1 with ⟨h2,h3⟩|⟨h2,h3,h4,_⟩
  ·refine .inl ⟨h2,?_⟩
   rw [hN];simp only [deepGo];rw [if_pos (by omega)]
  ·refine .inr ⟨h2,?_⟩
   have e:=deepGo_fuel hU N L.length (getI 0 U j) h3 (by omega) (by omega) (by omega)
   rw [←e]
   conv=>lhs;rw [hN]
   simp only [deepGo];rw [if_neg (by omega)]
 have hb:∀ (n:Nat) (j:Int),0≤j→j<L.length→j<n→0<deepGo U L.length j∧deepGo U L.length j≤j+1:=by
  intro n
  induction n with
  |zero=>intro j h0 h1 h2;omega
  |succ n ih=>
   intro j h0 h1 h2
   rcases hup j h0 h1 with ⟨h3,h4⟩|⟨h3,h4⟩
   ·omega
   ·rcases hU.at_ j h0 h1 with ⟨h5,_⟩|⟨_,h5,h6,_⟩
    ·omega
    ·have:=ih (getI 0 U j) h5 (by omega) (by omega);omega
 have hb':=fun j h0 h1=>hb L.length j h0 h1 h1
 obtain⟨m1,m2,m3⟩:=maxGo_spec (deepGo U L.length) L.length fun j a b=>(hb' j a b).1
 exact⟨hup,fun j h0 h1=>⟨m1 j h0 h1,hb' j h0 h1⟩,m3 h00⟩
theorem Has.ends{L:List Nd}{i:Int}(h:Has L i){E:List Int}(hE:EndsOk L E):kidsV L i=kch E (nd L i).c.toNat (i+1):=by
 rw [kidsV,if_pos h,EL_eq hE]
def mineB(L:List Nd)(K:List Int)(t:Int):Bool:=K.all fun k=>!(decide ((nd L k).f≤t) && decide (t<(nd L k).t))
theorem rng_mem{a b x:Int}(h:x∈rng a b):a≤x∧x<b:=by
 simp only [rng,List.mem_map,List.mem_range] at h
 obtain⟨j,hj,rfl⟩:=h
 omega
theorem rng_split{a m b:Int}(h1:a≤m)(h2:m≤b):rng a b=rng a m++rng m b:=by
 have key:∀ (n:Nat) (a:Int),a+n=m→rng a b=rng a m++rng m b:=by
  intro n
  induction n with
  |zero=>intro a h;rw [rng_nil (a:=a) (b:=m) (by omega),show a=m by omega];rfl
  |succ n ih=>
   intro a h
   rw [rng_cons (a:=a) (b:=b) (by omega),rng_cons (a:=a) (b:=m) (by omega),ih (a+1) (by omega)]
   rfl
 exact key (m-a).toNat a (by omega)
theorem Kd.kids_ge{L:List Nd}{n:Int}{E:List Int}(hE:EndsOk L E){p k c d e:Int}(h:Kd L (lcP L n) (pcP L) p k c d e):∀ q∈kch E c.toNat k,d≤(nd L q).f∧0≤q∧q<L.length:=by
 induction h with
 |nil=>intro q hq;simp [kch] at hq
 |cons p k c d m e hc h0 hk h3 h4 h1 h2 i1 i2=>
  intro q hq
  rw [show c.toNat=(c-1).toNat+1 by omega] at hq
  have em:getI 0 E k=m:=Kd.uniq (hE.at_ k h0 hk) h1
  simp only [kch,em] at hq
  rcases List.mem_cons.1 hq with rfl|hq
  ·exact⟨h3.1,h0,hk⟩
  ·have:=i2 q hq
   have h5:(nd L k).f≤(nd L k).t:=h4.2.2.2.2.1
   have:=h3.1
   omega
theorem mine_cons(L:List Nd)(k:Int)(K:List Int)(t:Int):mineB L (k::K) t=(!(decide ((nd L k).f≤t) && decide (t<(nd L k).t)) && mineB L K t):=by
 simp only [mineB,List.all_cons]
theorem mine_all{L:List Nd}{K:List Int}{t d:Int}(h:∀ q∈K,d≤(nd L q).f)(ht:t<d):mineB L K t=true:=by
 simp only [mineB,List.all_eq_true]
 intro q hq
 have:=h q hq
 simp;omega
theorem Kd.own_eq{L:List Nd}{n:Int}{E:List Int}(hE:EndsOk L E){p k c d e:Int}(h:Kd L (lcP L n) (pcP L) p k c d e):d≤(nd L p).t→ownGo L E (nd L p).t c.toNat k d=(rng d (nd L p).t).filter (mineB L (kch E c.toNat k)):=by
 induction h with
 |nil p k d=>
  intro hd
  simp only [Int.toNat_zero,ownGo,kch]
  refine (List.filter_eq_self.2 fun x hx=>?_).symm
  rfl
 |cons p k c d m e hc h0 hk h3 h4 h1 h2 i1 i2=>
  intro hd
  have em:getI 0 E k=m:=Kd.uniq (hE.at_ k h0 hk) h1
  have hge:=h2.kids_ge hE
  have h5:(nd L k).f≤(nd L k).t:=h4.2.2.2.2.1
  obtain⟨h6,h7,h8⟩:=h3
  have i2:=i2 h7
  rw [show c.toNat=(c-1).toNat+1 by omega]
  simp only [ownGo,kch,em]
  rw [show max (max d (nd L k).f) (nd L k).t=(nd L k).t by omega,i2]
  rw [rng_split (a:=d) (m:=(nd L k).f) (b:=(nd L p).t) (by omega) (by omega),rng_split (a:=(nd L k).f) (m:=(nd L k).t) (b:=(nd L p).t) (by omega) (by omega),List.filter_append,List.filter_append]
  have e1:(rng d (nd L k).f).filter (mineB L (k::kch E (c-1).toNat m))=rng d (nd L k).f:=List.filter_eq_self.2 fun x hx=>by
   have:=rng_mem hx
   exact mine_all (d:=(nd L k).f) (fun q hq=>by
    rcases List.mem_cons.1 hq with rfl|hq
    ·omega
    ·have:=hge q hq;omega) (by omega)
  have e2:(rng (nd L k).f (nd L k).t).filter (mineB L (k::kch E (c-1).toNat m))=[]:=List.filter_eq_nil_iff.2 fun x hx=>by
   have:=rng_mem hx
   rw [mine_cons]
   simp;omega
  have e3:(rng (nd L k).t (nd L p).t).filter (mineB L (k::kch E (c-1).toNat m))=(rng (nd L k).t (nd L p).t).filter (mineB L (kch E (c-1).toNat m)):=List.filter_congr fun x hx=>by
   have:=rng_mem hx
   rw [mine_cons]
   have:decide (x<(nd L k).t)=false:=by simp;omega
   simp [this]
  rw [e1,e2,e3,List.nil_append]
theorem Has.kd{L:List Nd}{i:Int}(h:Has L i):∃ e,Kd L (lcP L mostT) (pcP L) i (i+1) (nd L i).c (nd L i).f e∧lcP L mostT i:=by
 obtain⟨ht,h0,h1⟩:=h
 by_cases hi:i=0
 ·subst hi;exact⟨_,ht.2.2,ht.2.1⟩
 ·obtain⟨a,b,e,c,d⟩:=ht.2.2.nest i (by omega) h1
  exact⟨e,d,a⟩
theorem Has.own{L:List Nd}{i:Int}(h:Has L i):ownV L i=(rng (nd L i).f (nd L i).t).filter (mineB L (kidsV L i)):=by
 obtain⟨E,U,D,p1,p2,p3,p4⟩:=h.1.root.all
 obtain⟨e,hk,hl⟩:=h.kd
 rw [ownV,if_pos h,EL_eq p1,h.ends p1]
 exact hk.own_eq p1 hl.2.2.2.2.1
attribute [local irreducible] CH
def InN(L:List Nd)(t j:Int):Prop:=(nd L j).f≤t∧t<(nd L j).t
def OwnsT(L:List Nd)(E:List Int)(t j:Int):Prop:=InN L t j∧∀ q∈kch E (nd L j).c.toNat (j+1),¬ InN L t q
def Just(L:List Nd)(E:List Int)(t k e:Int):Prop:=∃ j0,k≤j0∧j0<e∧OwnsT L E t j0∧(∀ j,k≤j→j<e→OwnsT L E t j→j=j0)∧∀ j,k≤j→j<e→InN L t j→j≤j0
theorem Kd.kids_in{L:List Nd}{n:Int}{E:List Int}(hE:EndsOk L E){p k c d e:Int}(h:Kd L (lcP L n) (pcP L) p k c d e):∀ q∈kch E c.toNat k,d≤(nd L q).f∧(nd L q).t≤(nd L p).t:=by
 induction h with
 |nil=>intro q hq;simp [kch] at hq
 |cons p k c d m e hc h0 hk h3 h4 h1 h2 i1 i2=>
  intro q hq
  rw [show c.toNat=(c-1).toNat+1 by omega] at hq
  have em:getI 0 E k=m:=Kd.uniq (hE.at_ k h0 hk) h1
  simp only [kch,em] at hq
  rcases List.mem_cons.1 hq with rfl|hq
  ·exact⟨h3.1,h3.2.1⟩
  ·have:=i2 q hq
   have h5:(nd L k).f≤(nd L k).t:=h4.2.2.2.2.1
   have:=h3.1
   omega
theorem Kd.owners{L:List Nd}{n t:Int}{E:List Int}(hE:EndsOk L E){p k c d e:Int}(h:Kd L (lcP L n) (pcP L) p k c d e) :
 ((∃ q∈kch E c.toNat k,InN L t q)→Just L E t k e)∧((∀ q∈kch E c.toNat k,¬ InN L t q)→∀ j,k≤j→j<e→¬ InN L t j):=by
 induction h with
 |nil=>exact⟨fun⟨q,hq,_⟩=>by simp [kch] at hq,fun _ j h1 h2=>by omega⟩
 |cons p k c d m e hc h0 hk h3 h4 h1 h2 i1 i2=>
  have em:getI 0 E k=m:=Kd.uniq (hE.at_ k h0 hk) h1
  have hcs:kch E c.toNat k=k::kch E (c-1).toNat m:=by
   rw [show c.toNat=(c-1).toNat+1 by omega];simp only [kch,em]
  rw [hcs]
  have g1:=h1.ge
  have g2:=h2.ge
  have g3:=h1.pos
  have g4:=h2.pos
  have hin:=h1.kids_in hE
  have hre:=h2.kids_in hE
  by_cases hk2:InN L t k
  ·have hrest:∀ j,m≤j→j<e→¬ InN L t j:=i2.2 fun q hq hi=>by
    have:=hre q hq
    obtain⟨a,b⟩:=hk2
    obtain⟨a',b'⟩:=hi
    omega
   refine⟨fun _=>?_,fun hn=>absurd hk2 (hn k List.mem_cons_self)⟩
   by_cases hex:∃ q∈kch E (nd L k).c.toNat (k+1),InN L t q
   ·obtain⟨j0,a1,a2,a3,a4,a5⟩:=i1.1 hex
    refine⟨j0,by omega,by omega,a3,fun j b1 b2 b3=>?_,fun j b1 b2 b3=>?_⟩
    ·by_cases hj:j=k
     ·subst hj
      obtain⟨q,hq,hi⟩:=hex
      exact absurd hi (b3.2 q hq)
     ·by_cases hj2:j<m
      ·exact a4 j (by omega) hj2 b3
      ·exact absurd b3.1 (hrest j (by omega) b2)
    ·by_cases hj:j=k
     ·omega
     ·by_cases hj2:j<m
      ·exact a5 j (by omega) hj2 b3
      ·exact absurd b3 (hrest j (by omega) b2)
   ·have hno:∀ q∈kch E (nd L k).c.toNat (k+1),¬ InN L t q:=fun q hq hi=>hex ⟨q,hq,hi⟩
    have hsub:=i1.2 hno
    refine⟨k,Int.le_refl _,by omega,⟨hk2,hno⟩,fun j b1 b2 b3=>?_,fun j b1 b2 b3=>?_⟩
    ·by_cases hj:j=k
     ·exact hj
     ·by_cases hj2:j<m
      ·exact absurd b3.1 (hsub j (by omega) hj2)
      ·exact absurd b3.1 (hrest j (by omega) b2)
    ·by_cases hj:j=k
     ·omega
     ·by_cases hj2:j<m
      ·exact absurd b3 (hsub j (by omega) hj2)
      ·exact absurd b3 (hrest j (by omega) b2)
  ·have hsub:∀ j,k+1≤j→j<m→¬ InN L t j:=i1.2 fun q hq hi=>hk2 (by
    have:=hin q hq
    obtain⟨a',b'⟩:=hi
    exact⟨by omega,by omega⟩)
   refine⟨fun⟨q,hq,hi⟩=>?_,fun hn j b1 b2 b3=>?_⟩
   ·rcases List.mem_cons.1 hq with rfl|hq
    ·exact absurd hi hk2
    ·obtain⟨j0,a1,a2,a3,a4,a5⟩:=i2.1 ⟨q,hq,hi⟩
     refine⟨j0,by omega,by omega,a3,fun j b1 b2 b3=>?_,fun j b1 b2 b3=>?_⟩
     ·by_cases hj2:m≤j
      ·exact a4 j hj2 b2 b3
      ·by_cases hj:j=k
       ·subst hj;exact absurd b3.1 hk2
       ·exact absurd b3.1 (hsub j (by omega) (by omega))
     ·by_cases hj2:m≤j
      ·exact a5 j hj2 b2 b3
      ·by_cases hj:j=k
       ·subst hj;exact absurd b3 hk2
       ·exact absurd b3 (hsub j (by omega) (by omega))
   ·by_cases hj:j=k
    ·subst hj;exact hk2 b3
    ·by_cases hj2:j<m
     ·exact hsub j (by omega) hj2 b3
     ·exact i2.2 (fun q hq=>hn q (List.mem_cons_of_mem _ hq)) j (by omega) b2 b3
theorem overGo_is{L:List Nd}{t j0:Int}:∀ n:Nat,0≤j0→j0<n→InN L t j0→(∀ j:Int,j0<j→j<n→¬ InN L t j)→overGo L t n=j0
 |0,h0,h1,_,_=>by omega
 |n+1,h0,h1,h2,h3=>by
  simp only [overGo]
  by_cases hj:j0=n
  ·subst hj
   have h2':(nd L n).f≤t∧t<(nd L n).t:=h2
   rw [if_pos h2']
  ·have h2':¬ ((nd L n).f≤t∧t<(nd L n).t):=h3 n (by omega) (by omega)
   rw [if_neg h2']
   exact overGo_is n h0 (by omega) h2 fun j a b=>h3 j a (by omega)
theorem TreeP.owner{L:List Nd}{t:Int}(ht:TreeP L mostT)(h:InN L t 0):∃ j0:Int,0≤j0∧j0<L.length∧overV L t=j0∧∀ j:Int,0≤j→j<L.length→(t∈ownV L j↔j=j0):=by
 obtain⟨E,U,D,p1,p2,p3,p4⟩:=ht.root.all
 have hown:∀ j:Int,0≤j→j<L.length→(t∈ownV L j↔OwnsT L E t j):=fun j h0 h1=>by
  have hh:Has L j:=⟨ht,h0,h1⟩
  rw [hh.own,List.mem_filter,hh.ends p1]
  have hr:t∈rng (nd L j).f (nd L j).t↔InN L t j:=by
   constructor
   ·exact fun h=>rng_mem h
   ·rintro⟨a,b⟩
    simp only [rng,List.mem_map,List.mem_range]
    exact⟨(t-(nd L j).f).toNat,by omega,by omega⟩
  rw [hr]
  simp only [OwnsT,mineB,List.all_eq_true,InN]
  refine and_congr_right fun _=>forall_congr' fun q=>imp_congr_right fun _=>?_
  simp;omega
 have hk:=(ht.2.2.owners (t:=t) p1)
 have h00:=ht.1
 have key:∃ j0:Int,0≤j0∧j0<(L.length:Int)∧OwnsT L E t j0∧(∀ j,0≤j→j<(L.length:Int)→OwnsT L E t j→j=j0)∧∀ j,0≤j→j<(L.length:Int)→InN L t j→j≤j0:=by
  by_cases hex:∃ q∈kch E (nd L 0).c.toNat 1,InN L t q
  ·obtain⟨j0,a1,a2,a3,a4,a5⟩:=hk.1 hex
   refine⟨j0,by omega,a2,a3,fun j b1 b2 b3=>?_,fun j b1 b2 b3=>?_⟩
   ·by_cases hj:j=0
    ·subst hj
     obtain⟨q,hq,hi⟩:=hex
     exact absurd hi (b3.2 q hq)
    ·exact a4 j (by omega) b2 b3
   ·by_cases hj:j=0
    ·omega
    ·exact a5 j (by omega) b2 b3
  ·have hno:∀ q∈kch E (nd L 0).c.toNat 1,¬ InN L t q:=fun q hq hi=>hex ⟨q,hq,hi⟩
   have hsub:=hk.2 hno
   refine⟨0,Int.le_refl _,by omega,⟨h,hno⟩,fun j b1 b2 b3=>?_,fun j b1 b2 b3=>?_⟩
   ·by_cases hj:j=0
    ·exact hj
    ·exact absurd b3.1 (hsub j (by omega) b2)
   ·by_cases hj:j=0
    ·omega
    ·exact absurd b3 (hsub j (by omega) b2)
 obtain⟨j0,a1,a2,a3,a4,a5⟩:=key
 refine⟨j0,a1,a2,?_,fun j b1 b2=>?_⟩
 ·rw [overV,if_pos ht]
  exact overGo_is L.length a1 a2 a3.1 fun j b1 b2 b3=>by have:=a5 j (by omega) b2 b3;omega
 ·rw [hown j b1 b2]
  exact⟨fun h=>a4 j b1 b2 h,fun h=>by subst h;exact a3⟩
theorem rng_lt:∀ (n:Nat) (a b:Int),(b-a).toNat=n→(rng a b).Pairwise (· < ·)
 |0,a,b,h=>by rw [rng_nil (by omega)];exact .nil
 |n+1,a,b,h=>by
  rw [rng_cons (by omega)]
  exact List.pairwise_cons.2 ⟨fun x hx=>by have:=rng_mem hx;omega,rng_lt n (a+1) b (by omega)⟩
theorem Has.own_lt{L:List Nd}{i:Int}(h:Has L i):(ownV L i).Pairwise (· < ·):=by
 rw [h.own]
 exact (rng_lt _ _ _ rfl).filter _
theorem Has.own_len{L:List Nd}{i:Int}(h:Has L i):(ownV L i).length≤131072:=by
 have hl:=h.1.lc i h.2.1 h.2.2
 simp only [lcP,mostT] at hl
 rw [h.own]
 refine Nat.le_trans (List.length_filter_le _ _) ?_
 simp only [rng,List.length_map,List.length_range]
 omega
theorem nodup_take{X:List Int}(h:X.Pairwise (· < ·))(k:Int)(h0:0≤k)(h1:k<X.length):getI 0 X k∉X.take k.toNat:=by
 have e:X=X.take k.toNat++X.drop k.toNat:=(List.take_append_drop _ _).symm
 rw [e] at h
 have:=(List.pairwise_append.1 h).2.2
 intro hm
 have h2:=this _ hm (getI 0 X k) (by rw [drop_get 0 X k h0 h1];exact List.mem_cons_self)
 omega
end Go.Ex.Tr
namespace Go.Ex
open Go.Proofs
def cvN(x:Nde):Tr.Nd:=⟨x.kind,x.kids,x.word,x.frm,x.to⟩
theorem cvN_cells(x:Nde):Tr.ndR.cells (cvN x)=ndeR.cells x:=rfl
theorem Sl.cv{h:Heap}{A:Option Addr}{n:Nat}{xs:List Nde}(hs:Sl ndeR h A n xs):Sl Tr.ndR h A n (xs.map cvN):=by
 refine⟨by rw [List.length_map];exact hs.len_eq,hs.small,fun h0=>?_⟩
 obtain⟨b,o,e,hb,hc⟩:=hs.at_ h0
 refine⟨b,o,e,hb,fun i hi j v hv=>hc i hi j v ?_⟩
 rw [←hv]
 have hl:=hs.len_eq
 have e1:xs.getD i ndeR.dflt=xs[i]'(by omega):=by rw [List.getD_eq_getElem?_getD,List.getElem?_eq_getElem (by omega)];rfl
 have e2:(xs.map cvN).getD i Tr.ndR.dflt=cvN (xs[i]'(by omega)):=by rw [List.getD_eq_getElem?_getD,List.getElem?_map,List.getElem?_eq_getElem (by omega)];rfl
 rw [e1,e2,cvN_cells]
theorem nd_drop{L:List Tr.Nd}{k:Nat}{x:Tr.Nd}{r:List Tr.Nd}(h:L.drop k=x::r):Tr.nd L (k:Int)=x∧k<L.length:=by
 have h1:k<L.length:=by
  rcases Nat.lt_or_ge k L.length with h2|h2
  ·exact h2
  ·rw [List.drop_eq_nil_of_le h2] at h;cases h
 refine⟨?_,h1⟩
 have h2:=List.drop_eq_getElem_cons h1
 rw [h] at h2
 have h3:=(List.cons.inj h2).1
 show getI Tr.ndR.dflt L (k:Int)=x
 unfold getI
 rw [Int.toNat_natCast,List.getD_eq_getElem?_getD,List.getElem?_eq_getElem h1,h3]
 rfl
theorem drop_more{L:List Tr.Nd}{k:Nat}{xs ys:List Tr.Nd}(h:L.drop k=xs++ys):L.drop (k+xs.length)=ys:=by
 rw [←List.drop_drop,h,List.drop_left]
theorem flatL_le:∀ l:List Nd,l.length≤(flatL l).length
 |[]=>Nat.le_refl _
 |x::r=>by
  have h1:=flatL_le r
  have h2:=flat_pos x
  simp only [flatL,List.length_cons,List.length_append]
  omega
theorem Wel.lc{I:In}{k w f t:Int}{l:List Nd}(h:Wel I (.mk k w f t l)){L:List Tr.Nd}{i:Nat}{r:List Tr.Nd}(hL:L.drop i=(flat (.mk k w f t l)).map cvN++r){n:Int}(hn:I.L≤n):Tr.nd L (i:Int)=⟨k,l.length,w,f,t⟩∧i<L.length∧Tr.lcP L n i:=by
 have h1:L.drop i=⟨k,l.length,w,f,t⟩::((flatL l).map cvN++r):=by rw [hL];simp only [flat,List.map_cons,List.cons_append];rfl
 obtain⟨h2,h3⟩:=nd_drop h1
 refine⟨h2,h3,?_⟩
 unfold Wel at h
 obtain⟨⟨a1,a2,a3,a4⟩,_⟩:=h
 have h4:=congrArg List.length h1
 have h5:=flatL_le l
 simp only [List.length_drop,List.length_cons,List.length_append,List.length_map] at h4
 unfold Tr.lcP
 rw [h2]
 dsimp only
 refine⟨by omega,by omega,by omega,by omega,by omega,by omega,?_⟩
 rcases a4 with ⟨a4,_⟩|⟨a4,_⟩<;>omega
mutual
theorem Wel.kd{I:In}{n:Int}(hn:I.L≤n):∀ (x:Nd),Wel I x→∀ (L:List Tr.Nd) (i:Nat) (r:List Tr.Nd),L.drop i=(flat x).map cvN++r→Tr.Kd L (Tr.lcP L n) (Tr.pcP L) i (i+1) (Tr.nd L i).c (Tr.nd L i).f ((i+(flat x).length:Nat):Int)
 |.mk k w f t l,h,L,i,r,hL=>by
  obtain⟨h1,h2,h3⟩:=h.lc hL hn
  rw [h1]
  dsimp only
  unfold Wel at h
  obtain⟨⟨a1,a2,a3,a4⟩,h5⟩:=h
  have hL2:L.drop (i+1)=(flatL l).map cvN++r:=by
   have h6:L.drop i=[⟨k,l.length,w,f,t⟩]++((flatL l).map cvN++r):=by rw [hL];simp only [flat,List.map_cons,List.cons_append];rfl
   exact drop_more h6
  rcases h5 with h5|h5
  ·have h6:l.length=0:=by rcases h5 with rfl|rfl<;>simpa [ArP,arT] using a3
   have h7:l=[]:=List.eq_nil_of_length_eq_zero h6
   subst h7
   simp only [flat,flatL,List.length_cons,List.length_nil]
   exact Tr.Kd.nil _ _ _
  ·have h6:=WelL.kd hn l w f t h5 L (i+1) i r hL2 (by rw [h1]) (by rw [h1];exact Int.le_refl _)
   have e:i+(flat (.mk k w f t l)).length=i+1+(flatL l).length:=by simp only [flat,List.length_cons];omega
   rw [e]
   exact_mod_cast h6
theorem WelL.kd{I:In}{n:Int}(hn:I.L≤n):∀ (l:List Nd) (w f t:Int),WelL I w l f t→∀ (L:List Tr.Nd) (i p:Nat) (r:List Tr.Nd),L.drop i=(flatL l).map cvN++r→(Tr.nd L p).w=w→t≤(Tr.nd L p).t→Tr.Kd L (Tr.lcP L n) (Tr.pcP L) p i l.length f ((i+(flatL l).length:Nat):Int)
 |[],w,f,t,h,L,i,p,r,hL,hw,ht=>by
  simp only [flatL,List.length_nil]
  exact Tr.Kd.nil _ _ _
 |.mk k w' f' t' l'::rest,w,f,t,h,L,i,p,r,hL,hw,ht=>by
  unfold WelL at h
  obtain⟨b1,b2,b3,b4⟩:=h
  have b5:=b4.le
  have hL1:L.drop i=(flat (.mk k w' f' t' l')).map cvN++((flatL rest).map cvN++r):=by rw [hL];simp only [flatL,List.map_append,List.append_assoc]
  obtain⟨c1,c2,c3⟩:=b3.lc hL1 hn
  have c4:=Wel.kd hn (.mk k w' f' t' l') b3 L i _ hL1
  have hL2:=drop_more hL1
  rw [List.length_map] at hL2
  have c5:=WelL.kd hn rest w t' t b4 L (i+(flat (.mk k w' f' t' l')).length) p r hL2 hw ht
  have e:i+(flatL (.mk k w' f' t' l'::rest)).length=i+(flat (.mk k w' f' t' l')).length+(flatL rest).length:=by simp only [flatL,List.length_append];omega
  rw [e]
  refine Tr.Kd.cons p i ((.mk k w' f' t' l'::rest:List Nd).length:Nat) f _ _ (by simp only [List.length_cons];omega) (by omega) (by omega) ?_ c3 c4 ?_
  ·unfold Tr.pcP
   rw [c1,hw]
   have d1:f≤f':=b1.1
   have d2:w<f'∨t'≤w:=b2
   have d3:t'≤t:=b5
   dsimp only
   exact⟨d1,by omega,by omega⟩
  ·rw [c1]
   dsimp only
   have e2:(((.mk k w' f' t' l'::rest:List Nd).length:Nat):Int)-1=(rest.length:Int):=by simp only [List.length_cons];omega
   rw [e2]
   exact c5
end
theorem tree_flat{I:In}{n:Int}(hn:I.L≤n){x:Nd}(h:Wel I x):Tr.TreeP ((flat x).map cvN) n:=by
 cases x with
 |mk k w f t l=>
  have hL:((flat (.mk k w f t l)).map cvN).drop 0=(flat (.mk k w f t l)).map cvN++[]:=by simp
  obtain⟨h1,h2,h3⟩:=h.lc hL hn
  have h4:=Wel.kd hn _ h _ 0 [] hL
  refine⟨h2,h3,?_⟩
  have e:((0+(flat (.mk k w f t l)).length:Nat):Int)=(((flat (.mk k w f t l)).map cvN).length:Int):=by simp
  rw [←e]
  exact h4
end Go.Ex
namespace Go.Ex
open Go.Proofs
theorem readF_of_ascii(s:ByteArray)(a:Int)(ha:0≤a∧a<s.size)(h:byteI s a<128):readF s a=(byteI s a,1):=by
 have e:Utf8.decode s a.toNat=((byteI s a).toNat,1):=by
  have h1:=get_byte s a.toNat
  rw [Int.toNat_of_nonneg ha.1] at h1
  rw [Lib.decode_at]
  generalize (s.get! a.toNat).toNat=b at h1 ⊢
  unfold Lib.decodeN
  rw [if_pos (by omega)]
  rw [show (byteI s a).toNat=b by omega]
 have h0:=byteI_rng s a
 unfold readF
 rw [if_neg (by omega),e]
 dsimp only
 rw [if_neg (by omega),Int.toNat_of_nonneg h0.1]
 rfl
theorem letter59:¬ LetterF 59=true:=by decide
theorem byteI_sub(s:ByteArray)(a b i:Int)(h0:0≤a)(h1:a≤b)(h2:b≤s.size)(h3:0≤i)(h4:i<b-a):byteI (sub s a b) i=byteI s (a+i):=by
 unfold byteI
 have e:(sub s a b).data.toList=(s.data.toList.drop a.toNat).take (b.toNat-a.toNat):=by
  show (s.extract a.toNat b.toNat).data.toList = _
  rw [ByteArray.data_extract,Array.toList_extract]
 rw [e]
 simp only [List.getD_eq_getElem?_getD]
 rw [List.getElem?_take_of_lt (by omega),List.getElem?_drop]
 rw [show (a+i).toNat=a.toNat+i.toNat by omega]
theorem lexK_semi(s:ByteArray)(a:Int)(ha:0≤a∧a<s.size)(h:byteI s a=59):lexK s a=(9,a+1):=by
 have e:readF s a=(59,1):=by rw [readF_of_ascii s a ha (by omega),h]
 have hp:∀ p:ByteArray,byteI p 0≠59→1≤p.size→¬ HasP (sub s a s.size) p:=by
  intro p h1 h2 h3
  apply h1
  obtain⟨h4,h5⟩:=h3
  have h6:=sub_size s a s.size ha.1 (by omega) (Int.le_refl _)
  have e3:=byteI_sub (sub s a s.size) 0 p.size 0 (Int.le_refl _) (by omega) h4 (Int.le_refl _) (by omega)
  rw [h5] at e3
  rw [e3]
  have e2:=byteI_sub s a s.size 0 ha.1 (by omega) (Int.le_refl _) (Int.le_refl _) (by omega)
  rw [show (0:Int)+0=0 by omega,e2]
  rw [show a+0=a by omega]
  exact h
 unfold lexK
 rw [e]
 dsimp only
 rw [if_neg (by omega),if_neg (by unfold BlankP;omega),if_neg (hp _ (by decide) (by decide)),if_neg (hp _ (by decide) (by decide)),if_neg letter59,if_pos rfl]
def Tile(s:ByteArray):List Tok→Int→Int→Prop
 |[],a,b=>a=b
 |t::r,a,b=>(0≤a∧a<s.size)∧¬ (lexK s a).1=0∧t=⟨(lexK s a).1,a,(lexK s a).2⟩∧Tile s r t.to b
theorem Tile.snoc{s:ByteArray}{t:Tok}{c:Int}:∀ {l:List Tok} {a b:Int},Tile s l a b→Tile s [t] b c→Tile s (l++[t]) a c
 |[],a,b,h,h1=>by rw [show a=b from h];exact h1
 |x::r,a,b,h,h1=>⟨h.1,h.2.1,h.2.2.1,Tile.snoc h.2.2.2 h1⟩
theorem allGo_tile(s:ByteArray):∀ (f:Nat) (acc:List Tok) (a:Int),0≤a→a≤s.size→Tile s acc 0 a→(allGo s f acc a).2.1=0→Tile s (allGo s f acc a).1 0 s.size
 |0,acc,a,h0,h1,h2,h3=>by simp [allGo] at h3
 |f+1,acc,a,h0,h1,h2,h3=>by
  rw [allGo] at h3 ⊢
  split
  ·rw [show a=s.size by omega] at h2
   exact h2
  ·rename_i h4
   rw [if_neg h4] at h3
   split
   ·rename_i h5;rw [if_pos h5] at h3;cases h3
   ·rename_i h5
    rw [if_neg h5] at h3
    have hr:=lexK_rng s a (by omega) h5
    exact allGo_tile s f _ _ (by omega) (by omega) (h2.snoc ⟨by omega,h5,rfl,rfl⟩) h3
theorem allF_tile(s:ByteArray)(h:(allF s).2.1=0):Tile s (allF s).1 0 s.size:=by
 unfold allF at h ⊢
 split
 ·rename_i c;rw [if_pos c] at h;cases h
 ·rename_i c
  rw [if_neg c] at h
  split
  ·rename_i c2;rw [if_pos c2] at h;cases h
  ·rename_i c2
   rw [if_neg c2] at h
   exact allGo_tile s _ [] 0 (Int.le_refl _) (by omega) rfl h
theorem Tile.get{s:ByteArray}:∀ {l:List Tok} {a b:Int},Tile s l a b→∀ (i:Nat),i<l.length→(if i=0 then (getI tokR.dflt l (i:Int)).frm=a else (getI tokR.dflt l (i:Int)).frm=(getI tokR.dflt l ((i:Int)-1)).to)
 |[],a,b,h,i,hi=>by simp at hi
 |t::r,a,b,h,0,hi=>by
  rw [if_pos rfl]
  show t.frm=a
  rw [h.2.2.1]
 |t::r,a,b,h,i+1,hi=>by
  rw [if_neg (by omega)]
  have h1:=Tile.get h.2.2.2 i (by simpa using hi)
  have e1:getI tokR.dflt (t::r) ((i+1:Nat):Int)=getI tokR.dflt r (i:Int):=by unfold getI;rw [show ((i+1:Nat):Int).toNat=i+1 by omega,show ((i:Nat):Int).toNat=i by omega];rfl
  rw [e1]
  split at h1
  ·rename_i h2
   subst h2
   rw [h1]
   rfl
  ·rename_i h2
   rw [h1]
   congr 1
   unfold getI
   rw [show ((i:Int)-1).toNat=i-1 by omega,show (((i+1:Nat):Int)-1).toNat=(i-1)+1 by omega]
   rfl
theorem Tile.last{s:ByteArray}:∀ {l:List Tok} {a b:Int},Tile s l a b→l≠[]→(l.getLastD tokR.dflt).to=b
 |[],a,b,h,h1=>absurd rfl h1
 |[t],a,b,h,_=>h.2.2.2
 |t::u::r,a,b,h,_=>by
  have h1:=Tile.last h.2.2.2 (List.cons_ne_nil _ _)
  exact h1
inductive Rl:Int→List Tok→List Tok→Prop
 |nil (e:Int):Rl e [] []
 |sil (e:Int) (t:Tok) (T al:List Tok) (hs:SilP t.kind) (h:Rl e T al):Rl e T (t::al)
 |semi (e:Int) (T al:List Tok) (h0:0≤e) (h:Rl e T al):Rl e (⟨9,e,e⟩::T) al
 |tok (e:Int) (t:Tok) (T al:List Tok) (hs:¬ SilP t.kind) (h:Rl t.to T al):Rl e (t::T) (t::al)
theorem flush_yes{acc:List Tok}{e:Int}(h:0≤e):flushS (acc,e)=(acc++[⟨9,e,e⟩],-1):=by
 show (if 0≤e then acc++[⟨9,e,e⟩] else acc,-1) = _
 rw [if_pos h]
theorem flush_no{acc:List Tok}{e:Int}(h:¬ 0≤e):flushS (acc,e)=(acc,-1):=by
 show (if 0≤e then acc++[⟨9,e,e⟩] else acc,-1) = _
 rw [if_neg h]
theorem semL_rl(s:ByteArray):∀ (al acc:List Tok) (e p:Int),(∀ t∈al,0≤t.to)→(e = -1∨e=p∧0≤p)→∃ R,(flushS (al.foldl (semStep s) (acc,e))).1=acc++R∧Rl p R al
 |[],acc,e,p,hal,h=>by
  show ∃ R,(flushS (acc,e)).1=acc++R∧Rl p R []
  rcases h with rfl|⟨rfl,h⟩
  ·rw [flush_no (by omega)]
   exact⟨[],by simp,.nil _⟩
  ·rw [flush_yes h]
   exact⟨[⟨9,e,e⟩],rfl,.semi _ _ _ h (.nil _)⟩
 |t::al,acc,e,p,hal,h=>by
  rw [List.foldl_cons]
  by_cases hs:SilP t.kind
  ·by_cases hn:0≤idxB (sub s t.frm t.to) 10
   ·have e1:semStep s (acc,e) t=flushS (acc,e):=by unfold semStep;rw [if_pos hs,if_pos hn]
    rw [e1]
    by_cases c:0≤e
    ·rw [flush_yes c]
     have hp:e=p∧0≤p:=by omega
     obtain⟨R,h1,h2⟩:=semL_rl s al (acc++[⟨9,e,e⟩]) (-1) p (fun t h=>hal t (List.mem_cons_of_mem _ h)) (.inl rfl)
     refine⟨⟨9,e,e⟩::R,?_,?_⟩
     ·rw [h1]
      simp
     ·rw [hp.1]
      exact .semi _ _ _ hp.2 (.sil _ _ _ _ hs h2)
    ·rw [flush_no c]
     obtain⟨R,h1,h2⟩:=semL_rl s al acc (-1) p (fun t h=>hal t (List.mem_cons_of_mem _ h)) (.inl rfl)
     exact⟨R,h1,.sil _ _ _ _ hs h2⟩
   ·have e1:semStep s (acc,e) t=(acc,e):=by unfold semStep;rw [if_pos hs,if_neg hn]
    rw [e1]
    obtain⟨R,h1,h2⟩:=semL_rl s al acc e p (fun t h=>hal t (List.mem_cons_of_mem _ h)) h
    exact⟨R,h1,.sil _ _ _ _ hs h2⟩
  ·have e1:semStep s (acc,e) t=(acc++[t],if EndsP t.kind (sub s t.frm t.to) then t.to else -1):=by unfold semStep;rw [if_neg hs]
   rw [e1]
   have ht:=hal t List.mem_cons_self
   obtain⟨R,h1,h2⟩:=semL_rl s al (acc++[t]) (if EndsP t.kind (sub s t.frm t.to) then t.to else -1) t.to (fun t h=>hal t (List.mem_cons_of_mem _ h)) (by split<;>omega)
   exact⟨t::R,by rw [h1];simp,.tok _ _ _ _ hs h2⟩
theorem semF_rl(s:ByteArray)(h:(semF s).2.1=0)(h2:(semF s).2.2=0):(allF s).2.1=0∧(allF s).2.2=0∧Rl (-1) (semF s).1 (allF s).1:=by
 unfold semF at h h2 ⊢
 split
 ·rename_i c
  have ha:=allF_ok s
  obtain⟨R,h3,h4⟩:=semL_rl s (allF s).1 [] (-1) (-1) (fun t ht=>by have:=ha.1 t ht;omega) (.inl rfl)
  refine⟨c.1,c.2,?_⟩
  show Rl (-1) (semL s (allF s).1) _
  unfold semL
  rw [h3]
  exact h4
 ·rename_i c
  rw [if_neg c] at h h2
  exact absurd ⟨h,h2⟩ c
theorem Rl.mem{e:Int}{T al:List Tok}(h:Rl e T al):∀ t∈T,t∈al∧¬ SilP t.kind∨∃ e,t=⟨9,e,e⟩:=by
 induction h with
 |nil e=>intro t h;cases h
 |sil e t T al hs h ih=>
  intro x hx
  rcases ih x hx with h|h
  ·exact .inl ⟨List.mem_cons_of_mem _ h.1,h.2⟩
  ·exact .inr h
 |semi e T al h0 h ih=>
  intro x hx
  rcases List.mem_cons.1 hx with rfl|hx
  ·exact .inr ⟨e,rfl⟩
  ·exact ih x hx
 |tok e t T al hs h ih=>
  intro x hx
  rcases List.mem_cons.1 hx with rfl|hx
  ·exact .inl ⟨List.mem_cons_self,hs⟩
  ·rcases ih x hx with h|h
   ·exact .inl ⟨List.mem_cons_of_mem _ h.1,h.2⟩
   ·exact .inr h
theorem Tile.mem{s:ByteArray}:∀ {l:List Tok} {a b:Int},Tile s l a b→∀ t∈l,(0≤t.frm∧t.frm<s.size)∧¬ (lexK s t.frm).1=0∧t=⟨(lexK s t.frm).1,t.frm,(lexK s t.frm).2⟩
 |[],a,b,h,t,ht=>by cases ht
 |x::r,a,b,h,t,ht=>by
  rcases List.mem_cons.1 ht with rfl|ht
  ·obtain⟨h1,h2,h3,_⟩:=h
   have e:t.frm=a:=by rw [h3]
   rw [e]
   exact⟨h1,h2,h3⟩
  ·exact Tile.mem h.2.2.2 t ht
end Go.Ex
namespace Go.Ex
open Go.Proofs
theorem sih40:Tryz.prog.stoodInHeld 40=false:=by kernel_rfl
theorem egt40:Tryz.prog.eqGuardType Tryz.prog.depth 40=false:=by kernel_rfl
theorem fld40 : Tryz.prog.fieldsOf 40 = #[{ name := "Kind", type := 5, offset := 0, embedded := false, tag := "", pkgPath := "", byteOffset := 0 }, { name := "From", type := 3, offset := 1, embedded := false, tag := "", pkgPath := "", byteOffset := 8 },
 { name := "To", type := 3, offset := 2, embedded := false, tag := "", pkgPath := "", byteOffset := 16 }] := by kernel_rfl
theorem eq40(k1 f1 t1 k2 f2 t2:Int)(w:World):(Op.equalIn 10000 40 (.agg #[.int .u8 k1,.int .i64 f1,.int .i64 t1]) (.agg #[.int .u8 k2,.int .i64 f2,.int .i64 t2])).run Tryz.prog w
 = .ok (@decide (k1=k2∧f1=f2∧t1=t2) (Classical.propDecidable _)) w:=by
 have h1:Tryz.prog.underlying 40=some (.struct (Tryz.prog.fieldsOf 40)):=by rw [fld40];exact Tryz.underlying40
 have h3:=Tryz.underlying3
 have h5:=Tryz.underlying5
 rw [run_equalIn_agg _ _ _ _ _ h1 sih40,fld40,dec_eq]
 simp [Op.eqFields,part,isAgg,underlying,h3,h5,run_equalIn_int]
 by_cases a:k1=k2<;>by_cases b:f1=f2<;>by_cases c:t1=t2<;>simp [a,b,c]
theorem tk_neq{k1 f1 t1 k2 f2 t2:Int}{κ:KV→Prop}(h:κ (.prop (¬ (k1=k2∧f1=f2∧t1=t2)))) :
 EqK Tryz.prog .neq 40 (.agg [.val (.int .u8 k1),.val (.int .i64 f1),.val (.int .i64 t1)]) (.agg [.val (.int .u8 k2),.val (.int .i64 f2),.val (.int .i64 t2)]) κ:=⟨_,fun u v w=>by
 show (do eqGuard .neq 40 u v (.agg #[.int .u8 k1,.int .i64 f1,.int .i64 t1]) (.agg #[.int .u8 k2,.int .i64 f2,.int .i64 t2]);binOp .neq 40 (.agg #[.int .u8 k1,.int .i64 f1,.int .i64 t1]) (.agg #[.int .u8 k2,.int .i64 f2,.int .i64 t2]):Sem Value).run Tryz.prog w = _
 simp only [Sem.run_bind,run_eqGuard_agg _ _ _ _ _ _ _ egt40,Result.andThen_ok,run_neq_struct,eq40]
 simp [denC,dec_eq],h⟩
theorem Rl.semi_inv{e:Int}{x:Tok}{T al:List Tok}(h:Rl e (x::T) al)(ha:∀ t∈al,t.frm<t.to)(hx:x.frm=x.to):x=⟨9,e,e⟩∧0≤e∧Rl e T al:=by
 generalize hT:x::T=T0 at h
 induction h with
 |nil e=>cases hT
 |sil e t T1 al hs h ih=>
  obtain⟨h1,h2,h3⟩:=ih (fun t h=>ha t (List.mem_cons_of_mem _ h)) hT
  exact⟨h1,h2,.sil _ _ _ _ hs h3⟩
 |semi e T1 al h0 h ih=>cases hT;exact⟨rfl,h0,h⟩
 |tok e t T1 al hs h ih=>
  cases hT
  have:=ha x List.mem_cons_self
  omega
theorem Rl.sil_inv{e:Int}{x t:Tok}{T al:List Tok}(h:Rl e (x::T) (t::al))(hx:¬ x.frm=x.to)(ht:SilP t.kind):Rl e (x::T) al:=by
 cases h with
 |sil _ _ _ _ hs h=>exact h
 |semi _ _ _ h0 h=>exact absurd rfl hx
 |tok _ _ _ _ hs h=>exact absurd ht hs
theorem Rl.tok_inv{e:Int}{x t:Tok}{T al:List Tok}(h:Rl e (x::T) (t::al))(hx:¬ x.frm=x.to)(ht:¬ SilP t.kind):t=x∧Rl x.to T al:=by
 cases h with
 |sil _ _ _ _ hs h=>exact absurd hs ht
 |semi _ _ _ h0 h=>exact absurd rfl hx
 |tok _ _ _ _ hs h=>exact⟨rfl,h⟩
theorem Rl.not_nil{e:Int}{x:Tok}{T:List Tok}(h:Rl e (x::T) [])(hx:¬ x.frm=x.to):False:=by
 cases h with
 |semi _ _ _ h0 h=>exact absurd rfl hx
theorem Rl.end_inv{e:Int}{t:Tok}{al:List Tok}(h:Rl e [] (t::al)):SilP t.kind∧Rl e [] al:=by
 cases h with
 |sil _ _ _ _ hs h=>exact⟨hs,h⟩
theorem drop_cons(T:List Tok)(i:Nat)(hi:i<T.length):T.drop i=getI tokR.dflt T (i:Int)::T.drop (i+1):=by
 rw [List.drop_eq_getElem_cons hi]
 congr 1
 unfold getI
 rw [Int.toNat_natCast,List.getD_eq_getElem?_getD,List.getElem?_eq_getElem hi]
 rfl
def posT(s:ByteArray)(al:List Tok)(i:Nat):Int:=if i<al.length then (getI tokR.dflt al (i:Int)).frm else s.size
theorem tile_pos{s:ByteArray}{al:List Tok}(h:Tile s al 0 s.size):posT s al 0=0∧∀ i:Nat,i<al.length→(getI tokR.dflt al (i:Int)).frm=posT s al i∧(getI tokR.dflt al (i:Int)).to=posT s al (i+1):=by
 refine⟨?_,fun i hi=>⟨?_,?_⟩⟩
 ·unfold posT
  split
  ·rename_i c
   have:=h.get 0 c
   rwa [if_pos rfl] at this
  ·rename_i c
   have:al=[]:=List.eq_nil_of_length_eq_zero (by omega)
   subst this
   exact h.symm
 ·unfold posT
  rw [if_pos hi]
 ·unfold posT
  split
  ·rename_i c
   have:=h.get (i+1) c
   rw [if_neg (by omega)] at this
   rw [this,show (((i+1:Nat):Int)-1)=(i:Int) by omega]
  ·rename_i c
   have h1:=h.last (by intro e;subst e;simp at hi)
   rw [←h1]
   congr 1
   have e:i=al.length-1:=by omega
   unfold getI
   rw [Int.toNat_natCast,e,List.getLastD_eq_getLast?,List.getLast?_eq_getElem?,List.getD_eq_getElem?_getD]
theorem sub_app(s:ByteArray)(a b:Int)(h0:0≤a)(h1:a≤b)(h2:b≤s.size):sub s 0 a++sub s a b=sub s 0 b:=by
 apply ByteArray.ext
 apply Array.ext'
 rw [ByteArray.data_append]
 simp only [ByteArray.data_extract,Array.toList_append,Array.toList_extract,List.extract_eq_take_drop]
 simp only [Int.toNat_zero,Nat.sub_zero,List.drop_zero]
 rw [←List.take_append_drop a.toNat (List.take b.toNat s.data.toList),List.take_take,Nat.min_eq_left (by omega),List.drop_take]
theorem sub_zero(s:ByteArray):sub s 0 0=⟨#[]⟩:=ByteArray.ext (by rw [ByteArray.data_extract];simp)
theorem sub_all(s:ByteArray):sub s 0 s.size=s:=ext_all s
open Tr in
theorem Kd_in{L:List Tr.Nd}{n:Int}{p k c d e:Int}(h:Tr.Kd L (lcP L n) (pcP L) p k c d e):(nd L p).f≤d→∀ j,k≤j→j<e→(nd L p).f≤(nd L j).f∧(nd L j).t≤(nd L p).t:=by
 induction h with
 |nil p k d=>intro _ j h1 h2;omega
 |cons p k c d m e hc h0 hk h3 h4 h1 h2 i1 i2=>
  intro hd j hj1 hj2
  have a1:d≤(nd L k).f:=h3.1
  have a2:(nd L k).t≤(nd L p).t:=h3.2.1
  have a3:(nd L k).f≤(nd L k).t:=h4.2.2.2.2.1
  by_cases hjm:j<m
  ·by_cases hjk:j=k
   ·subst hjk;omega
   ·have:=i1 (Int.le_refl _) j (by omega) hjm
    omega
  ·exact i2 (by omega) j (by omega) hj2
open Tr in
theorem TreeP_in{L:List Tr.Nd}{n:Int}(h:Tr.TreeP L n)(j:Int)(h0:0≤j)(h1:j<L.length):(nd L 0).f≤(nd L j).f∧(nd L j).t≤(nd L 0).t:=by
 by_cases hj:j=0
 ·subst hj;omega
 ·exact Kd_in h.2.2 (Int.le_refl _) j (by omega) h1
open Tr in
theorem TreeP_up{L:List Tr.Nd}{n:Int}(h:Tr.TreeP L n)(hn:n≤131072):Tr.TreeP L mostT:=by
 obtain⟨a,b,c⟩:=h
 have up:∀ i,lcP L n i→lcP L mostT i:=fun i h=>by simp only [lcP,mostT] at h ⊢;omega
 exact⟨a,up _ b,c.mono up (fun _ _ _ h=>h) _⟩
open Tr in
theorem own_in{L:List Tr.Nd}{i t:Int}(h:Has L i)(ht:t∈ownV L i):InN L t i:=by
 rw [h.own] at ht
 exact rng_mem (List.mem_filter.1 ht).1
noncomputable def occ(L:List Tr.Nd)(t:Int):Nat→Int
 |0=>0
 |i+1=>occ L t i+if t∈Tr.ownV L (i:Int) then 1 else 0
theorem occ_rng(L:List Tr.Nd)(t:Int):∀ i,0≤occ L t i∧occ L t i≤i
 |0=>by simp [occ]
 |i+1=>by
  have:=occ_rng L t i
  simp only [occ]
  split<;>omega
open Tr in
theorem occ_in{L:List Tr.Nd}{n t:Int}(h:Tr.TreeP L n)(hn:n≤131072)(hi:InN L t 0):occ L t L.length=1:=by
 obtain⟨j0,h1,h2,_,h3⟩:=(TreeP_up h hn).owner hi
 have key:∀ i:Nat,i≤L.length→occ L t i=if j0<i then 1 else 0:=by
  intro i
  induction i with
  |zero=>intro _;rw [if_neg (by omega)];rfl
  |succ i ih=>
   intro hle
   have h4:=h3 i (by omega) (by omega)
   simp only [occ]
   rw [ih (by omega)]
   by_cases e:(i:Int)=j0
   ·rw [if_pos (h4.2 e),if_neg (by omega),if_pos (by omega)];rfl
   ·rw [if_neg (fun q=>e (h4.1 q))]
    by_cases e2:j0<i
    ·rw [if_pos e2,if_pos (by omega)];rfl
    ·rw [if_neg e2,if_neg (by omega)];rfl
 rw [key L.length (Nat.le_refl _),if_pos h2]
open Tr in
theorem occ_out{L:List Tr.Nd}{n t:Int}(h:Tr.TreeP L n)(hn:n≤131072)(hi:¬ InN L t 0):∀ i:Nat,i≤L.length→occ L t i=0
 |0,_=>rfl
 |i+1,hle=>by
  simp only [occ]
  rw [occ_out h hn hi i (by omega),if_neg ?_]
  ·rfl
  ·intro hm
   have hh:Has L i:=⟨TreeP_up h hn,by omega,by omega⟩
   have h1:=own_in hh hm
   have h2:=TreeP_in h i (by omega) (by omega)
   exact hi ⟨by have:=h1.1;omega,by have:=h1.2;omega⟩
theorem nd_map(N:List Nde)(i:Int)(h0:0≤i)(h1:i<N.length):Tr.nd (N.map cvN) i=cvN (getI ndeR.dflt N i):=by
 show getI Tr.ndR.dflt (N.map cvN) i = _
 unfold getI
 simp only [List.getD_eq_getElem?_getD,List.getElem?_map]
 rw [List.getElem?_eq_getElem (by omega)]
 rfl
open Tr in
theorem own_lt_n{L:List Tr.Nd}{n:Int}(h:Tr.TreeP L n)(hn:n≤131072){i t:Int}(h0:0≤i)(h1:i<L.length)(ht:t∈ownV L i):0≤t∧t<n:=by
 have h2:=own_in ⟨TreeP_up h hn,h0,h1⟩ ht
 have h3:=h.lc i h0 h1
 unfold InN at h2
 unfold lcP at h3
 omega
open Tr in
theorem own_nodup{L:List Tr.Nd}{n:Int}(h:Tr.TreeP L n)(hn:n≤131072){i:Int}(h0:0≤i)(h1:i<L.length):(ownV L i).Pairwise (· < ·):=Has.own_lt ⟨TreeP_up h hn,h0,h1⟩
theorem take_snocI(K:List Int)(n:Nat)(h1:n<K.length):K.take (n+1)=K.take n++[getI 0 K (n:Int)]:=by
 rw [List.take_succ_eq_append_getElem h1]
 congr 1
 unfold getI
 rw [Int.toNat_natCast,List.getD_eq_getElem?_getD,List.getElem?_eq_getElem h1]
 rfl
theorem count_one{X K:List Int}{g:Int→Int}{n j:Nat}(hX:X.length=n)(hj:j<K.length)(hK:∀ t∈K,0≤t∧t<(n:Int))(hd:K.Pairwise (· < ·))(h:∀ t:Nat,t<n→getI 0 X (t:Int)=g t+if (t:Int)∈K.take j then 1 else 0) :
 ∀ t:Nat,t<n→getI 0 (X.set (getI 0 K (j:Int)).toNat (getI 0 X (getI 0 K (j:Int))+1)) (t:Int)=g t+if (t:Int)∈K.take (j+1) then 1 else 0:=by
 intro t ht
 have hm:getI 0 K (j:Int)∈K:=getI_mem _ _ _ (by omega) (by omega)
 have hr:=hK _ hm
 rw [getI_set X 0 (getI 0 K (j:Int)) (t:Int) _ hr.1 (by omega) (by omega)]
 have hnd:=Tr.nodup_take hd (j:Int) (by omega) (by omega)
 rw [Int.toNat_natCast] at hnd
 rw [take_snocI K j hj]
 by_cases e:(t:Int)=getI 0 K (j:Int)
 ·rw [if_pos e]
  have h2:=h (getI 0 K (j:Int)).toNat (by omega)
  rw [Int.toNat_of_nonneg hr.1,if_neg hnd] at h2
  rw [h2,if_pos (by rw [e];simp),e]
  omega
 ·rw [if_neg e,h t ht]
  by_cases e2:(t:Int)∈K.take j
  ·rw [if_pos e2,if_pos (by simp [e2])]
  ·rw [if_neg e2,if_neg (by simp [e2,e])]
theorem word_semi{s:ByteArray}(h:nestE s=0∧nestA s=0){i:Int}(hw:word (inS s) i=(⟨#[59]⟩:ByteArray)):(getI tokR.dflt (nestT s) i).kind=9:=by
 have hq:=wq (inS s) hw (by decide)
 obtain⟨h0,h1,_⟩:=hq
 have hm:getI tokR.dflt (nestT s) i∈nestT s:=getI_mem _ _ _ h0 h1
 have hsem:(semF s).2.1=0∧(semF s).2.2=0∧nestT s=(semF s).1:=by
  obtain⟨h2,h3⟩:=h
  unfold nestE nestF at h2
  unfold nestT nestF
  split at h2
  ·rename_i c
   rw [if_pos c] at *
   split at h2
   ·rename_i c2
    rw [if_pos c2]
    exact⟨c.1,c.2,rfl⟩
   ·rename_i c2
    exact absurd h2 c2
  ·rename_i c
   unfold nestA nestF at h3
   rw [if_neg c] at h3
   exact absurd ⟨h2,h3⟩ c
 obtain⟨e1,e2,e3⟩:=semF_rl s hsem.1 hsem.2.1
 rw [←hsem.2.2] at e3
 rcases e3.mem _ hm with ⟨hm2,hs⟩|⟨e,he⟩
 ·have ht:=(allF_tile s e1).mem _ hm2
  obtain⟨t1,t2,t3⟩:=ht
  have hok:=allF_ok s
  have hr:=hok.1 _ hm2
  unfold word at hw
  rw [if_neg (by omega)] at hw
  split at hw
  ·rename_i c;exact c
  ·split at hw
   ·have hz:(sub s (getI tokR.dflt (nestT s) i).frm (getI tokR.dflt (nestT s) i).to)=(⟨#[59]⟩:ByteArray):=hw
    have hb:byteI s (getI tokR.dflt (nestT s) i).frm=59:=by
     have hsz:=sub_size s (getI tokR.dflt (nestT s) i).frm (getI tokR.dflt (nestT s) i).to (by omega) (by omega) (by omega)
     have:=byteI_sub s (getI tokR.dflt (nestT s) i).frm (getI tokR.dflt (nestT s) i).to 0 (by omega) (by omega) (by omega) (Int.le_refl _) (by omega)
     rw [hz] at this
     rw [show (getI tokR.dflt (nestT s) i).frm=(getI tokR.dflt (nestT s) i).frm+0 by omega,←this]
     rfl
    have:=lexK_semi s _ t1 hb
    rw [this] at t3
    rw [t3]
   ·exact absurd hw (by decide)
 ·rw [he]
end Go.Ex
