/-
  Top: TopComments: whatever the input, the law answers true (part 42)
-/
import Derived.Test.YtpjdgifhhnjclaaGreatDoorM41
set_option linter.unusedVariables false
set_option linter.unusedSimpArgs false
set_option maxHeartbeats 4000000
set_option maxRecDepth 10000
namespace Go.Ex
open Go.Proofs
def CE(p:M8)(k:Nat)(up:Option Addr)(nth:Int)(s:Value):List Value:=[.int .u8 p.kind,.int .i64 p.kids,.string p.word,.int .i64 k,.pointer up,.int .i64 nth,s]
def kO(ka:List (Nat×Nat))(k:Nat):Nat×Nat:=ka.getD k (0,0)
def Ur(kd:List Nat)(a:Nat×Nat):Value:=.slice (if kd=[] then none else some ⟨a.1,0,none⟩) kd.length (if kd=[] then 0 else a.2)
structure Kl(h:A3)(L:List M8)(B:List Bn)(i:Nat)(bs:List Nat)(ka:List (Nat×Nat))(base:Nat):Prop where
 bl:bs.length=i
 kl:ka.length=i
 node:∀ k,k<i→h[bs.getD k 0]?=some (.cells (CE (H3 L k) k (Mf bs (E4 B k).up) (E4 B k).nth (Ur (E4 B k).kids (kO ka k))).toArray 117 (0,0))
 arr:∀ k,k<i→(E4 B k).kids≠[]→C7 h (kO ka k).1 (.arr 112 E1 ((E4 B k).kids.map (nd bs)) (kO ka k).2)
 bnd:∀ k k',k<i→k'<i→k≠k'→bs.getD k 0≠bs.getD k' 0
 and_:∀ k k',k<i→k'<i→k≠k'→(E4 B k).kids≠[]→(E4 B k').kids≠[]→(kO ka k).1≠(kO ka k').1
 lob:∀ k,k<i→base≤bs.getD k 0
 loa:∀ k,k<i→(E4 B k).kids≠[]→base≤(kO ka k).1
structure Uq(h:A3)(B:List Bn)(i:Nat)(bs:List Nat)(ka:List (Nat×Nat))(base:Nat)(q:Nat)(ys:List (Option Addr))(n:Nat):Prop where
 qat:C7 h q (.arr 112 E1 ys n)
 qln:ys.length=n
 qge:∀ k,k<i→ys[k]?=some (nd bs k)
 qlo:base≤q
 qne:∀ k,k<i→(E4 B k).kids≠[]→(kO ka k).1≠q
structure CQ(h:A3)(B:List Bn)(st:List Nat)(i:Nat)(bs:List Nat)(ka:List (Nat×Nat))(base:Nat)(o oc:Nat)(xs:List (Option Addr))(q:Nat):Prop where
 oat:C7 h o (.arr 112 E1 xs oc)
 ost:xs.take st.length=st.reverse.map (nd bs)
 oln:st.length≤xs.length
 olo:base≤o
 one:∀ k,k<i→(E4 B k).kids≠[]→(kO ka k).1≠o
 qo:q≠o
theorem S7{h:A3}{b T:Nat}{τ:Type}{R:Y7 τ}{xs:List τ}{c:Nat}(hc:C7 h b (.arr T R xs c)):∃ d,h[b]?=some (.cells d T (0,0)):=by
 obtain⟨d,h1,_⟩:=hc
 exact⟨d,h1⟩
theorem qZ{h:A3}{b b':Nat}{c c':Array Value}(h1:h[b]?=some (.cells c 117 (0,0)))(h2:h[b']?=some (.cells c' 112 (0,0))):b≠b':=fun e=>by
 subst e
 rw [h1] at h2
 cases h2
theorem I4{h:A3}{b:Nat}{o:Obj}(h1:h[b]?=some o):b<h.size:=(Array.getElem?_eq_some_iff.1 h1).1
theorem Zs{bs:List Nat}{b k:Nat}(hk:k<bs.length):nd (bs++[b]) k=nd bs k:=by
 show some (Addr.mk _ _ _)=some (Addr.mk _ _ _)
 rw [List.getD_eq_getElem?_getD,List.getD_eq_getElem?_getD,List.getElem?_append_left hk]
theorem fC(bs:List Nat)(b:Nat):(bs++[b]).getD bs.length 0=b:=by
 rw [List.getD_eq_getElem?_getD,List.getElem?_append_right (Nat.le_refl _),Nat.sub_self]
 rfl
theorem gI{bs:List Nat}{b k:Nat}(hk:k<bs.length):(bs++[b]).getD k 0=bs.getD k 0:=by
 rw [List.getD_eq_getElem?_getD,List.getD_eq_getElem?_getD,List.getElem?_append_left hk]
theorem Qf{bs:List Nat}{b:Nat}{u:Int}(hu:u<bs.length):Mf (bs++[b]) u=Mf bs u:=by
 unfold Mf
 split
 ·rfl
 ·exact Zs (by omega)
theorem Oh{bs:List Nat}{b:Nat}{l:List Nat}(hl:∀ k∈l,k<bs.length):l.map (nd (bs++[b]))=l.map (nd bs):=List.map_congr_left fun k hk=>Zs (hl k hk)
theorem Dy{x:Bs}{i j:Nat}{r:List Nat}(hl:x.B.length=i)(hj:j<i):E4 (oK x i (j::r)).B i=⟨j,(E4 x.B j).kids.length,[]⟩∧E4 (oK x i (j::r)).B j=⟨(E4 x.B j).up,(E4 x.B j).nth,(E4 x.B j).kids++[i]⟩∧∀ k,k<i→k≠j→E4 (oK x i (j::r)).B k=E4 x.B k:=by
 have hpl:(dG x.B j i).length=i:=by rw [Fc,hl]
 refine⟨?_,?_,fun k hk hkj=>?_⟩
 ·have:=tS (B:=dG x.B j i) (x:=⟨j,(E4 x.B j).kids.length,[]⟩)
  rw [hpl] at this
  exact this
 ·show E4 (dG x.B j i++[_]) j = _
  rw [gR (by rw [hpl];exact hj),Dk (by omega)]
 ·show E4 (dG x.B j i++[_]) k = _
  rw [gR (by rw [hpl];exact hk),Ck (Ne.symm hkj)]
theorem Ax{ka:List (Nat×Nat)}{j:Nat}{v w:Nat×Nat}(hj:j<ka.length):kO (ka.set j v++[w]) j=v∧∀ k,k<ka.length→k≠j→kO (ka.set j v++[w]) k=kO ka k:=by
 unfold kO
 refine⟨?_,fun k hk hkj=>?_⟩
 ·rw [List.getD_eq_getElem?_getD,List.getElem?_append_left (by rw [List.length_set];exact hj),List.getElem?_set_self hj]
  rfl
 ·rw [List.getD_eq_getElem?_getD,List.getD_eq_getElem?_getD,List.getElem?_append_left (by rw [List.length_set];exact hk),List.getElem?_set_ne (Ne.symm hkj)]
theorem Vr{ys:List (Option Addr)}{i:Nat}{v:Option Addr}(hi:i<ys.length):(ys.set i v)[i]?=some v∧∀ k,k≠i→(ys.set i v)[k]?=ys[k]?:=
 ⟨List.getElem?_set_self hi,fun k hk=>List.getElem?_set_ne (Ne.symm hk)⟩
theorem Kl.step{h h':A3}{L:List M8}{x:Bs}{i base:Nat}{bs:List Nat}{ka:List (Nat×Nat)}{o oc q n:Nat}{xs ys:List (Option Addr)}{j:Nat}{r:List Nat}
 (hB:Kl h L x.B i bs ka base) (hQ:Uq h x.B i bs ka base q ys n) (hO:CQ h x.B x.st i bs ka base o oc xs q) (hx:EA L x i) (hp:kH L x.B x.st=j::r) (hin:i<n) (hbase:base≤h.size)
 {cap:List Nat} {ch:L8} (hs:HS ⟨h,cap,ch⟩ h') (hcap:∀ b∈cap,b=o∨b=q∨b=bs.getD j 0∨((E4 x.B j).kids≠[]∧b=(kO ka j).1))
 {b7 a' ac' o' oc' k7 k1 k2 k3 k4:Nat} {cs7 csj:List KV} {xs' xs2:List (Option Addr)}
 (c7:(k7,b7,D8.box 117 cs7)∈ch) (hc7:cs7.map A0=CE (H3 L i) i (nd bs j) ((E4 x.B j).kids.length:Int) (.slice none 0 0)) (h7:h.size≤b7)
 (c1:(k1,bs.getD j 0,D8.box 117 csj)∈ch) (hc1:csj.map A0=CE (H3 L j) j (Mf bs (E4 x.B j).up) (E4 x.B j).nth (.slice (some ⟨a',0,none⟩) ((E4 x.B j).kids.length+1) ac'))
 (c2:(k2,a',D8.arr 112 E1 xs2 ac')∈ch) (hx2:xs2=(E4 x.B j).kids.map (nd bs)++[some ⟨b7,0,none⟩]) (h2:h.size≤a'∨((E4 x.B j).kids≠[]∧a'=(kO ka j).1))
 (c3:(k3,o',D8.arr 112 E1 xs' oc')∈ch) (hxs:xs'=(j::r).reverse.map (nd bs)++[some ⟨b7,0,none⟩]) (h3:h.size≤o'∨o'=o)
 (c4:(k4,q,D8.arr 112 E1 (ys.set i (some ⟨b7,0,none⟩)) n)∈ch) (hk23:k2≠k3) (hk24:k2≠k4) (hk34:k3≠k4) :
 Kl h' L (hJ L x i).B (i+1) (bs++[b7]) (ka.set j (a',ac')++[(0,0)]) base∧Uq h' (hJ L x i).B (i+1) (bs++[b7]) (ka.set j (a',ac')++[(0,0)]) base q (ys.set i (some ⟨b7,0,none⟩)) n∧CQ h' (hJ L x i).B (hJ L x i).st (i+1) (bs++[b7]) (ka.set j (a',ac')++[(0,0)]) base o' oc' xs' q:=by
 obtain⟨qq,p1,_,_,_⟩:=jB (L:=L) (B:=x.B) x.st
 rw [hp] at p1
 have hst:∀ k∈j::r,k<i:=fun k hk=>hx.st k (by rw [p1];exact List.mem_append_right _ hk)
 have hj:j<i:=hst j (List.mem_cons_self ..)
 have e0:hJ L x i=oK x i (j::r):=by unfold hJ;rw [hp]
 rw [e0]
 obtain⟨a1,a2,a3⟩:=Dy (r:=r) hx.len hj
 have hS:(oK x i (j::r)).st=i::j::r:=rfl
 obtain⟨s1,s2⟩:=Ax (ka:=ka) (v:=(a',ac')) (w:=(0,0)) (show j<ka.length by rw [hB.kl];exact hj)
 rw [hB.kl] at s2
 have hbl:=hB.bl
 have hby:i<ys.length:=by rw [hQ.qln];exact hin
 obtain⟨y1,y2⟩:=Vr (v:=some ⟨b7,0,none⟩) hby
 generalize hB':(oK x i (j::r)).B=B' at *
 have g7:=(hs.chunk _ c7).2.2
 have g1:=(hs.chunk _ c1).2.2
 have g2:=(hs.chunk _ c2).2.2
 rw [hx2] at g2
 have g3:=(hs.chunk _ c3).2.2
 have g4:=(hs.chunk _ c4).2.2
 simp only [C7] at g7 g1
 rw [hc7] at g7
 rw [hc1] at g1
 have n23:a'≠o':=K6 hs.apart c2 c3 fun e=>hk23 (congrArg Prod.fst e)
 have n24:a'≠q:=K6 hs.apart c2 c4 fun e=>hk24 (congrArg Prod.fst e)
 have n34:o'≠q:=K6 hs.apart c3 c4 fun e=>hk34 (congrArg Prod.fst e)
 obtain⟨od,ho⟩:=S7 hO.oat
 obtain⟨qd,hq⟩:=S7 hQ.qat
 have hndi:nd (bs++[b7]) i=some ⟨b7,0,none⟩:=by
  show some (Addr.mk _ _ _) = _
  rw [←hbl,fC]
 have kidlt:∀ k,k<i→∀ m∈(E4 x.B k).kids,m<bs.length:=fun k hk m hm=>by rw [hbl];exact (hx.kid k hk m hm).2
 have uplt:∀ k,k<i→(E4 x.B k).up<bs.length:=fun k hk=>by
  rcases hx.up k hk with ⟨u,_⟩|⟨m,_,u,hm,_⟩<;>omega
 have fnode:∀ k,k<i→k≠j→h'[bs.getD k 0]?=h[bs.getD k 0]?:=fun k hk hkj=>by
  have hn:=hB.node k hk
  refine hs.frame _ (I4 hn) fun hm=>?_
  rcases hcap _ hm with e|e|e|⟨e0,e⟩
  ·exact qZ hn ho e
  ·exact qZ hn hq e
  ·exact hB.bnd k j hk hj hkj e
  ·obtain⟨d,hd⟩:=S7 (hB.arr j hj e0)
   exact qZ hn hd e
 have farr:∀ k,k<i→k≠j→(E4 x.B k).kids≠[]→h'[(kO ka k).1]?=h[(kO ka k).1]?:=fun k hk hkj hne=>by
  obtain⟨d,hd⟩:=S7 (hB.arr k hk hne)
  refine hs.frame _ (I4 hd) fun hm=>?_
  rcases hcap _ hm with e|e|e|⟨e0,e⟩
  ·exact hO.one k hk hne e
  ·exact hQ.qne k hk hne e
  ·exact qZ (hB.node j hj) hd e.symm
  ·exact hB.and_ k j hk hj hkj hne e0 e
 have alt:∀ k,k<i→(E4 x.B k).kids≠[]→(kO ka k).1<h.size:=fun k hk hne=>by
  obtain⟨d,hd⟩:=S7 (hB.arr k hk hne)
  exact I4 hd
 have aj:∀ k,k<i→k≠j→(E4 x.B k).kids≠[]→(kO ka k).1≠a':=fun k hk hkj hne e=>by
  rcases h2 with h2|⟨e0,h2⟩
  ·have:=alt k hk hne;omega
  ·exact hB.and_ k j hk hj hkj hne e0 (e.trans h2)
 have ne_i:∀ k,k<i→(E4 B' k).kids≠[]→k=j∨k≠j∧(E4 x.B k).kids≠[]:=fun k hk hne=>by
  by_cases e:k=j
  ·exact .inl e
  ·rw [a3 k hk e] at hne
   exact .inr ⟨e,hne⟩
 have no_i:(E4 B' i).kids=[]:=by rw [a1]
 refine⟨⟨?_,?_,?_,?_,?_,?_,?_,?_⟩,⟨?_,?_,?_,?_,?_⟩,⟨?_,?_,?_,?_,?_,?_⟩⟩
 ·rw [List.length_append,hbl];rfl
 ·rw [List.length_append,List.length_set,hB.kl];rfl
 ·intro k hk
  by_cases e1:k=i
  ·subst e1
   rw [a1]
   rw [show (bs++[b7]).getD k 0=b7 by rw [←hbl,fC],g7]
   have e2:Mf (bs++[b7]) (j:Int)=nd bs j:=by
    rw [Qf (by omega)]
    unfold Mf
    rw [if_neg (by omega),Int.toNat_natCast]
   rw [e2]
   rfl
  by_cases e2:k=j
  ·subst e2
   rw [a2,s1,gI (by omega),g1]
   rw [Qf (uplt k hj)]
   have e3:Ur ((E4 x.B k).kids++[i]) (a',ac') = .slice (some ⟨a',0,none⟩) ((E4 x.B k).kids.length+1) ac':=by
    unfold Ur
    rw [if_neg (by simp),if_neg (by simp),List.length_append]
    rfl
   rw [e3]
  ·have hk2:k<i:=by omega
   rw [a3 k hk2 e2,s2 k hk2 e2,gI (by omega),fnode k hk2 e2,hB.node k hk2,Qf (uplt k hk2)]
 ·intro k hk hne
  by_cases e1:k=i
  ·subst e1
   exact absurd no_i hne
  by_cases e2:k=j
  ·subst e2
   rw [a2,s1]
   show C7 h' a' (.arr 112 E1 (((E4 x.B k).kids++[i]).map (nd (bs++[b7]))) ac')
   rw [List.map_append,Oh (kidlt k hj),List.map_cons,List.map_nil,hndi]
   exact g2
  ·have hk2:k<i:=by omega
   rw [a3 k hk2 e2] at hne ⊢
   rw [s2 k hk2 e2,Oh (kidlt k hk2)]
   exact (hB.arr k hk2 hne).congr (farr k hk2 e2 hne)
 ·intro k k' hk hk' hne
  by_cases e1:k=i
  ·subst e1
   rw [show (bs++[b7]).getD k 0=b7 by rw [←hbl,fC],gI (by omega)]
   have:=I4 (hB.node k' (by omega))
   omega
  by_cases e2:k'=i
  ·subst e2
   rw [show (bs++[b7]).getD k' 0=b7 by rw [←hbl,fC],gI (by omega)]
   have:=I4 (hB.node k (by omega))
   omega
  ·rw [gI (by omega),gI (by omega)]
   exact hB.bnd k k' (by omega) (by omega) hne
 ·intro k k' hk hk' hne hn hn'
  have hki:k<i:=by
   by_cases e:k=i
   ·subst e;exact absurd no_i hn
   ·omega
  have hki':k'<i:=by
   by_cases e:k'=i
   ·subst e;exact absurd no_i hn'
   ·omega
  rcases ne_i k hki hn with e|⟨e,he⟩
  ·rcases ne_i k' hki' hn' with e'|⟨e',he'⟩
   ·omega
   ·subst e
    rw [s1,s2 k' hki' e']
    exact Ne.symm (aj k' hki' e' he')
  ·rcases ne_i k' hki' hn' with e'|⟨e',he'⟩
   ·subst e'
    rw [s1,s2 k hki e]
    exact aj k hki e he
   ·rw [s2 k hki e,s2 k' hki' e']
    exact hB.and_ k k' hki hki' hne he he'
 ·intro k hk
  by_cases e1:k=i
  ·subst e1
   rw [show (bs++[b7]).getD k 0=b7 by rw [←hbl,fC]]
   omega
  ·rw [gI (by omega)]
   exact hB.lob k (by omega)
 ·intro k hk hn
  have hki:k<i:=by
   by_cases e:k=i
   ·subst e;exact absurd no_i hn
   ·omega
  rcases ne_i k hki hn with e|⟨e,he⟩
  ·subst e
   rw [s1]
   show base≤a'
   rcases h2 with h2|⟨e0,h2⟩
   ·omega
   ·rw [h2];exact hB.loa k hki e0
  ·rw [s2 k hki e]
   exact hB.loa k hki he
 ·exact g4
 ·rw [List.length_set];exact hQ.qln
 ·intro k hk
  by_cases e1:k=i
  ·subst e1;rw [y1,hndi]
  ·rw [y2 k e1,hQ.qge k (by omega),Zs (by omega)]
 ·exact hQ.qlo
 ·intro k hk hn
  have hki:k<i:=by
   by_cases e:k=i
   ·subst e;exact absurd no_i hn
   ·omega
  rcases ne_i k hki hn with e|⟨e,he⟩
  ·subst e;rw [s1];exact n24
  ·rw [s2 k hki e];exact hQ.qne k hki he
 ·exact g3
 ·rw [hS,hxs]
  have e1:(i::j::r).reverse.map (nd (bs++[b7]))=(j::r).reverse.map (nd bs)++[some ⟨b7,0,none⟩]:=by
   rw [List.reverse_cons,List.map_append,Oh (fun k hk=>by rw [hbl];exact hst k (List.mem_reverse.1 hk)),List.map_cons,List.map_nil,hndi]
  rw [e1]
  refine List.take_of_length_le ?_
  simp
 ·rw [hS,hxs]
  simp
 ·rcases h3 with h3|h3
  ·omega
  ·rw [h3];exact hO.olo
 ·intro k hk hn
  have hki:k<i:=by
   by_cases e:k=i
   ·subst e;exact absurd no_i hn
   ·omega
  rcases ne_i k hki hn with e|⟨e,he⟩
  ·subst e;rw [s1];exact n23
  ·rw [s2 k hki e]
   rcases h3 with h3|h3
   ·have:=alt k hki he;omega
   ·rw [h3];exact hO.one k hki he
 ·exact n34.symm
theorem Kl.first{h h':A3}{L:List M8}{base q n:Nat}{ys:List (Option Addr)}(hQ:Uq h [] 0 [] [] base q ys n)(hin:0<n)(hbase:base≤h.size)
 {cap:List Nat} {ch:L8} (hs:HS ⟨h,cap,ch⟩ h') {b7 o' oc' k7 k3 k4:Nat} {cs7:List KV}
 (c7:(k7,b7,D8.box 117 cs7)∈ch) (hc7:cs7.map A0=CE (H3 L 0) 0 none 0 (.slice none 0 0)) (h7:h.size≤b7)
 (c3:(k3,o',D8.arr 112 E1 [some ⟨b7,0,none⟩] oc')∈ch) (h3:h.size≤o')
 (c4:(k4,q,D8.arr 112 E1 (ys.set 0 (some ⟨b7,0,none⟩)) n)∈ch) (hk34:k3≠k4) :
 Kl h' L (cK L 1).B 1 [b7] [(0,0)] base∧Uq h' (cK L 1).B 1 [b7] [(0,0)] base q (ys.set 0 (some ⟨b7,0,none⟩)) n∧CQ h' (cK L 1).B (cK L 1).st 1 [b7] [(0,0)] base o' oc' [some ⟨b7,0,none⟩] q:=by
 have e0:cK L 1=⟨[Ka],[0]⟩:=rfl
 rw [e0]
 have g7:=(hs.chunk _ c7).2.2
 simp only [C7] at g7
 rw [hc7] at g7
 have g3:=(hs.chunk _ c3).2.2
 have g4:=(hs.chunk _ c4).2.2
 have n34:o'≠q:=K6 hs.apart c3 c4 fun e=>hk34 (congrArg Prod.fst e)
 have one:∀ k,k<1→k=0:=fun k hk=>by omega
 have no:∀ k,k<1→(E4 [Ka] k).kids≠[]→False:=fun k hk hn=>by
  rw [one k hk] at hn
  exact hn rfl
 obtain⟨y1,y2⟩:=Vr (v:=some ⟨b7,0,none⟩) (show 0<ys.length by rw [hQ.qln];exact hin)
 refine⟨⟨rfl,rfl,fun k hk=>?_,fun k hk hn=>(no k hk hn).elim,fun k k' hk hk' hne=>absurd ((one k hk).trans (one k' hk').symm) hne,fun k k' hk hk' hne hn=>(no k hk hn).elim,fun k hk=>?_,fun k hk hn=>(no k hk hn).elim⟩,
  ⟨g4,by rw [List.length_set];exact hQ.qln,fun k hk=>?_,hQ.qlo,fun k hk hn=>(no k hk hn).elim⟩,⟨g3,rfl,Nat.le_refl _,by omega,fun k hk hn=>(no k hk hn).elim,n34.symm⟩⟩
 ·rw [one k hk]
  exact g7
 ·rw [one k hk]
  show base≤b7
  omega
 ·rw [one k hk]
  exact y1
theorem Kl.nd{h:A3}{L:List M8}{bs:List Nat}{ka:List (Nat×Nat)}{base:Nat}(hw:Pk.WellL L)(hB:Kl h L (uH L) L.length bs ka base):ND h bs L (uH L):=by
 refine⟨AU hw,fun i hi=>?_⟩
 have h1:=hB.node i hi
 refine⟨_,_,_,h1,?_,?_⟩
 ·by_cases e:(E4 (uH L) i).kids=[]
  ·rw [e]
   exact Sl.nil _ _ _
  ·rw [if_neg e]
   have h2:=hB.arr i hi e
   obtain⟨d,hd⟩:=S7 h2
   have hs:HS ⟨h,[(kO ka i).1],[(0,(kO ka i).1,.arr 112 E1 ((E4 (uH L) i).kids.map (Go.Ex.nd bs)) (kO ka i).2)]⟩ h:=⟨Nat.le_refl _,fun _ _ _=>rfl,fun e he=>by
    have:=List.mem_singleton.1 he
    subst this
    exact⟨I4 hd,.inr (List.mem_singleton.2 rfl),h2⟩,List.pairwise_singleton _ _⟩
   exact Sl.mem hs (List.mem_singleton.2 rfl) (by rw [List.length_map])
 ·by_cases e:(E4 (uH L) i).kids=[]
  ·rw [e]
   exact Nat.zero_le _
  ·rw [if_neg e]
   obtain⟨d,_,_,h3,_⟩:=hB.arr i hi e
   rw [List.length_map] at h3
   exact h3
end Go.Ex
namespace Go.Ex
open Go.Proofs
attribute [local irreducible] CH
def DJ:Nat→Option oP
 |112=>some ⟨E1⟩
 |k=>rep k
theorem HS.take1{h0 h:A3}{cap:List Nat}{ch:L8}(hs:HS ⟨h0,cap,ch⟩ h)(k:Nat){b:Nat}{c:D8}(hb:b<h0.size)(hn:b∉cap)(hc:C7 h0 b c):HS ⟨h0,b::cap,(k,b,c)::ch⟩ h:=by
 have e:=hs.frame b hb hn
 refine⟨hs.size,fun j hj hm=>hs.frame j hj fun q=>hm (List.mem_cons_of_mem _ q),fun x hx=>?_,List.pairwise_cons.2 ⟨fun x hx=>?_,hs.apart⟩⟩
 ·rcases List.mem_cons.1 hx with rfl|hx
  ·exact⟨Nat.lt_of_lt_of_le hb hs.size,.inr (List.mem_cons_self ..),hc.congr e⟩
  ·obtain⟨h1,h2,h3⟩:=hs.chunk x hx
   exact⟨h1,h2.imp id fun q=>List.mem_cons_of_mem _ q,h3⟩
 ·rcases (hs.chunk x hx).2.1 with q|q
  ·exact fun e=>by
    have q1:h0.size≤x.2.1:=q
    have e1:b=x.2.1:=e
    omega
  ·exact fun e=>hn (by rw [show b=x.2.1 from e];exact q)
theorem CP(o oc sz:Nat):Ff (some ⟨o,0,none⟩) oc 0 sz=some ⟨o,0,none⟩:=by
 unfold Ff
 split
 ·rfl
 ·show some (Addr.add ⟨o,0,none⟩ (0*sz)) = _
  rw [bT,Nat.zero_mul]
theorem Ow{L:List M8}(hw:Pk.WellL L){i:Nat}(h0:0<i)(h1:i<L.length):kH L (cK L i).B (cK L i).st≠[]:=by
 have hx:=qT hw i (by omega)
 obtain⟨st0,hs0,hs1⟩:=hw
 have hsome:(Pk.sufS (Pk.kidsL L) 0).isSome=true:=by rw [hs0];rfl
 obtain⟨d1,d2,d3⟩:=He hsome (i:=i) (by rw [nV];omega)
 obtain⟨q,p1,p2,p3,p4⟩:=jB (L:=L) (B:=(cK L i).B) (cK L i).st
 intro e
 rw [e] at p3
 have:=hx.rem h0
 rw [←p3] at this
 simp only [dV] at this
 omega
def tC(L:List M8)(B:List Bn)(j:Nat):Prop:=((E4 B j).kids.length:Int)=(H3 L j).kids
def Mz(L:List M8)(B:List Bn)(l:List Nat)(v:Nat):Prop:=∃ j r,l=j::r∧((v=0∧tC L B j)∨(v=1∧¬ tC L B j∧(E4 B j).kids=[])∨(v=2∧¬ tC L B j∧(E4 B j).kids≠[]))
theorem Sj(L:List M8)(B:List Bn){l:List Nat}(hl:l≠[]):∃ v,Mz L B l v:=by
 match l,hl with
 |j::r,_=>
  by_cases h1:tC L B j
  ·exact⟨0,j,r,rfl,.inl ⟨rfl,h1⟩⟩
  ·by_cases h2:(E4 B j).kids=[]
   ·exact⟨1,j,r,rfl,.inr (.inl ⟨rfl,h1,h2⟩)⟩
   ·exact⟨2,j,r,rfl,.inr (.inr ⟨rfl,h1,h2⟩)⟩
section
variable {S:St}{h:A3}{L:List M8}{B:List Bn}{i base:Nat}{bs:List Nat}{ka:List (Nat×Nat)}{κ:KV→Prop}
theorem Lz{xs:List (Option Addr)}{st l pre:List Nat}{j:Nat}{r:List Nat}(h1:xs.take st.length=st.reverse.map (nd bs))(h2:st=pre++l)(h3:l=j::r):xs[r.length]?=some (nd bs j):=by
 subst h2 h3
 have e:(xs.take (pre++j::r).length)[r.length]?=xs[r.length]?:=List.getElem?_take_of_lt (by simp;omega)
 rw [←e,h1]
 simp [List.getElem?_append_right]
theorem Ua{xs:List (Option Addr)}{st l pre:List Nat}(h1:xs.take st.length=st.reverse.map (nd bs))(h2:st=pre++l):xs.take l.length=l.reverse.map (nd bs):=by
 subst h2
 have e:xs.take l.length=(xs.take (pre++l).length).take l.length:=by
  rw [List.take_take]
  congr 1
  simp
 rw [e,h1,List.reverse_append,List.map_append]
 rw [List.take_append_of_le_length (by simp)]
 exact List.take_of_length_le (by simp)
theorem C1.opF{o oc m:Nat}{xs:List (Option Addr)}(hc:C7 S.h0 o (.arr 112 E1 xs oc))(hcap:S.cap=[]){v:Option Addr}(hv:xs[m]?=some v){j:Int}(hj:j=m)(hk:G8 false (O7 [.pointer v]) κ):C1 S (some ⟨o,0,none⟩) 1 j 0 1 false κ:=by
 obtain⟨d,hd⟩:=S7 hc
 have hs:HS ⟨S.h0,[o],[(0,o,.arr 112 E1 xs oc)]⟩ S.h0:=⟨Nat.le_refl _,fun _ _ _=>rfl,fun e he=>by
  have:=List.mem_singleton.1 he
  subst this
  exact⟨I4 hd,.inr (List.mem_singleton.2 rfl),hc⟩,List.pairwise_singleton _ _⟩
 have hh:D3 E1 S.h0 S.cap (some ⟨o,0,none⟩) xs.length xs:=by rw [hcap];exact D3.start (Sl.mem hs (List.mem_singleton.2 rfl) rfl)
 have hm:=(List.getElem?_eq_some_iff.1 hv).1
 exact C1.held hh rfl (by omega) (by omega) (W7 hv j (by omega)) hk
theorem C1.opO{o oc m:Nat}{xs:List (Option Addr)}(hf:B3 S.ch 304=some (o,.arr 112 E1 xs oc)){v:Option Addr}(hv:xs[m]?=some v){j:Int}(hj:j=m)(hk:G8 false (O7 [.pointer v]) κ):C1 S (some ⟨o,0,none⟩) 1 j 0 1 false κ:=by
 have hm:=(List.getElem?_eq_some_iff.1 hv).1
 exact⟨.inr ⟨304,o,_,112,E1,xs,oc,rfl,hf,rfl,by omega,by omega,_,W7 hv j (by omega),hk⟩⟩
theorem A9.bld(hB:Kl S.h0 L B i bs ka base){k:Nat}(hk0:k<i)(hc:S.cap=[])(f:Nat)(v:Value)(hj:(CE (H3 L k) k (Mf bs (E4 B k).up) (E4 B k).nth (Ur (E4 B k).kids (kO ka k)))[f]?=some v)(hk:G8 false (O7 [v]) κ):A9 S ⟨bs.getD k 0,f,none⟩ 1 false κ:=by
 have h1:=hB.node k hk0
 refine⟨.inl ⟨I4 h1,by rw [hc];exact List.not_mem_nil,rfl,[v],rfl,fun q u hq=>?_,_,N9 _,hk⟩⟩
 cases q with
 |zero=>
  cases hq
  simp only [K5,h1,Nat.add_zero]
  simpa using hj
 |succ q=>cases hq
end
def Py(p:M8)(k:Nat)(up:Option Addr)(nth:Int)(s:Value):List KV:=[.val (.int .u8 p.kind),.val (.int .i64 p.kids),.val (.string p.word),.val (.int .i64 k),.val (.pointer up),.val (.int .i64 nth),.val s]
theorem Nq{ys:List (Option Addr)}{n:Nat}{bs:List Nat}(h1:ys.length=n)(h2:∀ k,k<n→ys[k]?=some (nd bs k)):ys=(List.range n).map (nd bs):=by
 refine List.ext_getElem? fun k=>?_
 by_cases hk:k<n
 ·rw [h2 k hk,List.getElem?_map,List.getElem?_range hk]
  rfl
 ·rw [List.getElem?_eq_none (by omega),List.getElem?_eq_none (by simp;omega)]
def BU(L:List M8)(B:List Bn)(h:A3)(bs:List Nat)(ka:List (Nat×Nat))(o oc:Nat)(xs:List (Option Addr))(q:Nat)(ys:List (Option Addr))(n:Nat)(C:Nat×Nat×D8)(s:List Nat×Nat):St:=match s.2 with
 |0=>⟨h,[],[C]⟩
 |1=>⟨h,[o,q,bs.getD (s.1.headD 0) 0],[(304,o,.arr 112 E1 xs oc),(10,q,.arr 112 E1 ys n),(320,bs.getD (s.1.headD 0) 0,.box 117 (Py (H3 L (s.1.headD 0)) (s.1.headD 0) (Mf bs (E4 B (s.1.headD 0)).up) (E4 B (s.1.headD 0)).nth (.slice none 0 0))),C]⟩
 |_=>⟨h,[o,q,bs.getD (s.1.headD 0) 0,(kO ka (s.1.headD 0)).1],[(304,o,.arr 112 E1 xs oc),(10,q,.arr 112 E1 ys n),(320,bs.getD (s.1.headD 0) 0,.box 117 (Py (H3 L (s.1.headD 0)) (s.1.headD 0) (Mf bs (E4 B (s.1.headD 0)).up) (E4 B (s.1.headD 0)).nth (.slice (some ⟨(kO ka (s.1.headD 0)).1,0,none⟩) (E4 B (s.1.headD 0)).kids.length (kO ka (s.1.headD 0)).2))),(321,(kO ka (s.1.headD 0)).1,.arr 112 E1 ((E4 B (s.1.headD 0)).kids.map (nd bs)) (kO ka (s.1.headD 0)).2),C]⟩
theorem Rr{L:List M8}{B:List Bn}{h h5:A3}{i base:Nat}{bs:List Nat}{ka:List (Nat×Nat)}{o oc q n:Nat}{xs ys:List (Option Addr)}{C:Nat×Nat×D8}{st l:List Nat}{v:Nat}
 (hB:Kl h L B i bs ka base) (hQ:Uq h B i bs ka base q ys n) (hO:CQ h B st i bs ka base o oc xs q) (hl:∀ k∈l,k<i) (hv:Mz L B l v) (hs:HS ⟨h,[],[C]⟩ h5):HS (BU L B h bs ka o oc xs q ys n C (l,v)) h5:=by
 obtain⟨j,r,rfl,hv⟩:=hv
 have hj:=hl j (List.mem_cons_self ..)
 have hn:=hB.node j hj
 obtain⟨od,ho⟩:=S7 hO.oat
 obtain⟨qd,hq⟩:=S7 hQ.qat
 have e1:bs.getD j 0≠o:=qZ hn ho
 have e2:bs.getD j 0≠q:=qZ hn hq
 rcases hv with ⟨rfl,_⟩|⟨rfl,_,hk⟩|⟨rfl,_,hk⟩
 ·exact hs
 ·have c1:C7 h (bs.getD j 0) (.box 117 (Py (H3 L j) j (Mf bs (E4 B j).up) (E4 B j).nth (.slice none 0 0))):=by
   rw [hk] at hn
   exact hn
  exact ((hs.take1 320 (I4 hn) List.not_mem_nil c1).take1 10 (I4 hq) (fun hm=>e2 (List.mem_singleton.1 hm).symm) hQ.qat).take1 304 (I4 ho) (fun hm=>by
   rcases List.mem_cons.1 hm with e|hm
   ·exact hO.qo e.symm
   ·exact e1 (List.mem_singleton.1 hm).symm) hO.oat
 ·have c1:C7 h (bs.getD j 0) (.box 117 (Py (H3 L j) j (Mf bs (E4 B j).up) (E4 B j).nth (.slice (some ⟨(kO ka j).1,0,none⟩) (E4 B j).kids.length (kO ka j).2))):=by
   unfold Ur at hn
   rw [if_neg hk,if_neg hk] at hn
   exact hn
  have c2:=hB.arr j hj hk
  obtain⟨ad,ha⟩:=S7 c2
  exact (((hs.take1 321 (I4 ha) List.not_mem_nil c2).take1 320 (I4 hn) (fun hm=>qZ hn ha (List.mem_singleton.1 hm)) c1).take1 10 (I4 hq) (fun hm=>by
   rcases List.mem_cons.1 hm with e|hm
   ·exact e2 e.symm
   ·exact hQ.qne j hj hk (List.mem_singleton.1 hm).symm) hQ.qat).take1 304 (I4 ho) (fun hm=>by
   rcases List.mem_cons.1 hm with e|hm
   ·exact hO.qo e.symm
   ·rcases List.mem_cons.1 hm with e|hm
    ·exact e1 e.symm
    ·exact hO.one j hj hk (List.mem_singleton.1 hm).symm) hO.oat
structure Bx where
 i:Nat
 h:A3
 bs:List Nat
 ka:List (Nat×Nat)
 o:Nat
 oc:Nat
 xs:List (Option Addr)
 ys:List (Option Addr)
def CY(L:List M8)(x:Bx):Kn:=[(4,match x.i with
 |0=>.val (.slice none 0 0)
 |_+1=>.val (.slice (some ⟨x.o,0,none⟩) (cK L x.i).st.length x.oc)),(13,.val (.int .i64 x.i))]
structure DZ(L:List M8)(h:A3)(q n:Nat)(x:Bx):Prop where
 gr:A5 h x.h
 b:Kl x.h L (cK L x.i).B x.i x.bs x.ka h.size
 qq:Uq x.h (cK L x.i).B x.i x.bs x.ka h.size q x.ys n
 o:0<x.i→CQ x.h (cK L x.i).B (cK L x.i).st x.i x.bs x.ka h.size x.o x.oc x.xs q
theorem Gq(A:Option Addr)(n c:Nat)(L:List M8)(h:A3)(hL:Sl P3 h A n L)(hn:n≤1000000000)(hw:Pk.WellL L) :
 CH Tryz.prog 51 #[.slice A n c] h fun v h'=>(∃ bs q,v = .slice (some ⟨q,0,none⟩) n n∧Sl E1 h' (some ⟨q,0,none⟩) n ((List.range n).map (nd bs))∧ND h' bs L (uH L)∧h.size≤q)∧A5 h h':=by
 refine enter (rep:=DJ) (m:=1) (ex:=[0,2,3,4,5,6,7,11,12,13,14,47,55]) (cu:=[]) tO Tryz.func51 rfl (by decide) (rs:=[.tmp 2]) rfl rfl [.val (.slice A n c)] rfl ?_
 have hlen:=hL.len_eq
 ((repeat' (conv=>whnf);first|(refine VC.mk (by (first|omega|(and_intros<;>first|omega|rfl|(simp only [maxLen];omega)))) ?_)|(refine E5.mk ?_;intro b hb)|fail);all_goals try conv=>whnf)
 rename Nat=>q
 refine gG tO [4,13] (CY L) (fun x=>⟨x.h,[],[]⟩) (fun μ x=>x.i+μ=n∧DZ L h q n x) ?_
 conv=>whnf
 refine⟨fun h5 hs=>⟨n,⟨0,h5,[],[],0,0,[],List.replicate n none⟩,⟨Nat.zero_add _,hs.grows,?_,?_,fun h0=>absurd h0 (Nat.lt_irrefl 0)⟩,?_,HS.start _⟩,?_⟩
 ·exact⟨rfl,rfl,fun k hk=>absurd hk (Nat.not_lt_zero _),fun k hk=>absurd hk (Nat.not_lt_zero _),fun k _ hk=>absurd hk (Nat.not_lt_zero _),fun k _ hk=>absurd hk (Nat.not_lt_zero _),fun k hk=>absurd hk (Nat.not_lt_zero _),fun k hk=>absurd hk (Nat.not_lt_zero _)⟩
 ·exact⟨(hs.chunk _ (List.Mem.head _)).2.2,List.length_replicate,fun k hk=>absurd hk (Nat.not_lt_zero _),by assumption,fun k hk=>absurd hk (Nat.not_lt_zero _)⟩
 ·(repeat (refine And.intro ⟨_,rfl,by first|rfl|(simp [B0,A1,A0];done)⟩ ?_));exact trivial
 rintro μ ⟨i,h1,bs,ka,o,oc,xs,ys⟩ hφ
 refine hφ.elim fun hi hx=>?_
 dsimp only at hi
 have hgr:=hx.gr
 have hB:=hx.b
 have hQ:=hx.qq
 have hO0:=hx.o
 dsimp only at hgr hB hQ hO0
 clear hφ hx
 have hL1:=hL.grows hgr
 have hbk:=qT hw i (by omega)
 have hqlo:h.size≤q:=hQ.qlo
 dsimp only [CY]
 by_cases hin:i<n
 case neg=>
  obtain rfl:i=n:=by omega
  ((repeat' (conv=>whnf);first|(refine Br.mk ?_ ?_<;>intro hb<;>(try replace hb:=nN hb)<;>(try omega))|fail);all_goals try conv=>whnf)
  all_goals first
   |omega
   | (refine⟨fun h' hs=>⟨⟨bs,q,rfl,?_,?_,hqlo⟩,hgr.trans hs.grows⟩⟩
      ·have e:=Nq hQ.qln hQ.qge
       obtain⟨d,hd⟩:=S7 hQ.qat
       have hq:HS ⟨h1,[q],[(0,q,.arr 112 E1 ys i)]⟩ h1:=⟨Nat.le_refl _,fun _ _ _=>rfl,fun e he=>by
        have:=List.mem_singleton.1 he
        subst this
        exact⟨I4 hd,.inr (List.mem_singleton.2 rfl),hQ.qat⟩,List.pairwise_singleton _ _⟩
       have h2:=Sl.mem hq (List.mem_singleton.2 rfl) hQ.qln.symm
       rw [e] at h2
       exact h2.grows hs.grows
      ·subst hlen
       exact (Kl.nd hw hB).later hs.grows)
 have hpl:O1 A:=hL1.plain (by omega)
 have hqlt:q<h1.size:=by
  obtain⟨d,hd⟩:=S7 hQ.qat
  exact I4 hd
 have hyl:=hQ.qln
 cases i with
 |zero=>
  obtain rfl:=List.eq_nil_of_length_eq_zero hB.bl
  obtain rfl:=List.eq_nil_of_length_eq_zero hB.kl
  ((repeat' (conv=>whnf);first|(refine VC.mk (by (first|omega|rfl)) ?_)|(refine Br.mk ?_ ?_<;>intro hb<;>(try replace hb:=nN hb)<;>(try omega))|(refine C1.of (by assumption) rfl rfl (by omega) (by omega) rfl ?_)|(refine E5.mk ?_;intro b hb)|fail);all_goals try conv=>whnf)
  rename Nat=>b7
  have h7:h1.size≤b7:=by assumption
  refine gG tO [4] (fun _:Unit=>[(4,.val (.slice none 0 0))]) (fun _=>⟨h1,[q],[(10,q,.arr 112 E1 ys n),(21,b7,.box 117 (Py (H3 L 0) 0 none 0 (.slice none 0 0)))]⟩) (fun _ _=>True) ?_
  conv=>whnf
  refine⟨fun h5 hs=>⟨0,(),trivial,?_,?_⟩,?_⟩
  ·(repeat (refine And.intro ⟨_,rfl,by first|rfl|(simp [B0,A1,A0];done)⟩ ?_));exact trivial
  ·have hs2:HS ⟨h1,[],[(21,b7,.box 117 (Py (H3 L 0) 0 none 0 (.slice none 0 0)))]⟩ h5:=hs.ren [21] (B4 rfl rfl E8)
   exact hs2.take1 10 hqlt List.not_mem_nil hQ.qat
  rintro ν _ _
  ((repeat' (conv=>whnf);first|(refine Ar.fit (by omega) ?_)|(refine VC.mk (by (first|omega|(and_intros<;>first|omega|rfl|(simp only [maxLen];omega)|(simp only [lL];omega)))) ?_)|(refine Br.mk ?_ ?_<;>intro hb<;>(try (first|omega|contradiction)))|(refine E5.mk ?_;intro b hb)|(refine aH.mk ?_;intro b c hb hbc)|(refine SR.same ?_)|(refine drawn tO mixed (by kernel_rfl) ?_)|fail);all_goals try conv=>whnf)
  all_goals first
   |omega
   | (intro h6 hs
      obtain⟨z1,z2,z3⟩:=Kl.first (L:=L) hQ hin hgr.size hs (k7:=21) (k3:=95) (k4:=10) (by repeat constructor) rfl h7 (by repeat constructor) (by assumption) (by repeat constructor) (by decide)
      refine⟨μ-1,⟨1,h6,_,_,_,_,_,_⟩,⟨by dsimp only;omega,⟨hs.grows_cap hgr (fun c hc=>by rw [List.mem_singleton.1 hc];exact hqlo),z1,z2,fun _=>z3⟩⟩,by omega,?_,HS.start _⟩
      (repeat (refine And.intro ⟨_,rfl,by first|rfl|(simp [B0,A1,A0];done)⟩ ?_));exact trivial)
 |succ i=>
  have hO:=hO0 (by omega)
  have hne:=Ow hw (i:=i+1) (by omega) (by omega)
  obtain⟨x,hxe⟩:∃ x,cK L (i+1)=x:=⟨_,rfl⟩
  have hstep:hJ L x (i+1)=cK L (i+2):=by rw [←hxe];rfl
  ((repeat' (conv=>whnf);first|(refine VC.mk (by (first|omega|rfl)) ?_)|(refine Br.mk ?_ ?_<;>intro hb<;>(try replace hb:=nN hb)<;>(try omega))|(refine C1.of (by assumption) rfl rfl (by omega) (by omega) rfl ?_)|(refine E5.mk ?_;intro b hb)|fail);all_goals try conv=>whnf)
  rename Nat=>b7
  have h7:h1.size≤b7:=by assumption
  rw [hxe] at hB hQ hO hbk hne
  have hox:xs.length≤oc:=by obtain⟨_,_,_,q3,_⟩:=hO.oat;exact q3
  have hocm:oc≤9223372036854775807:=by obtain⟨_,_,_,_,q4,_⟩:=hO.oat;exact q4
  have hol:=hO.oln
  have hstl:=hbk.stl
  refine gG tO [4] (fun s:List Nat×Nat=>[(4,.val (.slice (some ⟨o,0,none⟩) s.1.length oc))]) (BU L x.B h1 bs ka o oc xs q ys n (21,b7,.box 117 (Py (H3 L (i+1)) (i+1) none 0 (.slice none 0 0)))) (fun ν s=>s.1.length=ν∧(∃ pre,x.st=pre++s.1)∧kH L x.B s.1=kH L x.B x.st∧Mz L x.B s.1 s.2) ?_
  conv=>whnf
  refine⟨fun h5 hs=>?_,?_⟩
  ·obtain⟨v,hv⟩:=Sj L x.B (l:=x.st) (fun e=>hne (by rw [e];rfl))
   refine⟨x.st.length,(x.st,v),⟨rfl,⟨[],rfl⟩,rfl,hv⟩,?_,?_⟩
   ·rw [←hxe]
    (repeat (refine And.intro ⟨_,rfl,by first|rfl|(simp [B0,A1,A0];done)⟩ ?_));exact trivial
   ·have hs2:HS ⟨h1,[],[(21,b7,.box 117 (Py (H3 L (i+1)) (i+1) none 0 (.slice none 0 0)))]⟩ h5:=hs.ren [21] (B4 rfl rfl E8)
    exact Rr hB hQ hO hbk.st hv hs2
  rintro ν ⟨l,v⟩ ⟨hl,⟨pre,hpre⟩,hpop,j,r,hjr,hv⟩
  dsimp only at hl hpre hpop hjr hv
  subst hjr
  have hlst:∀ k∈j::r,k<i+1:=fun k hk=>hbk.st k (by rw [hpre];exact List.mem_append_right _ hk)
  have hj:=hlst j (List.mem_cons_self ..)
  have htop:=Lz hO.ost hpre rfl
  have hrl:r.length+1≤xs.length:=by
   have:=(List.getElem?_eq_some_iff.1 htop).1
   omega
  have hfew:=hbk.few j
  have hpo:O1 (some ⟨o,0,none⟩):=⟨o,0,rfl⟩
  have hsl:r.length+1≤x.st.length:=by rw [hpre,List.length_append,List.length_cons];omega
  rcases hv with ⟨rfl,hf⟩|⟨rfl,hf,hk⟩|⟨rfl,hf,hk⟩
  ·unfold tC at hf
   dsimp only [BU,List.headD,List.length]
   ((repeat' (conv=>whnf);first|(refine Ar.fit (by omega) ?_)|(refine VC.mk (by omega) ?_)|(refine Br.mk ?_ ?_<;>intro hb<;>(try replace hb:=nN hb)<;>(try omega))|(refine drawn tO mixed (by kernel_rfl) ?_)|(refine C1.opF hO.oat rfl htop (by omega) ?_)|(refine A9.bld hB hj rfl _ _ rfl ?_)|fail);all_goals try conv=>whnf)
   all_goals first
    |omega
    | (intro h6 hs
       have hp2:kH L x.B r=kH L x.B x.st:=by
        rw [←hpop]
        show _=if _ then _ else _
        rw [if_pos hf]
       have hrn:r≠[]:=fun e=>hne (by rw [←hp2,e];rfl)
       obtain⟨v',hv'⟩:=Sj L x.B hrn
       refine⟨ν-1,(r,v'),⟨by simp only [List.length_cons] at hl;dsimp only;omega,⟨pre++[j],by rw [hpre];simp⟩,hp2,hv'⟩,by simp only [List.length_cons] at hl;omega,?_,Rr hB hQ hO (fun k hk=>hlst k (List.mem_cons_of_mem _ hk)) hv' hs⟩
       refine And.intro ⟨_,rfl,?_⟩ ?_
       ·simp [B0,A1,A0,CP]
       ·(repeat (refine And.intro ⟨_,rfl,by first|rfl|(simp [B0,A1,A0];done)⟩ ?_));exact trivial)
  ·unfold tC at hf
   have hpj:kH L x.B x.st=j::r:=by
    rw [←hpop]
    show (if _ then _ else _) = _
    rw [if_neg hf]
   dsimp only [BU,List.headD,List.length]
   have hk0:(E4 x.B j).kids.length=0:=by rw [hk];rfl
   have hf0:=hf
   rw [hk0] at hf0
   ((repeat' (conv=>whnf);first|(refine C2 (id:=12) (.pl [0,1,2,4,5,6,11] (.alt 3 (.br 7 12 (.pl [8,9] (.bp 10 12 (.on [13] (.pl [14,15] (.on [16] .e))))) (.pl [7,8,9,10] (.on [13] (.pl [14,15] (.on [16] .e))))) (.alt 7 (.pl [8,9] (.alt 3 (.bp 10 12 (.on [13] (.pl [14,15] (.on [16] .e)))) (.alt 10 (.br 3 12 (.on [12,13] (.pl [14,15] (.on [16] .e))) (.bp 3 13 (.pl [14,15] (.on [16] .e)))) (.alt 12 (.pl [10] (.bp 3 13 (.pl [14,15] (.on [16] .e)))) .e)))) (.alt 12 (.pl [7,8,9,10] (.bp 3 13 (.pl [14,15] (.on [16] .e)))) .e)))) (by kernel_rfl) ?_)|(refine Ar.fit (by omega) ?_)|(refine VC.mk (by (first|omega|(and_intros<;>first|omega|rfl|(simp only [maxLen];omega)|(simp only [lL];omega)))) ?_)|(refine Br.mk ?_ ?_<;>intro hb<;>(try replace hb:=nN hb)<;>(try (first|omega|contradiction)))|(refine E5.mk ?_;intro b hb)|(refine aH.mk ?_;intro b c hb hbc)|(refine X0.mk ?_;intro b c hb hbc)|(refine SR.same ?_)|(refine dD.mk ?_ ?_)|(refine dD.mk ?_ ?_)|(refine drawn tO mixed (by kernel_rfl) ?_)|(refine C1.opO rfl htop (by omega) ?_)|(refine A9.mk (.inr ⟨320,117,_,_,rfl,rfl,rfl,?_⟩))|(refine Cj.mk ⟨320,bs.getD j 0,_,rfl,?_⟩)|(refine Iy.mk ⟨304,o,rfl,?_⟩)|fail);all_goals try conv=>whnf)
   all_goals first
    |omega
    | (intro h6 hs
       obtain⟨z1,z2,z3⟩:=Kl.step hB hQ hO hbk hpj hin hgr.size hs (fun c hc=>by simp only [mL,or_false] at hc;rcases hc with e|e|e<;>simp [e]) (k7:=21) (k1:=320) (k2:=89) (k3:=95) (k4:=10) (by repeat constructor) (by rw [hk0];rfl) h7 (by repeat constructor) (by rw [hk0];rfl) (by repeat constructor) (by rw [hk];rfl) (.inl (by assumption)) (by repeat constructor) (by rw [←Ua hO.ost hpre];rfl) (by first|exact .inl (by assumption)|exact Or.imp id And.left (show h1.size≤_∨_=o∧_∈_ from by assumption)) (by repeat constructor) (by decide) (by decide) (by decide)
       rw [hstep] at z1 z2 z3
       refine⟨μ-1,⟨i+2,h6,_,_,_,_,_,_⟩,⟨by dsimp only;omega,⟨hs.grows_cap hgr (fun c hc=>by simp only [mL,or_false] at hc;rcases hc with rfl|rfl|rfl<;>first|exact hO.olo|exact hqlo|exact hB.lob j hj),z1,z2,fun _=>z3⟩⟩,by omega,?_,HS.start _⟩
       refine And.intro ⟨_,rfl,?_⟩ ?_
       ·have e2:(cK L (i+2)).st.length=r.length+2:=by
         rw [←hstep]
         unfold hJ
         rw [hpj]
         rfl
        dsimp only [CY]
        rw [e2]
        rfl
       ·(repeat (refine And.intro ⟨_,rfl,by first|rfl|(simp [B0,A1,A0];done)⟩ ?_));exact trivial)
  ·unfold tC at hf
   have hte:List.take (E4 x.B j).kids.length (List.map (nd bs) (E4 x.B j).kids)=List.map (nd bs) (E4 x.B j).kids:=List.take_of_length_le (by simp)
   have hml:((E4 x.B j).kids.map (nd bs)).length=(E4 x.B j).kids.length:=by rw [List.length_map]
   have hpj:kH L x.B x.st=j::r:=by
    rw [←hpop]
    show (if _ then _ else _) = _
    rw [if_neg hf]
   dsimp only [BU,List.headD,List.length]
   ((repeat' (conv=>whnf);first|(refine C2 (id:=12) (.pl [0,1,2,4,5,6,11] (.alt 3 (.br 7 12 (.pl [8,9] (.bp 10 12 (.on [13] (.pl [14,15] (.on [16] .e))))) (.pl [7,8,9,10] (.on [13] (.pl [14,15] (.on [16] .e))))) (.alt 7 (.pl [8,9] (.alt 3 (.bp 10 12 (.on [13] (.pl [14,15] (.on [16] .e)))) (.alt 10 (.br 3 12 (.on [12,13] (.pl [14,15] (.on [16] .e))) (.bp 3 13 (.pl [14,15] (.on [16] .e)))) (.alt 12 (.pl [10] (.bp 3 13 (.pl [14,15] (.on [16] .e)))) .e)))) (.alt 12 (.pl [7,8,9,10] (.bp 3 13 (.pl [14,15] (.on [16] .e)))) .e)))) (by kernel_rfl) ?_)|(refine Ar.fit (by omega) ?_)|(refine VC.mk (by (first|omega|(and_intros<;>first|omega|rfl|(simp only [maxLen];omega)|(simp only [lL];omega)))) ?_)|(refine Br.mk ?_ ?_<;>intro hb<;>(try replace hb:=nN hb)<;>(try omega))|(refine E5.mk ?_;intro b hb)|(refine X0.mk ?_;intro b c hb hbc)|(refine SR.same ?_)|(refine dD.mk ?_ ?_)|(refine dD.mk ?_ ?_)|(refine drawn tO mixed (by kernel_rfl) ?_)|(refine C1.opO rfl htop (by omega) ?_)|(refine A9.mk (.inr ⟨320,117,_,_,rfl,rfl,rfl,?_⟩))|(refine Cj.mk ⟨320,bs.getD j 0,_,rfl,?_⟩)|(refine Iy.mk ⟨304,o,rfl,?_⟩)|(refine Iy.mk ⟨321,(kO ka j).1,rfl,?_⟩)|fail);all_goals try conv=>whnf)
   all_goals first
    |omega
    | (intro h6 hs
       obtain⟨z1,z2,z3⟩:=Kl.step hB hQ hO hbk hpj hin hgr.size hs (fun c hc=>by simp only [mL,or_false] at hc;rcases hc with e|e|e|e<;>simp [e,hk]) (k7:=21) (k1:=320) (k2:=89) (k3:=95) (k4:=10) (by repeat constructor) rfl h7 (by repeat constructor) rfl (by repeat constructor) (by simp [hte]) (by first|exact .inl (by assumption)|exact Or.imp id (fun q=>⟨hk,q.1⟩) (show h1.size≤_∨_=(kO ka j).1∧_∈_ from by assumption)) (by repeat constructor) (by rw [←Ua hO.ost hpre];rfl) (by first|exact .inl (by assumption)|exact Or.imp id And.left (show h1.size≤_∨_=o∧_∈_ from by assumption)) (by repeat constructor) (by decide) (by decide) (by decide)
       rw [hstep] at z1 z2 z3
       refine⟨μ-1,⟨i+2,h6,_,_,_,_,_,_⟩,⟨by dsimp only;omega,⟨hs.grows_cap hgr (fun c hc=>by simp only [mL,or_false] at hc;rcases hc with rfl|rfl|rfl|rfl<;>first|exact hO.olo|exact hqlo|exact hB.lob j hj|exact hB.loa j hj hk),z1,z2,fun _=>z3⟩⟩,by omega,?_,HS.start _⟩
       refine And.intro ⟨_,rfl,?_⟩ ?_
       ·have e2:(cK L (i+2)).st.length=r.length+2:=by
         rw [←hstep]
         unfold hJ
         rw [hpj]
         rfl
        dsimp only [CY]
        rw [e2]
        rfl
       ·(repeat (refine And.intro ⟨_,rfl,by first|rfl|(simp [B0,A1,A0];done)⟩ ?_));exact trivial)
end Go.Ex
