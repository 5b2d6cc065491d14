/-
  Top: TopComments: whatever the input, the law answers true (part 6)
-/
import Derived.Test.YtpjdgifhhnjclaaGreatDoorM05
set_option linter.unusedVariables false
set_option linter.unusedSimpArgs false
set_option maxHeartbeats 4000000
set_option maxRecDepth 10000
namespace Go.Ex
variable {Df:List Deferred}
abbrev Kt:=Kn→St→Prop
structure Hj where
 ret:Kt
 ext:List (Nat×Kt)
def pK:List (Nat×Kt)→Nat→Kt
 |[],_=>fun _ _=>False
 |(i,κ)::r,j=>match Nat.beq i j with
  |true=>κ
  |false=>pK r j
def jH(E:Value→A3→Prop)(Df:List Deferred)(n:Nat)(w0:World)(X:Hj)(κ:Kt):Exit→Act→World→Prop
 |.normal,a,w=>∃ K S,H9 Df n a K∧SE w0 w∧HS S w.heap∧κ K S
 |.exit i,a,w=>∃ K S,H9 Df n a K∧SE w0 w∧HS S w.heap∧pK X.ext i K S
 |.ret,a,w=>∃ K S,H9 Df n a K∧SE w0 w∧HS S w.heap∧X.ret K S
 |.panic ch,a,w=>∃ v,ch=[{ v:=v,recovered:=false }]∧a.defers=Df∧SE w0 w∧E v w.heap
 |_,_,_=>False
def jS(n:Nat)(d:Option Nat):Bool:=match d with
 |some d=>Nat.blt d n
 |none=>true
def mQ(ops:List Oper)(j:Nat):Option Nat:=match ops,j with
 |[],_=>none
 |o::_,0=>o.dst
 |_::r,j+1=>mQ r j
def Ry(m:Nat)(ex:List Nat)(s:Nat):Bool:=Nat.blt s m || ex.any (Nat.beq s)
def Ix:Kn→Nat→Bool
 |[],_=>false
 |(s,_)::r,t=>Nat.beq s t || Ix r t
def V7(m:Nat)(ex:List Nat):Kn→Kn→(Kn→Prop)→Prop
 |[],acc,κ=>κ acc
 |(s,v)::r,acc,κ=>match Ry m ex s && !(Ix acc s) with
  |true=>V7 m ex r ((s,v)::acc) κ
  |false=>V7 m ex r acc κ
def gH(s:Nat)(want:Bool)(K:Kn)(run skip:Kn→Prop):Prop:=match lk K s with
 |some (.val (.bool true))=>match want with
  |true=>run K
  |false=>skip K
 |some (.val (.bool false))=>match want with
  |true=>skip K
  |false=>run K
 |some (.prop p)=>match want with
  |true=>Br p (run ((s,.val (.bool true))::K)) (skip ((s,.val (.bool false))::K))
  |false=>Br p (skip ((s,.val (.bool true))::K)) (run ((s,.val (.bool false))::K))
 |some (.val (.tuple ⟨[]⟩))=>skip K
 |_=>False
def Ji:Code→Option Nat
 |.region id _ _=>some id
 |.seq a _=>Ji a
 |.block _ c=>Ji c
 |_=>none
def Ie(cu:List Nat)(b:Code):Bool:=match Ji b with
 |some id=>cu.any (Nat.beq id)
 |none=>false
section
variable (P:Program)(ty:Nat→Option gS)(rep:Jj)(n m:Nat)(ex cu:List Nat)
def T(E:Value→A3→Prop)(c:Code)(X:Hj)(κ:Kt)(K:Kn)(S:St):Prop:=∀ (Df:List Deferred) (w0:World) a w,H9 Df n a K→SE w0 w→HS S w.heap→c.wp P (jH E Df n w0 X κ) a w
structure nB(ty:Nat→Option gS)(rep:Jj)(m:Nat)(ex cu:List Nat)(c:Code)(X:Hj)(κ:Kt)(K:Kn)(S:St):Prop where
 go:T P n rep.pan c X κ K S
noncomputable def pV(ops:List Oper)(l:List Oper):Kn→St→Kt→Prop:=List.rec (motive:=fun _=>Kn→St→Kt→Prop) (fun K S κ=>κ K S)
 (fun o _ ih K S κ=>match jS n o.dst with
  |false=>False
  |true=>match o.guard with
   |none=>Yn P ty rep o K S fun v S=>ih (W2 K o.dst v) S κ
   |some (j,want)=>match mQ ops j with
    |none=>False
    |some s=>gH s want K (fun K=>Yn P ty rep o K S fun v S=>ih (W2 K o.dst v) S κ) (fun K=>ih (W2 K o.dst (.val undef)) S κ)) l
noncomputable def J8(c:Code):Hj→Kt→Kn→St→Prop:=Code.rec (motive:=fun _=>Hj→Kt→Kn→St→Prop)
 (fun _ κ K S=>κ K S)
 (fun id ops d X κ K S=>match d with
  |false=>pV P ty rep n ops.toList ops.toList K S κ
  |true=>V7 m ex K [] fun K=>nB P n ty rep m ex cu (.region id ops true) X κ K S)
 (fun a b iha ihb X κ K S=>match Ie cu b with
  |true=>V7 m ex K [] fun K=>nB P n ty rep m ex cu a X (fun K S=>ihb X κ K S) K S
  |false=>iha X (fun K S=>ihb X κ K S) K S)
 (fun c _ _ iha ihb X κ K S=>match H4 K c with
  |some (.val (.bool true))=>V7 m ex K [] fun K=>iha X κ K S
  |some (.val (.bool false))=>V7 m ex K [] fun K=>ihb X κ K S
  |some (.prop p)=>Br p (V7 m ex K [] fun K=>iha X κ K S) (V7 m ex K [] fun K=>ihb X κ K S)
  |_=>False)
 (fun id _ ih X κ K S=>ih ⟨X.ret,(id,κ)::X.ext⟩ κ K S)
 (fun c _ X κ K S=>V7 m ex K [] fun K=>nB P n ty rep m ex cu (.loop c) X κ K S)
 (fun _ _ _ _ _ _ _ _ _ _=>False)
 (fun id X _ K S=>pK X.ext id K S)
 (fun _ ih X κ K S=>ih X κ K S)
 (fun _ _ κ K S=>κ K S)
 (fun _ _ _ _ _=>False)
 (fun X _ K S=>X.ret K S)
 (fun _ _ _ _ _=>False) c
end
section
variable {P:Program}{ty:Nat→Option gS}{rep:Jj}{n m:Nat}{ex cu:List Nat}{S:St}{K:Kn}{X:Hj}{κ:Kt}
theorem xY:∀ {K acc:Kn} {q:Kn→Prop},V7 m ex K acc q→∃ K',q K'∧∀ t v,lk K' t=some v→lk acc t=some v∨(Ix acc t=false∧Ry m ex t=true∧lk K t=some v)
 |[],acc,q,h=>⟨acc,h,fun t v hv=>.inl hv⟩
 |(s,u)::r,acc,q,h=>by
  simp only [V7] at h
  split at h
  ·rename_i hb
   simp only [Bool.and_eq_true,Bool.not_eq_true'] at hb
   obtain⟨K',h1,h2⟩:=xY h
   refine⟨K',h1,fun t v hv=>?_⟩
   rcases h2 t v hv with h3|⟨h3,h4,h5⟩
   ·by_cases e:s=t
    ·subst e
     rw [K9] at h3
     cases h3
     exact .inr ⟨hb.2,hb.1,K9⟩
    ·rw [J3 e] at h3;exact .inl h3
   ·simp only [Ix,Bool.or_eq_false_iff] at h3
    have e:s≠t:=lA h3.1
    exact .inr ⟨h3.2,h4,by rw [J3 e];exact h5⟩
  ·rename_i hb
   obtain⟨K',h1,h2⟩:=xY h
   refine⟨K',h1,fun t v hv=>?_⟩
   rcases h2 t v hv with h3|⟨h3,h4,h5⟩
   ·exact .inl h3
   ·by_cases e:s=t
    ·subst e
     simp [h3,h4] at hb
    ·exact .inr ⟨h3,h4,by rw [J3 e];exact h5⟩
theorem N4{q:Kn→Prop}(h:V7 m ex K [] q):∃ K',q K'∧∀ t v,lk K' t=some v→lk K t=some v:=by
 obtain⟨K',h1,h2⟩:=xY h
 refine⟨K',h1,fun t v hv=>?_⟩
 rcases h2 t v hv with h3|⟨_,_,h3⟩
 ·cases h3
 ·exact h3
theorem Ld{a:Act}{s:Nat}{v:KV}(ha:H9 Df n a K)(h:a.tmps[s]?=some (B0 v)):H9 Df n a ((s,v)::K):=by
 refine⟨ha.size,ha.defers,fun t u hu=>?_⟩
 by_cases e:s=t
 ·subst e;rw [K9] at hu;cases hu;exact h
 ·rw [J3 e] at hu;exact ha.knows t u hu
theorem bK{a:Act}{s:Nat}{want:Bool}{run skip:Kn→Prop}(h:gH s want K run skip)(ha:H9 Df n a K) :
 ∃ K',H9 Df n a K'∧((a.tmps[s]?=some (.bool want)∧run K')∨((a.tmps[s]?=some (.bool !want)∨a.tmps[s]?=some undef)∧skip K')):=by
 unfold gH at h
 split at h
 ·rename_i hl
  have:=ha.knows s _ hl
  cases want
  ·exact⟨K,ha,.inr ⟨.inl this,h⟩⟩
  ·exact⟨K,ha,.inl ⟨this,h⟩⟩
 ·rename_i hl
  have:=ha.knows s _ hl
  cases want
  ·exact⟨K,ha,.inl ⟨this,h⟩⟩
  ·exact⟨K,ha,.inr ⟨.inl this,h⟩⟩
 ·rename_i p hl
  have hp:=ha.knows s _ hl
  by_cases hc:p
  ·have hv:a.tmps[s]?=some (B0 (.val (.bool true))):=by rw [hp];simp [B0,A1,A0,hc]
   have ha':=Ld ha hv
   cases want
   ·exact⟨_,ha',.inr ⟨.inl hv,h.yes hc⟩⟩
   ·exact⟨_,ha',.inl ⟨hv,h.yes hc⟩⟩
  ·have hv:a.tmps[s]?=some (B0 (.val (.bool false))):=by rw [hp];simp [B0,A1,A0,hc]
   have ha':=Ld ha hv
   cases want
   ·exact⟨_,ha',.inl ⟨hv,h.no hc⟩⟩
   ·exact⟨_,ha',.inr ⟨.inl hv,h.no hc⟩⟩
 ·rename_i hl
  exact⟨K,ha,.inr ⟨.inr (ha.knows s _ hl),h⟩⟩
 ·exact h.elim
theorem cI:∀ (ops:List Oper) (j:Nat),mQ ops j=(ops[j]?).bind (·.dst)
 |[],j=>by simp [mQ]
 |o::r,0=>by simp [mQ]
 |o::r,j+1=>by simp [mQ,cI r j]
theorem bA{d:Option Nat}(h:jS n d=true):∀ x,d=some x→x<n:=fun x hx=>by
 subst hx
 simpa [jS] using h
theorem fZ(hty:H6 P ty){ops:List Oper}:∀ (l:List Oper) (K:Kn) (S:St) (κ:Kt),pV P ty rep n ops l K S κ→∀ (w0:World) a w,H9 Df n a K→SE w0 w→HS S w.heap→wpList P ops.toArray (jH rep.pan Df n w0 X κ) l a w
 |[],K,S,κ,h,w0,a,w,ha,he,hs=>⟨K,S,ha,he,hs,h⟩
 |o::r,K,S,κ,h,w0,a,w,ha,he,hs=>by
  have h:(match jS n o.dst with
   |false=>False
   |true=>match o.guard with
    |none=>Yn P ty rep o K S fun v S=>pV P ty rep n ops r (W2 K o.dst v) S κ
    |some (j,want)=>match mQ ops j with
     |none=>False
     |some s=>gH s want K (fun K=>Yn P ty rep o K S fun v S=>pV P ty rep n ops r (W2 K o.dst v) S κ) (fun K=>pV P ty rep n ops r (W2 K o.dst (.val undef)) S κ)):=h
  split at h
  ·exact h.elim
  rename_i hd
  have hd:=bA hd
  have run:∀ K,H9 Df n a K→(Yn P ty rep o K S fun v S=>pV P ty rep n ops r (W2 K o.dst v) S κ)→o.wp P a w (wpList P ops.toArray (jH rep.pan Df n w0 X κ) r) (jH rep.pan Df n w0 X κ):=fun K ha h=>
   eV hty h ha hs (fun v w' he' hE=>⟨v,rfl,ha.defers,he.trans he',hE⟩) fun kv S' w' he' hs' hk=>fZ hty r _ S' κ hk w0 _ w' (ha.put hd kv) (he.trans he') hs'
  split at h
  ·rename_i hg
   unfold wpList
   rw [if_pos (by simp [Region.wanted,hg])]
   exact .inl (run K ha h)
  ·rename_i j want hg
   split at h
   ·exact h.elim
   ·rename_i s hs'
    obtain⟨K',ha',h1|h1⟩:=bK h ha
    ·have hw:Region.wanted o (yielded ops.toArray a.tmps)=true:=by
      have:=h1.1
      rw [cI] at hs'
      simp [Region.wanted,hg,yielded,hs',this]
     unfold wpList
     rw [if_pos hw]
     exact .inl (run K' ha' h1.2)
    ·have hw:Region.wanted o (yielded ops.toArray a.tmps)=false:=by
      rw [cI] at hs'
      rcases h1.1 with this|this
      ·simp [Region.wanted,hg,yielded,hs',this]
      ·simp [Region.wanted,hg,yielded,hs',this,undef]
     unfold wpList
     rw [if_neg (by rw [hw];simp)]
     exact fZ hty r _ S κ h1.2 w0 _ w (ha'.put hd (.val undef)) he hs
theorem mK{i:Nat}{r:List (Nat×Kt)}:pK ((i,κ)::r) i=κ:=by
 simp only [pK];rw [show Nat.beq i i=true from Nat.beq_refl i]
theorem mJ{i j:Nat}{r:List (Nat×Kt)}(h:i≠j):pK ((i,κ)::r) j=pK r j:=by
 have:Nat.beq i j=false:=by
  cases hb:Nat.beq i j
  ·rfl
  ·exact absurd (Qk hb) h
 simp only [pK];rw [this]
theorem Ba(hty:H6 P ty):∀ (c:Code) (X:Hj) (κ:Kt) (K:Kn) (S:St),J8 P ty rep n m ex cu c X κ K S→T P n rep.pan c X κ K S
 |.skip,X,κ,K,S,h=>fun Df w0 a w ha he hs=>wp_skip ⟨K,S,ha,he,hs,h⟩
 |.region id ops false,X,κ,K,S,h=>fun Df w0 a w ha he hs=>by
  have:=fZ (X:=X) hty ops.toList K S κ h w0 a w ha he hs
  exact wp_region_list (by simpa using this)
 |.region id ops true,X,κ,K,S,h=>fun Df w0 a w ha he hs=>by
  obtain⟨K',h1,h2⟩:=N4 h
  exact h1.go Df w0 a w (ha.drop h2) he hs
 |.seq x y,X,κ,K,S,h=>fun Df w0 a w ha he hs=>by
  have h1:x.wp P (jH rep.pan Df n w0 X fun K S=>J8 P ty rep n m ex cu y X κ K S) a w:=by
   have h:(match Ie cu y with
    |true=>V7 m ex K [] fun K=>nB P n ty rep m ex cu x X (fun K S=>J8 P ty rep n m ex cu y X κ K S) K S
    |false=>J8 P ty rep n m ex cu x X (fun K S=>J8 P ty rep n m ex cu y X κ K S) K S):=h
   split at h
   ·obtain⟨K',h1,h2⟩:=N4 h
    exact h1.go Df w0 a w (ha.drop h2) he hs
   ·exact Ba hty x X _ K S h Df w0 a w ha he hs
  refine wp_seq (Code.wp_mono ?_ h1)
  intro e a w hq
  cases e with
  |normal=>obtain⟨K,S,a1,a2,a3,a4⟩:=hq;exact Ba hty y X κ K S a4 Df w0 a w a1 a2 a3
  |exit i=>exact hq
  |ret=>exact hq
  |panic ch=>exact hq
  |goto l=>exact hq
  |outgrown=>exact hq
 |.cond c x y,X,κ,K,S,h=>fun Df w0 a w ha he hs=>by
  have h:(match H4 K c with
   |some (.val (.bool true))=>V7 m ex K [] fun K=>J8 P ty rep n m ex cu x X κ K S
   |some (.val (.bool false))=>V7 m ex K [] fun K=>J8 P ty rep n m ex cu y X κ K S
   |some (.prop p)=>Br p (V7 m ex K [] fun K=>J8 P ty rep n m ex cu x X κ K S) (V7 m ex K [] fun K=>J8 P ty rep n m ex cu y X κ K S)
   |_=>False):=h
  split at h
  ·rename_i hc
   obtain⟨K',h1,h2⟩:=N4 h
   exact wp_cond_true (ha.eval hc) (Ba hty x X κ K' S h1 Df w0 a w (ha.drop h2) he hs)
  ·rename_i hc
   obtain⟨K',h1,h2⟩:=N4 h
   exact wp_cond_false (ha.eval hc) (Ba hty y X κ K' S h1 Df w0 a w (ha.drop h2) he hs)
  ·rename_i p hc
   have hv:=ha.eval hc
   by_cases hp:p
   ·obtain⟨K',h1,h2⟩:=N4 (h.yes hp)
    exact wp_cond_true (by rw [hv];simp [B0,A1,A0,hp]) (Ba hty x X κ K' S h1 Df w0 a w (ha.drop h2) he hs)
   ·obtain⟨K',h1,h2⟩:=N4 (h.no hp)
    exact wp_cond_false (by rw [hv];simp [B0,A1,A0,hp]) (Ba hty y X κ K' S h1 Df w0 a w (ha.drop h2) he hs)
  ·exact h.elim
 |.block id c,X,κ,K,S,h=>fun Df w0 a w ha he hs=>by
  have h1:=Ba hty c _ κ K S h Df w0 a w ha he hs
  refine wp_block (Code.wp_mono ?_ h1)
  intro e a w hq
  cases e with
  |normal=>exact hq
  |exit i=>
   obtain⟨K,S,a1,a2,a3,a4⟩:=hq
   simp only [Exit.inBlock]
   split
   ·rename_i e
    subst e
    rw [mK] at a4
    exact⟨K,S,a1,a2,a3,a4⟩
   ·rename_i e
    rw [mJ (fun e'=>e e'.symm)] at a4
    exact⟨K,S,a1,a2,a3,a4⟩
  |ret=>exact hq
  |panic ch=>exact hq
  |goto l=>exact hq
  |outgrown=>exact hq
 |.loop c,X,κ,K,S,h=>fun Df w0 a w ha he hs=>by
  obtain⟨K',h1,h2⟩:=N4 h
  exact h1.go Df w0 a w (ha.drop h2) he hs
 |.exit id,X,κ,K,S,h=>fun Df w0 a w ha he hs=>wp_exit ⟨K,S,ha,he,hs,h⟩
 |.ret,X,κ,K,S,h=>fun Df w0 a w ha he hs=>wp_ret ⟨K,S,ha,he,hs,h⟩
 |.rangeFunc ..,_,_,_,_,h=>False.elim h
 |.scope c,X,κ,K,S,h=>fun Df w0 a w ha he hs=>by
  refine wp_scope_straight (Code.wp_mono ?_ (Ba hty c X κ K S h Df w0 a w ha he hs))
  intro e a w hq
  cases e<;>exact hq
 |.label l,X,κ,K,S,h=>fun Df w0 a w ha he hs=>wp_label ⟨K,S,ha,he,hs,h⟩
 |.goto ..,_,_,_,_,h=>False.elim h
 |.refuse ..,_,_,_,_,h=>False.elim h
def vE(K:Kn):Kn→Prop
 |[]=>True
 |(t,v)::r=>lk K t=some v∧vE K r
def zB(k:Nat):L8→Bool
 |[]=>true
 |(j,_,_)::r=>!(Nat.beq k j) && zB k r
def X1(ch:L8):L8→Prop
 |[]=>True
 |(k,b,c)::r=>B3 ch k=some (b,c)∧zB k r=true∧X1 ch r
def mR(cs:List Nat):Kn→Kn→(Kn→Prop)→Prop
 |[],acc,κ=>κ acc
 |(s,v)::r,acc,κ=>match cs.any (Nat.beq s) with
  |true=>mR cs r acc κ
  |false=>mR cs r ((s,v)::acc) κ
theorem vE.get:∀ {L:Kn},vE K L→∀ t v,lk L t=some v→lk K t=some v
 |[],_,t,v,h=>by simp [lk] at h
 |(s,u)::r,hh,t,v,h=>by
  by_cases e:s=t
  ·subst e;rw [K9] at h;cases h;exact hh.1
  ·rw [J3 e] at h;exact vE.get hh.2 t v h
theorem pC:∀ {r:L8} {k:Nat},zB k r=true→∀ e∈r,e.1≠k
 |[],k,h,e,he=>by simp at he
 |(j,b,c)::r,k,h,e,he=>by
  simp only [zB,Bool.and_eq_true,Bool.not_eq_true'] at h
  rcases List.mem_cons.1 he with rfl|he
  ·exact fun e'=>lA h.1 e'.symm
  ·exact pC h.2 e he
theorem X1.mem:∀ {L ch:L8},X1 ch L→∀ e∈L,e∈ch
 |[],ch,_,e,he=>by simp at he
 |(k,b,c)::r,ch,h,e,he=>by
  rcases List.mem_cons.1 he with rfl|he
  ·exact fM h.1
  ·exact X1.mem h.2.2 e he
theorem K6{ch:L8}(hp:ch.Pairwise fun e e'=>e.2.1≠e'.2.1){x y:Nat×Nat×D8}(hx:x∈ch)(hy:y∈ch)(hne:x≠y):x.2.1≠y.2.1:=by
 induction ch with
 |nil=>simp at hx
 |cons z l ih=>
  have hp':=List.pairwise_cons.1 hp
  rcases List.mem_cons.1 hx with h1|h1
  ·rcases List.mem_cons.1 hy with h2|h2
   ·exact absurd (h1.trans h2.symm) hne
   ·rw [h1];exact hp'.1 _ h2
  ·rcases List.mem_cons.1 hy with h2|h2
   ·rw [h2];exact fun e=>hp'.1 _ h1 e.symm
   ·exact ih hp'.2 h1 h2
theorem X1.apart:∀ {L ch:L8},X1 ch L→(ch.Pairwise fun e e'=>e.2.1≠e'.2.1)→L.Pairwise fun e e'=>e.2.1≠e'.2.1
 |[],ch,_,_=>.nil
 |(k,b,c)::r,ch,h,hp=>by
  refine List.pairwise_cons.2 ⟨fun e he=>?_,X1.apart h.2.2 hp⟩
  have h1:=pC h.2.1 e he
  exact K6 hp (fM h.1) (X1.mem h.2.2 e he) (fun e'=>h1 (by rw [←e']))
theorem X1.hs{L:L8}{h:A3}(hs:HS S h)(hc:X1 S.ch L):HS ⟨S.h0,S.cap,L⟩ h:=
 ⟨hs.size,hs.frame,fun e he=>hs.chunk e (hc.mem e he),hc.apart hs.apart⟩
theorem X9{cs:List Nat}:∀ {K acc:Kn} {q:Kn→Prop},mR cs K acc q→∃ K0,q K0
 |[],acc,q,h=>⟨acc,h⟩
 |(s,v)::r,acc,q,h=>by
  simp only [mR] at h
  split at h
  ·exact X9 h
  ·exact X9 h
theorem N1(hty:H6 P ty){c:Code}{α:Type}(cs:List Nat)(l:α→Kn)(sc:α→L8)(φ:Nat→α→Prop)(m0:Nat)(x0:α)
 (h:mR cs K [] fun K0=>vE K (l x0++K0)∧X1 S.ch (sc x0)∧φ m0 x0∧∀ μ x,φ μ x →
  J8 P ty rep n m ex cu c X (fun K' S'=>∃ μ' x',φ μ' x'∧μ' < μ∧vE K' (l x'++K0)∧S'.h0=S.h0∧S'.cap=S.cap∧X1 S'.ch (sc x')) (l x++K0) ⟨S.h0,S.cap,sc x⟩) :
 nB P n ty rep m ex cu (.loop c) X κ K S:=⟨fun Df w0 a w ha he hs=>by
 obtain⟨K0,h1,h2,h3,h4⟩:=X9 h
 refine wp_loop_ghost (fun μ a w=>∃ x,φ μ x∧H9 Df n a (l x++K0)∧SE w0 w∧HS ⟨S.h0,S.cap,sc x⟩ w.heap) m0 ⟨x0,h3,ha.drop h1.get,he,h2.hs hs⟩ ?_
 rintro μ a w ⟨x,hx,ha,he,hs⟩
 have:=Ba hty c X _ _ _ (h4 μ x hx) Df w0 a w ha he hs
 refine Code.wp_mono ?_ this
 intro e a w hq
 cases e with
 |normal=>
  obtain⟨K',S',a1,a2,a3,μ',x',b1,b2,b3,b4,b5,b6⟩:=hq
  refine⟨μ',b2,x',b1,a1.drop b3.get,a2,?_⟩
  have:=b6.hs a3
  rwa [b4,b5] at this
 |exit i=>exact hq
 |ret=>exact hq
 |panic ch=>exact hq
 |goto l=>exact hq
 |outgrown=>exact hq⟩
theorem Ad(hty:H6 P ty){c:Code}{α β:Type}(cs:List Nat)(l:α→Kn)(sc:α→L8)(φ:Nat→α→Prop)(m0:Nat)(x0:α)(l2:β→Kn)(sc2:β→L8)(ψ:β→Prop){id:Nat}{κe:Kt}{r:List (Nat×Kt)}{ret:Kt}
 (h:mR cs K [] fun K0=>vE K (l x0++K0)∧X1 S.ch (sc x0)∧φ m0 x0∧(∀ μ x,φ μ x →
  J8 P ty rep n m ex cu c ⟨ret,(id,fun K' S'=>∃ y,ψ y∧vE K' (l2 y++K0)∧S'.h0=S.h0∧S'.cap=S.cap∧X1 S'.ch (sc2 y))::r⟩
   (fun K' S'=>∃ μ' x',φ μ' x'∧μ' < μ∧vE K' (l x'++K0)∧S'.h0=S.h0∧S'.cap=S.cap∧X1 S'.ch (sc x')) (l x++K0) ⟨S.h0,S.cap,sc x⟩)∧∀ y,ψ y→κe (l2 y++K0) ⟨S.h0,S.cap,sc2 y⟩) :
 nB P n ty rep m ex cu (.loop c) ⟨ret,(id,κe)::r⟩ κ K S:=⟨fun Df w0 a w ha he hs=>by
 obtain⟨K0,h1,h2,h3,h4,h5⟩:=X9 h
 refine wp_loop_ghost (fun μ a w=>∃ x,φ μ x∧H9 Df n a (l x++K0)∧SE w0 w∧HS ⟨S.h0,S.cap,sc x⟩ w.heap) m0 ⟨x0,h3,ha.drop h1.get,he,h2.hs hs⟩ ?_
 rintro μ a w ⟨x,hx,ha,he,hs⟩
 have:=Ba hty c _ _ _ _ (h4 μ x hx) Df w0 a w ha he hs
 refine Code.wp_mono ?_ this
 intro e a w hq
 cases e with
 |normal=>
  obtain⟨K',S',a1,a2,a3,μ',x',b1,b2,b3,b4,b5,b6⟩:=hq
  refine⟨μ',b2,x',b1,a1.drop b3.get,a2,?_⟩
  have:=b6.hs a3
  rwa [b4,b5] at this
 |exit i=>
  obtain⟨K',S',a1,a2,a3,a4⟩:=hq
  by_cases hi:id=i
  ·subst hi
   rw [mK] at a4
   obtain⟨y,b1,b2,b3,b4,b5⟩:=a4
   refine⟨_,⟨S.h0,S.cap,sc2 y⟩,a1.drop b2.get,a2,?_,by rw [mK];exact h5 y b1⟩
   have:=b5.hs a3
   rwa [b3,b4] at this
  ·rw [mJ hi] at a4
   exact⟨K',S',a1,a2,a3,by rw [mJ hi];exact a4⟩
 |ret=>exact hq
 |panic ch=>exact hq
 |goto l=>exact hq
 |outgrown=>exact hq⟩
theorem wT(hty:H6 P ty){c:Code}{α:Type}(cs:List Nat)(l:α→Kn)(sc:α→L8)(φ:α→Prop)
 (h:mR cs K [] fun K0=>J8 P ty rep n m ex cu c X (fun K' S'=>∃ x,φ x∧vE K' (l x++K0)∧S'.h0=S.h0∧S'.cap=S.cap∧X1 S'.ch (sc x)) K S∧∀ x,φ x→κ (l x++K0) ⟨S.h0,S.cap,sc x⟩) :
 nB P n ty rep m ex cu c X κ K S:=⟨fun Df w0 a w ha he hs=>by
 obtain⟨K0,h1,h2⟩:=X9 h
 refine Code.wp_mono ?_ (Ba hty c X _ K S h1 Df w0 a w ha he hs)
 intro e a w hq
 cases e with
 |normal=>
  obtain⟨K',S',a1,a2,a3,x,b1,b2,b3,b4,b5⟩:=hq
  refine⟨_,⟨S.h0,S.cap,sc x⟩,a1.drop b2.get,a2,?_,h2 x b1⟩
  have:=b5.hs a3
  rwa [b3,b4] at this
 |exit i=>exact hq
 |ret=>exact hq
 |panic ch=>exact hq
 |goto l=>exact hq
 |outgrown=>exact hq⟩
def mC:Nat→List KV→Kn
 |_,[]=>[]
 |i,v::r=>(i,v)::mC (i+1) r
theorem Gd:∀ (l:List KV) (i t:Nat) (v:KV),lk (mC i l) t=some v→i≤t∧l[t-i]?=some v
 |[],i,t,v,h=>by simp [mC,lk] at h
 |u::r,i,t,v,h=>by
  simp only [mC] at h
  by_cases e:i=t
  ·subst e;rw [K9] at h;cases h;simp
  ·rw [J3 e] at h
   obtain⟨h1,h2⟩:=Gd r (i+1) t v h
   refine⟨by omega,?_⟩
   rw [show t-i=(t-(i+1))+1 by omega,List.getElem?_cons_succ]
   exact h2
theorem fA{args:List KV}{n:Nat}(hn:args.length≤n):H9 [] n { tmps:=(args.map B0).toArray++Array.replicate (n-args.length) undef,defers:=[] } (mC 0 args):=by
 refine⟨by simp;omega,rfl,fun t v h=>?_⟩
 obtain⟨_,h2⟩:=Gd _ _ _ _ h
 simp only [Nat.sub_zero] at h2
 have hlt:t<args.length:=(List.getElem?_eq_some_iff.1 h2).1
 rw [Array.getElem?_append_left (by simpa using hlt)]
 simp [h2]
def rZ(ty:Nat→Option gS):List ResultVar→Kn→St→List KV→(List KV→Prop)→Prop
 |[],_,_,acc,κ=>κ acc.reverse
 |.tmp t::r,K,S,acc,κ=>match lk K t with
  |some v=>BL v fun v=>rZ ty r K S (v::acc) κ
  |none=>False
 |.cell a t::r,K,S,acc,κ=>match lk K a with
  |some p=>Uk ty t p S fun v=>BL v fun v=>rZ ty r K S (v::acc) κ
  |none=>False
def pU:List KV→KV
 |[v]=>v
 |vs=>.tup vs
structure Fin(S:St)(v:KV)(R:Value→A3→Prop):Prop where
 go:∀ h,HS S h→R (B0 v) h
def kS(ty:Nat→Option gS)(rs:List ResultVar)(R:Value→A3→Prop):Kt:=fun K S=>rZ ty rs K S [] fun vs=>fk (pU vs) fun v=>Fin S v R
def rY(tmps:Array Value):ResultVar→Sem Value
 |.tmp t=>pure (tmps.getD t undef)
 |.cell a t=>do loadVar t (←asAddr (tmps.getD a undef))
theorem Qh{t:Nat}{v x:Value}{w:World}(h:(Instr.loadAt t v).run P w = .ok x w):∃ a,v = .pointer (some a)∧(loadVar t a).run P w = .ok x w:=by
 unfold Instr.loadAt at h
 cases v with
 |pointer a=>cases a with
  |none=>simp [Instr.sureAddr,stuck,Sem.run] at h
  |some a=>exact⟨a,rfl,by simpa [Instr.sureAddr] using h⟩
 |_=>simp [Instr.sureAddr,stuck,Sem.run] at h
theorem fX(hty:H6 P ty){a:Act}(ha:H9 Df n a K):∀ (rs:List ResultVar) (acc:List KV) (q:List KV→Prop),rZ ty rs K S acc q →
 ∃ vs,q (acc.reverse++vs)∧(∀ v∈vs,B0 v=A1 v)∧∀ w:World,HS S w.heap→(rs.mapM (rY a.tmps)).run P w = .ok (vs.map A1) w
 |[],acc,q,h=>⟨[],by rw [List.append_nil];exact h,fun v hv=>by simp at hv,fun w hs=>by simp⟩
 |.tmp t::r,acc,q,h=>by
  simp only [rZ] at h
  split at h
  ·rename_i v hv
   obtain⟨h1,h2⟩:=qR h
   obtain⟨vs,h3,h4,h5⟩:=fX hty ha r _ q h1
   refine⟨v::vs,by simpa using h3,fun u hu=>?_,fun w hs=>?_⟩
   ·rcases List.mem_cons.1 hu with rfl|hu
    ·exact h2
    ·exact h4 u hu
   ·have:=ha.knows t v hv
    simp [List.mapM_cons,rY,this,h5 w hs,h2]
  ·exact h.elim
 |.cell p t::r,acc,q,h=>by
  simp only [rZ] at h
  split at h
  ·rename_i pv hp
   obtain⟨v,h,hl⟩:=pG (P:=P) hty h
   obtain⟨h1,h2⟩:=qR h
   obtain⟨vs,h3,h4,h5⟩:=fX hty ha r _ q h1
   refine⟨v::vs,by simpa using h3,fun u hu=>?_,fun w hs=>?_⟩
   ·rcases List.mem_cons.1 hu with rfl|hu
    ·exact h2
    ·exact h4 u hu
   ·have h6:=ha.knows p pv hp
    obtain⟨ad,h7,h8⟩:=Qh (hl w hs)
    rw [h7] at h6
    simp [List.mapM_cons,rY,h6,asAddr,h8,h5 w hs,h2]
  ·exact h.elim
theorem jO(hty:H6 P ty){a:Act}(ha:H9 Df n a K){fn:Func}{rs:List ResultVar}(hrs:fn.results=rs.toArray){R:Value→A3→Prop}(h:kS ty rs R K S){w:World}(hs:HS S w.heap) :
 ∃ v,(results fn a.tmps).run P w = .ok v w∧R v w.heap:=by
 obtain⟨vs,h1,h2,h3⟩:=fX (P:=P) hty ha rs [] _ h
 have h4:=(aD h1).go w.heap hs
 refine⟨_,?_,h4⟩
 have h5:=h3 w hs
 have e:results fn a.tmps=(do
  let vs ←rs.toArray.mapM (rY a.tmps)
  pure (if h:vs.size=1 then vs[0] else .tuple vs)):=by
  unfold results
  rw [hrs]
  congr 1
 rw [e]
 rw [Array.mapM_eq_mapM_toList]
 simp only [Sem.run_bind,Sem.run_map,h5]
 simp only [List.reverse_nil,List.nil_append]
 match vs,h2 with
 |[],_=>simp [pU,B0]
 |[v],h2=>simp [pU,h2 v (by simp)]
 |v::u::r,_=>simp [pU,B0]
theorem Q9 {f : Nat} {fn : Func} (hf : P.funcs[f]? = some fn) (hn : (fn.name == "runtime.NumGoroutine") = false) (hb : fn.body.isNone = false) : iR P f := fun args w => by
 have hn' : fn.name ≠ "runtime.NumGoroutine" := by simpa using hn
 have hb':fn.body≠none:=by intro e;simp [e] at hb
 simp [callFunc,hf,hn',hb']
theorem EG {rep : Nat → Option oP} (hty : H6 P ty) {f : Nat} {fn : Func} {c : Code} (hf : P.funcs[f]? = some fn) (hb : fn.body = some c) (hn : (fn.name == "runtime.NumGoroutine") = false) {rs : List ResultVar} (hrs : fn.results = rs.toArray)
 (hnt:fn.ntmps=n) {args:List KV} (hlen:Nat.ble args.length n=true) {R:Value→A3→Prop} {h:A3} (hs:HS S h)
 (hk:J8 P ty ⟨rep,lY⟩ n m ex cu c ⟨kS ty rs R,[]⟩ (kS ty rs R) (mC 0 args) S):CH P f (args.map B0).toArray h R:=by
 refine⟨Q9 hf hn (by simp [hb]),fun w hw=>?_⟩
 subst hw
 have hlen:=Nat.le_of_ble_eq_true hlen
 refine calls_of_wp hf hb ?_
 have ha:=fA (n:=n) hlen
 have:=Ba hty c _ _ _ _ hk [] w _ w ha (SE.refl w) hs
 rw [hnt,show (args.map B0).toArray.size=args.length by simp]
 refine Code.wp_mono ?_ this
 intro e a w' hq
 have fin:(∃ K S,H9 [] n a K∧SE w w'∧HS S w'.heap∧kS ty rs R K S)→a.defers=[]∧∃ v,(results fn a.tmps).run P w' = .ok v w'∧((w'.os=w.os∧w'.tape=w.tape∧w'.output=w.output)∧∃ u,Ending.returned v = .returned u∧R u w'.heap):=fun⟨K,S,a1,a2,a3,a4⟩=>by
  obtain⟨v,h1,h2⟩:=jO hty a1 hrs a4 a3
  exact⟨a1.defers,v,h1,⟨a2.os,a2.tape,a2.output⟩,v,rfl,h2⟩
 cases e with
 |normal=>exact fin hq
 |ret=>exact fin hq
 |exit i=>obtain⟨K,S,a1,a2,a3,a4⟩:=hq;exact False.elim a4
 |panic ch=>obtain⟨v,_,_,_,hv⟩:=hq;exact False.elim hv
 |goto l=>exact False.elim hq
 |outgrown=>exact False.elim hq
theorem eP {rep : Nat → Option oP} {E : Value → A3 → Prop} (hty : H6 P ty) {f : Nat} {fn : Func} {c : Code} (hf : P.funcs[f]? = some fn) (hb : fn.body = some c) (hn : (fn.name == "runtime.NumGoroutine") = false) {rs : List ResultVar} (hrs : fn.results = rs.toArray)
 (hnt:fn.ntmps=n) {args:List KV} (hlen:Nat.ble args.length n=true) {R:Value→A3→Prop} {h:A3} (hs:HS S h)
 (hk:J8 P ty ⟨rep,E⟩ n m ex cu c ⟨kS ty rs R,[]⟩ (kS ty rs R) (mC 0 args) S):X2 P E f (args.map B0).toArray h R:=by
 refine⟨Q9 hf hn (by simp [hb]),fun w hw=>?_⟩
 subst hw
 have hlen:=Nat.le_of_ble_eq_true hlen
 refine calls_of_wp hf hb ?_
 have ha:=fA (n:=n) hlen
 have:=Ba hty c _ _ _ _ hk [] w _ w ha (SE.refl w) hs
 rw [hnt,show (args.map B0).toArray.size=args.length by simp]
 refine Code.wp_mono ?_ this
 intro e a w' hq
 have fin:(∃ K S,H9 [] n a K∧SE w w'∧HS S w'.heap∧kS ty rs R K S)→a.defers=[]∧∃ v,(results fn a.tmps).run P w' = .ok v w'∧((w'.os=w.os∧w'.tape=w.tape∧w'.output=w.output) ∧
  ((∃ u,Ending.returned v = .returned u∧R u w'.heap)∨∃ u,Ending.returned v = .panicked [{ v:=u,recovered:=false }]∧E u w'.heap)):=fun⟨K,S,a1,a2,a3,a4⟩=>by
  obtain⟨v,h1,h2⟩:=jO hty a1 hrs a4 a3
  exact⟨a1.defers,v,h1,⟨a2.os,a2.tape,a2.output⟩,.inl ⟨v,rfl,h2⟩⟩
 cases e with
 |normal=>exact fin hq
 |ret=>exact fin hq
 |exit i=>obtain⟨K,S,a1,a2,a3,a4⟩:=hq;exact False.elim a4
 |panic ch=>obtain⟨v,h1,h2,h3,h4⟩:=hq;exact⟨h2,⟨h3.os,h3.tape,h3.output⟩,.inr ⟨v,by rw [h1],h4⟩⟩
 |goto l=>exact False.elim hq
 |outgrown=>exact False.elim hq
theorem HS.start(h:A3):HS ⟨h,[],[]⟩ h:=⟨Nat.le_refl _,fun _ _ _=>rfl,fun e he=>by simp at he,.nil⟩
theorem enter {rep : Nat → Option oP} (hty : H6 P ty) {f : Nat} {fn : Func} {c : Code} (hf : P.funcs[f]? = some fn) (hb : fn.body = some c) (hn : (fn.name == "runtime.NumGoroutine") = false) {rs : List ResultVar} (hrs : fn.results = rs.toArray)
 (hnt:fn.ntmps=n) (args:List KV) (hlen:Nat.ble args.length n=true) {R:Value→A3→Prop} {h:A3}
 (hk:J8 P ty ⟨rep,lY⟩ n m ex cu c ⟨kS ty rs R,[]⟩ (kS ty rs R) (mC 0 args) ⟨h,[],[]⟩):CH P f (args.map B0).toArray h R:=
 EG hty hf hb hn hrs hnt hlen (HS.start h) hk
theorem kE{ops:Array Oper}{C:World→Prop}{Q Q':Act→Prop}(hq:∀ a,Q a→Q' a):∀ (l:List Oper) (a:Act),wpQuiet P ops C Q l a→wpQuiet P ops C Q' l a
 |[],a,h=>hq a h
 |o::rest,a,h=>by
  unfold wpQuiet at h ⊢
  split
  ·rename_i hw;rw [if_pos hw] at h;exact Oper.quiet_mono (kE hq rest) h
  ·rename_i hw;rw [if_neg hw] at h;exact kE hq rest _ h
structure V9(P:Program)(f:Nat)(args caps:List KV)(S:St)(κ:KV→Prop):Prop where
 go:∃ kv,(∀ h,HS S h→CH P f (args.map A1++caps.map A0).toArray h fun v h'=>v=B0 kv∧HS S h')∧κ kv
def Wz(P:Program)(ty:Nat→Option gS)(o:Oper)(K:Kn)(S:St)(κ:KV→Prop):Prop:=match o.op with
 |.call ⟨.value f,args,_⟩=>match H4 K f with
  |some (.fn f caps)=>tT K args.toList [] fun vs=>V9 P f vs caps S κ
  |_=>False
 |_=>Qs P ty o K S κ
noncomputable def Pn(P:Program)(ty:Nat→Option gS)(n:Nat)(ops:List Oper)(l:List Oper):Kn→St→(Kn→Prop)→Prop:=List.rec (motive:=fun _=>Kn→St→(Kn→Prop)→Prop) (fun K S κ=>κ K)
 (fun o _ ih K S κ=>match jS n o.dst with
  |false=>False
  |true=>match o.guard with
   |none=>Wz P ty o K S fun v=>ih (W2 K o.dst v) S κ
   |some (j,want)=>match mQ ops j with
    |none=>False
    |some s=>gH s want K (fun K=>Wz P ty o K S fun v=>ih (W2 K o.dst v) S κ) (fun K=>ih (W2 K o.dst (.val undef)) S κ)) l
theorem Zn(hty:H6 P ty){o:Oper}{q:KV→Prop}(h:Wz P ty o K S q){a:Act}(ha:H9 Df n a K){C:World→Prop}(hC:∀ w,C w→HS S w.heap)(hC2:∀ w w',C w→SE w w'→HS S w'.heap→C w') :
 ∃ kv,q kv∧∀ w,C w→o.quietAt P a C w (B0 kv):=by
 have quiet:Qs P ty o K S q→∃ kv,q kv∧∀ w,C w→o.quietAt P a C w (B0 kv):=fun h=>by
  obtain⟨kv,h1,h2⟩:=nR hty h ha
  refine⟨kv,h1,fun w hw=>?_⟩
  unfold Oper.quietAt
  rw [h2 w fun _=>hC w hw]
  exact⟨rfl,rfl⟩
 obtain⟨dst,op,type,pos,after,guard⟩:=o
 simp only [Wz] at h
 split at h
 ·rename_i fo args tys
  split at h
  ·rename_i f caps hf
   obtain⟨vs,h1,h2⟩:=bM ha _ _ _ h
   obtain⟨kv,h3,h4⟩:=h1
   refine⟨kv,h4,fun w hw=>?_⟩
   have h5:=h3 w.heap (hC w hw)
   have e1:(vs.map A1++caps.map A0).toArray=args.map a.eval++(caps.map A0).toArray:=by
    rw [h2]
    exact Array.ext' (by simp)
   rw [e1] at h5
   have hr:(execOp a.eval { dst:=dst,op:=.call ⟨.value fo,args,tys⟩,type:=type,pos:=pos,after:=after,guard:=guard }).run P w = .ok (.enter f (args.map a.eval++(caps.map A0).toArray)) w:=by
    have:=h5.1 (args.map a.eval++(caps.map A0).toArray) w
    simp [execOp,resolve,ha.eval hf,B0,A1,Deferred.ofValue,invoke,this]
   unfold Oper.quietAt
   rw [hr]
   refine⟨rfl,(h5.2 w rfl).mono fun e w' ⟨⟨g1,g2,g3⟩,v,he,hv,hs⟩=>⟨by rw [he,hv],hC2 w w' hw ⟨g1,g2,g3⟩ hs⟩⟩
  ·exact h.elim
 ·exact quiet h
theorem kD(hty:H6 P ty){ops:List Oper}{C:World→Prop}(hC:∀ w,C w→HS S w.heap)(hC2:∀ w w',C w→SE w w'→HS S w'.heap→C w'):∀ (l:List Oper) (K:Kn) (q:Kn→Prop),Pn P ty n ops l K S q→∀ a,H9 Df n a K →
 wpQuiet P ops.toArray C (fun a'=>∃ K',H9 Df n a' K'∧q K') l a
 |[],K,q,h,a,ha=>⟨K,ha,h⟩
 |o::r,K,q,h,a,ha=>by
  have h:(match jS n o.dst with
   |false=>False
   |true=>match o.guard with
    |none=>Wz P ty o K S fun v=>Pn P ty n ops r (W2 K o.dst v) S q
    |some (j,want)=>match mQ ops j with
     |none=>False
     |some s=>gH s want K (fun K=>Wz P ty o K S fun v=>Pn P ty n ops r (W2 K o.dst v) S q) (fun K=>Pn P ty n ops r (W2 K o.dst (.val undef)) S q)):=h
  split at h
  ·exact h.elim
  rename_i hd
  have hd:=bA hd
  have run:∀ K,H9 Df n a K→(Wz P ty o K S fun v=>Pn P ty n ops r (W2 K o.dst v) S q)→o.quiet P a C (wpQuiet P ops.toArray C (fun a'=>∃ K',H9 Df n a' K'∧q K') r):=fun K ha h=>by
   obtain⟨kv,h1,h2⟩:=Zn hty h ha hC hC2
   exact⟨_,h2,kD hty hC hC2 r _ q h1 _ (ha.put hd kv)⟩
  unfold wpQuiet
  split at h
  ·rename_i hg
   rw [if_pos (by simp [Region.wanted,hg])]
   exact run K ha h
  ·rename_i j want hg
   split at h
   ·exact h.elim
   ·rename_i s hs'
    obtain⟨K',ha',h1|h1⟩:=bK h ha
    ·have hw:Region.wanted o (yielded ops.toArray a.tmps)=true:=by
      have:=h1.1
      rw [cI] at hs'
      simp [Region.wanted,hg,yielded,hs',this]
     rw [if_pos hw]
     exact run K' ha' h1.2
    ·have hw:Region.wanted o (yielded ops.toArray a.tmps)=false:=by
      rw [cI] at hs'
      rcases h1.1 with this|this
      ·simp [Region.wanted,hg,yielded,hs',this]
      ·simp [Region.wanted,hg,yielded,hs',this,undef]
     rw [if_neg (by rw [hw];simp)]
     exact kD hty hC hC2 r _ q h1.2 _ (ha'.put hd (.val undef))
theorem drawn(hty:H6 P ty)(hm:P.follows .mixedOrders=true){id:Nat}{ops:Array Oper}(hB:Region.lexB .any ops=true)
 (h:Pn P ty n ops.toList ops.toList K S fun K=>κ K S):nB P n ty rep m ex cu (.region id ops true) X κ K S:=⟨fun Df w0 a w ha he hs=>by
 refine wp_region_quiet (C:=fun w'=>SE w0 w'∧HS S w'.heap) hm hB ⟨⟨he.os,he.tape,he.output⟩,hs⟩ ?_
 have:=kD (n:=n) hty (ops:=ops.toList) (C:=fun w'=>SE w0 w'∧HS S w'.heap) (fun w h=>h.2) (fun w w' h1 h2 h3=>⟨h1.1.trans h2,h3⟩) ops.toList K _ h a ha
 rw [Array.toArray_toList] at this
 refine kE ?_ _ _ this
 rintro a' ⟨K',h1,h2⟩ w' ⟨h3,h4⟩
 exact⟨K',S,h1,h3,h4,h2⟩⟩
end
end Go.Ex
