/-
  Top: TopDeep: whatever the input, the law answers true (part 6)
-/
import Derived.Test.YtpjdgifhhnjclaaGreatDoorM05
set_option linter.unusedVariables false
set_option linter.unusedSimpArgs false
set_option maxHeartbeats 4000000
set_option maxRecDepth 10000
namespace Go.Ex
variable {Df:List Deferred}
abbrev Kt:=Kn→St→Prop
structure Esc where
 ret:Kt
 ext:List (Nat×Kt)
def exitK:List (Nat×Kt)→Nat→Kt
 |[],_=>fun _ _=>False
 |(i,κ)::r,j=>match Nat.beq i j with
  |true=>κ
  |false=>exitK r j
def lift(E:Value→Heap→Prop)(Df:List Deferred)(n:Nat)(w0:World)(X:Esc)(κ:Kt):Exit→Act→World→Prop
 |.normal,a,w=>∃ K S,Good Df n a K∧SE w0 w∧HS S w.heap∧κ K S
 |.exit i,a,w=>∃ K S,Good Df n a K∧SE w0 w∧HS S w.heap∧exitK X.ext i K S
 |.ret,a,w=>∃ K S,Good Df n a K∧SE w0 w∧HS S w.heap∧X.ret K S
 |.panic ch,a,w=>∃ v,ch=[{ v:=v,recovered:=false }]∧a.defers=Df∧SE w0 w∧E v w.heap
 |_,_,_=>False
def dstOk(n:Nat)(d:Option Nat):Bool:=match d with
 |some d=>Nat.blt d n
 |none=>true
def dsts(ops:List Oper)(j:Nat):Option Nat:=match ops,j with
 |[],_=>none
 |o::_,0=>o.dst
 |_::r,j+1=>dsts r j
def keepB(m:Nat)(ex:List Nat)(s:Nat):Bool:=Nat.blt s m || ex.any (Nat.beq s)
def hasB:Kn→Nat→Bool
 |[],_=>false
 |(s,_)::r,t=>Nat.beq s t || hasB r t
def trimK(m:Nat)(ex:List Nat):Kn→Kn→(Kn→Prop)→Prop
 |[],acc,κ=>κ acc
 |(s,v)::r,acc,κ=>match keepB m ex s && !(hasB acc s) with
  |true=>trimK m ex r ((s,v)::acc) κ
  |false=>trimK m ex r acc κ
def guardK(s:Nat)(want:Bool)(K:Kn)(run skip:Kn→Prop):Prop:=match lk K s with
 |some (.val (.bool true))=>match want with
  |true=>run K
  |false=>skip K
 |some (.val (.bool false))=>match want with
  |true=>skip K
  |false=>run K
 |some (.prop p)=>match want with
  |true=>Br p (run ((s,.val (.bool true))::K)) (skip ((s,.val (.bool false))::K))
  |false=>Br p (skip ((s,.val (.bool true))::K)) (run ((s,.val (.bool false))::K))
 |some (.val (.tuple ⟨[]⟩))=>skip K
 |_=>False
def firstR:Code→Option Nat
 |.region id _ _=>some id
 |.seq a _=>firstR a
 |.block _ c=>firstR c
 |_=>none
def cutAt(cu:List Nat)(b:Code):Bool:=match firstR b with
 |some id=>cu.any (Nat.beq id)
 |none=>false
section
variable (P:Program)(ty:Nat→Option TyI)(rep:Env)(n m:Nat)(ex cu:List Nat)
def T(E:Value→Heap→Prop)(c:Code)(X:Esc)(κ:Kt)(K:Kn)(S:St):Prop:=∀ (Df:List Deferred) (w0:World) a w,Good Df n a K→SE w0 w→HS S w.heap→c.wp P (lift E Df n w0 X κ) a w
structure Leaf(ty:Nat→Option TyI)(rep:Env)(m:Nat)(ex cu:List Nat)(c:Code)(X:Esc)(κ:Kt)(K:Kn)(S:St):Prop where
 go:T P n rep.pan c X κ K S
noncomputable def regK(ops:List Oper)(l:List Oper):Kn→St→Kt→Prop:=List.rec (motive:=fun _=>Kn→St→Kt→Prop) (fun K S κ=>κ K S)
 (fun o _ ih K S κ=>match dstOk n o.dst with
  |false=>False
  |true=>match o.guard with
   |none=>opK P ty rep o K S fun v S=>ih (putD K o.dst v) S κ
   |some (j,want)=>match dsts ops j with
    |none=>False
    |some s=>guardK s want K (fun K=>opK P ty rep o K S fun v S=>ih (putD K o.dst v) S κ) (fun K=>ih (putD K o.dst (.val undef)) S κ)) l
noncomputable def codeK(c:Code):Esc→Kt→Kn→St→Prop:=Code.rec (motive:=fun _=>Esc→Kt→Kn→St→Prop)
 (fun _ κ K S=>κ K S)
 (fun id ops d X κ K S=>match d with
  |false=>regK P ty rep n ops.toList ops.toList K S κ
  |true=>trimK m ex K [] fun K=>Leaf P n ty rep m ex cu (.region id ops true) X κ K S)
 (fun a b iha ihb X κ K S=>match cutAt cu b with
  |true=>trimK m ex K [] fun K=>Leaf P n ty rep m ex cu a X (fun K S=>ihb X κ K S) K S
  |false=>iha X (fun K S=>ihb X κ K S) K S)
 (fun c _ _ iha ihb X κ K S=>match look K c with
  |some (.val (.bool true))=>trimK m ex K [] fun K=>iha X κ K S
  |some (.val (.bool false))=>trimK m ex K [] fun K=>ihb X κ K S
  |some (.prop p)=>Br p (trimK m ex K [] fun K=>iha X κ K S) (trimK m ex K [] fun K=>ihb X κ K S)
  |_=>False)
 (fun id _ ih X κ K S=>ih ⟨X.ret,(id,κ)::X.ext⟩ κ K S)
 (fun c _ X κ K S=>trimK m ex K [] fun K=>Leaf P n ty rep m ex cu (.loop c) X κ K S)
 (fun _ _ _ _ _ _ _ _ _ _=>False)
 (fun id X _ K S=>exitK X.ext id K S)
 (fun _ ih X κ K S=>ih X κ K S)
 (fun _ _ κ K S=>κ K S)
 (fun _ _ _ _ _=>False)
 (fun X _ K S=>X.ret K S)
 (fun _ _ _ _ _=>False) c
end
section
variable {P:Program}{ty:Nat→Option TyI}{rep:Env}{n m:Nat}{ex cu:List Nat}{S:St}{K:Kn}{X:Esc}{κ:Kt}
theorem trim_go:∀ {K acc:Kn} {q:Kn→Prop},trimK m ex K acc q→∃ K',q K'∧∀ t v,lk K' t=some v→lk acc t=some v∨(hasB acc t=false∧keepB m ex t=true∧lk K t=some v)
 |[],acc,q,h=>⟨acc,h,fun t v hv=>.inl hv⟩
 |(s,u)::r,acc,q,h=>by
  simp only [trimK] at h
  split at h
  ·rename_i hb
   simp only [Bool.and_eq_true,Bool.not_eq_true'] at hb
   obtain⟨K',h1,h2⟩:=trim_go h
   refine⟨K',h1,fun t v hv=>?_⟩
   rcases h2 t v hv with h3|⟨h3,h4,h5⟩
   ·by_cases e:s=t
    ·subst e
     rw [lk_cons_eq] at h3
     cases h3
     exact .inr ⟨hb.2,hb.1,lk_cons_eq⟩
    ·rw [lk_cons_ne e] at h3;exact .inl h3
   ·simp only [hasB,Bool.or_eq_false_iff] at h3
    have e:s≠t:=nbF h3.1
    exact .inr ⟨h3.2,h4,by rw [lk_cons_ne e];exact h5⟩
  ·rename_i hb
   obtain⟨K',h1,h2⟩:=trim_go h
   refine⟨K',h1,fun t v hv=>?_⟩
   rcases h2 t v hv with h3|⟨h3,h4,h5⟩
   ·exact .inl h3
   ·by_cases e:s=t
    ·subst e
     simp [h3,h4] at hb
    ·exact .inr ⟨h3,h4,by rw [lk_cons_ne e];exact h5⟩
theorem trim_sound{q:Kn→Prop}(h:trimK m ex K [] q):∃ K',q K'∧∀ t v,lk K' t=some v→lk K t=some v:=by
 obtain⟨K',h1,h2⟩:=trim_go h
 refine⟨K',h1,fun t v hv=>?_⟩
 rcases h2 t v hv with h3|⟨_,_,h3⟩
 ·cases h3
 ·exact h3
theorem good_set{a:Act}{s:Nat}{v:KV}(ha:Good Df n a K)(h:a.tmps[s]?=some (den v)):Good Df n a ((s,v)::K):=by
 refine⟨ha.size,ha.defers,fun t u hu=>?_⟩
 by_cases e:s=t
 ·subst e;rw [lk_cons_eq] at hu;cases hu;exact h
 ·rw [lk_cons_ne e] at hu;exact ha.knows t u hu
theorem guard_sound{a:Act}{s:Nat}{want:Bool}{run skip:Kn→Prop}(h:guardK s want K run skip)(ha:Good Df n a K) :
 ∃ K',Good Df n a K'∧((a.tmps[s]?=some (.bool want)∧run K')∨((a.tmps[s]?=some (.bool !want)∨a.tmps[s]?=some undef)∧skip K')):=by
 unfold guardK at h
 split at h
 ·rename_i hl
  have:=ha.knows s _ hl
  cases want
  ·exact⟨K,ha,.inr ⟨.inl this,h⟩⟩
  ·exact⟨K,ha,.inl ⟨this,h⟩⟩
 ·rename_i hl
  have:=ha.knows s _ hl
  cases want
  ·exact⟨K,ha,.inl ⟨this,h⟩⟩
  ·exact⟨K,ha,.inr ⟨.inl this,h⟩⟩
 ·rename_i p hl
  have hp:=ha.knows s _ hl
  by_cases hc:p
  ·have hv:a.tmps[s]?=some (den (.val (.bool true))):=by rw [hp];simp [den,den1,denC,hc]
   have ha':=good_set ha hv
   cases want
   ·exact⟨_,ha',.inr ⟨.inl hv,h.yes hc⟩⟩
   ·exact⟨_,ha',.inl ⟨hv,h.yes hc⟩⟩
  ·have hv:a.tmps[s]?=some (den (.val (.bool false))):=by rw [hp];simp [den,den1,denC,hc]
   have ha':=good_set ha hv
   cases want
   ·exact⟨_,ha',.inl ⟨hv,h.no hc⟩⟩
   ·exact⟨_,ha',.inr ⟨.inl hv,h.no hc⟩⟩
 ·rename_i hl
  exact⟨K,ha,.inr ⟨.inr (ha.knows s _ hl),h⟩⟩
 ·exact h.elim
theorem dsts_eq:∀ (ops:List Oper) (j:Nat),dsts ops j=(ops[j]?).bind (·.dst)
 |[],j=>by simp [dsts]
 |o::r,0=>by simp [dsts]
 |o::r,j+1=>by simp [dsts,dsts_eq r j]
theorem dstOk_spec{d:Option Nat}(h:dstOk n d=true):∀ x,d=some x→x<n:=fun x hx=>by
 subst hx
 simpa [dstOk] using h
theorem regK_sound(hty:TysOk P ty){ops:List Oper}:∀ (l:List Oper) (K:Kn) (S:St) (κ:Kt),regK P ty rep n ops l K S κ→∀ (w0:World) a w,Good Df n a K→SE w0 w→HS S w.heap→wpList P ops.toArray (lift rep.pan Df n w0 X κ) l a w
 |[],K,S,κ,h,w0,a,w,ha,he,hs=>⟨K,S,ha,he,hs,h⟩
 |o::r,K,S,κ,h,w0,a,w,ha,he,hs=>by
  have h:(match dstOk n o.dst with
   |false=>False
   |true=>match o.guard with
    |none=>opK P ty rep o K S fun v S=>regK P ty rep n ops r (putD K o.dst v) S κ
    |some (j,want)=>match dsts ops j with
     |none=>False
     |some s=>guardK s want K (fun K=>opK P ty rep o K S fun v S=>regK P ty rep n ops r (putD K o.dst v) S κ) (fun K=>regK P ty rep n ops r (putD K o.dst (.val undef)) S κ)):=h
  split at h
  ·exact h.elim
  rename_i hd
  have hd:=dstOk_spec hd
  have run:∀ K,Good Df n a K→(opK P ty rep o K S fun v S=>regK P ty rep n ops r (putD K o.dst v) S κ)→o.wp P a w (wpList P ops.toArray (lift rep.pan Df n w0 X κ) r) (lift rep.pan Df n w0 X κ):=fun K ha h=>
   opK_sound hty h ha hs (fun v w' he' hE=>⟨v,rfl,ha.defers,he.trans he',hE⟩) fun kv S' w' he' hs' hk=>regK_sound hty r _ S' κ hk w0 _ w' (ha.put hd kv) (he.trans he') hs'
  split at h
  ·rename_i hg
   unfold wpList
   rw [if_pos (by simp [Region.wanted,hg])]
   exact .inl (run K ha h)
  ·rename_i j want hg
   split at h
   ·exact h.elim
   ·rename_i s hs'
    obtain⟨K',ha',h1|h1⟩:=guard_sound h ha
    ·have hw:Region.wanted o (yielded ops.toArray a.tmps)=true:=by
      have:=h1.1
      rw [dsts_eq] at hs'
      simp [Region.wanted,hg,yielded,hs',this]
     unfold wpList
     rw [if_pos hw]
     exact .inl (run K' ha' h1.2)
    ·have hw:Region.wanted o (yielded ops.toArray a.tmps)=false:=by
      rw [dsts_eq] at hs'
      rcases h1.1 with this|this
      ·simp [Region.wanted,hg,yielded,hs',this]
      ·simp [Region.wanted,hg,yielded,hs',this,undef]
     unfold wpList
     rw [if_neg (by rw [hw];simp)]
     exact regK_sound hty r _ S κ h1.2 w0 _ w (ha'.put hd (.val undef)) he hs
theorem exitK_eq{i:Nat}{r:List (Nat×Kt)}:exitK ((i,κ)::r) i=κ:=by
 simp only [exitK];rw [show Nat.beq i i=true from Nat.beq_refl i]
theorem exitK_ne{i j:Nat}{r:List (Nat×Kt)}(h:i≠j):exitK ((i,κ)::r) j=exitK r j:=by
 have:Nat.beq i j=false:=by
  cases hb:Nat.beq i j
  ·rfl
  ·exact absurd (nbT hb) h
 simp only [exitK];rw [this]
theorem cks(hty:TysOk P ty):∀ (c:Code) (X:Esc) (κ:Kt) (K:Kn) (S:St),codeK P ty rep n m ex cu c X κ K S→T P n rep.pan c X κ K S
 |.skip,X,κ,K,S,h=>fun Df w0 a w ha he hs=>wp_skip ⟨K,S,ha,he,hs,h⟩
 |.region id ops false,X,κ,K,S,h=>fun Df w0 a w ha he hs=>by
  have:=regK_sound (X:=X) hty ops.toList K S κ h w0 a w ha he hs
  exact wp_region_list (by simpa using this)
 |.region id ops true,X,κ,K,S,h=>fun Df w0 a w ha he hs=>by
  obtain⟨K',h1,h2⟩:=trim_sound h
  exact h1.go Df w0 a w (ha.drop h2) he hs
 |.seq x y,X,κ,K,S,h=>fun Df w0 a w ha he hs=>by
  have h1:x.wp P (lift rep.pan Df n w0 X fun K S=>codeK P ty rep n m ex cu y X κ K S) a w:=by
   have h:(match cutAt cu y with
    |true=>trimK m ex K [] fun K=>Leaf P n ty rep m ex cu x X (fun K S=>codeK P ty rep n m ex cu y X κ K S) K S
    |false=>codeK P ty rep n m ex cu x X (fun K S=>codeK P ty rep n m ex cu y X κ K S) K S):=h
   split at h
   ·obtain⟨K',h1,h2⟩:=trim_sound h
    exact h1.go Df w0 a w (ha.drop h2) he hs
   ·exact cks hty x X _ K S h Df w0 a w ha he hs
  refine wp_seq (Code.wp_mono ?_ h1)
  intro e a w hq
  cases e with
  |normal=>obtain⟨K,S,a1,a2,a3,a4⟩:=hq;exact cks hty y X κ K S a4 Df w0 a w a1 a2 a3
  |exit i=>exact hq
  |ret=>exact hq
  |panic ch=>exact hq
  |goto l=>exact hq
  |outgrown=>exact hq
 |.cond c x y,X,κ,K,S,h=>fun Df w0 a w ha he hs=>by
  have h:(match look K c with
   |some (.val (.bool true))=>trimK m ex K [] fun K=>codeK P ty rep n m ex cu x X κ K S
   |some (.val (.bool false))=>trimK m ex K [] fun K=>codeK P ty rep n m ex cu y X κ K S
   |some (.prop p)=>Br p (trimK m ex K [] fun K=>codeK P ty rep n m ex cu x X κ K S) (trimK m ex K [] fun K=>codeK P ty rep n m ex cu y X κ K S)
   |_=>False):=h
  split at h
  ·rename_i hc
   obtain⟨K',h1,h2⟩:=trim_sound h
   exact wp_cond_true (ha.eval hc) (cks hty x X κ K' S h1 Df w0 a w (ha.drop h2) he hs)
  ·rename_i hc
   obtain⟨K',h1,h2⟩:=trim_sound h
   exact wp_cond_false (ha.eval hc) (cks hty y X κ K' S h1 Df w0 a w (ha.drop h2) he hs)
  ·rename_i p hc
   have hv:=ha.eval hc
   by_cases hp:p
   ·obtain⟨K',h1,h2⟩:=trim_sound (h.yes hp)
    exact wp_cond_true (by rw [hv];simp [den,den1,denC,hp]) (cks hty x X κ K' S h1 Df w0 a w (ha.drop h2) he hs)
   ·obtain⟨K',h1,h2⟩:=trim_sound (h.no hp)
    exact wp_cond_false (by rw [hv];simp [den,den1,denC,hp]) (cks hty y X κ K' S h1 Df w0 a w (ha.drop h2) he hs)
  ·exact h.elim
 |.block id c,X,κ,K,S,h=>fun Df w0 a w ha he hs=>by
  have h1:=cks hty c _ κ K S h Df w0 a w ha he hs
  refine wp_block (Code.wp_mono ?_ h1)
  intro e a w hq
  cases e with
  |normal=>exact hq
  |exit i=>
   obtain⟨K,S,a1,a2,a3,a4⟩:=hq
   simp only [Exit.inBlock]
   split
   ·rename_i e
    subst e
    rw [exitK_eq] at a4
    exact⟨K,S,a1,a2,a3,a4⟩
   ·rename_i e
    rw [exitK_ne (fun e'=>e e'.symm)] at a4
    exact⟨K,S,a1,a2,a3,a4⟩
  |ret=>exact hq
  |panic ch=>exact hq
  |goto l=>exact hq
  |outgrown=>exact hq
 |.loop c,X,κ,K,S,h=>fun Df w0 a w ha he hs=>by
  obtain⟨K',h1,h2⟩:=trim_sound h
  exact h1.go Df w0 a w (ha.drop h2) he hs
 |.exit id,X,κ,K,S,h=>fun Df w0 a w ha he hs=>wp_exit ⟨K,S,ha,he,hs,h⟩
 |.ret,X,κ,K,S,h=>fun Df w0 a w ha he hs=>wp_ret ⟨K,S,ha,he,hs,h⟩
 |.rangeFunc ..,_,_,_,_,h=>False.elim h
 |.scope c,X,κ,K,S,h=>fun Df w0 a w ha he hs=>by
  refine wp_scope_straight (Code.wp_mono ?_ (cks hty c X κ K S h Df w0 a w ha he hs))
  intro e a w hq
  cases e<;>exact hq
 |.label l,X,κ,K,S,h=>fun Df w0 a w ha he hs=>wp_label ⟨K,S,ha,he,hs,h⟩
 |.goto ..,_,_,_,_,h=>False.elim h
 |.refuse ..,_,_,_,_,h=>False.elim h
def HasK(K:Kn):Kn→Prop
 |[]=>True
 |(t,v)::r=>lk K t=some v∧HasK K r
def notInC(k:Nat):Chs→Bool
 |[]=>true
 |(j,_,_)::r=>!(Nat.beq k j) && notInC k r
def HasC(ch:Chs):Chs→Prop
 |[]=>True
 |(k,b,c)::r=>findC ch k=some (b,c)∧notInC k r=true∧HasC ch r
def dropK(cs:List Nat):Kn→Kn→(Kn→Prop)→Prop
 |[],acc,κ=>κ acc
 |(s,v)::r,acc,κ=>match cs.any (Nat.beq s) with
  |true=>dropK cs r acc κ
  |false=>dropK cs r ((s,v)::acc) κ
theorem HasK.get:∀ {L:Kn},HasK K L→∀ t v,lk L t=some v→lk K t=some v
 |[],_,t,v,h=>by simp [lk] at h
 |(s,u)::r,hh,t,v,h=>by
  by_cases e:s=t
  ·subst e;rw [lk_cons_eq] at h;cases h;exact hh.1
  ·rw [lk_cons_ne e] at h;exact HasK.get hh.2 t v h
theorem notInC_spec:∀ {r:Chs} {k:Nat},notInC k r=true→∀ e∈r,e.1≠k
 |[],k,h,e,he=>by simp at he
 |(j,b,c)::r,k,h,e,he=>by
  simp only [notInC,Bool.and_eq_true,Bool.not_eq_true'] at h
  rcases List.mem_cons.1 he with rfl|he
  ·exact fun e'=>nbF h.1 e'.symm
  ·exact notInC_spec h.2 e he
theorem HasC.mem:∀ {L ch:Chs},HasC ch L→∀ e∈L,e∈ch
 |[],ch,_,e,he=>by simp at he
 |(k,b,c)::r,ch,h,e,he=>by
  rcases List.mem_cons.1 he with rfl|he
  ·exact fM h.1
  ·exact HasC.mem h.2.2 e he
theorem apart_of{ch:Chs}(hp:ch.Pairwise fun e e'=>e.2.1≠e'.2.1){x y:Nat×Nat×Chunk}(hx:x∈ch)(hy:y∈ch)(hne:x≠y):x.2.1≠y.2.1:=by
 induction ch with
 |nil=>simp at hx
 |cons z l ih=>
  have hp':=List.pairwise_cons.1 hp
  rcases List.mem_cons.1 hx with h1|h1
  ·rcases List.mem_cons.1 hy with h2|h2
   ·exact absurd (h1.trans h2.symm) hne
   ·rw [h1];exact hp'.1 _ h2
  ·rcases List.mem_cons.1 hy with h2|h2
   ·rw [h2];exact fun e=>hp'.1 _ h1 e.symm
   ·exact ih hp'.2 h1 h2
theorem HasC.apart:∀ {L ch:Chs},HasC ch L→(ch.Pairwise fun e e'=>e.2.1≠e'.2.1)→L.Pairwise fun e e'=>e.2.1≠e'.2.1
 |[],ch,_,_=>.nil
 |(k,b,c)::r,ch,h,hp=>by
  refine List.pairwise_cons.2 ⟨fun e he=>?_,HasC.apart h.2.2 hp⟩
  have h1:=notInC_spec h.2.1 e he
  exact apart_of hp (fM h.1) (HasC.mem h.2.2 e he) (fun e'=>h1 (by rw [←e']))
theorem HasC.hs{L:Chs}{h:Heap}(hs:HS S h)(hc:HasC S.ch L):HS ⟨S.h0,S.cap,L⟩ h:=
 ⟨hs.size,hs.frame,fun e he=>hs.chunk e (hc.mem e he),hc.apart hs.apart⟩
theorem drop_sound{cs:List Nat}:∀ {K acc:Kn} {q:Kn→Prop},dropK cs K acc q→∃ K0,q K0
 |[],acc,q,h=>⟨acc,h⟩
 |(s,v)::r,acc,q,h=>by
  simp only [dropK] at h
  split at h
  ·exact drop_sound h
  ·exact drop_sound h
theorem loop_rule(hty:TysOk P ty){c:Code}{α:Type}(cs:List Nat)(l:α→Kn)(sc:α→Chs)(φ:Nat→α→Prop)(m0:Nat)(x0:α)
 (h:dropK cs K [] fun K0=>HasK K (l x0++K0)∧HasC S.ch (sc x0)∧φ m0 x0∧∀ μ x,φ μ x →
  codeK P ty rep n m ex cu c X (fun K' S'=>∃ μ' x',φ μ' x'∧μ' < μ∧HasK K' (l x'++K0)∧S'.h0=S.h0∧S'.cap=S.cap∧HasC S'.ch (sc x')) (l x++K0) ⟨S.h0,S.cap,sc x⟩) :
 Leaf P n ty rep m ex cu (.loop c) X κ K S:=⟨fun Df w0 a w ha he hs=>by
 obtain⟨K0,h1,h2,h3,h4⟩:=drop_sound h
 refine wp_loop_ghost (fun μ a w=>∃ x,φ μ x∧Good Df n a (l x++K0)∧SE w0 w∧HS ⟨S.h0,S.cap,sc x⟩ w.heap) m0 ⟨x0,h3,ha.drop h1.get,he,h2.hs hs⟩ ?_
 rintro μ a w ⟨x,hx,ha,he,hs⟩
 have:=cks hty c X _ _ _ (h4 μ x hx) Df w0 a w ha he hs
 refine Code.wp_mono ?_ this
 intro e a w hq
 cases e with
 |normal=>
  obtain⟨K',S',a1,a2,a3,μ',x',b1,b2,b3,b4,b5,b6⟩:=hq
  refine⟨μ',b2,x',b1,a1.drop b3.get,a2,?_⟩
  have:=b6.hs a3
  rwa [b4,b5] at this
 |exit i=>exact hq
 |ret=>exact hq
 |panic ch=>exact hq
 |goto l=>exact hq
 |outgrown=>exact hq⟩
theorem loop_cut(hty:TysOk P ty){c:Code}{α β:Type}(cs:List Nat)(l:α→Kn)(sc:α→Chs)(φ:Nat→α→Prop)(m0:Nat)(x0:α)(l2:β→Kn)(sc2:β→Chs)(ψ:β→Prop){id:Nat}{κe:Kt}{r:List (Nat×Kt)}{ret:Kt}
 (h:dropK cs K [] fun K0=>HasK K (l x0++K0)∧HasC S.ch (sc x0)∧φ m0 x0∧(∀ μ x,φ μ x →
  codeK P ty rep n m ex cu c ⟨ret,(id,fun K' S'=>∃ y,ψ y∧HasK K' (l2 y++K0)∧S'.h0=S.h0∧S'.cap=S.cap∧HasC S'.ch (sc2 y))::r⟩
   (fun K' S'=>∃ μ' x',φ μ' x'∧μ' < μ∧HasK K' (l x'++K0)∧S'.h0=S.h0∧S'.cap=S.cap∧HasC S'.ch (sc x')) (l x++K0) ⟨S.h0,S.cap,sc x⟩)∧∀ y,ψ y→κe (l2 y++K0) ⟨S.h0,S.cap,sc2 y⟩) :
 Leaf P n ty rep m ex cu (.loop c) ⟨ret,(id,κe)::r⟩ κ K S:=⟨fun Df w0 a w ha he hs=>by
 obtain⟨K0,h1,h2,h3,h4,h5⟩:=drop_sound h
 refine wp_loop_ghost (fun μ a w=>∃ x,φ μ x∧Good Df n a (l x++K0)∧SE w0 w∧HS ⟨S.h0,S.cap,sc x⟩ w.heap) m0 ⟨x0,h3,ha.drop h1.get,he,h2.hs hs⟩ ?_
 rintro μ a w ⟨x,hx,ha,he,hs⟩
 have:=cks hty c _ _ _ _ (h4 μ x hx) Df w0 a w ha he hs
 refine Code.wp_mono ?_ this
 intro e a w hq
 cases e with
 |normal=>
  obtain⟨K',S',a1,a2,a3,μ',x',b1,b2,b3,b4,b5,b6⟩:=hq
  refine⟨μ',b2,x',b1,a1.drop b3.get,a2,?_⟩
  have:=b6.hs a3
  rwa [b4,b5] at this
 |exit i=>
  obtain⟨K',S',a1,a2,a3,a4⟩:=hq
  by_cases hi:id=i
  ·subst hi
   rw [exitK_eq] at a4
   obtain⟨y,b1,b2,b3,b4,b5⟩:=a4
   refine⟨_,⟨S.h0,S.cap,sc2 y⟩,a1.drop b2.get,a2,?_,by rw [exitK_eq];exact h5 y b1⟩
   have:=b5.hs a3
   rwa [b3,b4] at this
  ·rw [exitK_ne hi] at a4
   exact⟨K',S',a1,a2,a3,by rw [exitK_ne hi];exact a4⟩
 |ret=>exact hq
 |panic ch=>exact hq
 |goto l=>exact hq
 |outgrown=>exact hq⟩
theorem join_rule(hty:TysOk P ty){c:Code}{α:Type}(cs:List Nat)(l:α→Kn)(sc:α→Chs)(φ:α→Prop)
 (h:dropK cs K [] fun K0=>codeK P ty rep n m ex cu c X (fun K' S'=>∃ x,φ x∧HasK K' (l x++K0)∧S'.h0=S.h0∧S'.cap=S.cap∧HasC S'.ch (sc x)) K S∧∀ x,φ x→κ (l x++K0) ⟨S.h0,S.cap,sc x⟩) :
 Leaf P n ty rep m ex cu c X κ K S:=⟨fun Df w0 a w ha he hs=>by
 obtain⟨K0,h1,h2⟩:=drop_sound h
 refine Code.wp_mono ?_ (cks hty c X _ K S h1 Df w0 a w ha he hs)
 intro e a w hq
 cases e with
 |normal=>
  obtain⟨K',S',a1,a2,a3,x,b1,b2,b3,b4,b5⟩:=hq
  refine⟨_,⟨S.h0,S.cap,sc x⟩,a1.drop b2.get,a2,?_,h2 x b1⟩
  have:=b5.hs a3
  rwa [b3,b4] at this
 |exit i=>exact hq
 |ret=>exact hq
 |panic ch=>exact hq
 |goto l=>exact hq
 |outgrown=>exact hq⟩
def init:Nat→List KV→Kn
 |_,[]=>[]
 |i,v::r=>(i,v)::init (i+1) r
theorem init_get:∀ (l:List KV) (i t:Nat) (v:KV),lk (init i l) t=some v→i≤t∧l[t-i]?=some v
 |[],i,t,v,h=>by simp [init,lk] at h
 |u::r,i,t,v,h=>by
  simp only [init] at h
  by_cases e:i=t
  ·subst e;rw [lk_cons_eq] at h;cases h;simp
  ·rw [lk_cons_ne e] at h
   obtain⟨h1,h2⟩:=init_get r (i+1) t v h
   refine⟨by omega,?_⟩
   rw [show t-i=(t-(i+1))+1 by omega,List.getElem?_cons_succ]
   exact h2
theorem good_init{args:List KV}{n:Nat}(hn:args.length≤n):Good [] n { tmps:=(args.map den).toArray++Array.replicate (n-args.length) undef,defers:=[] } (init 0 args):=by
 refine⟨by simp;omega,rfl,fun t v h=>?_⟩
 obtain⟨_,h2⟩:=init_get _ _ _ _ h
 simp only [Nat.sub_zero] at h2
 have hlt:t<args.length:=(List.getElem?_eq_some_iff.1 h2).1
 rw [Array.getElem?_append_left (by simpa using hlt)]
 simp [h2]
def resK(ty:Nat→Option TyI):List ResultVar→Kn→St→List KV→(List KV→Prop)→Prop
 |[],_,_,acc,κ=>κ acc.reverse
 |.tmp t::r,K,S,acc,κ=>match lk K t with
  |some v=>fk1 v fun v=>resK ty r K S (v::acc) κ
  |none=>False
 |.cell a t::r,K,S,acc,κ=>match lk K a with
  |some p=>loadK ty t p S fun v=>fk1 v fun v=>resK ty r K S (v::acc) κ
  |none=>False
def retV:List KV→KV
 |[v]=>v
 |vs=>.tup vs
structure Fin(S:St)(v:KV)(R:Value→Heap→Prop):Prop where
 go:∀ h,HS S h→R (den v) h
def finK(ty:Nat→Option TyI)(rs:List ResultVar)(R:Value→Heap→Prop):Kt:=fun K S=>resK ty rs K S [] fun vs=>fk (retV vs) fun v=>Fin S v R
def resOne(tmps:Array Value):ResultVar→Sem Value
 |.tmp t=>pure (tmps.getD t undef)
 |.cell a t=>do loadVar t (←asAddr (tmps.getD a undef))
theorem loadVar_of{t:Nat}{v x:Value}{w:World}(h:(Instr.loadAt t v).run P w = .ok x w):∃ a,v = .pointer (some a)∧(loadVar t a).run P w = .ok x w:=by
 unfold Instr.loadAt at h
 cases v with
 |pointer a=>cases a with
  |none=>simp [Instr.sureAddr,stuck,Sem.run] at h
  |some a=>exact⟨a,rfl,by simpa [Instr.sureAddr] using h⟩
 |_=>simp [Instr.sureAddr,stuck,Sem.run] at h
theorem resK_sound(hty:TysOk P ty){a:Act}(ha:Good Df n a K):∀ (rs:List ResultVar) (acc:List KV) (q:List KV→Prop),resK ty rs K S acc q →
 ∃ vs,q (acc.reverse++vs)∧(∀ v∈vs,den v=den1 v)∧∀ w:World,HS S w.heap→(rs.mapM (resOne a.tmps)).run P w = .ok (vs.map den1) w
 |[],acc,q,h=>⟨[],by rw [List.append_nil];exact h,fun v hv=>by simp at hv,fun w hs=>by simp⟩
 |.tmp t::r,acc,q,h=>by
  simp only [resK] at h
  split at h
  ·rename_i v hv
   obtain⟨h1,h2⟩:=fk1_iff h
   obtain⟨vs,h3,h4,h5⟩:=resK_sound hty ha r _ q h1
   refine⟨v::vs,by simpa using h3,fun u hu=>?_,fun w hs=>?_⟩
   ·rcases List.mem_cons.1 hu with rfl|hu
    ·exact h2
    ·exact h4 u hu
   ·have:=ha.knows t v hv
    simp [List.mapM_cons,resOne,this,h5 w hs,h2]
  ·exact h.elim
 |.cell p t::r,acc,q,h=>by
  simp only [resK] at h
  split at h
  ·rename_i pv hp
   obtain⟨v,h,hl⟩:=loadK_sound (P:=P) hty h
   obtain⟨h1,h2⟩:=fk1_iff h
   obtain⟨vs,h3,h4,h5⟩:=resK_sound hty ha r _ q h1
   refine⟨v::vs,by simpa using h3,fun u hu=>?_,fun w hs=>?_⟩
   ·rcases List.mem_cons.1 hu with rfl|hu
    ·exact h2
    ·exact h4 u hu
   ·have h6:=ha.knows p pv hp
    obtain⟨ad,h7,h8⟩:=loadVar_of (hl w hs)
    rw [h7] at h6
    simp [List.mapM_cons,resOne,h6,asAddr,h8,h5 w hs,h2]
  ·exact h.elim
theorem results_sound(hty:TysOk P ty){a:Act}(ha:Good Df n a K){fn:Func}{rs:List ResultVar}(hrs:fn.results=rs.toArray){R:Value→Heap→Prop}(h:finK ty rs R K S){w:World}(hs:HS S w.heap) :
 ∃ v,(results fn a.tmps).run P w = .ok v w∧R v w.heap:=by
 obtain⟨vs,h1,h2,h3⟩:=resK_sound (P:=P) hty ha rs [] _ h
 have h4:=(fk_iff h1).go w.heap hs
 refine⟨_,?_,h4⟩
 have h5:=h3 w hs
 have e:results fn a.tmps=(do
  let vs ←rs.toArray.mapM (resOne a.tmps)
  pure (if h:vs.size=1 then vs[0] else .tuple vs)):=by
  unfold results
  rw [hrs]
  congr 1
 rw [e]
 rw [Array.mapM_eq_mapM_toList]
 simp only [Sem.run_bind,Sem.run_map,h5]
 simp only [List.reverse_nil,List.nil_append]
 match vs,h2 with
 |[],_=>simp [retV,den]
 |[v],h2=>simp [retV,h2 v (by simp)]
 |v::u::r,_=>simp [retV,den]
theorem callRuns {f : Nat} {fn : Func} (hf : P.funcs[f]? = some fn) (hn : (fn.name == "runtime.NumGoroutine") = false) (hb : fn.body.isNone = false) : CallRuns P f := fun args w => by
 have hn' : fn.name ≠ "runtime.NumGoroutine" := by simpa using hn
 have hb':fn.body≠none:=by intro e;simp [e] at hb
 simp [callFunc,hf,hn',hb']
theorem eIn {rep : Nat → Option RepS} (hty : TysOk P ty) {f : Nat} {fn : Func} {c : Code} (hf : P.funcs[f]? = some fn) (hb : fn.body = some c) (hn : (fn.name == "runtime.NumGoroutine") = false) {rs : List ResultVar} (hrs : fn.results = rs.toArray)
 (hnt:fn.ntmps=n) {args:List KV} (hlen:Nat.ble args.length n=true) {R:Value→Heap→Prop} {h:Heap} (hs:HS S h)
 (hk:codeK P ty ⟨rep,noPan⟩ n m ex cu c ⟨finK ty rs R,[]⟩ (finK ty rs R) (init 0 args) S):CH P f (args.map den).toArray h R:=by
 refine⟨callRuns hf hn (by simp [hb]),fun w hw=>?_⟩
 subst hw
 have hlen:=Nat.le_of_ble_eq_true hlen
 refine calls_of_wp hf hb ?_
 have ha:=good_init (n:=n) hlen
 have:=cks hty c _ _ _ _ hk [] w _ w ha (SE.refl w) hs
 rw [hnt,show (args.map den).toArray.size=args.length by simp]
 refine Code.wp_mono ?_ this
 intro e a w' hq
 have fin:(∃ K S,Good [] n a K∧SE w w'∧HS S w'.heap∧finK ty rs R K S)→a.defers=[]∧∃ v,(results fn a.tmps).run P w' = .ok v w'∧((w'.os=w.os∧w'.tape=w.tape∧w'.output=w.output)∧∃ u,Ending.returned v = .returned u∧R u w'.heap):=fun⟨K,S,a1,a2,a3,a4⟩=>by
  obtain⟨v,h1,h2⟩:=results_sound hty a1 hrs a4 a3
  exact⟨a1.defers,v,h1,⟨a2.os,a2.tape,a2.output⟩,v,rfl,h2⟩
 cases e with
 |normal=>exact fin hq
 |ret=>exact fin hq
 |exit i=>obtain⟨K,S,a1,a2,a3,a4⟩:=hq;exact False.elim a4
 |panic ch=>obtain⟨v,_,_,_,hv⟩:=hq;exact False.elim hv
 |goto l=>exact False.elim hq
 |outgrown=>exact False.elim hq
theorem eP {rep : Nat → Option RepS} {E : Value → Heap → Prop} (hty : TysOk P ty) {f : Nat} {fn : Func} {c : Code} (hf : P.funcs[f]? = some fn) (hb : fn.body = some c) (hn : (fn.name == "runtime.NumGoroutine") = false) {rs : List ResultVar} (hrs : fn.results = rs.toArray)
 (hnt:fn.ntmps=n) {args:List KV} (hlen:Nat.ble args.length n=true) {R:Value→Heap→Prop} {h:Heap} (hs:HS S h)
 (hk:codeK P ty ⟨rep,E⟩ n m ex cu c ⟨finK ty rs R,[]⟩ (finK ty rs R) (init 0 args) S):CsP P E f (args.map den).toArray h R:=by
 refine⟨callRuns hf hn (by simp [hb]),fun w hw=>?_⟩
 subst hw
 have hlen:=Nat.le_of_ble_eq_true hlen
 refine calls_of_wp hf hb ?_
 have ha:=good_init (n:=n) hlen
 have:=cks hty c _ _ _ _ hk [] w _ w ha (SE.refl w) hs
 rw [hnt,show (args.map den).toArray.size=args.length by simp]
 refine Code.wp_mono ?_ this
 intro e a w' hq
 have fin:(∃ K S,Good [] n a K∧SE w w'∧HS S w'.heap∧finK ty rs R K S)→a.defers=[]∧∃ v,(results fn a.tmps).run P w' = .ok v w'∧((w'.os=w.os∧w'.tape=w.tape∧w'.output=w.output) ∧
  ((∃ u,Ending.returned v = .returned u∧R u w'.heap)∨∃ u,Ending.returned v = .panicked [{ v:=u,recovered:=false }]∧E u w'.heap)):=fun⟨K,S,a1,a2,a3,a4⟩=>by
  obtain⟨v,h1,h2⟩:=results_sound hty a1 hrs a4 a3
  exact⟨a1.defers,v,h1,⟨a2.os,a2.tape,a2.output⟩,.inl ⟨v,rfl,h2⟩⟩
 cases e with
 |normal=>exact fin hq
 |ret=>exact fin hq
 |exit i=>obtain⟨K,S,a1,a2,a3,a4⟩:=hq;exact False.elim a4
 |panic ch=>obtain⟨v,h1,h2,h3,h4⟩:=hq;exact⟨h2,⟨h3.os,h3.tape,h3.output⟩,.inr ⟨v,by rw [h1],h4⟩⟩
 |goto l=>exact False.elim hq
 |outgrown=>exact False.elim hq
theorem HS.start(h:Heap):HS ⟨h,[],[]⟩ h:=⟨Nat.le_refl _,fun _ _ _=>rfl,fun e he=>by simp at he,.nil⟩
theorem enter {rep : Nat → Option RepS} (hty : TysOk P ty) {f : Nat} {fn : Func} {c : Code} (hf : P.funcs[f]? = some fn) (hb : fn.body = some c) (hn : (fn.name == "runtime.NumGoroutine") = false) {rs : List ResultVar} (hrs : fn.results = rs.toArray)
 (hnt:fn.ntmps=n) (args:List KV) (hlen:Nat.ble args.length n=true) {R:Value→Heap→Prop} {h:Heap}
 (hk:codeK P ty ⟨rep,noPan⟩ n m ex cu c ⟨finK ty rs R,[]⟩ (finK ty rs R) (init 0 args) ⟨h,[],[]⟩):CH P f (args.map den).toArray h R:=
 eIn hty hf hb hn hrs hnt hlen (HS.start h) hk
theorem quiet_weak{ops:Array Oper}{C:World→Prop}{Q Q':Act→Prop}(hq:∀ a,Q a→Q' a):∀ (l:List Oper) (a:Act),wpQuiet P ops C Q l a→wpQuiet P ops C Q' l a
 |[],a,h=>hq a h
 |o::rest,a,h=>by
  unfold wpQuiet at h ⊢
  split
  ·rename_i hw;rw [if_pos hw] at h;exact Oper.quiet_mono (quiet_weak hq rest) h
  ·rename_i hw;rw [if_neg hw] at h;exact quiet_weak hq rest _ h
structure CallQ(P:Program)(f:Nat)(args caps:List KV)(S:St)(κ:KV→Prop):Prop where
 go:∃ kv,(∀ h,HS S h→CH P f (args.map den1++caps.map denC).toArray h fun v h'=>v=den kv∧HS S h')∧κ kv
def opD(P:Program)(ty:Nat→Option TyI)(o:Oper)(K:Kn)(S:St)(κ:KV→Prop):Prop:=match o.op with
 |.call ⟨.value f,args,_⟩=>match look K f with
  |some (.fn f caps)=>argsK K args.toList [] fun vs=>CallQ P f vs caps S κ
  |_=>False
 |_=>opQ P ty o K S κ
noncomputable def regQ(P:Program)(ty:Nat→Option TyI)(n:Nat)(ops:List Oper)(l:List Oper):Kn→St→(Kn→Prop)→Prop:=List.rec (motive:=fun _=>Kn→St→(Kn→Prop)→Prop) (fun K S κ=>κ K)
 (fun o _ ih K S κ=>match dstOk n o.dst with
  |false=>False
  |true=>match o.guard with
   |none=>opD P ty o K S fun v=>ih (putD K o.dst v) S κ
   |some (j,want)=>match dsts ops j with
    |none=>False
    |some s=>guardK s want K (fun K=>opD P ty o K S fun v=>ih (putD K o.dst v) S κ) (fun K=>ih (putD K o.dst (.val undef)) S κ)) l
theorem opD_sound(hty:TysOk P ty){o:Oper}{q:KV→Prop}(h:opD P ty o K S q){a:Act}(ha:Good Df n a K){C:World→Prop}(hC:∀ w,C w→HS S w.heap)(hC2:∀ w w',C w→SE w w'→HS S w'.heap→C w') :
 ∃ kv,q kv∧∀ w,C w→o.quietAt P a C w (den kv):=by
 have quiet:opQ P ty o K S q→∃ kv,q kv∧∀ w,C w→o.quietAt P a C w (den kv):=fun h=>by
  obtain⟨kv,h1,h2⟩:=opQ_sound hty h ha
  refine⟨kv,h1,fun w hw=>?_⟩
  unfold Oper.quietAt
  rw [h2 w fun _=>hC w hw]
  exact⟨rfl,rfl⟩
 obtain⟨dst,op,type,pos,after,guard⟩:=o
 simp only [opD] at h
 split at h
 ·rename_i fo args tys
  split at h
  ·rename_i f caps hf
   obtain⟨vs,h1,h2⟩:=argsK_sound ha _ _ _ h
   obtain⟨kv,h3,h4⟩:=h1
   refine⟨kv,h4,fun w hw=>?_⟩
   have h5:=h3 w.heap (hC w hw)
   have e1:(vs.map den1++caps.map denC).toArray=args.map a.eval++(caps.map denC).toArray:=by
    rw [h2]
    exact Array.ext' (by simp)
   rw [e1] at h5
   have hr:(execOp a.eval { dst:=dst,op:=.call ⟨.value fo,args,tys⟩,type:=type,pos:=pos,after:=after,guard:=guard }).run P w = .ok (.enter f (args.map a.eval++(caps.map denC).toArray)) w:=by
    have:=h5.1 (args.map a.eval++(caps.map denC).toArray) w
    simp [execOp,resolve,ha.eval hf,den,den1,Deferred.ofValue,invoke,this]
   unfold Oper.quietAt
   rw [hr]
   refine⟨rfl,(h5.2 w rfl).mono fun e w' ⟨⟨g1,g2,g3⟩,v,he,hv,hs⟩=>⟨by rw [he,hv],hC2 w w' hw ⟨g1,g2,g3⟩ hs⟩⟩
  ·exact h.elim
 ·exact quiet h
theorem regQ_sound(hty:TysOk P ty){ops:List Oper}{C:World→Prop}(hC:∀ w,C w→HS S w.heap)(hC2:∀ w w',C w→SE w w'→HS S w'.heap→C w'):∀ (l:List Oper) (K:Kn) (q:Kn→Prop),regQ P ty n ops l K S q→∀ a,Good Df n a K →
 wpQuiet P ops.toArray C (fun a'=>∃ K',Good Df n a' K'∧q K') l a
 |[],K,q,h,a,ha=>⟨K,ha,h⟩
 |o::r,K,q,h,a,ha=>by
  have h:(match dstOk n o.dst with
   |false=>False
   |true=>match o.guard with
    |none=>opD P ty o K S fun v=>regQ P ty n ops r (putD K o.dst v) S q
    |some (j,want)=>match dsts ops j with
     |none=>False
     |some s=>guardK s want K (fun K=>opD P ty o K S fun v=>regQ P ty n ops r (putD K o.dst v) S q) (fun K=>regQ P ty n ops r (putD K o.dst (.val undef)) S q)):=h
  split at h
  ·exact h.elim
  rename_i hd
  have hd:=dstOk_spec hd
  have run:∀ K,Good Df n a K→(opD P ty o K S fun v=>regQ P ty n ops r (putD K o.dst v) S q)→o.quiet P a C (wpQuiet P ops.toArray C (fun a'=>∃ K',Good Df n a' K'∧q K') r):=fun K ha h=>by
   obtain⟨kv,h1,h2⟩:=opD_sound hty h ha hC hC2
   exact⟨_,h2,regQ_sound hty hC hC2 r _ q h1 _ (ha.put hd kv)⟩
  unfold wpQuiet
  split at h
  ·rename_i hg
   rw [if_pos (by simp [Region.wanted,hg])]
   exact run K ha h
  ·rename_i j want hg
   split at h
   ·exact h.elim
   ·rename_i s hs'
    obtain⟨K',ha',h1|h1⟩:=guard_sound h ha
    ·have hw:Region.wanted o (yielded ops.toArray a.tmps)=true:=by
      have:=h1.1
      rw [dsts_eq] at hs'
      simp [Region.wanted,hg,yielded,hs',this]
     rw [if_pos hw]
     exact run K' ha' h1.2
    ·have hw:Region.wanted o (yielded ops.toArray a.tmps)=false:=by
      rw [dsts_eq] at hs'
      rcases h1.1 with this|this
      ·simp [Region.wanted,hg,yielded,hs',this]
      ·simp [Region.wanted,hg,yielded,hs',this,undef]
     rw [if_neg (by rw [hw];simp)]
     exact regQ_sound hty hC hC2 r _ q h1.2 _ (ha'.put hd (.val undef))
theorem drawn(hty:TysOk P ty)(hm:P.follows .mixedOrders=true){id:Nat}{ops:Array Oper}(hB:Region.lexB .any ops=true)
 (h:regQ P ty n ops.toList ops.toList K S fun K=>κ K S):Leaf P n ty rep m ex cu (.region id ops true) X κ K S:=⟨fun Df w0 a w ha he hs=>by
 refine wp_region_quiet (C:=fun w'=>SE w0 w'∧HS S w'.heap) hm hB ⟨⟨he.os,he.tape,he.output⟩,hs⟩ ?_
 have:=regQ_sound (n:=n) hty (ops:=ops.toList) (C:=fun w'=>SE w0 w'∧HS S w'.heap) (fun w h=>h.2) (fun w w' h1 h2 h3=>⟨h1.1.trans h2,h3⟩) ops.toList K _ h a ha
 rw [Array.toArray_toList] at this
 refine quiet_weak ?_ _ _ this
 rintro a' ⟨K',h1,h2⟩ w' ⟨h3,h4⟩
 exact⟨K',S,h1,h3,h4,h2⟩⟩
end
end Go.Ex
