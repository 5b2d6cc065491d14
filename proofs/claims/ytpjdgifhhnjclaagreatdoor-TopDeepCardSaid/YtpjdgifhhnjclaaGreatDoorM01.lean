/-
  Top: TopDeep: whatever the input, the law answers true (part 1)
-/
import Derived.Test.YtpjdgifhhnjclaaGreatDoorM00
set_option linter.unusedVariables false
set_option linter.unusedSimpArgs false
set_option maxHeartbeats 4000000
set_option maxRecDepth 10000
namespace Go.Ex
variable {Df:List Deferred}
structure SE(w w':World):Prop where
 os:w'.os=w.os
 tape:w'.tape=w.tape
 output:w'.output=w.output
theorem SE.refl(w:World):SE w w:=⟨rfl,rfl,rfl⟩
theorem SE.trans{a b c:World}(h:SE a b)(k:SE b c):SE a c:=⟨k.os.trans h.os,k.tape.trans h.tape,k.output.trans h.output⟩
def zeroV(i:TyI):Value:=if i.agg then .agg i.zero.toArray else i.zero.headD undef
def FieldOk(P:Program)(f:Field)(x:Nat×Option Nat):Prop:=
 f.offset=x.1∧(∀ w,(isAgg f.type).run P w = .ok x.2.isSome w)∧(∀ w,(sizeOf f.type).run P w = .ok (x.2.getD 1) w)∧x.2≠some 0
def FieldsOk(P:Program):List Field→List (Nat×Option Nat)→Prop
 |[],[]=>True
 |f::r,x::y=>FieldOk P f x∧FieldsOk P r y
 |_,_=>False
def KindOk(P:Program)(t:Nat):TK→Prop
 |.int k=>P.underlying t=some (.int k)
 |.bool=>P.underlying t=some .bool
 |.str=>P.underlying t=some .string
 |.slice e=>P.underlying t=some (.slice e)
 |.struct fs=>∃ fields,P.underlying t=some (.struct fields)∧FieldsOk P fields.toList fs
 |.ptr=>∃ e,P.underlying t=some (.pointer e)
 |.arr n e=>P.underlying t=some (.array n e)
 |.other=>True
structure TyOk(P:Program)(t:Nat)(i:TyI):Prop where
 info:(P.info? t).map (fun x=>(x.zero,x.size,x.bytes))=some (some (zeroV i),i.sz,i.bytes)
 agg:∀ w,(isAgg t).run P w = .ok i.agg w
 kind:KindOk P t i.k
 zlen:i.zero.length=i.sz
 zcells:(zeroV i).cells=i.zero.toArray
 one:i.agg=false→i.sz=1
 some_:(P.underlying t).isSome=true
def TysOk(P:Program)(ty:Nat→Option TyI):Prop:=∀ t i,ty t=some i→TyOk P t i
section
variable {P:Program}{t:Nat}{i:TyI}
theorem TyOk.parts(h:TyOk P t i):∃ x,P.info? t=some x∧x.zero=some (zeroV i)∧x.size=i.sz∧x.bytes=i.bytes:=by
 have:=h.info
 cases hx:P.info? t with
 |none=>simp [hx] at this
 |some x=>simp [hx] at this;exact⟨x,rfl,this.1,this.2.1,this.2.2⟩
theorem TyOk.size(h:TyOk P t i)(w:World):(sizeOf t).run P w = .ok i.sz w:=by
 obtain⟨x,hx,_,hs,_⟩:=h.parts
 simp [sizeOf,typeInfo,hx,hs]
theorem TyOk.zeroR(h:TyOk P t i)(w:World):(zeroValue t).run P w = .ok (zeroV i) w:=by
 obtain⟨x,hx,hz,_,_⟩:=h.parts
 simp [zeroValue,typeInfo,hx,hz]
end
structure Good(Df:List Deferred)(n:Nat)(a:Act)(K:Kn):Prop where
 size:a.tmps.size=n
 defers:a.defers=Df
 knows:∀ t v,lk K t=some v→a.tmps[t]?=some (den v)
theorem nbF{s t:Nat}(h:Nat.beq s t=false):s≠t:=Nat.ne_of_beq_eq_false h
theorem nbT{s t:Nat}(h:Nat.beq s t=true):s=t:=Nat.eq_of_beq_eq_true h
theorem lk_cons_ne{s t:Nat}{v:KV}{K:Kn}(h:s≠t):lk ((s,v)::K) t=lk K t:=by
 simp only [lk]
 split
 ·rename_i e;exact absurd (nbT e) h
 ·rfl
theorem lk_cons_eq{s:Nat}{v:KV}{K:Kn}:lk ((s,v)::K) s=some v:=by
 simp only [lk]
 split
 ·rfl
 ·rename_i e;exact absurd rfl (nbF e)
def putD(K:Kn)(d:Option Nat)(v:KV):Kn:=match d with|some d=>(d,v)::K|none=>K
theorem Good.put{n:Nat}{a:Act}{K:Kn}(h:Good Df n a K){d:Option Nat}(hd:∀ x,d=some x→x<n)(v:KV):Good Df n (a.put d (den v)) (putD K d v):=by
 cases d with
 |none=>exact h
 |some d=>
  refine⟨by simp [Act.put,h.size],by simp [Act.put,h.defers],fun t u hu=>?_⟩
  by_cases e:d=t
  ·subst e
   rw [putD,lk_cons_eq] at hu
   cases hu
   simp [Act.put,h.size,hd d rfl]
  ·rw [putD,lk_cons_ne e] at hu
   simp only [Act.put,Array.getElem?_setIfInBounds_ne e]
   exact h.knows t u hu
theorem Good.drop{n:Nat}{a:Act}{K K':Kn}(h:Good Df n a K)(hs:∀ t v,lk K' t=some v→lk K t=some v):Good Df n a K':=
 ⟨h.size,h.defers,fun t v hv=>h.knows t v (hs t v hv)⟩
theorem mapC_map:∀ l:List Value,(mapC l).map denC=l
 |[]=>rfl
 |v::r=>by
  simp only [mapC,List.map_cons,mapC_map r]
  congr 1
  cases v<;>first|rfl|(simp only [kvC];simp [denC])
theorem den1_kvC(v:Value):den1 (kvC v)=v:=by cases v<;>first|rfl|(simp only [kvC];simp [den1,denC])
theorem den1_kv1(v:Value):den1 (kv1 v)=v:=by
 cases v with
 |agg cs=>simp [kv1,den1,mapC_map]
 |_=>refine Eq.trans ?_ (den1_kvC _);rfl
theorem den_kvC(v:Value):den (kvC v)=v:=by cases v<;>first|rfl|(simp only [kvC];simp [den,den1,denC])
theorem den_kv1(v:Value):den (kv1 v)=v:=by
 cases v with
 |agg cs=>simp [kv1,den,den1,mapC_map]
 |_=>refine Eq.trans ?_ (den_kvC _);rfl
theorem map1_map:∀ l:List Value,(map1 l).map den1=l
 |[]=>rfl
 |v::r=>by simp [map1,map1_map r,den1_kv1]
theorem den_kvOf(v:Value):den (kvOf v)=v:=by
 cases v with
 |tuple vs=>simp [kvOf,den,map1_map]
 |_=>refine Eq.trans ?_ (den_kv1 _);rfl
theorem lits_map:∀ l:List Value,(lits l).map denC=l
 |[]=>rfl
 |v::r=>by simp [lits,lits_map r,denC]
theorem den_kvLit(v:Value):den (kvLit v)=v:=by cases v<;>first|rfl|simp [kvLit,den,den1,denC,lits_map]
theorem fk_iff{v:KV}{κ:KV→Prop}(h:fk v κ):κ v:=by cases v<;>exact h
theorem fkl_iff:∀ {l:List KV} {κ:List KV→Prop},fkl l κ→κ l
 |[],_,h=>h
 |_::r,κ,h=>fkl_iff (κ:=fun r=>κ (_::r)) (fk_iff h)
theorem Good.eval{n:Nat}{a:Act}{K:Kn}(h:Good Df n a K){x:Operand}{v:KV}(hx:look K x=some v):a.eval x=den v:=by
 cases x with
 |tmp t=>
  have:=h.knows t v hx
  simp [Act.eval,this]
 |const c=>simp only [look,Option.some.injEq] at hx;subst hx;exact (den_kvLit c).symm
 |global g=>simp only [look,Option.some.injEq] at hx;subst hx;rfl
 |func f=>simp only [look,Option.some.injEq] at hx;subst hx;rfl
theorem fkc_iff{v:KV}{κ:KV→Prop}(h:fkc v κ):κ v∧den v=denC v:=by cases v<;>first|exact⟨h,rfl⟩|exact h.elim
theorem readK_den{agg:Bool}{l:List KV}{κ:KV→Prop}(h:readK agg l κ):∃ kv,κ kv∧den kv=if agg then .agg (l.map denC).toArray else (l.map denC).headD undef:=by
 cases agg with
 |true=>exact⟨_,fkl_iff h,rfl⟩
 |false=>
  match l,h with
  |[v],h=>obtain⟨h1,h2⟩:=fkc_iff h;exact⟨_,h1,by simp [h2]⟩
theorem dropN_eq{α:Type}:∀ (n:Nat) (l r:List α),dropN n l=some r→r=l.drop n∧n≤l.length
 |0,l,r,h=>by simp [dropN] at h;simp [h]
 |n+1,[],r,h=>by simp [dropN] at h
 |n+1,x::l,r,h=>by
  have:=dropN_eq n l r h
  simp [this.1,this.2]
theorem takeN_eq{α:Type}:∀ (n:Nat) (l r:List α),takeN n l=some r→r=l.take n∧n≤l.length
 |0,l,r,h=>by simp [takeN] at h;simp [←h]
 |n+1,[],r,h=>by simp [takeN] at h
 |n+1,x::l,r,h=>by
  simp only [takeN] at h
  cases hr:takeN n l with
  |none=>simp [hr] at h
  |some q=>
   have:=takeN_eq n l q hr
   simp [hr] at h
   simp [←h,this.1,this.2]
theorem subN_eq{α:Type}{f n:Nat}{l r:List α}(h:subN f n l=some r):r=(l.drop f).take n∧f+n≤l.length∧r.length=n:=by
 simp only [subN] at h
 cases hd:dropN f l with
 |none=>simp [hd] at h
 |some q=>
  simp only [hd] at h
  obtain⟨e1,h1⟩:=dropN_eq _ _ _ hd
  obtain⟨e2,h2⟩:=takeN_eq _ _ _ h
  subst e1;subst e2
  simp only [List.length_drop] at h2
  refine⟨rfl,by omega,by simp;omega⟩
theorem overN_len{α:Type}:∀ (f:Nat) (xs l r:List α),overN f xs l=some r→r.length=l.length∧f+xs.length≤l.length
 |0,[],l,r,h=>by simp [overN] at h;simp [h]
 |0,x::xs,[],r,h=>by simp [overN] at h
 |0,x::xs,y::l,r,h=>by
  simp only [overN] at h
  cases hr:overN 0 xs l with
  |none=>simp [hr] at h
  |some q=>
   have:=overN_len 0 xs l q hr
   simp [hr] at h
   simp [←h,this.1];omega
 |n+1,xs,[],r,h=>by simp [overN] at h
 |n+1,xs,y::l,r,h=>by
  simp only [overN] at h
  cases hr:overN n xs l with
  |none=>simp [hr] at h
  |some q=>
   have:=overN_len n xs l q hr
   simp [hr] at h
   simp [←h,this.1];omega
theorem overN_get{α:Type}:∀ (f:Nat) (xs l r:List α),overN f xs l=some r→∀ j,r[j]?=if f≤j∧j<f+xs.length then xs[j-f]? else l[j]?
 |0,[],l,r,h,j=>by simp [overN] at h;simp [h];
 |0,x::xs,[],r,h,j=>by simp [overN] at h
 |0,x::xs,y::l,r,h,j=>by
  simp only [overN] at h
  cases hr:overN 0 xs l with
  |none=>simp [hr] at h
  |some q=>
   have:=overN_get 0 xs l q hr
   simp [hr] at h
   subst h
   cases j with
   |zero=>simp
   |succ j=>simp [this j]
 |n+1,xs,[],r,h,j=>by simp [overN] at h
 |n+1,xs,y::l,r,h,j=>by
  simp only [overN] at h
  cases hr:overN n xs l with
  |none=>simp [hr] at h
  |some q=>
   have:=overN_get n xs l q hr
   simp [hr] at h
   subst h
   cases j with
   |zero=>simp
   |succ j=>
    simp only [List.getElem?_cons_succ,this j]
    by_cases hc:n≤j∧j<n+xs.length
    ·rw [if_pos hc,if_pos (by omega)];congr 1;omega
    ·rw [if_neg hc,if_neg (by omega)]
theorem cell_of(w:World)(b o:Nat):w.cell? ⟨b,o,none⟩=hcell w.heap b o:=by
 simp only [World.cell?,hcell,Option.isSome_none]
 cases w.heap[b]? with
 |none=>rfl
 |some o=>cases o<;>rfl
theorem add_of(b o n:Nat):Addr.add ⟨b,o,none⟩ n=⟨b,o+n,none⟩:=by
 unfold Addr.add;split<;>simp_all
theorem run_loadCellsFrom{P:Program}(w:World)(b o:Nat):∀ (vs:List Value) (i:Nat) (acc:Array Value),(∀ j v,vs[j]?=some v→hcell w.heap b (o+(i+j))=some v) →
 (loadCellsFrom ⟨b,o,none⟩ i vs.length acc).run P w = .ok (acc++vs.toArray) w
 |[],i,acc,h=>by simp [loadCellsFrom]
 |v::r,i,acc,h=>by
  have h0:=h 0 v rfl
  have ih:=run_loadCellsFrom (P:=P) w b o r (i+1) (acc.push v) fun j u hj=>by
   have:=h (j+1) u (by simpa using hj)
   rw [show i+1+j=i+(j+1) by omega];exact this
  simp only [List.length_cons,loadCellsFrom]
  simp only [add_of,load,bind,Sem.bind,Sem.run,cell_of]
  rw [Nat.add_zero] at h0
  simp only [h0]
  rw [ih]
  simp
theorem run_loadAt{P:Program}{t:Nat}{i:TyI}(ht:TyOk P t i)(w:World)(b o:Nat)(vs:List Value)(hl:vs.length=i.sz)
 (h:∀ j v,vs[j]?=some v→hcell w.heap b (o+j)=some v):(Instr.loadAt t (.pointer (some ⟨b,o,none⟩))).run P w = .ok (if i.agg then .agg vs.toArray else vs.headD undef) w:=by
 have ha:=ht.agg w
 simp only [Instr.loadAt,Instr.sureAddr,loadVar]
 simp only [pure_bind,Sem.run_bind,ha]
 cases hi:i.agg with
 |true=>
  simp only [if_true]
  have:=run_loadCellsFrom (P:=P) w b o vs 0 #[] (fun j v hj=>by rw [Nat.zero_add];exact h j v hj)
  rw [hl] at this
  simp [loadCells,this,ht.size w]
 |false=>
  have h1:=ht.one hi
  match vs,hl with
  |[v],_=>
   have:=h 0 v rfl
   rw [Nat.add_zero] at this;simp [load,Sem.run,cell_of,this]
  |[],hl=>simp at hl;omega
  |_::_::_,hl=>simp at hl;omega
end Go.Ex
