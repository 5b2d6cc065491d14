/-
  Top: TopComments: whatever the input, the law answers true (part 1)
-/
import Derived.Test.YtpjdgifhhnjclaaGreatDoorM00
set_option linter.unusedVariables false
set_option linter.unusedSimpArgs false
set_option maxHeartbeats 4000000
set_option maxRecDepth 10000
namespace Go.Ex
variable {Df:List Deferred}
structure SE(w w':World):Prop where
 os:w'.os=w.os
 tape:w'.tape=w.tape
 output:w'.output=w.output
theorem SE.refl(w:World):SE w w:=⟨rfl,rfl,rfl⟩
theorem SE.trans{a b c:World}(h:SE a b)(k:SE b c):SE a c:=⟨k.os.trans h.os,k.tape.trans h.tape,k.output.trans h.output⟩
def eH(i:gS):Value:=if i.agg then .agg i.zero.toArray else i.zero.headD undef
def nD(P:Program)(f:Field)(x:Nat×Option Nat):Prop:=
 f.offset=x.1∧(∀ w,(isAgg f.type).run P w = .ok x.2.isSome w)∧(∀ w,(sizeOf f.type).run P w = .ok (x.2.getD 1) w)∧x.2≠some 0
def aI(P:Program):List Field→List (Nat×Option Nat)→Prop
 |[],[]=>True
 |f::r,x::y=>nD P f x∧aI P r y
 |_,_=>False
def Dj(P:Program)(t:Nat):TK→Prop
 |.int k=>P.underlying t=some (.int k)
 |.bool=>P.underlying t=some .bool
 |.str=>P.underlying t=some .string
 |.slice e=>P.underlying t=some (.slice e)
 |.struct fs=>∃ fields,P.underlying t=some (.struct fields)∧aI P fields.toList fs
 |.ptr=>∃ e,P.underlying t=some (.pointer e)
 |.arr n e=>P.underlying t=some (.array n e)
 |.other=>True
structure mZ(P:Program)(t:Nat)(i:gS):Prop where
 info:(P.info? t).map (fun x=>(x.zero,x.size,x.bytes))=some (some (eH i),i.sz,i.bytes)
 agg:∀ w,(isAgg t).run P w = .ok i.agg w
 kind:Dj P t i.k
 zlen:i.zero.length=i.sz
 zcells:(eH i).cells=i.zero.toArray
 one:i.agg=false→i.sz=1
 some_:(P.underlying t).isSome=true
def H6(P:Program)(ty:Nat→Option gS):Prop:=∀ t i,ty t=some i→mZ P t i
section
variable {P:Program}{t:Nat}{i:gS}
theorem mZ.parts(h:mZ P t i):∃ x,P.info? t=some x∧x.zero=some (eH i)∧x.size=i.sz∧x.bytes=i.bytes:=by
 have:=h.info
 cases hx:P.info? t with
 |none=>simp [hx] at this
 |some x=>simp [hx] at this;exact⟨x,rfl,this.1,this.2.1,this.2.2⟩
theorem mZ.size(h:mZ P t i)(w:World):(sizeOf t).run P w = .ok i.sz w:=by
 obtain⟨x,hx,_,hs,_⟩:=h.parts
 simp [sizeOf,typeInfo,hx,hs]
theorem mZ.zeroR(h:mZ P t i)(w:World):(zeroValue t).run P w = .ok (eH i) w:=by
 obtain⟨x,hx,hz,_,_⟩:=h.parts
 simp [zeroValue,typeInfo,hx,hz]
end
structure H9(Df:List Deferred)(n:Nat)(a:Act)(K:Kn):Prop where
 size:a.tmps.size=n
 defers:a.defers=Df
 knows:∀ t v,lk K t=some v→a.tmps[t]?=some (B0 v)
theorem lA{s t:Nat}(h:Nat.beq s t=false):s≠t:=Nat.ne_of_beq_eq_false h
theorem Qk{s t:Nat}(h:Nat.beq s t=true):s=t:=Nat.eq_of_beq_eq_true h
theorem J3{s t:Nat}{v:KV}{K:Kn}(h:s≠t):lk ((s,v)::K) t=lk K t:=by
 simp only [lk]
 split
 ·rename_i e;exact absurd (Qk e) h
 ·rfl
theorem K9{s:Nat}{v:KV}{K:Kn}:lk ((s,v)::K) s=some v:=by
 simp only [lk]
 split
 ·rfl
 ·rename_i e;exact absurd rfl (lA e)
def W2(K:Kn)(d:Option Nat)(v:KV):Kn:=match d with|some d=>(d,v)::K|none=>K
theorem H9.put{n:Nat}{a:Act}{K:Kn}(h:H9 Df n a K){d:Option Nat}(hd:∀ x,d=some x→x<n)(v:KV):H9 Df n (a.put d (B0 v)) (W2 K d v):=by
 cases d with
 |none=>exact h
 |some d=>
  refine⟨by simp [Act.put,h.size],by simp [Act.put,h.defers],fun t u hu=>?_⟩
  by_cases e:d=t
  ·subst e
   rw [W2,K9] at hu
   cases hu
   simp [Act.put,h.size,hd d rfl]
  ·rw [W2,J3 e] at hu
   simp only [Act.put,Array.getElem?_setIfInBounds_ne e]
   exact h.knows t u hu
theorem H9.drop{n:Nat}{a:Act}{K K':Kn}(h:H9 Df n a K)(hs:∀ t v,lk K' t=some v→lk K t=some v):H9 Df n a K':=
 ⟨h.size,h.defers,fun t v hv=>h.knows t v (hs t v hv)⟩
theorem N9:∀ l:List Value,(O7 l).map A0=l
 |[]=>rfl
 |v::r=>by
  simp only [O7,List.map_cons,N9 r]
  congr 1
  cases v<;>first|rfl|(simp only [AG];simp [A0])
theorem Vu(v:Value):A1 (AG v)=v:=by cases v<;>first|rfl|(simp only [AG];simp [A1,A0])
theorem Wu(v:Value):A1 (BJ v)=v:=by
 cases v with
 |agg cs=>simp [BJ,A1,N9]
 |_=>refine Eq.trans ?_ (Vu _);rfl
theorem Wx(v:Value):B0 (AG v)=v:=by cases v<;>first|rfl|(simp only [AG];simp [B0,A1,A0])
theorem Xx(v:Value):B0 (BJ v)=v:=by
 cases v with
 |agg cs=>simp [BJ,B0,A1,N9]
 |_=>refine Eq.trans ?_ (Wx _);rfl
theorem Yc:∀ l:List Value,(Tw l).map A1=l
 |[]=>rfl
 |v::r=>by simp [Tw,Yc r,Wu]
theorem mS(v:Value):B0 (Wh v)=v:=by
 cases v with
 |tuple vs=>simp [Wh,B0,Yc]
 |_=>refine Eq.trans ?_ (Xx _);rfl
theorem S6:∀ l:List Value,(kM l).map A0=l
 |[]=>rfl
 |v::r=>by simp [kM,S6 r,A0]
theorem Yp(v:Value):B0 (Ed v)=v:=by cases v<;>first|rfl|simp [Ed,B0,A1,A0,S6]
theorem aD{v:KV}{κ:KV→Prop}(h:fk v κ):κ v:=by cases v<;>exact h
theorem mI:∀ {l:List KV} {κ:List KV→Prop},BK l κ→κ l
 |[],_,h=>h
 |_::r,κ,h=>mI (κ:=fun r=>κ (_::r)) (aD h)
theorem H9.eval{n:Nat}{a:Act}{K:Kn}(h:H9 Df n a K){x:Operand}{v:KV}(hx:H4 K x=some v):a.eval x=B0 v:=by
 cases x with
 |tmp t=>
  have:=h.knows t v hx
  simp [Act.eval,this]
 |const c=>simp only [H4,Option.some.injEq] at hx;subst hx;exact (Yp c).symm
 |global g=>simp only [H4,Option.some.injEq] at hx;subst hx;rfl
 |func f=>simp only [H4,Option.some.injEq] at hx;subst hx;rfl
theorem Rx{v:KV}{κ:KV→Prop}(h:EE v κ):κ v∧B0 v=A0 v:=by cases v<;>first|exact⟨h,rfl⟩|exact h.elim
theorem Q4{agg:Bool}{l:List KV}{κ:KV→Prop}(h:G8 agg l κ):∃ kv,κ kv∧B0 kv=if agg then .agg (l.map A0).toArray else (l.map A0).headD undef:=by
 cases agg with
 |true=>exact⟨_,mI h,rfl⟩
 |false=>
  match l,h with
  |[v],h=>obtain⟨h1,h2⟩:=Rx h;exact⟨_,h1,by simp [h2]⟩
theorem Fe{α:Type}:∀ (n:Nat) (l r:List α),xH n l=some r→r=l.drop n∧n≤l.length
 |0,l,r,h=>by simp [xH] at h;simp [h]
 |n+1,[],r,h=>by simp [xH] at h
 |n+1,x::l,r,h=>by
  have:=Fe n l r h
  simp [this.1,this.2]
theorem Va{α:Type}:∀ (n:Nat) (l r:List α),rA n l=some r→r=l.take n∧n≤l.length
 |0,l,r,h=>by simp [rA] at h;simp [←h]
 |n+1,[],r,h=>by simp [rA] at h
 |n+1,x::l,r,h=>by
  simp only [rA] at h
  cases hr:rA n l with
  |none=>simp [hr] at h
  |some q=>
   have:=Va n l q hr
   simp [hr] at h
   simp [←h,this.1,this.2]
theorem bC{α:Type}{f n:Nat}{l r:List α}(h:kB f n l=some r):r=(l.drop f).take n∧f+n≤l.length∧r.length=n:=by
 simp only [kB] at h
 cases hd:xH f l with
 |none=>simp [hd] at h
 |some q=>
  simp only [hd] at h
  obtain⟨e1,h1⟩:=Fe _ _ _ hd
  obtain⟨e2,h2⟩:=Va _ _ _ h
  subst e1;subst e2
  simp only [List.length_drop] at h2
  refine⟨rfl,by omega,by simp;omega⟩
theorem Y5{α:Type}:∀ (f:Nat) (xs l r:List α),K2 f xs l=some r→r.length=l.length∧f+xs.length≤l.length
 |0,[],l,r,h=>by simp [K2] at h;simp [h]
 |0,x::xs,[],r,h=>by simp [K2] at h
 |0,x::xs,y::l,r,h=>by
  simp only [K2] at h
  cases hr:K2 0 xs l with
  |none=>simp [hr] at h
  |some q=>
   have:=Y5 0 xs l q hr
   simp [hr] at h
   simp [←h,this.1];omega
 |n+1,xs,[],r,h=>by simp [K2] at h
 |n+1,xs,y::l,r,h=>by
  simp only [K2] at h
  cases hr:K2 n xs l with
  |none=>simp [hr] at h
  |some q=>
   have:=Y5 n xs l q hr
   simp [hr] at h
   simp [←h,this.1];omega
theorem eU{α:Type}:∀ (f:Nat) (xs l r:List α),K2 f xs l=some r→∀ j,r[j]?=if f≤j∧j<f+xs.length then xs[j-f]? else l[j]?
 |0,[],l,r,h,j=>by simp [K2] at h;simp [h];
 |0,x::xs,[],r,h,j=>by simp [K2] at h
 |0,x::xs,y::l,r,h,j=>by
  simp only [K2] at h
  cases hr:K2 0 xs l with
  |none=>simp [hr] at h
  |some q=>
   have:=eU 0 xs l q hr
   simp [hr] at h
   subst h
   cases j with
   |zero=>simp
   |succ j=>simp [this j]
 |n+1,xs,[],r,h,j=>by simp [K2] at h
 |n+1,xs,y::l,r,h,j=>by
  simp only [K2] at h
  cases hr:K2 n xs l with
  |none=>simp [hr] at h
  |some q=>
   have:=eU n xs l q hr
   simp [hr] at h
   subst h
   cases j with
   |zero=>simp
   |succ j=>
    simp only [List.getElem?_cons_succ,this j]
    by_cases hc:n≤j∧j<n+xs.length
    ·rw [if_pos hc,if_pos (by omega)];congr 1;omega
    ·rw [if_neg hc,if_neg (by omega)]
theorem S0(w:World)(b o:Nat):w.cell? ⟨b,o,none⟩=K5 w.heap b o:=by
 simp only [World.cell?,K5,Option.isSome_none]
 cases w.heap[b]? with
 |none=>rfl
 |some o=>cases o<;>rfl
theorem bT(b o n:Nat):Addr.add ⟨b,o,none⟩ n=⟨b,o+n,none⟩:=by
 unfold Addr.add;split<;>simp_all
theorem Z6{P:Program}(w:World)(b o:Nat):∀ (vs:List Value) (i:Nat) (acc:Array Value),(∀ j v,vs[j]?=some v→K5 w.heap b (o+(i+j))=some v) →
 (loadCellsFrom ⟨b,o,none⟩ i vs.length acc).run P w = .ok (acc++vs.toArray) w
 |[],i,acc,h=>by simp [loadCellsFrom]
 |v::r,i,acc,h=>by
  have h0:=h 0 v rfl
  have ih:=Z6 (P:=P) w b o r (i+1) (acc.push v) fun j u hj=>by
   have:=h (j+1) u (by simpa using hj)
   rw [show i+1+j=i+(j+1) by omega];exact this
  simp only [List.length_cons,loadCellsFrom]
  simp only [bT,load,bind,Sem.bind,Sem.run,S0]
  rw [Nat.add_zero] at h0
  simp only [h0]
  rw [ih]
  simp
theorem U2{P:Program}{t:Nat}{i:gS}(ht:mZ P t i)(w:World)(b o:Nat)(vs:List Value)(hl:vs.length=i.sz)
 (h:∀ j v,vs[j]?=some v→K5 w.heap b (o+j)=some v):(Instr.loadAt t (.pointer (some ⟨b,o,none⟩))).run P w = .ok (if i.agg then .agg vs.toArray else vs.headD undef) w:=by
 have ha:=ht.agg w
 simp only [Instr.loadAt,Instr.sureAddr,loadVar]
 simp only [pure_bind,Sem.run_bind,ha]
 cases hi:i.agg with
 |true=>
  simp only [if_true]
  have:=Z6 (P:=P) w b o vs 0 #[] (fun j v hj=>by rw [Nat.zero_add];exact h j v hj)
  rw [hl] at this
  simp [loadCells,this,ht.size w]
 |false=>
  have h1:=ht.one hi
  match vs,hl with
  |[v],_=>
   have:=h 0 v rfl
   rw [Nat.add_zero] at this;simp [load,Sem.run,S0,this]
  |[],hl=>simp at hl;omega
  |_::_::_,hl=>simp at hl;omega
end Go.Ex
