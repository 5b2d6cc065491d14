/-
  Top: TopComments: whatever the input, the law answers true (part 3)
-/
import Derived.Test.YtpjdgifhhnjclaaGreatDoorM02
set_option linter.unusedVariables false
set_option linter.unusedSimpArgs false
set_option maxHeartbeats 4000000
set_option maxRecDepth 10000
namespace Go.Ex
variable {Df:List Deferred}
section
variable {P:Program}{ty:Nat→Option gS}{S:St}{K:Kn}{κ:KV→Prop}
theorem Q3{s:Sem Value}{w w':World}{v:Value}(h:s.run P w = .ok v w'):(do pure (Next.value (←s)):Sem Next).run P w = .ok (.value v) w':=by
 simp [h]
theorem kY{n:Nat}{a:Act}(ha:H9 Df n a K)(f:Nat):∀ (caps:List Operand) (acc:List KV),Qs.capsK K f caps acc κ→∃ cs:List KV,κ (.fn f cs)∧cs.map A0=acc.reverse.map A0++caps.map a.eval
 |[],acc,h=>⟨_,h,by simp⟩
 |x::r,acc,h=>by
  simp only [Qs.capsK] at h
  split at h
  ·rename_i k b j hx
   obtain⟨cs,h1,h2⟩:=kY ha f r _ h
   exact⟨cs,h1,by rw [h2];simp [ha.eval hx,B0,A1]⟩
  ·rename_i v hx
   obtain⟨cs,h1,h2⟩:=kY ha f r _ h
   exact⟨cs,h1,by rw [h2];simp [ha.eval hx,B0,A1]⟩
  ·exact h.elim
theorem qR{v:KV}{κ:KV→Prop}(h:BL v κ):κ v∧B0 v=A1 v:=by
 unfold BL at h
 split at h
 ·exact h.elim
 ·rename_i hv
  refine⟨aD h,?_⟩
  cases v<;>first|rfl|exact absurd rfl (hv _)
def nW:Op→Bool
 |.load ..=>true
 |.convert ..=>true
 |_=>false
theorem Mh{v:KV}(h:AD v κ):∃ kv,κ kv∧∃ x,B0 v = .pointer (some x)∧B0 kv = .pointer (some x):=by
 unfold AD at h
 split at h
 ·exact⟨_,h,_,rfl,rfl⟩
 ·exact⟨_,h,_,rfl,rfl⟩
 ·exact⟨_,h,_,rfl,rfl⟩
 ·exact⟨_,h,_,rfl,rfl⟩
 ·exact h.elim
theorem lF:∀ {cs:List KV} {vs:List Value},aV cs=some vs→cs.map A0=vs
 |[],vs,h=>by cases h;rfl
 |.val v::r,vs,h=>by
  simp only [aV] at h
  split at h
  ·rename_i l hl;cases h;simp [A0,lF hl]
  ·cases h
 |.prop _::_,_,h=>by simp [aV] at h
 |.own ..::_,_,h=>by simp [aV] at h
 |.elt ..::_,_,h=>by simp [aV] at h
 |.osl ..::_,_,h=>by simp [aV] at h
 |.osv ..::_,_,h=>by simp [aV] at h
 |.xel ..::_,_,h=>by simp [aV] at h
 |.fn ..::_,_,h=>by simp [aV] at h
 |.agg ..::_,_,h=>by simp [aV] at h
 |.tup ..::_,_,h=>by simp [aV] at h
theorem mD{t:Nat}{v:KV}(h:zI t v κ):∃ kv,κ kv∧B0 kv = .iface t (B0 v):=by
 unfold zI at h
 split at h
 ·exact⟨_,h,rfl⟩
 ·split at h
  ·rename_i vs hvs;exact⟨_,h,by simp [B0,A1,A0,lF hvs]⟩
  ·exact h.elim
 ·exact h.elim
theorem nR(hty:H6 P ty){o:Oper}(h:Qs P ty o K S κ){n:Nat}{a:Act}(ha:H9 Df n a K) :
 ∃ kv,κ kv∧∀ w:World,(nW o.op=true→HS S w.heap)→(execOp a.eval o).run P w = .ok (.value (B0 kv)) w:=by
 obtain⟨dst,op,type,pos,after,guard⟩:=o
 simp only [Qs] at h
 split at h
 -- move
 ·split at h
  ·rename_i v hv;exact⟨v,aD h,fun w hs=>by simp [execOp,ha.eval hv]⟩
  ·exact h.elim
 -- assign
 ·split at h
  ·rename_i v hv;exact⟨v,aD h,fun w hs=>by simp [execOp,ha.eval hv]⟩
  ·exact h.elim
 -- pick
 ·split at h
  ·rename_i hc
   split at h
   ·rename_i v hv;exact⟨v,aD h,fun w hs=>by simp [execOp,ha.eval hv,ha.eval hc,B0,A1,A0,asBool]⟩
   ·exact h.elim
  ·rename_i hc
   split at h
   ·rename_i v hv;exact⟨v,aD h,fun w hs=>by simp [execOp,ha.eval hv,ha.eval hc,B0,A1,A0,asBool]⟩
   ·exact h.elim
  ·rename_i p hc
   split at h
   ·rename_i v hv
    split at h
    ·rename_i u hu
     by_cases hp:p
     ·exact⟨v,aD (h.yes hp),fun w hs=>by simp [execOp,ha.eval hv,ha.eval hc,B0,A1,A0,asBool,hp]⟩
     ·exact⟨u,aD (h.no hp),fun w hs=>by simp [execOp,ha.eval hu,ha.eval hc,B0,A1,A0,asBool,hp]⟩
    ·exact h.elim
   ·exact h.elim
  ·exact h.elim
 -- load
 ·split at h
  ·rename_i v hv
   obtain⟨kv,h1,h2⟩:=pG hty h
   exact⟨kv,h1,fun w hs=>Q3 (by rw [ha.eval hv];exact h2 w (hs rfl))⟩
  ·exact h.elim
 -- binOp
 ·split at h
  ·rename_i u hu
   split at h
   ·rename_i v hv
    obtain⟨kv,h1,h2⟩:=Yi h
    refine⟨kv,h1,fun w hs=>?_⟩
    simp only [execOp]
    refine Q3 ?_
    rw [ha.eval hu,ha.eval hv]
    exact h2 _ _ w
   ·exact h.elim
  ·exact h.elim
 -- not
 ·split at h
  ·rename_i v hv
   obtain⟨kv,h1,h2⟩:=Lh h
   exact⟨kv,h1,fun w hs=>Q3 (by rw [ha.eval hv];exact h2 w)⟩
  ·exact h.elim
 -- neg
 ·split at h
  ·rename_i k m hv
   obtain⟨mm,h2,h1⟩:=dA h
   exact⟨_,h2,fun w hs=>Q3 (by rw [ha.eval hv];simp [B0,A1,A0,Op.unary,Op.intArith] at h1 ⊢;exact h1)⟩
  ·exact h.elim
 -- convert
 ·split at h
  ·rename_i v hv
   obtain⟨kv,h1,h2⟩:=Ke hty h
   exact⟨kv,h1,fun w hs=>Q3 (by rw [ha.eval hv];exact h2 w (hs rfl))⟩
  ·exact h.elim
 -- slice
 ·split at h
  ·rename_i v hv
   obtain⟨kv,h1,h2⟩:=yR hty h ha
   exact⟨kv,h1,fun w hs=>Q3 (by rw [ha.eval hv];exact h2 w)⟩
  ·exact h.elim
 -- fieldAddr
 ·split at h
  ·rename_i v hv
   obtain⟨kv,h1,h2⟩:=oA hty h
   exact⟨kv,h1,fun w hs=>Q3 (by rw [ha.eval hv];exact h2 w)⟩
  ·exact h.elim
 -- field
 ·split at h
  ·rename_i v hv
   obtain⟨kv,h1,h2⟩:=zN hty h
   exact⟨kv,h1,fun w hs=>Q3 (by rw [ha.eval hv];exact h2 w)⟩
  ·exact h.elim
 -- indexAddr
 ·split at h
  ·rename_i v hv
   split at h
   ·rename_i i hi
    obtain⟨kv,h1,h2⟩:=nX hty h
    exact⟨kv,h1,fun w hs=>Q3 (by rw [ha.eval hv,ha.eval hi];exact h2 w)⟩
   ·exact h.elim
  ·exact h.elim
 -- index
 ·split at h
  ·rename_i v hv
   split at h
   ·rename_i i hi
    obtain⟨kv,h1,h2⟩:=zG hty h
    exact⟨kv,h1,fun w hs=>Q3 (by rw [ha.eval hv,ha.eval hi];exact h2 w)⟩
   ·exact h.elim
  ·exact h.elim
 -- extract
 ·split at h
  ·rename_i vs hv
   split at h
   ·rename_i v hj
    obtain⟨h1,h2⟩:=qR h
    exact⟨v,h1,fun w hs=>Q3 (by rw [ha.eval hv,h2];simp [Instr.extract,B0,hj])⟩
   ·exact h.elim
  ·exact h.elim
 -- build
 ·rename_i t parts
  split at h
  ·rename_i sz by_ zero fs heq
   have ht:=hty _ _ heq
   obtain⟨fields,hu,hf⟩:=ht.kind
   obtain⟨x,hx,hz,_,_⟩:=ht.parts
   obtain⟨r,hq,hfill⟩:=Z7 (fa:=fieldAt ty t) (pl:=fun j=>(fs.map fun x=>(x.1,x.2.getD 1))[j]?) (fun j x hj=>by
    simp only [fieldAt,heq] at hj
    simp only [List.getElem?_map,hj,Option.map_some]) ha _ _ _ h
   refine⟨_,mI hq,fun w hs=>Q3 ?_⟩
   refine run_build w _ _ _ ?_
   simp only [Program.built,hx,hu,hz,hf.info]
   rw [S6] at hfill
   simpa [eH,Value.cells] using hfill
  ·rename_i sz by_ zero n0 e heq
   have ht:=hty _ _ heq
   have hu:P.underlying t=some (.array n0 e):=ht.kind
   obtain⟨x,hx,hz,_,_⟩:=ht.parts
   split at h
   ·rename_i sz2 b2 z2 k2 he
    obtain⟨y,hy,_,hsz,_⟩:=(hty _ _ he).parts
    obtain⟨r,hq,hfill⟩:=Z7 (fa:=fun j=>some (j*sz2,some sz2)) (pl:=fun j=>some (j*y.size,y.size)) (fun j x hj=>by
     cases hj
     simp only [hsz,Option.getD_some]) ha _ _ _ h
    refine⟨_,mI hq,fun w hs=>Q3 ?_⟩
    refine run_build w _ _ _ ?_
    simp only [Program.built,hx,hu,hz,hy]
    rw [S6] at hfill
    simpa [eH,Value.cells] using hfill
   ·rename_i sz2 b2 z2 k2 he
    obtain⟨y,hy,_,hsz,_⟩:=(hty _ _ he).parts
    have h1:=(hty _ _ he).one rfl
    simp only at hsz h1
    obtain⟨r,hq,hfill⟩:=Z7 (fa:=fun j=>some (j,none)) (pl:=fun j=>some (j*y.size,y.size)) (fun j x hj=>by
     cases hj
     simp only [hsz,h1,Option.getD_none,Nat.mul_one]) ha _ _ _ h
    refine⟨_,mI hq,fun w hs=>Q3 ?_⟩
    refine run_build w _ _ _ ?_
    simp only [Program.built,hx,hu,hz,hy]
    rw [S6] at hfill
    simpa [eH,Value.cells] using hfill
   ·exact h.elim
  ·exact h.elim
 -- len
 ·split at h
  ·rename_i v hv
   obtain⟨kv,h1,h2⟩:=Vh hty h
   exact⟨kv,h1,fun w hs=>by simp [execOp,resolve,invoke,builtin,ha.eval hv,h2]⟩
  ·exact h.elim
 -- max
 ·split at h
  ·rename_i k x hx
   split at h
   ·rename_i k' y hy
    refine⟨_,h,fun w hs=>?_⟩
    simp [execOp,resolve,invoke,builtin,ha.eval hx,ha.eval hy,Builtin.max_,Builtin.max2,B0,A1,A0]
    split<;>omega
   ·exact h.elim
  ·exact h.elim
 -- min
 ·split at h
  ·rename_i k x hx
   split at h
   ·rename_i k' y hy
    refine⟨_,h,fun w hs=>?_⟩
    simp [execOp,resolve,invoke,builtin,ha.eval hx,ha.eval hy,Builtin.min_,Builtin.min2,B0,A1,A0]
    split<;>omega
   ·exact h.elim
  ·exact h.elim
 -- makeFunc
 ·obtain⟨cs,h1,h2⟩:=kY ha _ _ _ h
  refine⟨_,h1,fun w hs=>?_⟩
  simp [execOp,Instr.makeFunc,B0,A1,h2]
  exact Array.ext' (by simp)
 -- a bound method
 ·split at h
  ·rename_i hv
   refine⟨_,h,fun w hs=>?_⟩
   simp [execOp,Instr.makeFunc,ha.eval hv,B0,A1,A0]
  ·exact h.elim
 -- nilCheck
 ·split at h
  ·rename_i v hv
   obtain⟨kv,h1,x,h2,h3⟩:=Mh h
   refine⟨kv,h1,fun w hs=>?_⟩
   simp only [execOp,ha.eval hv,h2,h3]
   rfl
  ·exact h.elim
 -- makeInterface
 ·rename_i t x
  split at h
  ·rename_i heq
   obtain⟨e,hu⟩:=(hty _ _ heq).kind
   split at h
   ·rename_i v hv
    obtain⟨kv,h1,h2⟩:=mD h
    exact⟨kv,h1,fun w hs=>Q3 (by rw [ha.eval hv];simp [Instr.makeInterface,underlying,hu,h2])⟩
   ·exact h.elim
  ·rename_i heq
   obtain⟨e,hu,_⟩:=(hty _ _ heq).kind
   split at h
   ·rename_i v hv
    obtain⟨kv,h1,h2⟩:=mD h
    exact⟨kv,h1,fun w hs=>Q3 (by rw [ha.eval hv];simp [Instr.makeInterface,underlying,hu,h2])⟩
   ·exact h.elim
  ·rename_i heq
   have hu:=(hty _ _ heq).kind
   simp only [Dj] at hu
   split at h
   ·rename_i hv
    exact⟨_,h,fun w hs=>Q3 (by rw [ha.eval hv];simp [Instr.makeInterface,underlying,hu,B0,A1,A0])⟩
   ·exact h.elim
  ·exact h.elim
 -- typeAssert
 ·rename_i x xt t
  split at h
  ·rename_i heq
   obtain⟨e,hu,_⟩:=(hty _ _ heq).kind
   split at h
   ·rename_i t' vs hv
    split at h
    ·rename_i ht
     have:=Qk ht
     subst this
     refine⟨_,h,fun w hs=>Q3 ?_⟩
     rw [ha.eval hv]
     simp [Instr.typeAssert,underlying,hu,B0,A1,A0,S6]
    ·exact h.elim
   ·exact h.elim
  ·rename_i heq
   have hu:=(hty _ _ heq).kind
   simp only [Dj] at hu
   split at h
   ·rename_i t' k n hv
    split at h
    ·rename_i ht
     have:=Qk ht
     subst this
     refine⟨_,h,fun w hs=>Q3 ?_⟩
     rw [ha.eval hv]
     simp [Instr.typeAssert,underlying,hu,B0,A1,A0]
    ·exact h.elim
   ·exact h.elim
  ·exact h.elim
 ·exact h.elim
end
end Go.Ex
namespace Go.Ex
section
variable {P:Program}{ty:Nat→Option gS}{rep:Nat→Option oP}{S:St}{K:Kn}{h h':A3}
theorem C7.congr{b:Nat}{c:D8}(hc:C7 h b c)(e:h'[b]?=h[b]?):C7 h' b c:=by
 cases c with
 |box T cs=>exact e.trans hc
 |arr T R xs cap=>obtain⟨c,h1,h2⟩:=hc;exact⟨c,e.trans h1,h2⟩
 |iter s p=>exact e.trans hc
 |obj o=>exact e.trans hc
theorem HS.sub(hs:HS S h){ch:L8}(hc:ch.Sublist S.ch):HS ⟨S.h0,S.cap,ch⟩ h:=
 ⟨hs.size,hs.frame,fun e he=>hs.chunk e (hc.subset he),hs.apart.sublist hc⟩
theorem HS.new(hs:HS S h){ch:L8}(hc:ch.Sublist S.ch){d b:Nat}{c:D8}(hb:h.size≤b)(hb':b<h'.size)(hk:∀ k,k<h.size→h'[k]?=h[k]?)(hat:C7 h' b c):HS ⟨S.h0,S.cap,(d,b,c)::ch⟩ h':=by
 refine⟨?_,fun k hk1 hk2=>(hk k (Nat.lt_of_lt_of_le hk1 hs.size)).trans (hs.frame k hk1 hk2),?_,?_⟩
 ·have:=hs.size;simp only;omega
 ·intro e he
  rcases List.mem_cons.1 he with rfl|he
  ·exact⟨hb',.inl (by have:=hs.size;simp only;omega),hat⟩
  ·obtain⟨h1,h2,h3⟩:=hs.chunk e (hc.subset he)
   exact⟨by simp only at *;omega,h2,h3.congr (hk _ h1)⟩
 ·refine List.pairwise_cons.2 ⟨fun e he=>?_,hs.apart.sublist hc⟩
  have:=(hs.chunk e (hc.subset he)).1
  simp only;omega
theorem HS.upd(hs:HS S h){l r:L8}{k b:Nat}{c0 c:D8}(hc:S.ch=l++(k,b,c0)::r)(hz:h.size≤h'.size)(ho:∀ j,j≠b→j<h.size→h'[j]?=h[j]?)(hat:C7 h' b c):HS ⟨S.h0,S.cap,l++(k,b,c)::r⟩ h':=by
 have hb:=hs.chunk (k,b,c0) (by rw [hc];simp)
 have hap:=hs.apart
 rw [hc] at hap
 have hne:∀ e∈l++r,e.2.1≠b:=fun e he=>by
  have h1:=List.pairwise_append.1 hap
  rcases List.mem_append.1 he with he|he
  ·exact h1.2.2 e he (k,b,c0) (by simp)
  ·have:=List.pairwise_cons.1 h1.2.1
   exact fun e'=>this.1 e he e'.symm
 refine⟨Nat.le_trans hs.size hz,fun j h1 h2=>?_,fun e he=>?_,?_⟩
 ·refine (ho j (fun e=>?_) (Nat.lt_of_lt_of_le h1 hs.size)).trans (hs.frame j h1 h2)
  subst e
  rcases hb.2.1 with h3|h3
  ·simp only at h1 h3;omega
  ·exact h2 h3
 ·have key:∀ e∈l++r,e.2.1<h'.size∧(S.h0.size≤e.2.1∨e.2.1∈S.cap)∧C7 h' e.2.1 e.2.2:=fun e he=>by
   have hm:e∈S.ch:=by rw [hc];rcases List.mem_append.1 he with he|he<;>simp [he]
   obtain⟨h1,h2,h3⟩:=hs.chunk e hm
   exact⟨Nat.lt_of_lt_of_le h1 hz,h2,h3.congr (ho _ (hne e he) h1)⟩
  rcases List.mem_append.1 he with he|he
  ·exact key e (List.mem_append.2 (.inl he))
  ·rcases List.mem_cons.1 he with rfl|he
   ·exact⟨Nat.lt_of_lt_of_le hb.1 hz,hb.2.1,hat⟩
   ·exact key e (List.mem_append.2 (.inr he))
 ·have h1:=List.pairwise_append.1 hap
  have h2:=List.pairwise_cons.1 h1.2.1
  refine List.pairwise_append.2 ⟨h1.1,List.pairwise_cons.2 ⟨fun e he=>h2.1 e he,h2.2⟩,fun a ha e he=>?_⟩
  rcases List.mem_cons.1 he with rfl|he
  ·exact h1.2.2 a ha (k,b,c0) (by simp)
  ·exact h1.2.2 a ha e (by simp [he])
theorem G7:∀ {ch:L8} {k:Nat} {κ:L8→Prop},V3 ch k κ→∃ ch',κ ch'∧ch'.Sublist ch∧∀ e∈ch',e.1≠k
 |[],k,κ,h=>⟨[],h,.slnil,fun e he=>by simp at he⟩
 |(j,b,c)::r,k,κ,h=>by
  simp only [V3] at h
  split at h
  ·obtain⟨ch',h1,h2,h3⟩:=G7 h;exact⟨ch',h1,h2.cons _,h3⟩
  ·rename_i hj
   obtain⟨ch',h1,h2,h3⟩:=G7 h
   exact⟨_,h1,h2.cons_cons _,fun e he=>by
    rcases List.mem_cons.1 he with rfl|he
    ·exact lA hj
    ·exact h3 e he⟩
theorem HS.swap(hs:HS S h){ch:L8}{k b d b':Nat}{c0 c:D8}(hm:(k,b,c0)∈S.ch)(hc:ch.Sublist S.ch)(hk:∀ e∈ch,e.1≠k)(hz:h.size≤h'.size)(ho:∀ j,j≠b→j<h.size→h'[j]?=h[j]?)
 (h0:S.h0.size≤b∨b∈S.cap) (hb:b'=b∨h.size≤b') (hb':b'<h'.size) (hat:C7 h' b' c):HS ⟨S.h0,S.cap,(d,b',c)::ch⟩ h':=by
 have hne:∀ e∈ch,e.2.1≠b:=fun e he hb=>by
  have h1:=hc.subset he
  have h2:e≠(k,b,c0):=fun e'=>hk e he (by rw [e'])
  rcases List.pairwise_iff_forall_sublist.1 hs.apart with key
  have h3:∀ (l:L8),l.Pairwise (fun e e'=>e.2.1≠e'.2.1)→e∈l→(k,b,c0)∈l→e.2.1≠b:=by
   intro l
   induction l with
   |nil=>intro _ h;simp at h
   |cons x l ih=>
    intro hp h1 h4
    have hp':=List.pairwise_cons.1 hp
    rcases List.mem_cons.1 h1 with rfl|h1
    ·rcases List.mem_cons.1 h4 with h4|h4
     ·exact absurd h4.symm h2
     ·exact hp'.1 _ h4
    ·rcases List.mem_cons.1 h4 with h4|h4
     ·have:=hp'.1 e h1;rw [←h4] at this;exact fun e=>this e.symm
     ·exact ih hp'.2 h1 h4
  exact h3 S.ch hs.apart h1 hm hb
 have hsz:=hs.size
 refine⟨Nat.le_trans hs.size hz,fun j h1 h2=>by
  have h1':j<S.h0.size:=h1
  exact (ho j (fun e=>by subst e;rcases h0 with h0|h0;omega;exact h2 h0) (by omega)).trans (hs.frame j h1 h2),fun e he=>?_,?_⟩
 ·rcases List.mem_cons.1 he with rfl|he
  ·refine⟨hb',?_,hat⟩
   rcases hb with rfl|hb
   ·exact h0
   ·exact .inl (by simp only;omega)
  ·obtain⟨h1,h2,h3⟩:=hs.chunk e (hc.subset he)
   exact⟨Nat.lt_of_lt_of_le h1 hz,h2,h3.congr (ho _ (hne e he) h1)⟩
 ·refine List.pairwise_cons.2 ⟨fun e he=>?_,hs.apart.sublist hc⟩
  have h1:=(hs.chunk e (hc.subset he)).1
  have h2:=hne e he
  simp only;omega
theorem K7:∀ {ch:L8} {k:Nat} {c:D8} {κ:L8→Prop},dF ch k c κ→∃ l r b c0,ch=l++(k,b,c0)::r∧B3 ch k=some (b,c0)∧κ (l++(k,b,c)::r)
 |[],k,c,κ,h=>h.elim
 |(j,b,c0)::r,k,c,κ,h=>by
  simp only [dF] at h
  split at h
  ·rename_i e
   have:=Qk e
   subst this
   exact⟨[],r,b,c0,rfl,by simp [B3,e],h⟩
  ·rename_i e
   obtain⟨l,r',b',c0',rfl,h2,h3⟩:=K7 h
   exact⟨(j,b,c0)::l,r',b',c0',rfl,by simp [B3,e,h2],h3⟩
theorem S9{ch:L8}{κ:St→Prop}(h:gV S ch κ):κ ⟨S.h0,S.cap,ch⟩:=by cases S;exact h
theorem Al{v:KV}{κ:KV→Prop}(h:Vy v κ):(A0 v).oneCell'=true:=by
 unfold Vy at h
 split at h<;>first|rfl|exact False.elim h
theorem Xd:∀ {l:List KV} {κ:List KV→Prop},Qx l κ→κ l∧∀ v∈l,B0 v=A0 v∧(A0 v).oneCell'=true
 |[],κ,h=>⟨h,fun v hv=>by simp at hv⟩
 |v::r,κ,h=>by
  have h1:Vy v fun v=>Qx r fun r=>κ (v::r):=h
  have h2:(A0 v).oneCell'=true∧B0 v=A0 v:=⟨Al h1,(qQ h1).2.1⟩
  obtain⟨h3,h4⟩:=Xd (κ:=fun r=>κ (v::r)) (qQ h1).1
  exact⟨h3,fun u hu=>by rcases List.mem_cons.1 hu with rfl|hu;exact⟨h2.2,h2.1⟩;exact h4 u hu⟩
theorem aF{v:KV}{κ:List KV→Prop}(h:kX v κ):∃ l,κ l∧(B0 v).cells=(l.map A0).toArray∧∀ u∈l.map A0,u.oneCell'=true:=by
 unfold kX at h
 split at h
 ·rename_i cs
  obtain⟨h1,h2⟩:=Xd h
  exact⟨cs,h1,rfl,fun u hu=>by obtain⟨w,hw,rfl⟩:=List.mem_map.1 hu;exact (h2 w hw).2⟩
 ·rename_i v hno
  have h1:=Al h
  obtain⟨h2,h3,h4⟩:=qQ h
  exact⟨_,h2,by rw [h3,h4];rfl,fun u hu=>by simp at hu;subst hu;exact h1⟩
theorem Nc{α:Type}:∀ (f:Nat) (xs l r:List α),K2 f xs l=some r→r=l.take f++xs++l.drop (f+xs.length)∧f+xs.length≤l.length:=fun f xs l r h=>by
 have h1:=Y5 _ _ _ _ h
 refine⟨List.ext_getElem? fun j=>?_,h1.2⟩
 rw [eU _ _ _ _ h j]
 by_cases h2:f≤j∧j<f+xs.length
 ·rw [if_pos h2,List.append_assoc,List.getElem?_append_right (by simp;omega),List.getElem?_append_left (by simp;omega)]
  congr 1
  simp
  omega
 ·rw [if_neg h2]
  by_cases h3:j<f
  ·rw [List.append_assoc,List.getElem?_append_left (by simp;omega),List.getElem?_take_of_lt h3]
  ·rw [List.getElem?_append_right (by simp;omega),List.getElem?_drop]
   congr 1
   simp
   omega
theorem iF{t:Nat}{i:gS}(ht:mZ P t i)(w:World)(b f T:Nat)(v:Value)(cur:Array Value)(hg:w.heap[b]?=some (.cells cur T (0,0)))(hsz:v.cells.size=i.sz)(hf:f+i.sz≤cur.size)
 (h1:∀ u∈v.cells.toList,u.oneCell'=true):(Instr.storeAt t (.pointer (some ⟨b,f,none⟩)) v).run P w = .ok () (w.setRow b (cur.toList.take f++v.cells.toList++cur.toList.drop (f+i.sz)).toArray):=by
 have:=run_storeCells_at P b f T v.cells.toList 0 cur w hg (by simp;omega) h1
 simp only [Nat.add_zero] at this
 simp [Instr.storeAt,Instr.sureAddr,storeVar,ht.size w,hsz]
 rw [this]
 simp [hsz]
theorem Fu{τ:Type}(R:Y7 τ)(xs:List τ)(i:Nat)(hi:i<xs.length)(x:τ)(f:Nat)(vs:List Value)(hx:K2 f vs (R.cells (xs.getD i R.dflt))=some (R.cells x))(cur:List Value)
 (hc:cur.take (xs.length*R.sz)=xs.flatMap R.cells) (hl:xs.length*R.sz≤cur.length) :
 (cur.take (i*R.sz+f)++vs++cur.drop (i*R.sz+f+vs.length)).take ((xs.set i x).length*R.sz)=(xs.set i x).flatMap R.cells:=by
 have hlen:=(Y5 _ _ _ _ hx).2
 rw [R.len] at hlen
 have hmul:(i+1)*R.sz≤xs.length*R.sz:=Nat.mul_le_mul_right _ hi
 rw [Nat.succ_mul] at hmul
 refine List.ext_getElem? fun j=>?_
 rw [List.length_set]
 by_cases hj:j<xs.length*R.sz
 ·rw [List.getElem?_take_of_lt hj]
  have hpos:=R.pos
  obtain⟨q,s,rfl,hs⟩:∃ q s,j=q*R.sz+s∧s<R.sz:=⟨j / R.sz,j % R.sz,by rw [Nat.mul_comm];exact (Nat.div_add_mod j R.sz).symm,Nat.mod_lt _ hpos⟩
  have hq:q<xs.length:=by
   rcases Nat.lt_or_ge q xs.length with h|h
   ·exact h
   ·have:=Nat.mul_le_mul_right R.sz h;omega
  have e1:=mH R (xs.set i x) q s (by simpa using hq) hs
  have e2:=mH R xs q s hq hs
  rw [←hc,List.getElem?_take_of_lt hj] at e2
  rw [e1]
  have e3:∀ j,(cur.take (i*R.sz+f)++vs++cur.drop (i*R.sz+f+vs.length))[j]?=if i*R.sz+f≤j∧j<i*R.sz+f+vs.length then vs[j-(i*R.sz+f)]? else cur[j]?:=fun j=>by
   by_cases h2:i*R.sz+f≤j∧j<i*R.sz+f+vs.length
   ·rw [if_pos h2,List.append_assoc,List.getElem?_append_right (by simp;omega),List.getElem?_append_left (by simp;omega)]
    congr 1;simp;omega
   ·rw [if_neg h2]
    by_cases h3:j<i*R.sz+f
    ·rw [List.append_assoc,List.getElem?_append_left (by simp;omega),List.getElem?_take_of_lt h3]
    ·rw [List.getElem?_append_right (by simp;omega),List.getElem?_drop]
     congr 1;simp;omega
  rw [e3]
  by_cases hqi:q=i
  ·subst hqi
   have e4:=eU _ _ _ _ hx s
   rw [show (xs.set q x).getD q R.dflt=x by simp [List.getD,hq],e4]
   by_cases h5:f≤s∧s<f+vs.length
   ·rw [if_pos h5,if_pos (by omega)];congr 1;omega
   ·rw [if_neg h5,if_neg (by omega),e2]
  ·rw [show (xs.set i x).getD q R.dflt=xs.getD q R.dflt by simp only [List.getD,List.getElem?_set];rw [if_neg (fun e=>hqi e.symm)]]
   rw [if_neg ?_,e2]
   rintro⟨h5,h6⟩
   rcases Nat.lt_or_gt_of_ne hqi with h7|h7
   ·have:=Nat.mul_le_mul_right R.sz (show q+1≤i from h7);rw [Nat.succ_mul] at this;omega
   ·have:=Nat.mul_le_mul_right R.sz (show i+1≤q from h7);rw [Nat.succ_mul] at this;omega
 ·rw [List.getElem?_eq_none (by rw [List.length_take];omega),List.getElem?_eq_none (by rw [G4,List.length_set];omega)]
theorem fV(w:World)(g:Nat)(c:Array Value):SE w (w.setRow g c):=⟨rfl,rfl,rfl⟩
theorem vL{τ:Type}{R:Y7 τ}:∀ {n:Nat} {l:List Value} {κ:List τ→Prop},BN R n l κ→∃ ys,κ ys∧ys.length=n∧ys.flatMap R.cells=l
 |0,l,κ,h=>by
  unfold BN at h
  split at h
  ·exact⟨[],h,rfl,rfl⟩
  ·exact h.elim
 |n+1,l,κ,h=>by
  unfold BN at h
  split at h
  ·rename_i x hx
   obtain⟨ys,h1,h2,h3⟩:=vL h
   refine⟨x::ys,h1,by rw [List.length_cons,h2],?_⟩
   rw [List.flatMap_cons,h3,R.un_ok _ _ hx,List.take_append_drop]
  ·exact h.elim
theorem gU{t:Nat}{i:gS}(ht:mZ P t i){k b sz:Nat}{ix:Int}{f:Nat}{v:KV}{κ:St→Prop}(hk:iW i k b sz ix f v S κ){w:World}(hs:HS S w.heap) :
 ∃ S' w',κ S'∧SE w w'∧HS S' w'.heap∧(Instr.storeAt t (B0 (.elt k b sz ix f)) (B0 v)).run P w = .ok () w':=by
 unfold iW at hk
 split at hk
 ·rename_i b' τ T R xs cap hf
  obtain⟨⟨rfl,rfl,h0,h1⟩,hk⟩:=hk
  obtain⟨l,hk,hcl,hone⟩:=aF hk
  split at hk
  ·rename_i hbe
   have hlen:=Qk hbe
   split at hk
   ·rename_i vs ho
    split at hk
    ·rename_i x hx
     have hx':=R.un_ok _ _ hx
     obtain⟨l1,r1,b1,c1,h2,h3,h4⟩:=K7 hk
     rw [hf] at h3
     cases h3
     obtain⟨cur,hg,htk,hcap,hcm,hcs⟩:=(hs.chunk _ (fM hf)).2.2
     have hb1:xs.length*R.sz≤cur.size:=by rw [hcs];exact Nat.mul_le_mul_right _ hcap
     have hlt:ix.toNat<xs.length:=by omega
     have hmul:(ix.toNat+1)*R.sz≤xs.length*R.sz:=Nat.mul_le_mul_right _ hlt
     rw [Nat.succ_mul] at hmul
     have e2:=(Y5 _ _ _ _ ho).2
     rw [R.len] at e2
     simp only [List.length_map] at e2
     have hr:=iF ht w b (ix.toNat*R.sz+f) T (B0 v) _ hg (by rw [hcl];simpa using hlen) (by omega) (by rw [hcl];simpa using hone)
     refine⟨_,_,S9 h4,fV _ _ _,hs.upd h2 (by simp) (fun j hj _=>setRow_other w b j _ hj) ⟨_,setRow_heap w b _ _ _ _ hg,?_,by simpa using hcap,hcm,?_⟩,hr⟩
     ·have:=Fu R xs ix.toNat hlt x f (l.map A0) (by rw [hx'];exact ho) cur.toList htk (by simpa using hb1)
      rw [hcl]
      simpa [hlen] using this
     ·rw [hcl]
      simp
      omega
    ·exact hk.elim
   ·exact hk.elim
  ·exact hk.elim
 ·exact hk.elim
theorem lM(hty:H6 P ty){t:Nat}{p v:KV}{κ:St→Prop}(hk:yF ty t p v S κ){w:World}(hs:HS S w.heap) :
 ∃ S' w',κ S'∧SE w w'∧HS S' w'.heap∧(Instr.storeAt t (B0 p) (B0 v)).run P w = .ok () w':=by
 unfold yF at hk
 split at hk
 ·exact hk.elim
 rename_i i hi
 have ht:=hty t i hi
 split at hk
 ·rename_i k b f
  split at hk
  ·rename_i b' T cs hf
   obtain⟨rfl,hk⟩:=hk
   obtain⟨l,hk,hcl,hone⟩:=aF hk
   split at hk
   ·rename_i hbe
    have hlen:=Qk hbe
    split at hk
    ·rename_i cs' ho
     obtain⟨l1,r1,b1,c1,h1,h2,h3⟩:=K7 hk
     rw [hf] at h2
     cases h2
     have hat:=(hs.chunk _ (fM hf)).2.2
     obtain⟨e1,e2⟩:=Nc _ _ _ _ (eS A0 _ _ _ _ ho)
     have hr:=iF ht w b f T (B0 v) _ hat (by rw [hcl];simpa using hlen) (by simp at e2 ⊢;omega) (by rw [hcl];simpa using hone)
     refine⟨_,_,S9 h3,fV _ _ _,hs.upd h1 (by simp) (fun j hj _=>setRow_other w b j _ hj) ?_,hr⟩
     simp only [C7]
     rw [setRow_heap w b _ _ _ _ hat,e1,hcl]
     simp [hlen]
    ·exact hk.elim
   ·exact hk.elim
  ·rename_i b' τ T R xs cap hf
   split at hk
   ·obtain⟨l,hk,hcl,hone⟩:=aF hk
    obtain⟨ys,hk2,hy1,hy2⟩:=vL hk
    clear hk
    obtain⟨⟨rfl,z1,z2,z3⟩,hk3⟩:=hk2
    obtain⟨l1,r1,b1,c1,h2,h3,h4⟩:=K7 hk3
    rw [hf] at h3
    cases h3
    obtain⟨cur,hg,htk,hcap,hcm,hcs⟩:=(hs.chunk _ (fM hf)).2.2
    have hcz:cur.size=i.sz:=by rw [hcs,←z3,z2]
    have hr:=iF ht w b 0 T (B0 v) _ hg (by rw [hcl];simpa using z1) (by omega) (by rw [hcl];simpa using hone)
    have hcells:cur.toList.take 0++(B0 v).cells.toList++cur.toList.drop (0+i.sz)=l.map A0:=by
     rw [hcl,List.take_zero,List.nil_append,Nat.zero_add,List.drop_eq_nil_of_le (by simp;omega),List.append_nil]
    rw [hcells] at hr
    refine⟨_,_,S9 h4,fV _ _ _,hs.upd h2 (by simp) (fun j hj _=>setRow_other w b j _ hj) ⟨_,setRow_heap w b _ _ _ _ hg,?_,?_,hcm,?_⟩,hr⟩
    ·rw [←G4 R ys,hy2]
     exact List.take_of_length_le (by simp)
    ·rw [hy1];exact hcap
    ·simp only [List.size_toArray,List.length_map];rw [z1,z2,z3]
   ·exact hk.elim
  ·exact hk.elim
 ·exact gU ht hk hs
 ·obtain⟨k,b,rfl,hk⟩:=hk
  have:=gU ht hk hs
  simpa [B0,A1,A0] using this
 ·exact hk.elim
theorem yE(hty:H6 P ty){t:Nat}{p v:KV}{κ:St→Prop}(hk:Eg ty t p v S κ){w:World}(hs:HS S w.heap) :
 ∃ S' w',κ S'∧SE w w'∧HS S' w'.heap∧(Instr.storeAt t (B0 p) (B0 v)).run P w = .ok () w':=by
 unfold Eg at hk
 split at hk
 ·obtain⟨k,b,f,rfl,hk⟩:=hk
  exact lM hty hk hs
 ·exact lM hty hk hs
end
end Go.Ex
