/-
  Top: TopDeep: whatever the input, the law answers true (part 8)
-/
import Derived.Test.YtpjdgifhhnjclaaGreatDoorM07
set_option linter.unusedVariables false
set_option linter.unusedSimpArgs false
set_option maxHeartbeats 4000000
set_option maxRecDepth 10000
namespace Go.Ex
variable {Df:List Deferred}
section
variable {P:Program}{ops:Array Oper}{Q:Exit→Act→World→Prop}{md:Region.Mode}
def Keeps(P:Program)(C:World→Prop)(o:Oper):Prop:=∀ a w K Q,C w→o.wp P a w K Q→o.wp P a w (fun a w=>C w∧K a w) Q
def Yields(P:Program)(ops:Array Oper)(C:World→Prop)(o:Oper)(v:Value)(a:Act):Prop:=
 (Region.wanted o (yielded ops a.tmps)=true∧∀ w,C w→(execOp a.eval o).run P w = .ok (.value v) w)∨(Region.wanted o (yielded ops a.tmps)=false∧v=undef)
theorem Yields.of_same{C:World→Prop}{o:Oper}{v:Value}{a a':Act}(hy:Yields P ops C o v a)(he:execOp a'.eval o=execOp a.eval o)
 (hw:Region.wanted o (yielded ops a'.tmps)=Region.wanted o (yielded ops a.tmps)):Yields P ops C o v a':=by
 unfold Yields at *
 rw [he,hw]
 exact hy
theorem wpOp_put{C:World→Prop}{j:Nat}{oi oj:Oper}{v:Value}(hj:ops[j]?=some oj)(hap:oi.apart ops oj=true)
 (hsi:∀ cs b,oi.op≠.select cs b) (hsj:∀ cs b,oj.op≠.select cs b) (hQ:∀ ch a d v w,Q (.panic ch) (Act.put a d v) w→Q (.panic ch) a w) (hk:Keeps P C oj) {K:Act→World→Prop} {a:Act} {w:World} (hw:C w)
 (hy:Yields P ops C oi v a) (h:wpOp P ops Q j K (a.put oi.dst v) w) :
 wpOp P ops Q j (fun a' w'=>C w'∧Yields P ops C oi v a'∧K (a'.put oi.dst v) w') a w:=by
 obtain⟨h1,h2,h3⟩:=Oper.apart_spec hap
 have keep:∀ (a:Act),Yields P ops C oi v a→∀ u,Yields P ops C oi v (a.put oj.dst u):=fun a hy u=>
  hy.of_same (execOp_put oi hsi a oj.dst u h3) (wanted_put oi a oj.dst u h3)
 unfold wpOp at *
 simp only [hj] at *
 rw [wanted_put oj a oi.dst v h1] at h
 split
 ·rename_i hwt
  simp only [hwt,if_true] at h
  rcases h with h|h
  ·left
   have h:=hk _ _ _ _ hw h
   unfold Oper.wp at *
   rw [execOp_put oj hsj a oi.dst v h1] at h
   generalize (execOp a.eval oj).run P w=r at *
   have put_c:∀ u,(a.put oi.dst v).put oj.dst u=(a.put oj.dst u).put oi.dst v:=fun u=>Act.put_comm a v u h2
   cases r with
   |ok n w'=>
    cases n<;>simp only [Oper.upon] at h ⊢
    case value u=>rw [put_c] at h;exact⟨h.1,keep a hy u,h.2⟩
    case skip=>rw [put_c] at h;exact⟨h.1,keep a hy _,h.2⟩
    case enter f args=>
     refine Calls.mono h fun e w'' he=>?_
     cases e with
     |returned u=>simp only at he ⊢;rw [put_c] at he;exact⟨he.1,keep a hy u,he.2⟩
     |panicked ch=>exact hQ _ _ _ _ _ he
     |outgrown=>exact he
    case row row args=>
     refine Rows.mono h fun u w'' he=>?_
     rw [put_c] at he
     exact⟨he.1,keep a hy u,he.2⟩
    case defer d=>
     obtain⟨hc,h⟩:=h
     have e:({ a.put oi.dst v with defers:=d::(a.put oi.dst v).defers }:Act).put oj.dst undef=(({ a with defers:=d::a.defers }:Act).put oj.dst undef).put oi.dst v:=by
      have:=Act.put_comm ({ a with defers:=d::a.defers }:Act) v undef h2
      rw [←this]
      cases oi.dst<;>rfl
     rw [e] at h
     refine⟨hc,?_,h⟩
     have hy':Yields P ops C oi v ({ a with defers:=d::a.defers }:Act):=hy.of_same rfl rfl
     exact keep _ hy' _
   |halt x w'=>
    cases x<;>simp only [Oper.upon] at h⊢<;> first|exact hQ _ _ _ _ _ h|exact h
  ·right
   obtain⟨ha,hl⟩:=h
   refine⟨?_,hl⟩
   unfold Oper.asks at *
   rw [execOp_put oj hsj a oi.dst v h1] at ha
   exact ha
 ·rename_i hwt
  simp only [hwt] at h
  exact⟨hw,keep a hy _,by rw [←Act.put_comm a v undef h2];exact h⟩
theorem Yields.wpOp{C:World→Prop}{i:Nat}{o:Oper}{v:Value}{a:Act}{w:World}(hi:ops[i]?=some o)(hw:C w)(hy:Yields P ops C o v a){K:Act→World→Prop}(h:K (a.put o.dst v) w):wpOp P ops Q i K a w:=by
 unfold Go.wpOp
 simp only [hi]
 rcases hy with ⟨hwt,hv⟩|⟨hwt,rfl⟩
 ·simp only [hwt,if_true]
  left
  unfold Oper.wp
  rw [hv w hw]
  exact h
 ·simp only [hwt,Bool.false_eq_true,if_false];exact h
theorem wpAny_pull{C:World→Prop}{i:Nat}{oi:Oper}{v:Value}{D:List Nat}(hi:ops[i]?=some oi)(hsel:∀ (j:Nat) (o:Oper) cs b,ops[j]?=some o→o.op≠.select cs b)(hQ:∀ ch a d v w,Q (.panic ch) (Act.put a d v) w→Q (.panic ch) a w)
 (hD:∀ j∈D,∀ oj,ops[j]?=some oj→∃ e∈oj.after,Region.binds md e=true∧(e.on=i∨e.on∈D)) :
 ∀ (fuel:Nat) (listed:Array Bool) (a:Act) (w:World),C w→listed.getD i false=false→(∀ j∈D,listed.getD j false=false) →
  (∀ j oj,ops[j]?=some oj→j≠i→¬ j∈D→listed.getD j true=false→oi.apart ops oj=true∧Keeps P C oj) →
  i∈Region.ready md ops listed→Yields P ops C oi v a →
  wpAny P md ops Q fuel (listed.setIfInBounds i true) (a.put oi.dst v) w→wpAny P md ops Q (fuel+1) listed a w:=by
 intro fuel
 induction fuel with
 |zero=>
  intro listed a w hw hli hlD hfree hr hy H
  refine⟨fun h=>(by rw [h] at hr;cases hr),fun j hj=>?_⟩
  by_cases hji:j=i
  ·subst hji;exact hy.wpOp hi hw H
  ·have:=ready_mono hj hji
   rw [H.1] at this
   cases this
 |succ fuel ih=>
  intro listed a w hw hli hlD hfree hr hy H
  refine⟨fun h=>(by rw [h] at hr;cases hr),fun j hj=>?_⟩
  by_cases hji:j=i
  ·subst hji;exact hy.wpOp hi hw H
  ·obtain⟨hjun,oj,hoj,hall⟩:=mem_ready.1 hj
   have hjD:¬ j∈D:=fun hjD=>by
    obtain⟨e,he,hb,h1⟩:=hD j hjD oj hoj
    have h2:=hall e he hb
    rcases h1 with h1|h1
    ·rw [h1,hli] at h2;cases h2
    ·rw [hlD _ h1] at h2;cases h2
   obtain⟨hap,hkeep⟩:=hfree j oj hoj hji hjD hjun
   have h1:=H.2 j (ready_mono hj hji)
   have h2:=wpOp_put (K:=fun a' w'=>wpAny P md ops Q fuel ((listed.setIfInBounds i true).setIfInBounds j true) a' w') hoj hap (fun cs b=>hsel i oi cs b hi) (fun cs b=>hsel j oj cs b hoj) hQ hkeep hw hy h1
   have hfree':∀ k ok,ops[k]?=some ok→k≠i→¬ k∈D→(listed.setIfInBounds j true).getD k true=false→oi.apart ops ok=true∧Keeps P C ok:=fun k ok hk hki hkD hun=>by
    refine hfree k ok hk hki hkD ?_
    by_cases hjk:j=k
    ·subst hjk;exact hjun
    ·rw [getD_set_ne true hjk] at hun;exact hun
   refine wpOp_mono (fun a' w' h3=>ih (listed.setIfInBounds j true) a' w' h3.1 ?_ ?_ hfree' (ready_mono hr (Ne.symm hji)) h3.2.1 ?_) h2
   ·rw [getD_set_ne false hji];exact hli
   ·intro k hk
    rw [getD_set_ne false (fun e=>hjD (by rw [e];exact hk))];exact hlD k hk
   ·rw [Array.setIfInBounds_comm _ _ hji]
    exact h3.2.2
def Stay{α:Type}(P:Program)(s:Sem α):Prop:=∀ w a w',s.run P w = .ok a w'→w'=w
def Never{α:Type}(P:Program)(s:Sem α):Prop:=∀ w a w',s.run P w≠.ok a w'
theorem Never.stay{α:Type}{s:Sem α}(h:Never P s):Stay P s:=fun w a w' e=>absurd e (h w a w')
theorem Stay.pure{α:Type}(a:α):Stay P (Pure.pure a:Sem α):=fun w b w' h=>by simp at h;exact h.2.symm
theorem Stay.bind{α β:Type}{s:Sem α}{f:α→Sem β}(h1:Stay P s)(h2:∀ a,Stay P (f a)):Stay P (s >>= f):=fun w b w' h=>by
 rw [Sem.run_bind] at h
 cases hr:s.run P w with
 |ok a w1=>
  rw [hr] at h
  have e1:=h1 w a w1 hr
  have e2:=h2 a w1 b w' h
  rw [e2,e1]
 |halt x w1=>rw [hr] at h;cases h
theorem Never.bind{α β:Type}{s:Sem α}{f:α→Sem β}(h2:∀ a,Never P (f a)):Never P (s >>= f):=fun w b w' h=>by
 rw [Sem.run_bind] at h
 cases hr:s.run P w with
 |ok a w1=>rw [hr] at h;exact h2 a w1 b w' h
 |halt x w1=>rw [hr] at h;cases h
theorem Never.halt{α:Type}(x:Halt):Never P (Sem.halt x:Sem α):=fun w a w' h=>by simp [Sem.run] at h
theorem Stay.load(m:Mode)(a:Addr):Stay P (load a m):=fun w v w' h=>by
 simp only [Go.load,Sem.run] at h
 split at h
 ·cases h;rfl
 ·split at h<;>cases h;rfl
theorem Stay.program:Stay P program:=fun w v w' h=>by simp [Go.program,Sem.run] at h;exact h.2.symm
theorem never_runtimePanic{α:Type}(e:RuntimeError):Never P (runtimePanic e:Sem α):=by
 unfold runtimePanic
 refine Never.bind fun p=>?_
 cases e<;>simp only<;>first
  |exact Never.halt _
  |exact Never.bind fun _=>Never.halt _
  |exact Never.bind fun _=>Never.bind fun _=>Never.halt _
theorem never_boundsPanic{α:Type}(k:IntKind)(x y:Int)(c:BoundsCode):Never P (boundsPanic k x y c:Sem α):=by
 unfold boundsPanic
 dsimp only
 split<;>exact Never.bind fun _=>never_runtimePanic _
theorem stay_underlying(t:TypeId):Stay P (underlying t):=by
 unfold underlying
 refine Stay.bind Stay.program fun p=>?_
 split
 ·exact Stay.pure _
 ·exact (Never.halt _).stay
theorem stay_typeInfo(t:TypeId):Stay P (typeInfo t):=by
 unfold typeInfo
 refine Stay.bind Stay.program fun p=>?_
 split
 ·exact Stay.pure _
 ·exact (Never.halt _).stay
theorem stay_sizeOf(t:TypeId):Stay P (sizeOf t):=Stay.bind (stay_typeInfo t) fun _=>Stay.pure _
theorem stay_isAgg(t:TypeId):Stay P (isAgg t):=by
 unfold isAgg
 refine Stay.bind (stay_underlying t) fun d=>?_
 split<;>exact Stay.pure _
theorem stay_loadCellsFrom(a:Addr):∀ (n i:Nat) (acc:Array Value),Stay P (loadCellsFrom a i n acc)
 |0,i,acc=>Stay.pure _
 |n+1,i,acc=>Stay.bind (Stay.load _ _) fun v=>stay_loadCellsFrom a n (i+1) _
theorem stay_loadVar(t:TypeId)(a:Addr):Stay P (loadVar t a):=by
 unfold loadVar
 refine Stay.bind (stay_isAgg t) fun b=>?_
 split
 ·exact Stay.bind (stay_sizeOf t) fun n=>Stay.bind (stay_loadCellsFrom a n 0 _) fun _=>Stay.pure _
 ·exact Stay.load _ _
theorem stay_sureAddr(v:Value):Stay P (Instr.sureAddr v):=by
 unfold Instr.sureAddr
 split
 ·exact Stay.pure _
 ·exact (Never.halt _).stay
theorem stay_loadAt(t:TypeId)(v:Value):Stay P (Instr.loadAt t v):=Stay.bind (stay_sureAddr v) fun a=>stay_loadVar t a
theorem stay_asIntOf(v:Value):Stay P (asIntOf v):=by
 unfold asIntOf
 split
 ·exact Stay.pure _
 ·exact (Never.halt _).stay
 ·exact (Never.halt _).stay
theorem stay_sliceBound(x:Value)(y:Nat)(c:BoundsCode):Stay P (Instr.sliceBound x y c):=by
 unfold Instr.sliceBound
 refine Stay.bind (stay_asIntOf x) fun p=>?_
 obtain⟨k,i⟩:=p
 dsimp only
 split
 ·exact Stay.pure _
 ·exact (never_boundsPanic _ _ _ _).stay
theorem stay_sliceBounds(b:Bool)(n c:Nat)(l h m:Option Value):Stay P (Instr.sliceBounds b n c l h m):=by
 unfold Instr.sliceBounds
 dsimp only
 repeat' (first|exact Stay.pure _|exact stay_sliceBound _ _ _|exact (Never.halt _).stay|(refine Stay.bind ?_ fun _=>?_)|split)
theorem stay_part(t:TypeId)(cs:Array Value)(o:Nat):Stay P (part t cs o):=by
 unfold part
 refine Stay.bind (stay_isAgg t) fun b=>?_
 split
 ·exact Stay.bind (stay_sizeOf t) fun n=>Stay.pure _
 ·split
  ·exact Stay.pure _
  ·exact (Never.halt _).stay
theorem stay_fieldAt(s:TypeId)(x:Value)(j:Nat):Stay P (Instr.field s x j):=by
 unfold Instr.field
 refine Stay.bind (stay_underlying s) fun d=>?_
 split
 ·split
  ·refine Stay.bind ?_ fun cs=>stay_part _ _ _
   unfold asAgg
   split
   ·exact Stay.pure _
   ·exact (Never.halt _).stay
  ·exact (Never.halt _).stay
 ·exact (Never.halt _).stay
theorem stay_slice(t:TypeId)(x:Value)(l h m:Option Value):Stay P (Instr.slice t x l h m):=by
 unfold Instr.slice
 refine Stay.bind (stay_underlying t) fun d=>?_
 split
 ·split
  ·exact (Never.halt _).stay
  ·exact Stay.bind (stay_sliceBounds _ _ _ _ _ _) fun _=>Stay.pure _
 ·exact Stay.bind (stay_sliceBounds _ _ _ _ _ _) fun _=>Stay.bind (stay_sizeOf _) fun _=>Stay.pure _
 ·refine Stay.bind ?_ fun a=>Stay.bind (stay_underlying _) fun d=>?_
  ·unfold asAddr
   split
   ·exact Stay.pure _
   ·exact (never_runtimePanic _).stay
   ·exact (Never.halt _).stay
  ·split
   ·exact Stay.bind (stay_sliceBounds _ _ _ _ _ _) fun _=>Stay.bind (stay_sizeOf _) fun _=>Stay.pure _
   ·exact (Never.halt _).stay
 ·exact (Never.halt _).stay
theorem stay_sliceAt(t:TypeId)(x:Value)(l h m:Option Value):Stay P (Instr.sliceAt t x l h m):=by
 unfold Instr.sliceAt
 refine Stay.bind (stay_underlying t) fun d=>?_
 split
 ·exact Stay.bind (stay_sureAddr _) fun a=>Stay.bind (stay_sliceBounds _ _ _ _ _ _) fun _=>Stay.bind (stay_sizeOf _) fun _=>Stay.pure _
 ·exact stay_slice _ _ _ _ _
theorem stay_indexAt(t:TypeId)(x i:Value):Stay P (Instr.indexAt t x i):=by
 unfold Instr.indexAt
 refine Stay.bind (stay_asIntOf _) fun p=>?_
 obtain⟨k,n⟩:=p
 dsimp only
 refine Stay.bind (stay_underlying t) fun d=>?_
 repeat' (first|exact Stay.pure _|exact (never_boundsPanic _ _ _ _).stay|exact (Never.halt _).stay|exact stay_sizeOf _|exact stay_underlying _|exact stay_sureAddr _|(refine Stay.bind ?_ fun _=>?_)|split)
theorem stay_extract(x:Value)(j:Nat):Stay P (Instr.extract x j):=by
 unfold Instr.extract
 split
 ·split
  ·exact Stay.pure _
  ·exact (Never.halt _).stay
 ·exact (Never.halt _).stay
def tame:Op→Bool
 |.move _|.assign _|.load ..|.slice ..|.field ..|.extract ..|.indexAddr ..=>true
 |_=>false
theorem stay_v{s:Sem Value}(h:Stay P s):∀ w r w',(do pure (Next.value (←s)):Sem Next).run P w = .ok r w'→w'=w∧∃ v,r = .value v:=fun w r w' e=>by
 rw [Sem.run_bind] at e
 cases hr:s.run P w with
 |ok a w1=>
  rw [hr] at e
  simp at e
  exact⟨by rw [←e.2,h w a w1 hr],a,e.1.symm⟩
 |halt x w1=>rw [hr] at e;cases e
theorem tame_sound{o:Oper}(ht:tame o.op=true)(w0:World):Keeps P (fun w=>w=w0) o:=fun a w K Q' hw h=>by
 subst hw
 have key:∀ r w',(execOp a.eval o).run P w = .ok r w'→w'=w∧∃ v,r = .value v:=by
  obtain⟨dst,op,type,pos,after,guard⟩:=o
  cases op<;>first
   |(exact Bool.noConfusion ht;done)
   |(intro r w' e;simp [execOp] at e;exact⟨e.2.symm,_,e.1.symm⟩)
   |exact stay_v (stay_loadAt _ _) w
   |exact stay_v (stay_sliceAt _ _ _ _ _) w
   |exact stay_v (stay_fieldAt _ _ _) w
   |exact stay_v (stay_extract _ _) w
   |exact stay_v (stay_indexAt _ _ _) w
 unfold Oper.wp at *
 cases hr:(execOp a.eval o).run P w with
 |ok r w'=>
  obtain⟨rfl,v,rfl⟩:=key r w' hr
  rw [hr] at h
  exact⟨rfl,h⟩
 |halt x w'=>
  rw [hr] at h
  cases x<;>exact h
def tameA:Op→Bool
 |.alloc _=>true
 |o=>tame o
theorem stay_zeroValue(t:TypeId):Stay P (zeroValue t):=by
 unfold zeroValue
 refine Stay.bind (stay_typeInfo t) fun x=>?_
 split
 ·exact Stay.pure _
 ·exact (Never.halt _).stay
theorem alloc_grow{t:TypeId}{w w':World}{r:Value}(h:(Instr.alloc t true (.tuple #[])).run P w = .ok r w'):Grows w.heap w'.heap:=by
 unfold Instr.alloc at h
 rw [Sem.run_bind] at h
 cases hz:(zeroValue t).run P w with
 |halt x w1=>rw [hz] at h;cases h
 |ok z w1=>
  rw [hz] at h
  have e:=stay_zeroValue (P:=P) t w z w1 hz
  subst e
  simp [newVar,newRow] at h
  obtain⟨_,rfl⟩:=h
  exact⟨by simp,fun b hb=>heap_alloc_old w1 _ hb⟩
theorem tameA_sound{o:Oper}(ht:tameA o.op=true)(S:St):Keeps P (fun w=>HS S w.heap) o:=fun a w K Q' hw h=>by
 cases hT:tame o.op with
 |true=>
  refine Oper.wp_mono (fun a' w' h=>?_) (tame_sound hT w a w K Q' rfl h)
  exact⟨by rw [h.1];exact hw,h.2⟩
 |false=>
  obtain⟨dst,op,type,pos,after,guard⟩:=o
  cases op<;>first
   | (rename_i t
      unfold Oper.wp at *
      have key:∀ r w',(execOp a.eval { dst:=dst,op:=.alloc t,type:=type,pos:=pos,after:=after,guard:=guard }).run P w = .ok r w'→Grows w.heap w'.heap∧∃ v,r = .value v:=fun r w' e=>by
       simp only [execOp] at e
       rw [Sem.run_bind] at e
       cases hr:(Instr.alloc t true (.tuple #[])).run P w with
       |ok x w1=>
        rw [hr] at e
        simp at e
        obtain⟨rfl,rfl⟩:=e
        exact⟨alloc_grow hr,x,rfl⟩
       |halt x w1=>rw [hr] at e;cases e
      cases hr:(execOp a.eval { dst:=dst,op:=.alloc t,type:=type,pos:=pos,after:=after,guard:=guard }).run P w with
      |ok r w'=>
       obtain⟨hg,v,rfl⟩:=key r w' hr
       rw [hr] at h
       exact⟨hw.later hg,h⟩
      |halt x w'=>
       rw [hr] at h
       cases x<;>exact h
      done)
   |(exfalso;simp only [tameA] at ht;rw [hT] at ht;cases ht;done)
   |(exfalso;cases ht;done)
def isWr:Op→Bool
 |.alloc _|.box ..|.store ..|.makeSlice ..|.buildSlice ..=>true
 |.call ⟨.builtin .len,_,_⟩=>false
 |.call ⟨.builtin .max,_,_⟩=>false
 |.call ⟨.builtin .min,_,_⟩=>false
 |.call _=>true
 |_=>false
def pullB(md:Region.Mode)(ops:Array Oper)(i:Nat)(oi:Oper)(D:List Nat)(listed:Array Bool):Bool:=
 (D.all fun j=>!listed.getD j false && match ops[j]? with
  |some oj=>oj.after.any fun e=>Region.binds md e && (e.on == i || D.contains e.on)
  |none=>false) &&
 (List.range ops.size).all fun j=>j == i || D.contains j || listed.getD j true || match ops[j]? with
  |some oj=>oi.apart ops oj && (!isLoad oi.op || tameA oj.op)
  |none=>true
inductive Plan where
 |done
 |pull (i:Nat) (D:List Nat) (p:Plan)
 |one (i:Nat) (p:Plan)
 |br (i j:Nat) (p q:Plan)
 |tri (i j k:Nat) (p q r:Plan)
def planB(md:Region.Mode)(ops:Array Oper):Plan→Nat→Array Bool→Bool
 |.done,f,listed=>Nat.beq f 0 && (Region.ready md ops listed).isEmpty
 |.pull i D p,f,listed=>match f with
  |0=>false
  |f+1=>match ops[i]? with
   |none=>false
   |some oi=>(Region.ready md ops listed).contains i && !listed.getD i false && !isWr oi.op && pullB md ops i oi D listed && planB md ops p f (listed.setIfInBounds i true)
 |.one i p,f,listed=>match f with
  |0=>false
  |f+1=>Region.ready md ops listed == [i] && planB md ops p f (listed.setIfInBounds i true)
 |.br i j p q,f,listed=>match f with
  |0=>false
  |f+1=>Region.ready md ops listed == [i,j] && planB md ops p f (listed.setIfInBounds i true) && planB md ops q f (listed.setIfInBounds j true)
 |.tri i j k p q r,f,listed=>match f with
  |0=>false
  |f+1=>Region.ready md ops listed == [i,j,k] && planB md ops p f (listed.setIfInBounds i true) && planB md ops q f (listed.setIfInBounds j true) && planB md ops r f (listed.setIfInBounds k true)
def nthO:List Oper→Nat→Option Oper
 |[],_=>none
 |o::_,0=>some o
 |_::r,i+1=>nthO r i
theorem nthO_eq:∀ (l:List Oper) (i:Nat),nthO l i=l[i]?
 |[],i=>by simp [nthO]
 |o::r,0=>by simp [nthO]
 |o::r,i+1=>by simp [nthO,nthO_eq r i]
end
section
variable {P:Program}{ty:Nat→Option TyI}{rep:Env}{n m:Nat}{ex cu:List Nat}{S:St}{K:Kn}{X:Esc}{κ:Kt}
def oneW(P:Program)(ty:Nat→Option TyI)(rep:Env)(n:Nat)(ops:List Oper)(i:Nat)(K:Kn)(S:St)(κ:Kt):Prop:=match nthO ops i with
 |none=>False
 |some o=>match dstOk n o.dst with
  |false=>False
  |true=>match o.guard with
   |none=>opK P ty rep o K S fun v S=>κ (putD K o.dst v) S
   |some (j,want)=>match dsts ops j with
    |none=>False
    |some s=>guardK s want K (fun K=>opK P ty rep o K S fun v S=>κ (putD K o.dst v) S) (fun K=>κ (putD K o.dst (.val undef)) S)
def pullW(P:Program)(ty:Nat→Option TyI)(n:Nat)(ops:List Oper)(i:Nat)(K:Kn)(S:St)(κ:Kn→Prop):Prop:=match nthO ops i with
 |none=>False
 |some o=>match dstOk n o.dst with
  |false=>False
  |true=>match o.guard with
   |none=>opQ P ty o K S fun v=>κ (putD K o.dst v)
   |some (j,want)=>match dsts ops j with
    |none=>False
    |some s=>guardK s want K (fun K=>opQ P ty o K S fun v=>κ (putD K o.dst v)) (fun K=>κ (putD K o.dst (.val undef)))
structure Two(p q:Prop):Prop where
 one:p
 two:q
structure Tri(p q r:Prop):Prop where
 one:p
 two:q
 three:r
noncomputable def regW(P:Program)(ty:Nat→Option TyI)(rep:Env)(n:Nat)(ops:List Oper)(pl:Plan):Kn→St→Kt→Prop:=Plan.rec (motive:=fun _=>Kn→St→Kt→Prop)
 (fun K S κ=>κ K S)
 (fun i _ _ ih K S κ=>pullW P ty n ops i K S fun K=>ih K S κ)
 (fun i _ ih K S κ=>oneW P ty rep n ops i K S fun K S=>ih K S κ)
 (fun i j _ _ ihp ihq K S κ=>Two (oneW P ty rep n ops i K S fun K S=>ihp K S κ) (oneW P ty rep n ops j K S fun K S=>ihq K S κ))
 (fun i j k _ _ _ ihp ihq ihr K S κ=>Tri (oneW P ty rep n ops i K S fun K S=>ihp K S κ) (oneW P ty rep n ops j K S fun K S=>ihq K S κ) (oneW P ty rep n ops k K S fun K S=>ihr K S κ)) pl
theorem wanted_of{ops:Array Oper}{o:Oper}{a:Act}{j s:Nat}{want b:Bool}(hg:o.guard=some (j,want))(hs:dsts ops.toList j=some s)(hb:a.tmps[s]?=some (.bool b)):Region.wanted o (yielded ops a.tmps)=(b == want):=by
 rw [dsts_eq] at hs
 simp at hs
 simp [Region.wanted,hg,yielded,hs,hb]
theorem wanted_no{ops:Array Oper}{o:Oper}{a:Act}{j s:Nat}{want:Bool}(hg:o.guard=some (j,want))(hs:dsts ops.toList j=some s)(hb:a.tmps[s]?=some (.bool !want)∨a.tmps[s]?=some undef):Region.wanted o (yielded ops a.tmps)=false:=by
 rw [dsts_eq] at hs
 simp at hs
 rcases hb with hb|hb
 ·simp [Region.wanted,hg,yielded,hs,hb]
 ·simp [Region.wanted,hg,yielded,hs,hb,undef]
theorem oneW_sound(hty:TysOk P ty){ops:Array Oper}{i:Nat}{q:Kt}(h:oneW P ty rep n ops.toList i K S q){w0:World}{a:Act}{w:World}(ha:Good Df n a K)(he:SE w0 w)(hs:HS S w.heap)
 {next:Act→World→Prop} {Q:Exit→Act→World→Prop} (hp:∀ v w',SE w0 w'→rep.pan v w'.heap→Q (.panic [{ v:=v,recovered:=false }]) a w') (hn:∀ K S a w,Good Df n a K→SE w0 w→HS S w.heap→q K S→next a w):wpOp P ops Q i next a w:=by
 simp only [oneW] at h
 rw [nthO_eq,Array.getElem?_toList] at h
 unfold wpOp
 cases hi:ops[i]? with
 |none=>rw [hi] at h;exact h.elim
 |some o=>
  rw [hi] at h
  simp only at h ⊢
  split at h
  ·exact h.elim
  rename_i hd
  have hd:=dstOk_spec hd
  split at h
  ·rename_i hg
   rw [if_pos (by simp [Region.wanted,hg])]
   exact .inl (opK_sound hty h ha hs (fun v w' he' hE=>hp v w' (he.trans he') hE) fun kv S' w' he' hs' hk=>hn _ _ _ w' (ha.put hd kv) (he.trans he') hs' hk)
  ·rename_i j want hg
   split at h
   ·exact h.elim
   ·rename_i s hs'
    obtain⟨K',ha',h1|h1⟩:=guard_sound h ha
    ·rw [if_pos (by rw [wanted_of hg hs' h1.1];simp)]
     exact .inl (opK_sound hty h1.2 ha' hs (fun v w' he' hE=>hp v w' (he.trans he') hE) fun kv S' w' he' hs' hk=>hn _ _ _ w' (ha'.put hd kv) (he.trans he') hs' hk)
    ·rw [if_neg (by rw [wanted_no hg hs' h1.1];simp)]
     exact hn _ _ _ w (ha'.put hd (.val undef)) he hs h1.2
theorem regW_sound(hty:TysOk P ty){ops:Array Oper}(hsel:Region.noSelect ops=true):∀ (pl:Plan) (f:Nat) (listed:Array Bool) (K:Kn) (S:St),planB .any ops pl f listed=true→regW P ty rep n ops.toList pl K S κ →
 ∀ (w0:World) a w,Good Df n a K→SE w0 w→HS S w.heap→wpAny P .any ops (lift rep.pan Df n w0 X κ) f listed a w
 |.done,f,listed,K,S,hB,h,w0,a,w,ha,he,hs=>by
  simp only [planB,Bool.and_eq_true] at hB
  obtain⟨hf,hB⟩:=hB
  rw [nbT hf]
  exact⟨by simpa using hB,K,S,ha,he,hs,h⟩
 |.one i p,0,listed,K,S,hB,h,w0,a,w,ha,he,hs=>by simp [planB] at hB
 |.one i p,f+1,listed,K,S,hB,h,w0,a,w,ha,he,hs=>by
  simp only [planB,Bool.and_eq_true,beq_iff_eq] at hB
  refine⟨fun h0=>(by rw [hB.1] at h0;cases h0),fun j hj=>?_⟩
  rw [hB.1] at hj
  have hji:j=i:=by simpa using hj
  have h:oneW P ty rep n ops.toList i K S fun K S=>regW P ty rep n ops.toList p K S κ:=h
  subst hji
  exact oneW_sound hty h ha he hs (fun v w' he' hE=>⟨v,rfl,ha.defers,he',hE⟩) fun K S a w ha he hs hk=>regW_sound hty hsel p f _ K S hB.2 hk w0 a w ha he hs
 |.br i i' p q,0,listed,K,S,hB,h,w0,a,w,ha,he,hs=>by simp [planB] at hB
 |.br i i' p q,f+1,listed,K,S,hB,h,w0,a,w,ha,he,hs=>by
  simp only [planB,Bool.and_eq_true,beq_iff_eq] at hB
  refine⟨fun h0=>(by rw [hB.1.1] at h0;cases h0),fun j hj=>?_⟩
  rw [hB.1.1] at hj
  have hji:j=i∨j=i':=by simpa using hj
  have h:Two (oneW P ty rep n ops.toList i K S fun K S=>regW P ty rep n ops.toList p K S κ) (oneW P ty rep n ops.toList i' K S fun K S=>regW P ty rep n ops.toList q K S κ):=h
  rcases hji with rfl|rfl
  ·exact oneW_sound hty h.one ha he hs (fun v w' he' hE=>⟨v,rfl,ha.defers,he',hE⟩) fun K S a w ha he hs hk=>regW_sound hty hsel p f _ K S hB.1.2 hk w0 a w ha he hs
  ·exact oneW_sound hty h.two ha he hs (fun v w' he' hE=>⟨v,rfl,ha.defers,he',hE⟩) fun K S a w ha he hs hk=>regW_sound hty hsel q f _ K S hB.2 hk w0 a w ha he hs
 |.tri i i' i'' p q r,0,listed,K,S,hB,h,w0,a,w,ha,he,hs=>by simp [planB] at hB
 |.tri i i' i'' p q r,f+1,listed,K,S,hB,h,w0,a,w,ha,he,hs=>by
  simp only [planB,Bool.and_eq_true,beq_iff_eq] at hB
  refine⟨fun h0=>(by rw [hB.1.1.1] at h0;cases h0),fun j hj=>?_⟩
  rw [hB.1.1.1] at hj
  have hji:j=i∨j=i'∨j=i'':=by simpa using hj
  have h:Tri (oneW P ty rep n ops.toList i K S fun K S=>regW P ty rep n ops.toList p K S κ) (oneW P ty rep n ops.toList i' K S fun K S=>regW P ty rep n ops.toList q K S κ) (oneW P ty rep n ops.toList i'' K S fun K S=>regW P ty rep n ops.toList r K S κ):=h
  rcases hji with rfl|rfl|rfl
  ·exact oneW_sound hty h.one ha he hs (fun v w' he' hE=>⟨v,rfl,ha.defers,he',hE⟩) fun K S a w ha he hs hk=>regW_sound hty hsel p f _ K S hB.1.1.2 hk w0 a w ha he hs
  ·exact oneW_sound hty h.two ha he hs (fun v w' he' hE=>⟨v,rfl,ha.defers,he',hE⟩) fun K S a w ha he hs hk=>regW_sound hty hsel q f _ K S hB.1.2 hk w0 a w ha he hs
  ·exact oneW_sound hty h.three ha he hs (fun v w' he' hE=>⟨v,rfl,ha.defers,he',hE⟩) fun K S a w ha he hs hk=>regW_sound hty hsel r f _ K S hB.2 hk w0 a w ha he hs
 |.pull i D p,0,listed,K,S,hB,h,w0,a,w,ha,he,hs=>by simp [planB] at hB
 |.pull i D p,f+1,listed,K,S,hB,h,w0,a,w,ha,he,hs=>by
  simp only [planB] at hB
  split at hB
  ·cases hB
  rename_i oi hi
  simp only [Bool.and_eq_true,Bool.not_eq_true'] at hB
  obtain⟨⟨⟨⟨hr,hli⟩,hwr⟩,hc⟩,hB'⟩:=hB
  have hr':i∈Region.ready .any ops listed:=by simpa using hr
  have hQ:∀ ch a d v w,lift rep.pan Df n w0 X κ (.panic ch) (Act.put a d v) w→lift rep.pan Df n w0 X κ (.panic ch) a w:=fun ch a d v w ⟨u,h1,h2,h3,h4⟩=>⟨u,h1,by cases d<;>exact h2,h3,h4⟩
  have h:pullW P ty n ops.toList i K S fun K=>regW P ty rep n ops.toList p K S κ:=h
  simp only [pullW] at h
  rw [nthO_eq,Array.getElem?_toList,hi] at h
  simp only at h
  split at h
  ·exact h.elim
  rename_i hd
  have hd:=dstOk_spec hd
  have pull:∀ (v:Value) (K':Kn) (C:World→Prop),(C=(fun _=>True)∧isLoad oi.op=false∨C=(fun x=>HS S x.heap)∧isLoad oi.op=true)→Good Df n (a.put oi.dst v) K'→Yields P ops C oi v a→regW P ty rep n ops.toList p K' S κ→wpAny P .any ops (lift rep.pan Df n w0 X κ) (f+1) listed a w:=by
   intro v K' C hC ha' hy hk
   simp only [pullB,Bool.and_eq_true,List.all_eq_true,Bool.not_eq_true'] at hc
   obtain⟨hc1,hc2⟩:=hc
   refine wpAny_pull (C:=C) (D:=D) hi (Region.noSelect_spec hsel) hQ ?_ f listed a w ?_ hli (fun j hj=>(hc1 j hj).1) ?_ hr' hy (regW_sound hty hsel p f _ K' S hB' hk w0 _ w ha' he hs)
   ·intro j hj oj hoj
    have:=(hc1 j hj).2
    rw [hoj] at this
    obtain⟨e,he1,he2⟩:=Array.any_eq_true'.1 this
    simp only [Bool.and_eq_true,Bool.or_eq_true,beq_iff_eq,List.contains_iff_mem] at he2
    exact⟨e,he1,he2.1,he2.2⟩
   ·rcases hC with ⟨rfl,_⟩|⟨rfl,_⟩
    ·trivial
    ·exact hs
   ·intro j oj hoj hji hjD hun
    have hlt:=(Array.getElem?_eq_some_iff.1 hoj).1
    have:=hc2 j (List.mem_range.2 hlt)
    simp only [Bool.or_eq_true,beq_iff_eq,List.contains_iff_mem,hji,hjD,hun,false_or,or_false,Bool.false_eq_true] at this
    rw [hoj] at this
    simp only [Bool.and_eq_true,Bool.or_eq_true,Bool.not_eq_true'] at this
    refine⟨this.1,?_⟩
    rcases hC with ⟨rfl,hl⟩|⟨rfl,hl⟩
    ·exact fun a w K Q' _ h=>Oper.wp_mono (fun a w h=>⟨trivial,h⟩) h
    ·rcases this.2 with h1|h1
     ·rw [hl] at h1;cases h1
     ·exact tameA_sound h1 S
  have skip:Region.wanted oi (yielded ops a.tmps)=false→∀ K',Good Df n a K'→regW P ty rep n ops.toList p (putD K' oi.dst (.val undef)) S κ→wpAny P .any ops (lift rep.pan Df n w0 X κ) (f+1) listed a w:=by
   intro hwt K' ha' hk
   cases hl:isLoad oi.op with
   |false=>exact pull undef _ _ (.inl ⟨rfl,hl⟩) (ha'.put hd (.val undef)) (.inr ⟨hwt,rfl⟩) hk
   |true=>exact pull undef _ _ (.inr ⟨rfl,hl⟩) (ha'.put hd (.val undef)) (.inr ⟨hwt,rfl⟩) hk
  have run:Region.wanted oi (yielded ops a.tmps)=true→∀ K',Good Df n a K'→(opQ P ty oi K' S fun v=>regW P ty rep n ops.toList p (putD K' oi.dst v) S κ)→wpAny P .any ops (lift rep.pan Df n w0 X κ) (f+1) listed a w:=by
   intro hwt K' ha' hk
   obtain⟨kv,h1,h2⟩:=opQ_sound hty hk ha'
   cases hl:isLoad oi.op with
   |false=>exact pull (den kv) _ _ (.inl ⟨rfl,hl⟩) (ha'.put hd kv) (.inl ⟨hwt,fun w _=>h2 w fun e=>by rw [hl] at e;cases e⟩) h1
   |true=>exact pull (den kv) _ _ (.inr ⟨rfl,hl⟩) (ha'.put hd kv) (.inl ⟨hwt,fun w' hw'=>h2 w' fun _=>hw'⟩) h1
  split at h
  ·rename_i hg
   exact run (by simp [Region.wanted,hg]) K ha h
  ·rename_i j want hg
   split at h
   ·exact h.elim
   ·rename_i s hs'
    obtain⟨K',ha',h1|h1⟩:=guard_sound h ha
    ·exact run (by rw [wanted_of hg hs' h1.1];simp) K' ha' h1.2
    ·exact skip (wanted_no hg hs' h1.1) K' ha' h1.2
theorem dW(hty:TysOk P ty)(hm:P.follows .mixedOrders=true)(pl:Plan){id:Nat}{ops:Array Oper}(hsel:Region.noSelect ops=true)(hB:planB .any ops pl ops.size (Array.replicate ops.size false)=true)
 (h:regW P ty rep n ops.toList pl K S κ):Leaf P n ty rep m ex cu (.region id ops true) X κ K S:=⟨fun Df w0 a w ha he hs=>by
 refine wp_region_any hm ?_
 exact regW_sound (X:=X) hty hsel pl _ _ K S hB h w0 a { w with drawn:=w.drawn+1 } ha ⟨he.os,he.tape,he.output⟩ hs⟩
theorem results_gen(hty:TysOk P ty){a:Act}(ha:Good Df n a K){fn:Func}{rs:List ResultVar}(hrs:fn.results=rs.toArray){q:KV→Prop}(h:resK ty rs K S [] fun vs=>fk (retV vs) q){w:World}(hs:HS S w.heap) :
 ∃ kv,(results fn a.tmps).run P w = .ok (den kv) w∧q kv:=by
 obtain⟨vs,h1,h2,h3⟩:=resK_sound (P:=P) hty ha rs [] _ h
 refine⟨_,?_,fk_iff h1⟩
 have h5:=h3 w hs
 have e:results fn a.tmps=(do
  let vs ←rs.toArray.mapM (resOne a.tmps)
  pure (if h:vs.size=1 then vs[0] else .tuple vs)):=by
  unfold results
  rw [hrs]
  congr 1
 rw [e]
 rw [Array.mapM_eq_mapM_toList]
 simp only [Sem.run_bind,Sem.run_map,h5]
 simp only [List.reverse_nil,List.nil_append]
 match vs,h2 with
 |[],_=>simp [retV,den]
 |[v],h2=>simp [retV,h2 v (by simp)]
 |v::u::r,_=>simp [retV,den]
theorem CK.inline {rep : Nat → Option RepS} {E : Value → Heap → Prop} (hty : TysOk P ty) {f : Nat} {fn : Func} {c : Code} (hf : P.funcs[f]? = some fn) (hb : fn.body = some c) (hn : (fn.name == "runtime.NumGoroutine") = false) {rs : List ResultVar} (hrs : fn.results = rs.toArray)
 (m:Nat) (ex cu:List Nat) {n:Nat} (hnt:fn.ntmps=n) {args caps:List KV} {q:KV→St→Prop} (hlen:Nat.ble (args++caps).length n=true) (hd:(args++caps).map den=args.map den1++caps.map denC)
 (hk:codeK P ty ⟨rep,E⟩ n m ex cu c ⟨fun K S=>resK ty rs K S [] fun vs=>fk (retV vs) fun v=>q v S,[]⟩ (fun K S=>resK ty rs K S [] fun vs=>fk (retV vs) fun v=>q v S) (init 0 (args++caps)) S):CK P E f args caps S q:=⟨fun h hs=>by
 right;right
 rw [←hd]
 refine⟨callRuns hf hn (by simp [hb]),fun w hw=>?_⟩
 subst hw
 have hlen:=Nat.le_of_ble_eq_true hlen
 refine calls_of_wp hf hb ?_
 have ha:=good_init (n:=n) hlen
 have:=cks hty c _ _ _ _ hk [] w _ w ha (SE.refl w) hs
 rw [hnt,show ((args++caps).map den).toArray.size=(args++caps).length by simp]
 refine Code.wp_mono ?_ this
 intro e a w' hq
 have fin:(∃ K S,Good [] n a K∧SE w w'∧HS S w'.heap∧resK ty rs K S [] fun vs=>fk (retV vs) fun v=>q v S)→a.defers=[]∧∃ v,(results fn a.tmps).run P w' = .ok v w'∧((w'.os=w.os∧w'.tape=w.tape∧w'.output=w.output)∧((∃ u,Ending.returned v = .returned u∧∃ kv S',den kv=u∧HS S' w'.heap∧q kv S')∨∃ u,Ending.returned v = .panicked [{ v:=u,recovered:=false }]∧E u w'.heap)):=fun⟨K,S,a1,a2,a3,a4⟩=>by
  obtain⟨kv,h1,h2⟩:=results_gen hty a1 hrs a4 a3
  exact⟨a1.defers,_,h1,⟨a2.os,a2.tape,a2.output⟩,.inl ⟨_,rfl,kv,S,rfl,a3,h2⟩⟩
 cases e with
 |normal=>exact fin hq
 |ret=>exact fin hq
 |exit i=>obtain⟨K,S,a1,a2,a3,a4⟩:=hq;exact False.elim a4
 |panic ch=>obtain⟨v,h1,h2,h3,h4⟩:=hq;exact⟨h2,⟨h3.os,h3.tape,h3.output⟩,.inr ⟨v,by rw [h1],h4⟩⟩
 |goto l=>exact False.elim hq
 |outgrown=>exact False.elim hq⟩
end
end Go.Ex
