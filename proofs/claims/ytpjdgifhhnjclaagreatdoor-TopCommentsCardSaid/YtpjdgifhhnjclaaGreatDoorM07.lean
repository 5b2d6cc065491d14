/-
  Top: TopComments: whatever the input, the law answers true (part 7)
-/
import Derived.Test.YtpjdgifhhnjclaaGreatDoorM06
set_option linter.unusedVariables false
set_option linter.unusedSimpArgs false
set_option maxHeartbeats 4000000
set_option maxRecDepth 10000
namespace Go.Ex
variable {E:Value→A3→Prop}
structure A5(h h':A3):Prop where
 size:h.size≤h'.size
 same:∀ b,b<h.size→h'[b]?=h[b]?
theorem A5.refl(h:A3):A5 h h:=⟨Nat.le_refl _,fun _ _=>rfl⟩
theorem A5.trans{a b c:A3}(h:A5 a b)(k:A5 b c):A5 a c:=⟨Nat.le_trans h.size k.size,fun i hi=>(k.same i (Nat.lt_of_lt_of_le hi h.size)).trans (h.same i hi)⟩
theorem HS.grows{h0 h:A3}{ch:L8}(hs:HS ⟨h0,[],ch⟩ h):A5 h0 h:=⟨hs.size,fun b hb=>hs.frame b hb List.not_mem_nil⟩
theorem HS.later{S:St}{h h':A3}(hs:HS S h)(hg:A5 h h'):HS S h':=by
 refine⟨Nat.le_trans hs.size hg.size,fun b h1 h2=>(hg.same b (Nat.lt_of_lt_of_le h1 hs.size)).trans (hs.frame b h1 h2),fun e he=>?_,hs.apart⟩
 obtain⟨h1,h2,h3⟩:=hs.chunk e he
 exact⟨Nat.lt_of_lt_of_le h1 hg.size,h2,h3.congr (hg.same _ h1)⟩
theorem Sl.grows{τ:Type}{R:Y7 τ}{h h':A3}{A:Option Addr}{n:Nat}{xs:List τ}(hs:Sl R h A n xs)(hg:A5 h h'):Sl R h' A n xs:=by
 refine⟨hs.len_eq,hs.small,fun h0=>?_⟩
 obtain⟨b,o,e,hb,hc⟩:=hs.at_ h0
 exact⟨b,o,e,Nat.lt_of_lt_of_le hb hg.size,fun i hi j v hv=>by
  have:=hc i hi j v hv
  simpa [K5,hg.same b hb] using this⟩
theorem Sl.plain{τ:Type}{R:Y7 τ}{h:A3}{A:Option Addr}{n:Nat}{xs:List τ}(hs:Sl R h A n xs)(h0:0<n):O1 A:=by
 obtain⟨b,o,e,_⟩:=hs.at_ h0
 exact⟨b,o,e⟩
theorem Sl.nil{τ:Type}(R:Y7 τ)(h:A3)(A:Option Addr):Sl R h A 0 []:=⟨rfl,by decide,fun h=>absurd h (Nat.lt_irrefl 0)⟩
theorem HS.sl{S:St}{h:A3}(hs:HS S h){k b T cap:Nat}{τ:Type}{R:Y7 τ}{xs:List τ}(hf:B3 S.ch k=some (b,.arr T R xs cap)){n:Nat}(hn:n≤xs.length):Sl R h (some ⟨b,0,none⟩) n (xs.take n):=by
 have hch:=(hs.chunk _ (fM hf)).2.2
 refine⟨by rw [List.length_take];omega,by obtain⟨_,_,_,h1,h2,_⟩:=hch;simp only [maxLen] at h2;omega,fun h0=>⟨b,0,rfl,(hs.chunk _ (fM hf)).1,fun i hi j v hv=>?_⟩⟩
 rw [Nat.zero_add]
 refine hs.arr hf (by omega) ?_
 rw [show xs.getD i R.dflt=(xs.take n).getD i R.dflt by simp [List.getD,List.getElem?_take_of_lt hi]]
 exact hv
inductive S8 {τ:Type}(R:Y7 τ)(T:Nat)(h h':A3):Value→List τ→Prop
 |nil:S8 R T h h' (.slice none 0 0) []
 |arr (b cap:Nat) (L:List τ) (hb:h.size≤b) (hlt:b<h'.size) (hat:C7 h' b (.arr T R L cap)):S8 R T h h' (.slice (some ⟨b,0,none⟩) L.length cap) L
theorem S8.sl{τ:Type}{R:Y7 τ}{T:Nat}{h h':A3}{v:Value}{L:List τ}(ho:S8 R T h h' v L):∃ A len cap,v = .slice A len cap∧Sl R h' A len L:=by
 cases ho with
 |nil=>exact⟨none,0,0,rfl,Sl.nil _ _ _⟩
 |arr b cap L hb hlt hat=>
  have hs:HS ⟨#[],[],[(0,b,.arr T R L cap)]⟩ h':=⟨Nat.zero_le _,fun j hj _=>absurd hj (Nat.not_lt_zero _),fun e he=>by
   have:=List.mem_singleton.1 he;subst this;exact⟨hlt,.inl (Nat.zero_le _),hat⟩,List.pairwise_singleton _ _⟩
  have:=hs.sl (k:=0) (b:=b) rfl (Nat.le_refl L.length)
  rw [List.take_length] at this
  exact⟨_,_,_,rfl,this⟩
theorem HS.own{h0 h:A3}{ch:L8}(hs:HS ⟨h0,[],ch⟩ h){τ:Type}{k b T cap:Nat}{R:Y7 τ}{xs:List τ}(hf:B3 ch k=some (b,.arr T R xs cap)){n:Int}(hn:n=xs.length):S8 R T h0 h (B0 (.osl k b n cap)) xs:=by
 obtain⟨h1,h2,h3⟩:=hs.chunk _ (fM hf)
 have e:B0 (.osl k b n cap) = .slice (some ⟨b,0,none⟩) xs.length cap:=by simp [B0,A1,A0,hn]
 rw [e]
 refine .arr b cap xs ?_ h1 h3
 rcases h2 with h2|h2
 ·exact h2
 ·cases h2
section
variable {P:Program}{S:St}
theorem CK.epoch{f:Nat}{args caps:List KV}{κ:KV→St→Prop}{Q:A3→Value→A3→Prop}(hh:∀ h,HS S h→CH P f (args.map A1++caps.map A0).toArray h fun u h'=>Q h u h')
 (hk:∀ h u h',HS S h→Q h u h'→fk (Wh u) fun kv=>κ kv ⟨h',[],[]⟩):CK P E f args caps S κ:=
 ⟨fun h hs=>.inl (by
  refine⟨(hh h hs).1,fun w hw=>((hh h hs).2 w hw).mono fun e w' ⟨he,u,h1,h2⟩=>⟨he,u,h1,_,_,mS u,HS.start _,aD (hk h u _ hs h2)⟩⟩)⟩
theorem C1.of{A:Option Addr}{sz:Nat}{i:Int}{f n:Nat}{agg:Bool}{κ:KV→Prop}{τ:Type}{R:Y7 τ}{len:Nat}{xs:List τ}(hs:Sl R S.h0 A len xs)(hc:S.cap=[])(hsz:R.sz=sz)(h0:0≤i)(h1:i<len)
 {l:List Value} (hl:kB f n (R.cells (B1 R.dflt xs i))=some l) (hk:G8 agg (O7 l) κ):C1 S A sz i f n agg κ:=
 ⟨.inl ⟨_,R,len,xs,hs,fun a _=>by rw [hc];exact List.not_mem_nil,hsz,h0,h1,l,hl,hk⟩⟩
theorem CK.pure{f:Nat}{args caps:List KV}{κ:KV→St→Prop}(v:Value)(hh:∀ h,HS S h→CH P f (args.map A1++caps.map A0).toArray h fun u h'=>u=v∧A5 h h')(hk:fk (Wh v) fun kv=>κ kv S):CK P E f args caps S κ:=
 ⟨fun h hs=>.inl (by
  refine⟨(hh h hs).1,fun w hw=>((hh h hs).2 w hw).mono fun e w' ⟨he,u,h1,h2,h3⟩=>⟨he,u,h1,_,S,?_,hs.later h3,aD hk⟩⟩
  rw [mS,h2])⟩
theorem A7{f:Nat}{args caps:List KV}{κ:KV→St→Prop}{v:Value}(hk:fk (Wh v) fun kv=>κ kv S)(hh:∀ h,HS S h→CH P f (args.map A1++caps.map A0).toArray h fun u h'=>u=v∧A5 h h'):CK P E f args caps S κ:=CK.pure v hh hk
theorem CK.ext{f:Nat}{args caps:List KV}{κ:KV→St→Prop}(v:Value)(hh:∀ w:World,(callFunc f (args.map A1++caps.map A0).toArray).run P w = .ok (.value v) w)(hk:fk (Wh v) fun kv=>κ kv S):CK P E f args caps S κ:=
 ⟨fun h hs=>.inr (.inl fun w hw=>⟨v,w,hh w,⟨rfl,rfl,rfl⟩,_,S,mS v,by rw [hw];exact hs,aD hk⟩)⟩
theorem V9.pure{f:Nat}{args caps:List KV}{κ:KV→Prop}(v:Value)(hh:∀ h,HS S h→CH P f (args.map A1++caps.map A0).toArray h fun u h'=>u=v∧A5 h h')(hk:fk (Wh v) fun kv=>κ kv):V9 P f args caps S κ:=
 ⟨_,fun h' hs=>by
  refine⟨(hh h' hs).1,fun w hw=>((hh h' hs).2 w hw).mono fun e w' ⟨he,u,h1,h2,h3⟩=>⟨he,u,h1,?_,hs.later h3⟩⟩
  rw [mS,h2],aD hk⟩
theorem CH.mono{f:Nat}{args:Array Value}{h:A3}{R R':Value→A3→Prop}(hc:CH P f args h R)(hr:∀ v h',R v h'→R' v h'):CH P f args h R':=
 ⟨hc.1,fun w hw=>(hc.2 w hw).mono fun e w' ⟨he,v,h1,h2⟩=>⟨he,v,h1,hr _ _ h2⟩⟩
end
theorem Ru{α:Type}(d:α)(L:List α)(i:Int)(h0:0≤i)(h1:i<L.length):L.drop i.toNat=B1 d L i::L.drop (i+1).toNat:=by
 have:i.toNat<L.length:=by omega
 rw [List.drop_eq_getElem_cons this,show (i+1).toNat=i.toNat+1 by omega]
 simp [B1,List.getD,this]
theorem W8{α:Type}(d:α)(L:List α)(i:Int)(h0:0≤i)(h1:i<L.length):B1 d L i∈L:=by
 have:i.toNat<L.length:=by omega
 simp [B1,List.getD,this]
theorem Su{α:Type}(L:List α)(i:Int)(h1:¬ i<L.length):L.drop i.toNat=[]:=List.drop_eq_nil_of_le (by omega)
theorem C0{p:Prop}(h:¬ p):B0 (.val (.bool false))=A0 (.prop p):=by simp [B0,A1,A0,h]
theorem B8{p:Prop}(h:p):B0 (.val (.bool true))=A0 (.prop p):=by simp [B0,A1,A0,h]
theorem C3{p q:Prop}(h:p↔q):B0 (.prop p)=A0 (.prop q):=by rw [propext h];rfl
theorem P9{k:IntKind}{a b:Int}(h:a=b):B0 (.val (.int k a)) = .int k b:=by rw [h];rfl
end Go.Ex
namespace Go.Ex
variable {Df:List Deferred}
section
variable {P:Program}{ops:Array Oper}{Q:Exit→Act→World→Prop}{md:Region.Mode}
def Lf(P:Program)(C:World→Prop)(o:Oper):Prop:=∀ a w K Q,C w→o.wp P a w K Q→o.wp P a w (fun a w=>C w∧K a w) Q
def bB(P:Program)(ops:Array Oper)(C:World→Prop)(o:Oper)(v:Value)(a:Act):Prop:=
 (Region.wanted o (yielded ops a.tmps)=true∧∀ w,C w→(execOp a.eval o).run P w = .ok (.value v) w)∨(Region.wanted o (yielded ops a.tmps)=false∧v=undef)
theorem bB.of_same{C:World→Prop}{o:Oper}{v:Value}{a a':Act}(hy:bB P ops C o v a)(he:execOp a'.eval o=execOp a.eval o)
 (hw:Region.wanted o (yielded ops a'.tmps)=Region.wanted o (yielded ops a.tmps)):bB P ops C o v a':=by
 unfold bB at *
 rw [he,hw]
 exact hy
theorem Wq{C:World→Prop}{j:Nat}{oi oj:Oper}{v:Value}(hj:ops[j]?=some oj)(hap:oi.apart ops oj=true)
 (hsi:∀ cs b,oi.op≠.select cs b) (hsj:∀ cs b,oj.op≠.select cs b) (hQ:∀ ch a d v w,Q (.panic ch) (Act.put a d v) w→Q (.panic ch) a w) (hk:Lf P C oj) {K:Act→World→Prop} {a:Act} {w:World} (hw:C w)
 (hy:bB P ops C oi v a) (h:wpOp P ops Q j K (a.put oi.dst v) w) :
 wpOp P ops Q j (fun a' w'=>C w'∧bB P ops C oi v a'∧K (a'.put oi.dst v) w') a w:=by
 obtain⟨h1,h2,h3⟩:=Oper.apart_spec hap
 have keep:∀ (a:Act),bB P ops C oi v a→∀ u,bB P ops C oi v (a.put oj.dst u):=fun a hy u=>
  hy.of_same (execOp_put oi hsi a oj.dst u h3) (wanted_put oi a oj.dst u h3)
 unfold wpOp at *
 simp only [hj] at *
 rw [wanted_put oj a oi.dst v h1] at h
 split
 ·rename_i hwt
  simp only [hwt,if_true] at h
  rcases h with h|h
  ·left
   have h:=hk _ _ _ _ hw h
   unfold Oper.wp at *
   rw [execOp_put oj hsj a oi.dst v h1] at h
   generalize (execOp a.eval oj).run P w=r at *
   have put_c:∀ u,(a.put oi.dst v).put oj.dst u=(a.put oj.dst u).put oi.dst v:=fun u=>Act.put_comm a v u h2
   cases r with
   |ok n w'=>
    cases n<;>simp only [Oper.upon] at h ⊢
    case value u=>rw [put_c] at h;exact⟨h.1,keep a hy u,h.2⟩
    case skip=>rw [put_c] at h;exact⟨h.1,keep a hy _,h.2⟩
    case enter f args=>
     refine Calls.mono h fun e w'' he=>?_
     cases e with
     |returned u=>simp only at he ⊢;rw [put_c] at he;exact⟨he.1,keep a hy u,he.2⟩
     |panicked ch=>exact hQ _ _ _ _ _ he
     |outgrown=>exact he
    case row row args=>
     refine Rows.mono h fun u w'' he=>?_
     rw [put_c] at he
     exact⟨he.1,keep a hy u,he.2⟩
    case defer d=>
     obtain⟨hc,h⟩:=h
     have e:({ a.put oi.dst v with defers:=d::(a.put oi.dst v).defers }:Act).put oj.dst undef=(({ a with defers:=d::a.defers }:Act).put oj.dst undef).put oi.dst v:=by
      have:=Act.put_comm ({ a with defers:=d::a.defers }:Act) v undef h2
      rw [←this]
      cases oi.dst<;>rfl
     rw [e] at h
     refine⟨hc,?_,h⟩
     have hy':bB P ops C oi v ({ a with defers:=d::a.defers }:Act):=hy.of_same rfl rfl
     exact keep _ hy' _
   |halt x w'=>
    cases x<;>simp only [Oper.upon] at h⊢<;> first|exact hQ _ _ _ _ _ h|exact h
  ·right
   obtain⟨ha,hl⟩:=h
   refine⟨?_,hl⟩
   unfold Oper.asks at *
   rw [execOp_put oj hsj a oi.dst v h1] at ha
   exact ha
 ·rename_i hwt
  simp only [hwt] at h
  exact⟨hw,keep a hy _,by rw [←Act.put_comm a v undef h2];exact h⟩
theorem bB.wpOp{C:World→Prop}{i:Nat}{o:Oper}{v:Value}{a:Act}{w:World}(hi:ops[i]?=some o)(hw:C w)(hy:bB P ops C o v a){K:Act→World→Prop}(h:K (a.put o.dst v) w):wpOp P ops Q i K a w:=by
 unfold Go.wpOp
 simp only [hi]
 rcases hy with ⟨hwt,hv⟩|⟨hwt,rfl⟩
 ·simp only [hwt,if_true]
  left
  unfold Oper.wp
  rw [hv w hw]
  exact h
 ·simp only [hwt,Bool.false_eq_true,if_false];exact h
theorem Nf{C:World→Prop}{i:Nat}{oi:Oper}{v:Value}{D:List Nat}(hi:ops[i]?=some oi)(hsel:∀ (j:Nat) (o:Oper) cs b,ops[j]?=some o→o.op≠.select cs b)(hQ:∀ ch a d v w,Q (.panic ch) (Act.put a d v) w→Q (.panic ch) a w)
 (hD:∀ j∈D,∀ oj,ops[j]?=some oj→∃ e∈oj.after,Region.binds md e=true∧(e.on=i∨e.on∈D)) :
 ∀ (F6:Nat) (listed:Array Bool) (a:Act) (w:World),C w→listed.getD i false=false→(∀ j∈D,listed.getD j false=false) →
  (∀ j oj,ops[j]?=some oj→j≠i→¬ j∈D→listed.getD j true=false→oi.apart ops oj=true∧Lf P C oj) →
  i∈Region.ready md ops listed→bB P ops C oi v a →
  wpAny P md ops Q F6 (listed.setIfInBounds i true) (a.put oi.dst v) w→wpAny P md ops Q (F6+1) listed a w:=by
 intro F6
 induction F6 with
 |zero=>
  intro listed a w hw hli hlD hfree hr hy H
  refine⟨fun h=>(by rw [h] at hr;cases hr),fun j hj=>?_⟩
  by_cases hji:j=i
  ·subst hji;exact hy.wpOp hi hw H
  ·have:=ready_mono hj hji
   rw [H.1] at this
   cases this
 |succ F6 ih=>
  intro listed a w hw hli hlD hfree hr hy H
  refine⟨fun h=>(by rw [h] at hr;cases hr),fun j hj=>?_⟩
  by_cases hji:j=i
  ·subst hji;exact hy.wpOp hi hw H
  ·obtain⟨hjun,oj,hoj,hall⟩:=mem_ready.1 hj
   have hjD:¬ j∈D:=fun hjD=>by
    obtain⟨e,he,hb,h1⟩:=hD j hjD oj hoj
    have h2:=hall e he hb
    rcases h1 with h1|h1
    ·rw [h1,hli] at h2;cases h2
    ·rw [hlD _ h1] at h2;cases h2
   obtain⟨hap,hkeep⟩:=hfree j oj hoj hji hjD hjun
   have h1:=H.2 j (ready_mono hj hji)
   have h2:=Wq (K:=fun a' w'=>wpAny P md ops Q F6 ((listed.setIfInBounds i true).setIfInBounds j true) a' w') hoj hap (fun cs b=>hsel i oi cs b hi) (fun cs b=>hsel j oj cs b hoj) hQ hkeep hw hy h1
   have hfree':∀ k ok,ops[k]?=some ok→k≠i→¬ k∈D→(listed.setIfInBounds j true).getD k true=false→oi.apart ops ok=true∧Lf P C ok:=fun k ok hk hki hkD hun=>by
    refine hfree k ok hk hki hkD ?_
    by_cases hjk:j=k
    ·subst hjk;exact hjun
    ·rw [getD_set_ne true hjk] at hun;exact hun
   refine wpOp_mono (fun a' w' h3=>ih (listed.setIfInBounds j true) a' w' h3.1 ?_ ?_ hfree' (ready_mono hr (Ne.symm hji)) h3.2.1 ?_) h2
   ·rw [getD_set_ne false hji];exact hli
   ·intro k hk
    rw [getD_set_ne false (fun e=>hjD (by rw [e];exact hk))];exact hlD k hk
   ·rw [Array.setIfInBounds_comm _ _ hji]
    exact h3.2.2
def F4{α:Type}(P:Program)(s:Sem α):Prop:=∀ w a w',s.run P w = .ok a w'→w'=w
def L7{α:Type}(P:Program)(s:Sem α):Prop:=∀ w a w',s.run P w≠.ok a w'
theorem L7.stay{α:Type}{s:Sem α}(h:L7 P s):F4 P s:=fun w a w' e=>absurd e (h w a w')
theorem F4.pure{α:Type}(a:α):F4 P (Pure.pure a:Sem α):=fun w b w' h=>by simp at h;exact h.2.symm
theorem F4.bind{α β:Type}{s:Sem α}{f:α→Sem β}(h1:F4 P s)(h2:∀ a,F4 P (f a)):F4 P (s >>= f):=fun w b w' h=>by
 rw [Sem.run_bind] at h
 cases hr:s.run P w with
 |ok a w1=>
  rw [hr] at h
  have e1:=h1 w a w1 hr
  have e2:=h2 a w1 b w' h
  rw [e2,e1]
 |halt x w1=>rw [hr] at h;cases h
theorem L7.bind{α β:Type}{s:Sem α}{f:α→Sem β}(h2:∀ a,L7 P (f a)):L7 P (s >>= f):=fun w b w' h=>by
 rw [Sem.run_bind] at h
 cases hr:s.run P w with
 |ok a w1=>rw [hr] at h;exact h2 a w1 b w' h
 |halt x w1=>rw [hr] at h;cases h
theorem L7.halt{α:Type}(x:Halt):L7 P (Sem.halt x:Sem α):=fun w a w' h=>by simp [Sem.run] at h
theorem F4.load(m:Mode)(a:Addr):F4 P (load a m):=fun w v w' h=>by
 simp only [Go.load,Sem.run] at h
 split at h
 ·cases h;rfl
 ·split at h<;>cases h;rfl
theorem F4.program:F4 P program:=fun w v w' h=>by simp [Go.program,Sem.run] at h;exact h.2.symm
theorem cW{α:Type}(e:RuntimeError):L7 P (runtimePanic e:Sem α):=by
 unfold runtimePanic
 refine L7.bind fun p=>?_
 cases e<;>simp only<;>first
  |exact L7.halt _
  |exact L7.bind fun _=>L7.halt _
  |exact L7.bind fun _=>L7.bind fun _=>L7.halt _
theorem dN{α:Type}(k:IntKind)(x y:Int)(c:BoundsCode):L7 P (boundsPanic k x y c:Sem α):=by
 unfold boundsPanic
 dsimp only
 split<;>exact L7.bind fun _=>cW _
theorem M1(t:TypeId):F4 P (underlying t):=by
 unfold underlying
 refine F4.bind F4.program fun p=>?_
 split
 ·exact F4.pure _
 ·exact (L7.halt _).stay
theorem jN(t:TypeId):F4 P (typeInfo t):=by
 unfold typeInfo
 refine F4.bind F4.program fun p=>?_
 split
 ·exact F4.pure _
 ·exact (L7.halt _).stay
theorem Y1(t:TypeId):F4 P (sizeOf t):=F4.bind (jN t) fun _=>F4.pure _
theorem rL(t:TypeId):F4 P (isAgg t):=by
 unfold isAgg
 refine F4.bind (M1 t) fun d=>?_
 split<;>exact F4.pure _
theorem cT(a:Addr):∀ (n i:Nat) (acc:Array Value),F4 P (loadCellsFrom a i n acc)
 |0,i,acc=>F4.pure _
 |n+1,i,acc=>F4.bind (F4.load _ _) fun v=>cT a n (i+1) _
theorem yM(t:TypeId)(a:Addr):F4 P (loadVar t a):=by
 unfold loadVar
 refine F4.bind (rL t) fun b=>?_
 split
 ·exact F4.bind (Y1 t) fun n=>F4.bind (cT a n 0 _) fun _=>F4.pure _
 ·exact F4.load _ _
theorem dU(v:Value):F4 P (Instr.sureAddr v):=by
 unfold Instr.sureAddr
 split
 ·exact F4.pure _
 ·exact (L7.halt _).stay
theorem Lb(t:TypeId)(v:Value):F4 P (Instr.loadAt t v):=F4.bind (dU v) fun a=>yM t a
theorem lN(v:Value):F4 P (asIntOf v):=by
 unfold asIntOf
 split
 ·exact F4.pure _
 ·exact (L7.halt _).stay
 ·exact (L7.halt _).stay
theorem pT(x:Value)(y:Nat)(c:BoundsCode):F4 P (Instr.sliceBound x y c):=by
 unfold Instr.sliceBound
 refine F4.bind (lN x) fun p=>?_
 obtain⟨k,i⟩:=p
 dsimp only
 split
 ·exact F4.pure _
 ·exact (dN _ _ _ _).stay
theorem U8(b:Bool)(n c:Nat)(l h m:Option Value):F4 P (Instr.sliceBounds b n c l h m):=by
 unfold Instr.sliceBounds
 dsimp only
 repeat' (first|exact F4.pure _|exact pT _ _ _|exact (L7.halt _).stay|(refine F4.bind ?_ fun _=>?_)|split)
theorem Rm(t:TypeId)(cs:Array Value)(o:Nat):F4 P (part t cs o):=by
 unfold part
 refine F4.bind (rL t) fun b=>?_
 split
 ·exact F4.bind (Y1 t) fun n=>F4.pure _
 ·split
  ·exact F4.pure _
  ·exact (L7.halt _).stay
theorem yO(s:TypeId)(x:Value)(j:Nat):F4 P (Instr.field s x j):=by
 unfold Instr.field
 refine F4.bind (M1 s) fun d=>?_
 split
 ·split
  ·refine F4.bind ?_ fun cs=>Rm _ _ _
   unfold asAgg
   split
   ·exact F4.pure _
   ·exact (L7.halt _).stay
  ·exact (L7.halt _).stay
 ·exact (L7.halt _).stay
theorem Gg(t:TypeId)(x:Value)(l h m:Option Value):F4 P (Instr.slice t x l h m):=by
 unfold Instr.slice
 refine F4.bind (M1 t) fun d=>?_
 split
 ·split
  ·exact (L7.halt _).stay
  ·exact F4.bind (U8 _ _ _ _ _ _) fun _=>F4.pure _
 ·exact F4.bind (U8 _ _ _ _ _ _) fun _=>F4.bind (Y1 _) fun _=>F4.pure _
 ·refine F4.bind ?_ fun a=>F4.bind (M1 _) fun d=>?_
  ·unfold asAddr
   split
   ·exact F4.pure _
   ·exact (cW _).stay
   ·exact (L7.halt _).stay
  ·split
   ·exact F4.bind (U8 _ _ _ _ _ _) fun _=>F4.bind (Y1 _) fun _=>F4.pure _
   ·exact (L7.halt _).stay
 ·exact (L7.halt _).stay
theorem yL(t:TypeId)(x:Value)(l h m:Option Value):F4 P (Instr.sliceAt t x l h m):=by
 unfold Instr.sliceAt
 refine F4.bind (M1 t) fun d=>?_
 split
 ·exact F4.bind (dU _) fun a=>F4.bind (U8 _ _ _ _ _ _) fun _=>F4.bind (Y1 _) fun _=>F4.pure _
 ·exact Gg _ _ _ _ _
theorem yN(t:TypeId)(x i:Value):F4 P (Instr.indexAt t x i):=by
 unfold Instr.indexAt
 refine F4.bind (lN _) fun p=>?_
 obtain⟨k,n⟩:=p
 dsimp only
 refine F4.bind (M1 t) fun d=>?_
 repeat' (first|exact F4.pure _|exact (dN _ _ _ _).stay|exact (L7.halt _).stay|exact Y1 _|exact M1 _|exact dU _|(refine F4.bind ?_ fun _=>?_)|split)
theorem yP(x:Value)(j:Nat):F4 P (Instr.extract x j):=by
 unfold Instr.extract
 split
 ·split
  ·exact F4.pure _
  ·exact (L7.halt _).stay
 ·exact (L7.halt _).stay
def Pz:Op→Bool
 |.move _|.assign _|.load ..|.slice ..|.field ..|.extract ..|.indexAddr ..=>true
 |_=>false
theorem rK{s:Sem Value}(h:F4 P s):∀ w r w',(do pure (Next.value (←s)):Sem Next).run P w = .ok r w'→w'=w∧∃ v,r = .value v:=fun w r w' e=>by
 rw [Sem.run_bind] at e
 cases hr:s.run P w with
 |ok a w1=>
  rw [hr] at e
  simp at e
  exact⟨by rw [←e.2,h w a w1 hr],a,e.1.symm⟩
 |halt x w1=>rw [hr] at e;cases e
theorem Cg{o:Oper}(ht:Pz o.op=true)(w0:World):Lf P (fun w=>w=w0) o:=fun a w K Q' hw h=>by
 subst hw
 have key:∀ r w',(execOp a.eval o).run P w = .ok r w'→w'=w∧∃ v,r = .value v:=by
  obtain⟨dst,op,type,pos,after,guard⟩:=o
  cases op<;>first
   |(exact Bool.noConfusion ht;done)
   |(intro r w' e;simp [execOp] at e;exact⟨e.2.symm,_,e.1.symm⟩)
   |exact rK (Lb _ _) w
   |exact rK (yL _ _ _ _ _) w
   |exact rK (yO _ _ _) w
   |exact rK (yP _ _) w
   |exact rK (yN _ _ _) w
 unfold Oper.wp at *
 cases hr:(execOp a.eval o).run P w with
 |ok r w'=>
  obtain⟨rfl,v,rfl⟩:=key r w' hr
  rw [hr] at h
  exact⟨rfl,h⟩
 |halt x w'=>
  rw [hr] at h
  cases x<;>exact h
def Kr:Op→Bool
 |.alloc _=>true
 |o=>Pz o
theorem rJ(t:TypeId):F4 P (zeroValue t):=by
 unfold zeroValue
 refine F4.bind (jN t) fun x=>?_
 split
 ·exact F4.pure _
 ·exact (L7.halt _).stay
theorem Aj{t:TypeId}{w w':World}{r:Value}(h:(Instr.alloc t true (.tuple #[])).run P w = .ok r w'):A5 w.heap w'.heap:=by
 unfold Instr.alloc at h
 rw [Sem.run_bind] at h
 cases hz:(zeroValue t).run P w with
 |halt x w1=>rw [hz] at h;cases h
 |ok z w1=>
  rw [hz] at h
  have e:=rJ (P:=P) t w z w1 hz
  subst e
  simp [newVar,newRow] at h
  obtain⟨_,rfl⟩:=h
  exact⟨by simp,fun b hb=>heap_alloc_old w1 _ hb⟩
theorem Ta{o:Oper}(ht:Kr o.op=true)(S:St):Lf P (fun w=>HS S w.heap) o:=fun a w K Q' hw h=>by
 cases hT:Pz o.op with
 |true=>
  refine Oper.wp_mono (fun a' w' h=>?_) (Cg hT w a w K Q' rfl h)
  exact⟨by rw [h.1];exact hw,h.2⟩
 |false=>
  obtain⟨dst,op,type,pos,after,guard⟩:=o
  cases op<;>first
   | (rename_i t
      unfold Oper.wp at *
      have key:∀ r w',(execOp a.eval { dst:=dst,op:=.alloc t,type:=type,pos:=pos,after:=after,guard:=guard }).run P w = .ok r w'→A5 w.heap w'.heap∧∃ v,r = .value v:=fun r w' e=>by
       simp only [execOp] at e
       rw [Sem.run_bind] at e
       cases hr:(Instr.alloc t true (.tuple #[])).run P w with
       |ok x w1=>
        rw [hr] at e
        simp at e
        obtain⟨rfl,rfl⟩:=e
        exact⟨Aj hr,x,rfl⟩
       |halt x w1=>rw [hr] at e;cases e
      cases hr:(execOp a.eval { dst:=dst,op:=.alloc t,type:=type,pos:=pos,after:=after,guard:=guard }).run P w with
      |ok r w'=>
       obtain⟨hg,v,rfl⟩:=key r w' hr
       rw [hr] at h
       exact⟨hw.later hg,h⟩
      |halt x w'=>
       rw [hr] at h
       cases x<;>exact h
      done)
   |(exfalso;simp only [Kr] at ht;rw [hT] at ht;cases ht;done)
   |(exfalso;cases ht;done)
def DM:Op→Bool
 |.alloc _|.box ..|.store ..|.makeSlice ..|.buildSlice ..=>true
 |.call ⟨.builtin .len,_,_⟩=>false
 |.call ⟨.builtin .max,_,_⟩=>false
 |.call ⟨.builtin .min,_,_⟩=>false
 |.call _=>true
 |_=>false
def Oy(md:Region.Mode)(ops:Array Oper)(i:Nat)(oi:Oper)(D:List Nat)(listed:Array Bool):Bool:=
 (D.all fun j=>!listed.getD j false && match ops[j]? with
  |some oj=>oj.after.any fun e=>Region.binds md e && (e.on == i || D.contains e.on)
  |none=>false) &&
 (List.range ops.size).all fun j=>j == i || D.contains j || listed.getD j true || match ops[j]? with
  |some oj=>oi.apart ops oj && (!nW oi.op || Kr oj.op)
  |none=>true
def My(md:Region.Mode)(ops:Array Oper)(i:Nat)(listed:Array Bool):List Nat:=(List.range ops.size).foldl (fun D j=>match ops[j]? with
 |some o=>if !listed.getD j true && !Nat.beq j i && o.after.any (fun e=>Region.binds md e && (e.on == i || D.contains e.on)) then j::D else D
 |none=>D) []
inductive aM where
 |e
 |pull (i:Nat) (p:aM)
 |alt (i:Nat) (p q:aM)
noncomputable def aM.pl(l:List Nat)(p:aM):aM:=List.rec p (fun i _ q=>.pull i q) l
noncomputable def aM.on(l:List Nat)(p:aM):aM:=List.rec p (fun i _ q=>.alt i q .e) l
def aM.br(i j:Nat)(p q:aM):aM:=.alt i p (.alt j q .e)
noncomputable def aM.bb(i j:Nat)(p:aM):aM:=.br i j (.on [j] p) (.on [i] p)
noncomputable def aM.bp(i j:Nat)(p:aM):aM:=.br i j (.on [j] p) (.pl [i] p)
noncomputable def aM.pb(i j:Nat)(p:aM):aM:=.br i j (.pl [j] p) (.on [i] p)
def Wk:aM→List Nat
 |.alt i _ q=>i::Wk q
 |_=>[]
def aQ(md:Region.Mode)(ops:Array Oper):aM→Bool→Nat→Array Bool→Bool
 |.e,b,f,listed=>b || Nat.beq f 0 && (Region.ready md ops listed).isEmpty
 |.pull i p,b,f,listed=>!b && match f with
  |0=>false
  |f+1=>match ops[i]? with
   |none=>false
   |some oi=>(Region.ready md ops listed).contains i && !listed.getD i false && !DM oi.op && Oy md ops i oi (My md ops i listed) listed && aQ md ops p false f (listed.setIfInBounds i true)
 |.alt i p q,true,f,listed=>aQ md ops p false f (listed.setIfInBounds i true) && aQ md ops q true f listed
 |.alt i p q,false,f,listed=>match f with
  |0=>false
  |f+1=>Region.ready md ops listed == i::Wk q && (aQ md ops p false f (listed.setIfInBounds i true) && aQ md ops q true f listed)
def Kh:List Oper→Nat→Option Oper
 |[],_=>none
 |o::_,0=>some o
 |_::r,i+1=>Kh r i
theorem zA:∀ (l:List Oper) (i:Nat),Kh l i=l[i]?
 |[],i=>by simp [Kh]
 |o::r,0=>by simp [Kh]
 |o::r,i+1=>by simp [Kh,zA r i]
end
section
variable {P:Program}{ty:Nat→Option gS}{rep:Jj}{n m:Nat}{ex cu:List Nat}{S:St}{K:Kn}{X:Hj}{κ:Kt}
def Qw(P:Program)(ty:Nat→Option gS)(rep:Jj)(n:Nat)(ops:List Oper)(i:Nat)(K:Kn)(S:St)(κ:Kt):Prop:=match Kh ops i with
 |none=>False
 |some o=>match jS n o.dst with
  |false=>False
  |true=>match o.guard with
   |none=>Yn P ty rep o K S fun v S=>κ (W2 K o.dst v) S
   |some (j,want)=>match mQ ops j with
    |none=>False
    |some s=>gH s want K (fun K=>Yn P ty rep o K S fun v S=>κ (W2 K o.dst v) S) (fun K=>κ (W2 K o.dst (.val undef)) S)
def Ks(P:Program)(ty:Nat→Option gS)(n:Nat)(ops:List Oper)(i:Nat)(K:Kn)(S:St)(κ:Kn→Prop):Prop:=match Kh ops i with
 |none=>False
 |some o=>match jS n o.dst with
  |false=>False
  |true=>match o.guard with
   |none=>Qs P ty o K S fun v=>κ (W2 K o.dst v)
   |some (j,want)=>match mQ ops j with
    |none=>False
    |some s=>gH s want K (fun K=>Qs P ty o K S fun v=>κ (W2 K o.dst v)) (fun K=>κ (W2 K o.dst (.val undef)))
structure dD(p q:Prop):Prop where
 one:p
 two:q
abbrev Wp:=Kn→St→Kt→Prop
def Gy(o:Wp):Option Wp→Option Wp×Wp
 |none=>(some o,o)
 |some r=>(some fun K S κ=>dD (o K S κ) (r K S κ),fun K S κ=>dD (o K S κ) (r K S κ))
noncomputable def lU(P:Program)(ty:Nat→Option gS)(rep:Jj)(n:Nat)(ops:List Oper)(pl:aM):Option Wp×Wp:=aM.rec (motive:=fun _=>Option Wp×Wp)
 (none,fun K S κ=>κ K S)
 (fun i _ ih=>(none,fun K S κ=>Ks P ty n ops i K S fun K=>ih.2 K S κ))
 (fun i _ _ ihp ihq=>Gy (fun K S κ=>Qw P ty rep n ops i K S fun K S=>ihp.2 K S κ) ihq.1) pl
noncomputable def Cc(P:Program)(ty:Nat→Option gS)(rep:Jj)(n:Nat)(ops:List Oper)(pl:aM):Wp:=(lU P ty rep n ops pl).2
theorem vI{ops:Array Oper}{o:Oper}{a:Act}{j s:Nat}{want b:Bool}(hg:o.guard=some (j,want))(hs:mQ ops.toList j=some s)(hb:a.tmps[s]?=some (.bool b)):Region.wanted o (yielded ops a.tmps)=(b == want):=by
 rw [cI] at hs
 simp at hs
 simp [Region.wanted,hg,yielded,hs,hb]
theorem vJ{ops:Array Oper}{o:Oper}{a:Act}{j s:Nat}{want:Bool}(hg:o.guard=some (j,want))(hs:mQ ops.toList j=some s)(hb:a.tmps[s]?=some (.bool !want)∨a.tmps[s]?=some undef):Region.wanted o (yielded ops a.tmps)=false:=by
 rw [cI] at hs
 simp at hs
 rcases hb with hb|hb
 ·simp [Region.wanted,hg,yielded,hs,hb]
 ·simp [Region.wanted,hg,yielded,hs,hb,undef]
theorem Jh(hty:H6 P ty){ops:Array Oper}{i:Nat}{q:Kt}(h:Qw P ty rep n ops.toList i K S q){w0:World}{a:Act}{w:World}(ha:H9 Df n a K)(he:SE w0 w)(hs:HS S w.heap)
 {next:Act→World→Prop} {Q:Exit→Act→World→Prop} (hp:∀ v w',SE w0 w'→rep.pan v w'.heap→Q (.panic [{ v:=v,recovered:=false }]) a w') (hn:∀ K S a w,H9 Df n a K→SE w0 w→HS S w.heap→q K S→next a w):wpOp P ops Q i next a w:=by
 simp only [Qw] at h
 rw [zA,Array.getElem?_toList] at h
 unfold wpOp
 cases hi:ops[i]? with
 |none=>rw [hi] at h;exact h.elim
 |some o=>
  rw [hi] at h
  simp only at h ⊢
  split at h
  ·exact h.elim
  rename_i hd
  have hd:=bA hd
  split at h
  ·rename_i hg
   rw [if_pos (by simp [Region.wanted,hg])]
   exact .inl (eV hty h ha hs (fun v w' he' hE=>hp v w' (he.trans he') hE) fun kv S' w' he' hs' hk=>hn _ _ _ w' (ha.put hd kv) (he.trans he') hs' hk)
  ·rename_i j want hg
   split at h
   ·exact h.elim
   ·rename_i s hs'
    obtain⟨K',ha',h1|h1⟩:=bK h ha
    ·rw [if_pos (by rw [vI hg hs' h1.1];simp)]
     exact .inl (eV hty h1.2 ha' hs (fun v w' he' hE=>hp v w' (he.trans he') hE) fun kv S' w' he' hs' hk=>hn _ _ _ w' (ha'.put hd kv) (he.trans he') hs' hk)
    ·rw [if_neg (by rw [vJ hg hs' h1.1];simp)]
     exact hn _ _ _ w (ha'.put hd (.val undef)) he hs h1.2
theorem fY(hty:H6 P ty){ops:Array Oper}(hsel:Region.noSelect ops=true)(w0:World):∀ (pl:aM),
 (∀ (f:Nat) (listed:Array Bool) (K:Kn) (S:St),aQ .any ops pl false f listed=true→Cc P ty rep n ops.toList pl K S κ→∀ a w,H9 Df n a K→SE w0 w→HS S w.heap→wpAny P .any ops (jH rep.pan Df n w0 X κ) f listed a w) ∧
 (∀ (f:Nat) (listed:Array Bool) (K:Kn) (S:St),aQ .any ops pl true f listed=true→(∀ r,(lU P ty rep n ops.toList pl).1=some r→r K S κ)→∀ a w,H9 Df n a K→SE w0 w→HS S w.heap→∀ j∈Wk pl,wpOp P ops (jH rep.pan Df n w0 X κ) j (fun a w=>wpAny P .any ops (jH rep.pan Df n w0 X κ) f (listed.setIfInBounds j true) a w) a w)
 |.e=>⟨fun f listed K S hB h a w ha he hs=>by
  simp only [aQ,Bool.false_or,Bool.and_eq_true] at hB
  obtain⟨hf,hB⟩:=hB
  rw [Qk hf]
  exact⟨by simpa using hB,K,S,ha,he,hs,h⟩,fun f listed K S hB h a w ha he hs j hj=>nomatch hj⟩
 |.alt i p q=>by
  have ihp:=fY hty hsel w0 p
  have ihq:=fY hty hsel w0 q
  have B:∀ (f:Nat) (listed:Array Bool) (K:Kn) (S:St),aQ .any ops (.alt i p q) true f listed=true→(∀ r,(lU P ty rep n ops.toList (.alt i p q)).1=some r→r K S κ)→∀ a w,H9 Df n a K→SE w0 w→HS S w.heap→∀ j∈Wk (.alt i p q),wpOp P ops (jH rep.pan Df n w0 X κ) j (fun a w=>wpAny P .any ops (jH rep.pan Df n w0 X κ) f (listed.setIfInBounds j true) a w) a w:=by
   intro f listed K S hB h a w ha he hs j hj
   simp only [aQ,Bool.and_eq_true] at hB
   have h1:Qw P ty rep n ops.toList i K S (fun K S=>Cc P ty rep n ops.toList p K S κ)∧∀ r,(lU P ty rep n ops.toList q).1=some r→r K S κ:=by
    revert h
    show (∀ r,(Gy _ (lU P ty rep n ops.toList q).1).1=some r→r K S κ)→_
    cases hq:(lU P ty rep n ops.toList q).1 with
    |none=>exact fun h=>⟨h _ rfl,fun r e=>nomatch e⟩
    |some r=>exact fun h=>⟨(h _ rfl).one,fun r' e=>by cases e;exact (h _ rfl).two⟩
   rcases List.mem_cons.1 hj with rfl|hj
   ·exact Jh hty h1.1 ha he hs (fun v w' he' hE=>⟨v,rfl,ha.defers,he',hE⟩) fun K S a w ha he hs hk=>ihp.1 f _ K S hB.1 hk a w ha he hs
   ·exact ihq.2 f listed K S hB.2 h1.2 a w ha he hs j hj
  refine⟨fun f listed K S hB h a w ha he hs=>?_,B⟩
  cases f with
  |zero=>simp [aQ] at hB
  |succ f=>
   simp only [aQ,Bool.and_eq_true,beq_iff_eq] at hB
   refine⟨fun h0=>(by rw [hB.1] at h0;cases h0),fun j hj=>?_⟩
   rw [hB.1] at hj
   refine B f listed K S (by simp only [aQ,Bool.and_eq_true];exact hB.2) (fun r hr=>?_) a w ha he hs j hj
   revert hr h
   show (Gy _ (lU P ty rep n ops.toList q).1).2 K S κ→(Gy _ (lU P ty rep n ops.toList q).1).1=some r→_
   cases (lU P ty rep n ops.toList q).1 with
   |none=>intro h e;cases e;exact h
   |some r=>intro h e;cases e;exact h
 |.pull i p=>by
  have ihp:=fY hty hsel w0 p
  refine⟨fun f listed K S hB h a w ha he hs=>?_,fun f listed K S hB=>by simp [aQ] at hB⟩
  cases f with
  |zero=>simp [aQ] at hB
  |succ f=>
   simp only [aQ,Bool.not_false,Bool.true_and] at hB
   split at hB
   ·cases hB
   rename_i oi hi
   simp only [Bool.and_eq_true,Bool.not_eq_true'] at hB
   obtain⟨⟨⟨⟨hr,hli⟩,hwr⟩,hc⟩,hB'⟩:=hB
   have hr':i∈Region.ready .any ops listed:=by simpa using hr
   have hQ:∀ ch a d v w,jH rep.pan Df n w0 X κ (.panic ch) (Act.put a d v) w→jH rep.pan Df n w0 X κ (.panic ch) a w:=fun ch a d v w ⟨u,h1,h2,h3,h4⟩=>⟨u,h1,by cases d<;>exact h2,h3,h4⟩
   have h:Ks P ty n ops.toList i K S fun K=>Cc P ty rep n ops.toList p K S κ:=h
   simp only [Ks] at h
   rw [zA,Array.getElem?_toList,hi] at h
   simp only at h
   split at h
   ·exact h.elim
   rename_i hd
   have hd:=bA hd
   have pull:∀ (v:Value) (K':Kn) (C:World→Prop),(C=(fun _=>True)∧nW oi.op=false∨C=(fun x=>HS S x.heap)∧nW oi.op=true)→H9 Df n (a.put oi.dst v) K'→bB P ops C oi v a→Cc P ty rep n ops.toList p K' S κ→wpAny P .any ops (jH rep.pan Df n w0 X κ) (f+1) listed a w:=by
    intro v K' C hC ha' hy hk
    simp only [Oy,Bool.and_eq_true,List.all_eq_true,Bool.not_eq_true'] at hc
    obtain⟨hc1,hc2⟩:=hc
    refine Nf (C:=C) (D:=My .any ops i listed) hi (Region.noSelect_spec hsel) hQ ?_ f listed a w ?_ hli (fun j hj=>(hc1 j hj).1) ?_ hr' hy (ihp.1 f _ K' S hB' hk _ w ha' he hs)
    ·intro j hj oj hoj
     have:=(hc1 j hj).2
     rw [hoj] at this
     obtain⟨e,he1,he2⟩:=Array.any_eq_true'.1 this
     simp only [Bool.and_eq_true,Bool.or_eq_true,beq_iff_eq,List.contains_iff_mem] at he2
     exact⟨e,he1,he2.1,he2.2⟩
    ·rcases hC with ⟨rfl,_⟩|⟨rfl,_⟩
     ·trivial
     ·exact hs
    ·intro j oj hoj hji hjD hun
     have hlt:=(Array.getElem?_eq_some_iff.1 hoj).1
     have:=hc2 j (List.mem_range.2 hlt)
     simp only [Bool.or_eq_true,beq_iff_eq,List.contains_iff_mem,hji,hjD,hun,false_or,or_false,Bool.false_eq_true] at this
     rw [hoj] at this
     simp only [Bool.and_eq_true,Bool.or_eq_true,Bool.not_eq_true'] at this
     refine⟨this.1,?_⟩
     rcases hC with ⟨rfl,hl⟩|⟨rfl,hl⟩
     ·exact fun a w K Q' _ h=>Oper.wp_mono (fun a w h=>⟨trivial,h⟩) h
     ·rcases this.2 with h1|h1
      ·rw [hl] at h1;cases h1
      ·exact Ta h1 S
   have skip:Region.wanted oi (yielded ops a.tmps)=false→∀ K',H9 Df n a K'→Cc P ty rep n ops.toList p (W2 K' oi.dst (.val undef)) S κ→wpAny P .any ops (jH rep.pan Df n w0 X κ) (f+1) listed a w:=by
    intro hwt K' ha' hk
    cases hl:nW oi.op with
    |false=>exact pull undef _ _ (.inl ⟨rfl,hl⟩) (ha'.put hd (.val undef)) (.inr ⟨hwt,rfl⟩) hk
    |true=>exact pull undef _ _ (.inr ⟨rfl,hl⟩) (ha'.put hd (.val undef)) (.inr ⟨hwt,rfl⟩) hk
   have run:Region.wanted oi (yielded ops a.tmps)=true→∀ K',H9 Df n a K'→(Qs P ty oi K' S fun v=>Cc P ty rep n ops.toList p (W2 K' oi.dst v) S κ)→wpAny P .any ops (jH rep.pan Df n w0 X κ) (f+1) listed a w:=by
    intro hwt K' ha' hk
    obtain⟨kv,h1,h2⟩:=nR hty hk ha'
    cases hl:nW oi.op with
    |false=>exact pull (B0 kv) _ _ (.inl ⟨rfl,hl⟩) (ha'.put hd kv) (.inl ⟨hwt,fun w _=>h2 w fun e=>by rw [hl] at e;cases e⟩) h1
    |true=>exact pull (B0 kv) _ _ (.inr ⟨rfl,hl⟩) (ha'.put hd kv) (.inl ⟨hwt,fun w' hw'=>h2 w' fun _=>hw'⟩) h1
   split at h
   ·rename_i hg
    exact run (by simp [Region.wanted,hg]) K ha h
   ·rename_i j want hg
    split at h
    ·exact h.elim
    ·rename_i s hs'
     obtain⟨K',ha',h1|h1⟩:=bK h ha
     ·exact run (by rw [vI hg hs' h1.1];simp) K' ha' h1.2
     ·exact skip (vJ hg hs' h1.1) K' ha' h1.2
theorem dW(hty:H6 P ty)(hm:P.follows .mixedOrders=true)(pl:aM){id:Nat}{ops:Array Oper}(hsel:Region.noSelect ops=true)(hB:aQ .any ops pl false ops.size (Array.replicate ops.size false)=true)
 (h:Cc P ty rep n ops.toList pl K S κ):nB P n ty rep m ex cu (.region id ops true) X κ K S:=⟨fun Df w0 a w ha he hs=>by
 refine wp_region_any hm ?_
 exact (fY (X:=X) hty hsel w0 pl).1 _ _ K S hB h a { w with drawn:=w.drawn+1 } ha ⟨he.os,he.tape,he.output⟩ hs⟩
theorem oT(hty:H6 P ty){a:Act}(ha:H9 Df n a K){fn:Func}{rs:List ResultVar}(hrs:fn.results=rs.toArray){q:KV→Prop}(h:rZ ty rs K S [] fun vs=>fk (pU vs) q){w:World}(hs:HS S w.heap) :
 ∃ kv,(results fn a.tmps).run P w = .ok (B0 kv) w∧q kv:=by
 obtain⟨vs,h1,h2,h3⟩:=fX (P:=P) hty ha rs [] _ h
 refine⟨_,?_,aD h1⟩
 have h5:=h3 w hs
 have e:results fn a.tmps=(do
  let vs ←rs.toArray.mapM (rY a.tmps)
  pure (if h:vs.size=1 then vs[0] else .tuple vs)):=by
  unfold results
  rw [hrs]
  congr 1
 rw [e]
 rw [Array.mapM_eq_mapM_toList]
 simp only [Sem.run_bind,Sem.run_map,h5]
 simp only [List.reverse_nil,List.nil_append]
 match vs,h2 with
 |[],_=>simp [pU,B0]
 |[v],h2=>simp [pU,h2 v (by simp)]
 |v::u::r,_=>simp [pU,B0]
theorem CK.inline {rep : Nat → Option oP} {E : Value → A3 → Prop} (hty : H6 P ty) {f : Nat} {fn : Func} {c : Code} (hf : P.funcs[f]? = some fn) (hb : fn.body = some c) (hn : (fn.name == "runtime.NumGoroutine") = false) {rs : List ResultVar} (hrs : fn.results = rs.toArray)
 (m:Nat) (ex cu:List Nat) {n:Nat} (hnt:fn.ntmps=n) {args caps:List KV} {q:KV→St→Prop} (hlen:Nat.ble (args++caps).length n=true) (hd:(args++caps).map B0=args.map A1++caps.map A0)
 (hk:J8 P ty ⟨rep,E⟩ n m ex cu c ⟨fun K S=>rZ ty rs K S [] fun vs=>fk (pU vs) fun v=>q v S,[]⟩ (fun K S=>rZ ty rs K S [] fun vs=>fk (pU vs) fun v=>q v S) (mC 0 (args++caps)) S):CK P E f args caps S q:=⟨fun h hs=>by
 right;right
 rw [←hd]
 refine⟨Q9 hf hn (by simp [hb]),fun w hw=>?_⟩
 subst hw
 have hlen:=Nat.le_of_ble_eq_true hlen
 refine calls_of_wp hf hb ?_
 have ha:=fA (n:=n) hlen
 have:=Ba hty c _ _ _ _ hk [] w _ w ha (SE.refl w) hs
 rw [hnt,show ((args++caps).map B0).toArray.size=(args++caps).length by simp]
 refine Code.wp_mono ?_ this
 intro e a w' hq
 have fin:(∃ K S,H9 [] n a K∧SE w w'∧HS S w'.heap∧rZ ty rs K S [] fun vs=>fk (pU vs) fun v=>q v S)→a.defers=[]∧∃ v,(results fn a.tmps).run P w' = .ok v w'∧((w'.os=w.os∧w'.tape=w.tape∧w'.output=w.output)∧((∃ u,Ending.returned v = .returned u∧∃ kv S',B0 kv=u∧HS S' w'.heap∧q kv S')∨∃ u,Ending.returned v = .panicked [{ v:=u,recovered:=false }]∧E u w'.heap)):=fun⟨K,S,a1,a2,a3,a4⟩=>by
  obtain⟨kv,h1,h2⟩:=oT hty a1 hrs a4 a3
  exact⟨a1.defers,_,h1,⟨a2.os,a2.tape,a2.output⟩,.inl ⟨_,rfl,kv,S,rfl,a3,h2⟩⟩
 cases e with
 |normal=>exact fin hq
 |ret=>exact fin hq
 |exit i=>obtain⟨K,S,a1,a2,a3,a4⟩:=hq;exact False.elim a4
 |panic ch=>obtain⟨v,h1,h2,h3,h4⟩:=hq;exact⟨h2,⟨h3.os,h3.tape,h3.output⟩,.inr ⟨v,by rw [h1],h4⟩⟩
 |goto l=>exact False.elim hq
 |outgrown=>exact False.elim hq⟩
end
end Go.Ex
