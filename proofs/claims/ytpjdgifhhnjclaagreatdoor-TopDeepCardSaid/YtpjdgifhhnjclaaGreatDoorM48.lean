/-
  Top: TopDeep: whatever the input, the law answers true (part 48)
-/
import Derived.Test.YtpjdgifhhnjclaaGreatDoorM47
set_option linter.unusedVariables false
set_option linter.unusedSimpArgs false
set_option maxHeartbeats 4000000
set_option maxRecDepth 10000
namespace Go.Ex
open Go.Proofs
theorem At.sgn{I:In}{n:Int}{w:ByteArray}{r:List (Int×ByteArray)}(h:At I n ((8,w)::r)):word I n=w∧kindT I n=8:=⟨h.1.2.2,h.1.2.1⟩
theorem At.key{I:In}{n:Int}{w:ByteArray}{r:List (Int×ByteArray)}(h:At I n ((2,w)::r)):word I n=w∧kindT I n=2:=⟨h.1.2.2,h.1.2.1⟩
theorem At.nam{I:In}{n:Int}{w:ByteArray}{r:List (Int×ByteArray)}(h:At I n ((1,w)::r)):word I n=⟨#[]⟩∧kindT I n=1:=⟨h.1.2.2,h.1.2.1⟩
theorem At.num{I:In}{n:Int}{w:ByteArray}{r:List (Int×ByteArray)}(h:At I n ((3,w)::r)):word I n=⟨#[]⟩∧kindT I n=3:=⟨h.1.2.2,h.1.2.1⟩
theorem At.smi{I:In}{n:Int}{w:ByteArray}{r:List (Int×ByteArray)}(h:At I n ((9,w)::r)):word I n=(⟨#[59]⟩:ByteArray)∧kindT I n=9:=⟨h.1.2.2,h.1.2.1⟩
theorem At.rng{I:In}{n:Int}{x:Int×ByteArray}{r:List (Int×ByteArray)}(h:At I n (x::r)):0≤n∧n<I.L:=h.1.1
theorem At.tl{I:In}{n:Int}{x:Int×ByteArray}{r:List (Int×ByteArray)}(h:At I n (x::r)):At I (n+1) r:=h.2
theorem At.hi{I:In}{n:Int}{V:List (Int×ByteArray)}(h:At I n V):n≤I.L:=by have:=h.le;omega
def StW(w:ByteArray):Prop:=¬ w=(⟨#[46]⟩:ByteArray)∧¬ w=(⟨#[40]⟩:ByteArray)∧¬ w=(⟨#[91]⟩:ByteArray)∧¬ w=(⟨#[123]⟩:ByteArray)∧levelF w<1
instance (w:ByteArray):Decidable (StW w):=by unfold StW;exact inferInstance
def UnW(w:ByteArray):Prop:=¬ w=(⟨#[60,45]⟩:ByteArray)∧¬ (w=(⟨#[43]⟩:ByteArray)∨w=(⟨#[45]⟩:ByteArray)∨w=(⟨#[33]⟩:ByteArray)∨w=(⟨#[94]⟩:ByteArray)∨w=(⟨#[38]⟩:ByteArray))∧¬ w=(⟨#[42]⟩:ByteArray)
instance (w:ByteArray):Decidable (UnW w):=by unfold UnW;exact inferInstance
section
variable {I:In}{F:Nat}{t:Bool}{n m:Int}{x:Nd}
theorem fuel_one(h:m≤I.L):∃ f,fuel I m=f+1:=⟨fuel I m-1,by unfold fuel;omega⟩
theorem fuel_two(h:m<I.L):∃ f,fuel I m=f+2:=⟨fuel I m-2,by unfold fuel;omega⟩
theorem prim_stop{frm:Int}{f:Nat}{g:Gt}(hs:StW (word I m)):primGo I g t frm (f+1) x m = .ok x m:=by
 obtain⟨h1,h2,h3,h4,h5⟩:=hs
 rw [primGo,if_neg h1,if_neg h2,if_neg h3,if_neg (fun q=>h4 q.1)]
theorem bin_stop{frm k:Int}{f:Nat}{g:Gt}(hs:levelF (word I m)<k):binGo I g t k frm (f+1) x m = .ok x m:=by
 rw [binGo,if_pos hs]
theorem bin_of_unary{k:Int}(hm:m≤I.L)(hs:levelF (word I m)<k)(h:G I F .unary t n = .ok x m):G I (F+1) (.binary k) t n = .ok x m:=by
 show binaryS I (G I F) k t n = _
 unfold binaryS
 rw [h,bnd_ok]
 obtain⟨f,hf⟩:=fuel_one hm
 rw [hf,bin_stop hs]
theorem expr_of_unary(hm:m≤I.L)(hs:levelF (word I m)<1)(h:G I F .unary t n = .ok x m):G I (F+2) .expr t n = .ok x m:=bin_of_unary (F:=F) hm hs h
theorem unary_of_prim(hu:UnW (word I n))(h:G I F .primary t n = .ok x m):G I (F+1) .unary t n = .ok x m:=by
 show unaryS I (G I F) t n = _
 unfold unaryS
 rw [if_neg hu.1,if_neg hu.2.1,if_neg hu.2.2,h]
theorem expr_of_prim(hm:m≤I.L)(hs:StW (word I m))(hu:UnW (word I n))(h:G I F .primary t n = .ok x m):G I (F+3) .expr t n = .ok x m:=
 expr_of_unary (F:=F+1) hm hs.2.2.2.2 (unary_of_prim hu h)
theorem prim_of_oper(hm:m≤I.L)(hs:StW (word I m))(h:G I F .operand t n = .ok x m):G I (F+1) .primary t n = .ok x m:=by
 show primaryS I (G I F) t n = _
 unfold primaryS
 rw [h,bnd_ok]
 obtain⟨f,hf⟩:=fuel_one hm
 rw [hf,prim_stop hs]
theorem oper_name(hk:kindT I n=1)(hw:word I n=⟨#[]⟩):G I (F+1) .operand t n = .ok (leafN 26 n) (n+1):=by
 show operandS I (G I F) t n = _
 unfold operandS
 rw [if_neg (by unfold Lit;omega),hw,if_neg (by decide),if_neg (by decide),if_neg (by decide)]
 unfold nameS
 rw [if_pos hk]
theorem oper_num(hk:kindT I n=3):G I (F+1) .operand t n = .ok (leafN 27 n) (n+1):=by
 show operandS I (G I F) t n = _
 unfold operandS
 rw [if_pos (by unfold Lit;omega)]
theorem want_ok{w:ByteArray}(h:word I n=w):want I w n = .ok () (n+1):=by unfold want;rw [if_pos h]
end
def nestV(o c:List (Int×ByteArray)):Nat→List (Int×ByteArray)
 |0=>[(1,(⟨#[120]⟩:ByteArray))]
 |j+1=>o++(nestV o c j++c)
def StR(I:In)(R:List (Int×ByteArray)):Prop:=∀ m,At I m R→StW (word I m)
def ExR(I:In)(n:Int)(R:List (Int×ByteArray))(c:Nat):Prop:=∀ F,c≤F→∃ x m,G I F .expr false n = .ok x m∧At I m R
theorem stR_sgn{I:In}{w:ByteArray}{R:List (Int×ByteArray)}(h:StW w):StR I ((8,w)::R):=fun m hm=>by rw [hm.sgn.1];exact h
theorem stR_smi{I:In}{w:ByteArray}{R:List (Int×ByteArray)}:StR I ((9,w)::R):=fun m hm=>by rw [hm.smi.1];decide
theorem ex_name{I:In}{n:Int}{w:ByteArray}{R:List (Int×ByteArray)}(h:At I n ((1,w)::R))(hR:StR I R):ExR I n R 5:=by
 intro F hF
 obtain⟨F,rfl⟩:∃ f,F=f+5:=⟨F-5,by omega⟩
 obtain⟨hw,hk⟩:=h.nam
 have hs:=hR _ h.tl
 have hu:UnW (word I n):=by rw [hw];decide
 exact⟨_,_,expr_of_prim (F:=F+2) h.tl.hi hs hu (prim_of_oper (F:=F+1) h.tl.hi hs (oper_name hk hw)),h.tl⟩
theorem ex_paren{I:In}:∀ (j:Nat) (n:Int) (R:List (Int×ByteArray)),At I n (nestV [(8,(⟨#[40]⟩:ByteArray))] [(8,(⟨#[41]⟩:ByteArray))] j++R)→StR I R→ExR I n R (6*j+5)
 |0,n,R,h,hR=>ex_name h hR
 |j+1,n,R,h,hR=>by
  intro F hF
  obtain⟨F,rfl⟩:∃ f,F=f+5:=⟨F-5,by omega⟩
  have h:At I n ((8,(⟨#[40]⟩:ByteArray))::((nestV [(8,(⟨#[40]⟩:ByteArray))] [(8,(⟨#[41]⟩:ByteArray))] j++[(8,(⟨#[41]⟩:ByteArray))])++R)):=h
  rw [List.append_assoc] at h
  obtain⟨hw,hk⟩:=h.sgn
  obtain⟨x,m,e1,e2⟩:=ex_paren j (n+1) ((8,(⟨#[41]⟩:ByteArray))::R) h.tl (stR_sgn (by decide)) F (by omega)
  have hs:=hR _ e2.tl
  have ho:G I (F+1) .operand false n = .ok (.mk 28 (-1) n (m+1) [x]) (m+1):=by
   show operandS I (G I F) false n = _
   unfold operandS
   rw [if_neg (by unfold Lit;omega),if_pos hw,e1,bnd_ok,want_ok e2.sgn.1]
   rfl
  exact⟨_,_,expr_of_prim (F:=F+2) e2.tl.hi hs (by rw [hw];decide) (prim_of_oper (F:=F+1) e2.tl.hi hs ho),e2.tl⟩
theorem nestV_name{I:In}{n:Int}{w:ByteArray}{o c:List (Int×ByteArray)}:∀ (j:Nat) (R:List (Int×ByteArray)),At I n (nestV ((1,w)::o) c j++R)→word I n=⟨#[]⟩
 |0,R,h=>(show At I n ((1,(⟨#[120]⟩:ByteArray))::R) from h).nam.1
 |j+1,R,h=>(show At I n ((1,w)::_) from h).nam.1
theorem ex_index{I:In}:∀ (j:Nat) (n:Int) (R:List (Int×ByteArray)),At I n (nestV [(1,(⟨#[97]⟩:ByteArray)),(8,(⟨#[91]⟩:ByteArray))] [(8,(⟨#[93]⟩:ByteArray))] j++R)→StR I R→ExR I n R (6*j+5)
 |0,n,R,h,hR=>ex_name h hR
 |j+1,n,R,h,hR=>by
  intro F hF
  obtain⟨F,rfl⟩:∃ f,F=f+5:=⟨F-5,by omega⟩
  have h:At I n ((1,(⟨#[97]⟩:ByteArray))::(8,(⟨#[91]⟩:ByteArray))::((nestV [(1,(⟨#[97]⟩:ByteArray)),(8,(⟨#[91]⟩:ByteArray))] [(8,(⟨#[93]⟩:ByteArray))] j++[(8,(⟨#[93]⟩:ByteArray))])++R)):=h
  rw [List.append_assoc] at h
  obtain⟨hw,hk⟩:=h.nam
  have h2:=h.tl
  have hw2:=h2.sgn.1
  have hw3:=nestV_name j _ h2.tl
  obtain⟨x,m,e1,e2⟩:=ex_index j (n+1+1) ((8,(⟨#[93]⟩:ByteArray))::R) h2.tl (stR_sgn (by decide)) (F+1) (by omega)
  have hs:=hR _ e2.tl
  have hwm:=e2.sgn.1
  have ho:G I (F+1+1) .primary false n = .ok (.mk 30 (-1) n (m+1) [leafN 26 n,listN 11 [x] m]) (m+1):=by
   show primaryS I (G I (F+1)) false n = _
   unfold primaryS
   rw [oper_name hk hw,bnd_ok]
   obtain⟨f,hf⟩:=fuel_two h2.rng.2
   obtain⟨f2,hf2⟩:=fuel_one (m:=m) e2.hi
   rw [hf,primGo,hw2,if_neg (by decide),if_neg (by decide),if_pos rfl]
   unfold indexS
   rw [hw3,if_neg (by decide),e1,bnd_ok,hwm,if_neg (by decide),hf2,idxGo,hwm,if_neg (fun q=>absurd q.1 (by decide)),bnd_ok]
   unfold maybe
   rw [hwm,if_neg (by decide),want_ok hwm]
   exact prim_stop hs
  exact⟨_,_,expr_of_prim (F:=F+2) e2.tl.hi hs (by rw [hw];decide) ho,e2.tl⟩
theorem ex_call{I:In}:∀ (j:Nat) (n:Int) (R:List (Int×ByteArray)),At I n (nestV [(1,(⟨#[102]⟩:ByteArray)),(8,(⟨#[40]⟩:ByteArray))] [(8,(⟨#[41]⟩:ByteArray))] j++R)→StR I R→ExR I n R (6*j+5)
 |0,n,R,h,hR=>ex_name h hR
 |j+1,n,R,h,hR=>by
  intro F hF
  obtain⟨F,rfl⟩:∃ f,F=f+5:=⟨F-5,by omega⟩
  have h:At I n ((1,(⟨#[102]⟩:ByteArray))::(8,(⟨#[40]⟩:ByteArray))::((nestV [(1,(⟨#[102]⟩:ByteArray)),(8,(⟨#[40]⟩:ByteArray))] [(8,(⟨#[41]⟩:ByteArray))] j++[(8,(⟨#[41]⟩:ByteArray))])++R)):=h
  rw [List.append_assoc] at h
  obtain⟨hw,hk⟩:=h.nam
  have h2:=h.tl
  have hw2:=h2.sgn.1
  have hw3:=nestV_name j _ h2.tl
  obtain⟨x,m,e1,e2⟩:=ex_call j (n+1+1) ((8,(⟨#[41]⟩:ByteArray))::R) h2.tl (stR_sgn (by decide)) (F+1) (by omega)
  have hs:=hR _ e2.tl
  have hwm:=e2.sgn.1
  have hL:¬ nestV [(1,(⟨#[102]⟩:ByteArray)),(8,(⟨#[40]⟩:ByteArray))] [(8,(⟨#[41]⟩:ByteArray))] j++((8,(⟨#[41]⟩:ByteArray))::R)=[]:=by simp
  have hf3:∃ f,fuel I (n+1+1)=f+2:=by
   have q:=h2.tl.le
   simp only [List.length_append,List.length_cons,List.length_nil] at q
   exact⟨fuel I (n+1+1)-2,by unfold fuel;omega⟩
  have ho:G I (F+1+1) .primary false n = .ok (.mk 34 (-1) n (m+1) [leafN 26 n,listN 11 [x] m]) (m+1):=by
   show primaryS I (G I (F+1)) false n = _
   unfold primaryS
   rw [oper_name hk hw,bnd_ok]
   obtain⟨f,hf⟩:=fuel_two h2.rng.2
   obtain⟨f2,hf2⟩:=hf3
   rw [hf,primGo,hw2,if_neg (by decide),if_pos rfl]
   unfold callS rowsS
   rw [want_ok hw2,bnd_ok,hf2,rowsGo,hw3,if_neg (by decide)]
   unfold argS
   rw [if_neg (by decide),e1,bnd_ok,hwm,if_neg (by decide),bnd_ok,hwm,if_pos rfl,rowsGo,hwm,if_pos rfl,bnd_ok,want_ok hwm]
   exact prim_stop hs
  exact⟨_,_,expr_of_prim (F:=F+2) e2.tl.hi hs (by rw [hw];decide) ho,e2.tl⟩
theorem typ_name{I:In}{F:Nat}{n:Int}{t:Bool}(hk:kindT I n=1)(h1:¬ word I (n+1)=(⟨#[46]⟩:ByteArray)∧¬ word I (n+1)=(⟨#[91]⟩:ByteArray)):G I (F+3) .typ t n = .ok (leafN 26 n) (n+1):=by
 show aTS I (G I (F+1)) false n = _
 unfold aTS
 rw [if_pos hk]
 show typeNameS I (G I F) false n = _
 unfold typeNameS nameS
 rw [if_pos hk,bnd_ok,if_neg h1.1,if_neg h1.2]
abbrev openC:List (Int×ByteArray):=[(8,(⟨#[91]⟩:ByteArray)),(8,(⟨#[93]⟩:ByteArray)),(1,(⟨#[84]⟩:ByteArray)),(8,(⟨#[123]⟩:ByteArray))]
theorem nestV_comp{I:In}{n:Int}{c:List (Int×ByteArray)}:∀ (j:Nat) (R:List (Int×ByteArray)),At I n (nestV openC c j++R)→word I n=⟨#[]⟩∨word I n=(⟨#[91]⟩:ByteArray)
 |0,R,h=>.inl (show At I n ((1,(⟨#[120]⟩:ByteArray))::R) from h).nam.1
 |j+1,R,h=>.inr (show At I n ((8,(⟨#[91]⟩:ByteArray))::_) from h).sgn.1
theorem ex_comp{I:In}:∀ (j:Nat) (n:Int) (R:List (Int×ByteArray)),At I n (nestV openC [(8,(⟨#[125]⟩:ByteArray))] j++R)→StR I R→ExR I n R (10*j+9)
 |0,n,R,h,hR=>fun F hF=>ex_name h hR F (by omega)
 |j+1,n,R,h,hR=>by
  intro F hF
  obtain⟨F,rfl⟩:∃ f,F=f+10:=⟨F-10,by omega⟩
  have h:At I n ((8,(⟨#[91]⟩:ByteArray))::(8,(⟨#[93]⟩:ByteArray))::(1,(⟨#[84]⟩:ByteArray))::(8,(⟨#[123]⟩:ByteArray))::((nestV openC [(8,(⟨#[125]⟩:ByteArray))] j++[(8,(⟨#[125]⟩:ByteArray))])++R)):=h
  rw [List.append_assoc] at h
  obtain⟨hw,hk⟩:=h.sgn
  have h2:=h.tl
  have hw2:=h2.sgn.1
  have h3:=h2.tl
  obtain⟨hw3,hk3⟩:=h3.nam
  have h4:=h3.tl
  have hw4:=h4.sgn.1
  have hw5:=nestV_comp j _ h4.tl
  obtain⟨x,m,e1,e2⟩:=ex_comp j (n+1+1+1+1) ((8,(⟨#[125]⟩:ByteArray))::R) h4.tl (stR_sgn (by decide)) (F+3) (by omega)
  have hs:=hR _ e2.tl
  have hwm:=e2.sgn.1
  have hf3:∃ f,fuel I (n+1+1+1+1)=f+2:=by
   have q:=h4.tl.le
   simp only [List.length_append,List.length_cons,List.length_nil] at q
   exact⟨fuel I (n+1+1+1+1)-2,by unfold fuel;omega⟩
  have ht:G I (F+5) .typ false n = .ok (.mk 43 (-1) n (n+1+1+1) [leafN 26 (n+1+1)]) (n+1+1+1):=by
   show aTS I (G I (F+3)) false n = _
   unfold aTS
   rw [if_neg (by omega),hw,if_neg (by decide),if_neg (by decide),if_pos rfl]
   unfold rowS
   rw [hw2,if_pos rfl]
   unfold wrapS
   rw [typ_name (F:=F) hk3 (by rw [hw4];decide),bnd_ok]
   rfl
  have ho:G I (F+6) .operand false n = .ok (.mk 43 (-1) n (n+1+1+1) [leafN 26 (n+1+1)]) (n+1+1+1):=by
   show operandS I (G I (F+5)) false n = _
   unfold operandS
   rw [if_neg (by unfold Lit;omega),hw,if_neg (by decide),if_neg (by decide),if_pos (by decide),if_neg (fun q=>absurd q.1 (by decide)),ht]
  have hv:G I (F+4) .value false (n+1+1+1+1) = .ok x m:=by
   show valueS I (G I (F+3)) false _ = _
   unfold valueS
   rw [if_neg (by rcases hw5 with q|q<;>rw [q]<;>decide),e1]
  have he:G I (F+5) .element false (n+1+1+1+1) = .ok x m:=by
   show elementS I (G I (F+4)) false _ = _
   unfold elementS
   rw [hv,bnd_ok,hwm,if_neg (by decide)]
  have hes:G I (F+6) .elements false (n+1+1+1) = .ok (listN 12 [x] m) (m+1):=by
   show elementsS I (G I (F+5)) false _ = _
   unfold elementsS rowsS
   obtain⟨f,hf⟩:=hf3
   rw [want_ok hw4,bnd_ok,hf,rowsGo,if_neg (by rcases hw5 with q|q<;>rw [q]<;>decide)]
   unfold pl
   rw [he,bnd_ok,bnd_ok,hwm,if_pos rfl,rowsGo,hwm,if_pos rfl,bnd_ok,want_ok hwm]
   rfl
  have hp:G I (F+7) .primary false n = .ok (.mk 39 (-1) n (m+1) [.mk 43 (-1) n (n+1+1+1) [leafN 26 (n+1+1)],listN 12 [x] m]) (m+1):=by
   show primaryS I (G I (F+6)) false n = _
   unfold primaryS
   rw [ho,bnd_ok]
   obtain⟨f,hf⟩:=fuel_two h4.rng.2
   rw [hf,primGo,hw4,if_neg (by decide),if_neg (by decide),if_neg (by decide),if_pos ⟨rfl,by unfold filledN;exact .inr (.inr (.inl rfl))⟩,hes,bnd_ok]
   exact prim_stop hs
  exact⟨_,_,expr_of_prim (F:=F+7) e2.tl.hi hs (by rw [hw];decide) hp,e2.tl⟩
abbrev openF:List (Int×ByteArray):=[(2,(⟨#[102,117,110,99]⟩:ByteArray)),(8,(⟨#[40]⟩:ByteArray)),(8,(⟨#[41]⟩:ByteArray)),(8,(⟨#[123]⟩:ByteArray))]
theorem simple_ex{I:In}{F:Nat}{t:Bool}{n m:Int}{x:Nd}(e:G I F .expr t n = .ok x m)(hm:m≤I.L)(hw:word I m=(⟨#[125]⟩:ByteArray)∨word I m=(⟨#[59]⟩:ByteArray)):G I (F+2) .simple t n = .ok (.mk 50 (-1) n m [x]) m:=by
 have he:G I (F+1) .exprs t n = .ok (listN 11 [x] m) m:=by
  show exprsS I (G I F) t n = _
  unfold exprsS sepS
  obtain⟨f,hf⟩:=fuel_one hm
  rw [e,bnd_ok,hf,sepGo,if_neg (by rcases hw with q|q<;>rw [q]<;>decide),bnd_ok]
 show simpleS I (G I (F+1)) t n = _
 unfold simpleS
 rw [he,bnd_ok]
 unfold restS
 rw [if_neg (by rcases hw with q|q<;>rw [q]<;>decide),if_neg (fun q=>q rfl),if_neg (by rcases hw with q|q<;>rw [q]<;>decide),if_neg (by rcases hw with q|q<;>rw [q]<;>decide)]
 rfl
def NoSt(w:ByteArray):Prop:=¬ (w=(⟨#[99,111,110,115,116]⟩:ByteArray)∨w=(⟨#[118,97,114]⟩:ByteArray)∨w=(⟨#[116,121,112,101]⟩:ByteArray))∧¬ (w=(⟨#[103,111]⟩:ByteArray)∨w=(⟨#[100,101,102,101,114]⟩:ByteArray))∧¬ w=(⟨#[114,101,116,117,114,110]⟩:ByteArray)∧¬ (w=(⟨#[98,114,101,97,107]⟩:ByteArray)∨w=(⟨#[99,111,110,116,105,110,117,101]⟩:ByteArray)∨w=(⟨#[103,111,116,111]⟩:ByteArray)∨w=(⟨#[102,97,108,108,116,104,114,111,117,103,104]⟩:ByteArray))∧¬ w=(⟨#[123]⟩:ByteArray)∧¬ w=(⟨#[105,102]⟩:ByteArray)∧¬ w=(⟨#[115,119,105,116,99,104]⟩:ByteArray)∧¬ w=(⟨#[115,101,108,101,99,116]⟩:ByteArray)∧¬ w=(⟨#[102,111,114]⟩:ByteArray)
instance (w:ByteArray):Decidable (NoSt w):=by unfold NoSt;exact inferInstance
theorem stmt_simple{I:In}{F:Nat}{t:Bool}{n:Int}(hw:NoSt (word I n))(h:¬ (kindT I n=1∧word I (n+1)=(⟨#[58]⟩:ByteArray))):G I (F+1) .stmt t n=G I F .simple t n:=by
 obtain⟨a1,a2,a3,a4,a5,a6,a7,a8,a9⟩:=hw
 show stmtS I (G I F) t n = _
 unfold stmtS
 rw [if_neg a1,if_neg a2,if_neg a3,if_neg a4,if_neg a5,if_neg a6,if_neg a7,if_neg a8,if_neg a9,if_neg h]
theorem nestV_func{I:In}{n:Int}{c:List (Int×ByteArray)}:∀ (j:Nat) (R:List (Int×ByteArray)),At I n (nestV openF c j++((8,(⟨#[125]⟩:ByteArray))::R))→NoSt (word I n)∧¬ (kindT I n=1∧word I (n+1)=(⟨#[58]⟩:ByteArray))∧¬ (word I n=(⟨#[125]⟩:ByteArray)∨word I n=(⟨#[99,97,115,101]⟩:ByteArray)∨word I n=(⟨#[100,101,102,97,117,108,116]⟩:ByteArray)∨n=I.L)∧¬ word I n=(⟨#[59]⟩:ByteArray)
 |0,R,h=>by
  have h:At I n ((1,(⟨#[120]⟩:ByteArray))::(8,(⟨#[125]⟩:ByteArray))::R):=h
  have h1:=h.nam.1
  have h2:=h.tl.sgn.1
  have h3:=h.rng
  rw [h1,h2]
  exact⟨by decide,fun q=>absurd q.2 (by decide),by rintro (q|q|q|q);exact absurd q (by decide);exact absurd q (by decide);exact absurd q (by decide);omega,by decide⟩
 |j+1,R,h=>by
  have h:At I n ((2,(⟨#[102,117,110,99]⟩:ByteArray))::_):=h
  have h1:=h.key
  have h3:=h.rng
  rw [h1.1]
  exact⟨by decide,fun q=>by omega,by rintro (q|q|q|q);exact absurd q (by decide);exact absurd q (by decide);exact absurd q (by decide);omega,by decide⟩
theorem ex_func{I:In}:∀ (j:Nat) (n:Int) (R:List (Int×ByteArray)),At I n (nestV openF [(8,(⟨#[125]⟩:ByteArray))] j++R)→StR I R→ExR I n R (11*j+9)
 |0,n,R,h,hR=>fun F hF=>ex_name h hR F (by omega)
 |j+1,n,R,h,hR=>by
  intro F hF
  obtain⟨F,rfl⟩:∃ f,F=f+11:=⟨F-11,by omega⟩
  have h:At I n ((2,(⟨#[102,117,110,99]⟩:ByteArray))::(8,(⟨#[40]⟩:ByteArray))::(8,(⟨#[41]⟩:ByteArray))::(8,(⟨#[123]⟩:ByteArray))::((nestV openF [(8,(⟨#[125]⟩:ByteArray))] j++[(8,(⟨#[125]⟩:ByteArray))])++R)):=h
  rw [List.append_assoc] at h
  obtain⟨hw,hk⟩:=h.key
  have h2:=h.tl
  have hw2:=h2.sgn.1
  have h3:=h2.tl
  have hw3:=h3.sgn.1
  have h4:=h3.tl
  obtain⟨hw4,hk4⟩:=h4.sgn
  obtain⟨b1,b2,b3,b4⟩:=nestV_func j _ h4.tl
  obtain⟨x,m,e1,e2⟩:=ex_func j (n+1+1+1+1) ((8,(⟨#[125]⟩:ByteArray))::R) h4.tl (stR_sgn (by decide)) F (by omega)
  have hs:=hR _ e2.tl
  have hwm:=e2.sgn.1
  have hst:G I (F+3) .stmt false (n+1+1+1+1) = .ok (.mk 50 (-1) (n+1+1+1+1) m [x]) m:=(stmt_simple (F:=F+2) b1 b2).trans (simple_ex e1 e2.hi (.inl hwm))
  have hf3:∃ f,fuel I (n+1+1+1+1)=f+2:=by
   have q:=h4.tl.le
   simp only [List.length_append,List.length_cons,List.length_nil] at q
   exact⟨fuel I (n+1+1+1+1)-2,by unfold fuel;omega⟩
  have hss:G I (F+5) .stmts false (n+1+1+1+1) = .ok (listN 13 [.mk 50 (-1) (n+1+1+1+1) m [x]] m) m:=by
   show anyStmtsS I (G I (F+3)) false _ = _
   unfold anyStmtsS
   obtain⟨f,hf⟩:=hf3
   rw [hf,stGo,if_neg b3,if_neg b4,hst,bnd_ok,if_pos (.inl hwm),stGo,if_pos (.inl hwm),bnd_ok]
   rfl
  have hbl:G I (F+6) .block false (n+1+1+1) = .ok (.mk 58 (-1) (n+1+1+1) (m+1) [listN 13 [.mk 50 (-1) (n+1+1+1+1) m [x]] m]) (m+1):=by
   show blockS I (G I (F+5)) false _ = _
   unfold blockS
   rw [want_ok hw4,bnd_ok,hss,bnd_ok,want_ok hwm]
   rfl
  have hpa:G I (F+5) .params false (n+1) = .ok (.mk 14 (-1) (n+1) (n+1+1+1) []) (n+1+1+1):=by
   show paramsS I (G I (F+4)) false _ = _
   unfold paramsS rowsS
   obtain⟨f,hf⟩:=fuel_one (I:=I) (m:=n+1+1) h3.hi
   rw [want_ok hw2,bnd_ok,hf,rowsGo,if_pos hw3,bnd_ok,want_ok hw3]
   rfl
  have hsg:G I (F+6) .signature false (n+1) = .ok (.mk 9 (-1) (n+1) (n+1+1+1) [.mk 14 (-1) (n+1) (n+1+1+1) [],noneN 0 (n+1+1+1)]) (n+1+1+1):=by
   show signatureS I (G I (F+5)) false _ = _
   unfold signatureS
   rw [hpa,bnd_ok,hw4,if_neg (by decide),if_neg (by rintro (q|q);exact absurd q (by decide);omega)]
  have ho:∃ y,G I (F+7) .operand false n = .ok y (m+1):=by
   refine⟨.mk 40 (-1) n (m+1) [.mk 9 (-1) (n+1) (n+1+1+1) [.mk 14 (-1) (n+1) (n+1+1+1) [],noneN 0 (n+1+1+1)],.mk 58 (-1) (n+1+1+1) (m+1) [listN 13 [.mk 50 (-1) (n+1+1+1+1) m [x]] m]],?_⟩
   show operandS I (G I (F+6)) false n = _
   unfold operandS
   rw [if_neg (by unfold Lit;omega),hw,if_neg (by decide),if_pos rfl,hsg,bnd_ok,if_pos hw4,hbl]
   rfl
  obtain⟨y,ho⟩:=ho
  exact⟨_,_,expr_of_prim (F:=F+8) e2.tl.hi hs (by rw [hw];decide) (prim_of_oper (F:=F+7) e2.tl.hi hs ho),e2.tl⟩
def aheadV(o:List (Int×ByteArray)):Nat→List (Int×ByteArray)
 |0=>[(1,(⟨#[120]⟩:ByteArray))]
 |j+1=>o++aheadV o j
theorem flatMk(k w f t:Int)(l:List Nd):(flat (.mk k w f t l)).length=1+(flatL l).length:=by
 simp only [flat,List.length_cons]
 omega
theorem flatOne(k w f t:Int)(x:Nd):(flat (.mk k w f t [x])).length=1+(flat x).length:=by
 rw [flatMk]
 simp only [flatL,List.append_nil]
theorem flatTwo(k w f t:Int)(x y:Nd):(flat (.mk k w f t [x,y])).length=1+(flat x).length+(flat y).length:=by
 rw [flatMk]
 simp only [flatL,List.append_nil,List.length_append]
 omega
theorem un_chain{I:In}(w:ByteArray)(hwd:w=(⟨#[45]⟩:ByteArray)∨w=(⟨#[42]⟩:ByteArray)):∀ (j:Nat) (n:Int) (R:List (Int×ByteArray)),At I n (aheadV [(8,w)] j++R)→StR I R→∀ F,j+3≤F→∃ x m,G I F .unary false n = .ok x m∧At I m R∧j<(flat x).length
 |0,n,R,h,hR,F,hF=>by
  obtain⟨F,rfl⟩:∃ f,F=f+3:=⟨F-3,by omega⟩
  have h:At I n ((1,(⟨#[120]⟩:ByteArray))::R):=h
  obtain⟨hw,hk⟩:=h.nam
  have hs:=hR _ h.tl
  exact⟨_,_,unary_of_prim (F:=F+2) (by rw [hw];decide) (prim_of_oper (F:=F+1) h.tl.hi hs (oper_name hk hw)),h.tl,flat_pos _⟩
 |j+1,n,R,h,hR,F,hF=>by
  obtain⟨F,rfl⟩:∃ f,F=f+1:=⟨F-1,by omega⟩
  have h:At I n ((8,w)::(aheadV [(8,w)] j++R)):=h
  obtain⟨hw,hk⟩:=h.sgn
  obtain⟨x,m,e1,e2,e3⟩:=un_chain w hwd j (n+1) R h.tl hR F (by omega)
  have:∃ y,G I (F+1) .unary false n = .ok y m∧(flat y).length=1+(flat x).length:=by
   show ∃ y,unaryS I (G I F) false n = .ok y m∧_
   unfold unaryS
   rcases hwd with q|q
   ·rw [hw,q,if_neg (by decide),if_pos (by decide),e1,bnd_ok]
    exact⟨_,rfl,flatOne _ _ _ _ _⟩
   ·rw [hw,q,if_neg (by decide),if_neg (by decide),if_pos rfl,e1,bnd_ok]
    exact⟨_,rfl,flatOne _ _ _ _ _⟩
  obtain⟨y,q1,q2⟩:=this
  exact⟨y,m,q1,e2,by omega⟩
theorem bin_chain{I:In}:∀ (j:Nat) (m:Int) (R:List (Int×ByteArray)),At I m ((8,(⟨#[43]⟩:ByteArray))::(aheadV [(3,(⟨#[49]⟩:ByteArray)),(8,(⟨#[43]⟩:ByteArray))] j++((9,⟨#[]⟩)::R)))→∀ (F f:Nat) (x:Nd) (frm:Int),5≤F→j+2≤f→∃ y q,binGo I (G I F) false 1 frm f x m = .ok y q∧At I q ((9,⟨#[]⟩)::R)∧(flat x).length+j+1<(flat y).length
 |j,m,R,h,F,f,x,frm,hF,hf=>by
  obtain⟨F,rfl⟩:∃ g,F=g+5:=⟨F-5,by omega⟩
  obtain⟨f,rfl⟩:∃ g,f=g+2:=⟨f-2,by omega⟩
  have hw:=h.sgn.1
  have lv:levelF ((⟨#[43]⟩:ByteArray))=4:=by decide
  match j,h,hf with
  |0,h,hf=>
   have h1:At I (m+1) ((1,(⟨#[120]⟩:ByteArray))::(9,⟨#[]⟩)::R):=h.tl
   obtain⟨hw1,hk1⟩:=h1.nam
   have hw2:=h1.tl.smi.1
   have e:G I (F+5) (.binary 5) false (m+1) = .ok (leafN 26 (m+1)) (m+1+1):=bin_of_unary (F:=F+4) h1.tl.hi (by rw [hw2];decide) (unary_of_prim (F:=F+3) (by rw [hw1];decide) (prim_of_oper (F:=F+2) h1.tl.hi (by rw [hw2];decide) (oper_name hk1 hw1)))
   rw [binGo,hw,lv,if_neg (by decide),show (4:Int)+1=5 from rfl,e,bnd_ok,bin_stop (by rw [hw2];decide)]
   refine⟨_,_,rfl,h1.tl,?_⟩
   rw [flatTwo]
   have:=flat_pos (leafN 26 (m+1))
   omega
  |j+1,h,hf=>
   have h1:At I (m+1) ((3,(⟨#[49]⟩:ByteArray))::(8,(⟨#[43]⟩:ByteArray))::(aheadV [(3,(⟨#[49]⟩:ByteArray)),(8,(⟨#[43]⟩:ByteArray))] j++((9,⟨#[]⟩)::R))):=h.tl
   obtain⟨hw1,hk1⟩:=h1.num
   have hw2:=h1.tl.sgn.1
   have e:G I (F+5) (.binary 5) false (m+1) = .ok (leafN 27 (m+1)) (m+1+1):=bin_of_unary (F:=F+4) h1.tl.hi (by rw [hw2];decide) (unary_of_prim (F:=F+3) (by rw [hw1];decide) (by
    show primaryS I (G I (F+2)) false (m+1) = _
    unfold primaryS
    obtain⟨f,hf⟩:=fuel_one (I:=I) (m:=m+1+1) h1.tl.hi
    rw [oper_num hk1,bnd_ok,hf,primGo,hw2,if_neg (by decide),if_neg (by decide),if_neg (by decide),if_neg (fun q=>absurd q.1 (by decide))]))
   rw [binGo,hw,lv,if_neg (by decide),show (4:Int)+1=5 from rfl,e,bnd_ok]
   obtain⟨y,q,q1,q2,q3⟩:=bin_chain j (m+1+1) R h1.tl (F+5) (f+1) (.mk 37 m frm (m+1+1) [x,leafN 27 (m+1)]) frm (by omega) (by omega)
   refine⟨y,q,q1,q2,?_⟩
   rw [flatTwo] at q3
   omega
theorem lab_chain{I:In}:∀ (j:Nat) (n:Int) (R:List (Int×ByteArray)),At I n (aheadV [(1,(⟨#[97]⟩:ByteArray)),(8,(⟨#[58]⟩:ByteArray))] j++((9,⟨#[]⟩)::R))→∀ F,j+9≤F→∃ x m,G I F .stmt false n = .ok x m∧At I m ((9,⟨#[]⟩)::R)∧j<(flat x).length
 |0,n,R,h,F,hF=>by
  obtain⟨F,rfl⟩:∃ f,F=f+3:=⟨F-3,by omega⟩
  have h:At I n ((1,(⟨#[120]⟩:ByteArray))::(9,⟨#[]⟩)::R):=h
  have hw:=h.nam.1
  have hw2:=h.tl.smi.1
  obtain⟨x,m,e1,e2⟩:=ex_name h stR_smi F (by omega)
  exact⟨_,_,(stmt_simple (F:=F+2) (by rw [hw];decide) (fun q=>absurd q.2 (by rw [hw2];decide))).trans (simple_ex e1 e2.hi (.inr e2.smi.1)),e2,flat_pos _⟩
 |j+1,n,R,h,F,hF=>by
  obtain⟨F,rfl⟩:∃ f,F=f+1:=⟨F-1,by omega⟩
  have h:At I n ((1,(⟨#[97]⟩:ByteArray))::(8,(⟨#[58]⟩:ByteArray))::(aheadV [(1,(⟨#[97]⟩:ByteArray)),(8,(⟨#[58]⟩:ByteArray))] j++((9,⟨#[]⟩)::R))):=h
  obtain⟨hw,hk⟩:=h.nam
  have hw2:=h.tl.sgn.1
  obtain⟨x,m,e1,e2,e3⟩:=lab_chain j (n+1+1) R h.tl.tl F (by omega)
  have hq:¬ quietP I (n+1+1):=by
   have h3:word I (n+1+1)=⟨#[]⟩∧n+1+1<I.L:=by
    match j,h with
    |0,h=>exact⟨(show At I (n+1+1) ((1,(⟨#[120]⟩:ByteArray))::_) from h.tl.tl).nam.1,(show At I (n+1+1) ((1,(⟨#[120]⟩:ByteArray))::_) from h.tl.tl).rng.2⟩
    |j+1,h=>exact⟨(show At I (n+1+1) ((1,(⟨#[97]⟩:ByteArray))::_) from h.tl.tl).nam.1,(show At I (n+1+1) ((1,(⟨#[97]⟩:ByteArray))::_) from h.tl.tl).rng.2⟩
   unfold quietP
   rw [h3.1]
   rintro (q|q|q)
   ·exact absurd q (by decide)
   ·exact absurd q (by decide)
   ·omega
  refine⟨.mk 67 (-1) n m [leafN 26 n,x],m,?_,e2,?_⟩
  ·show stmtS I (G I F) false n = _
   unfold stmtS
   rw [hw,if_neg (by decide),if_neg (by decide),if_neg (by decide),if_neg (by decide),if_neg (by decide),if_neg (by decide),if_neg (by decide),if_neg (by decide),if_neg (by decide),if_pos ⟨hk,hw2⟩]
   unfold nameS
   rw [if_pos hk,bnd_ok,if_neg hq,e1]
   rfl
  ·rw [flatTwo]
   omega
theorem chan_chain{I:In}:∀ (j:Nat) (n:Int) (R:List (Int×ByteArray)),At I n (aheadV [(2,(⟨#[99,104,97,110]⟩:ByteArray))] j++((9,⟨#[]⟩)::R))→∀ (F:Nat) (t:Bool),2*j+3≤F→∃ x m,G I F .typ t n = .ok x m∧At I m ((9,⟨#[]⟩)::R)∧j<(flat x).length
 |0,n,R,h,F,t,hF=>by
  obtain⟨F,rfl⟩:∃ f,F=f+3:=⟨F-3,by omega⟩
  have h:At I n ((1,(⟨#[120]⟩:ByteArray))::(9,⟨#[]⟩)::R):=h
  have hw2:=h.tl.smi.1
  exact⟨_,_,typ_name (F:=F) h.nam.2 (by rw [hw2];decide),h.tl,flat_pos _⟩
 |j+1,n,R,h,F,t,hF=>by
  obtain⟨F,rfl⟩:∃ f,F=f+2:=⟨F-2,by omega⟩
  have h:At I n ((2,(⟨#[99,104,97,110]⟩:ByteArray))::(aheadV [(2,(⟨#[99,104,97,110]⟩:ByteArray))] j++((9,⟨#[]⟩)::R))):=h
  obtain⟨hw,hk⟩:=h.key
  obtain⟨x,m,e1,e2,e3⟩:=chan_chain j (n+1) R h.tl F false (by omega)
  have h3:¬ word I (n+1)=(⟨#[60,45]⟩:ByteArray):=by
   match j,h with
   |0,h=>rw [(show At I (n+1) ((1,(⟨#[120]⟩:ByteArray))::_) from h.tl).nam.1];decide
   |j+1,h=>rw [(show At I (n+1) ((2,(⟨#[99,104,97,110]⟩:ByteArray))::_) from h.tl).key.1];decide
  refine⟨.mk 45 n n m ([]++[x]),m,?_,e2,?_⟩
  ·show aTS I (G I F) false n = _
   unfold aTS
   rw [if_neg (by omega),hw,if_neg (by decide),if_neg (by decide),if_neg (by decide),if_neg (by decide),if_pos rfl]
   unfold wrapS maybe
   rw [if_neg h3,e1]
   rfl
  ·rw [List.nil_append,flatOne]
   omega
end Go.Ex
