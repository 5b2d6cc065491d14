/-
  Top: TopComments: whatever the input, the law answers true (part 10)
-/
import Derived.Test.YtpjdgifhhnjclaaGreatDoorM09
set_option linter.unusedVariables false
set_option linter.unusedSimpArgs false
set_option maxHeartbeats 4000000
set_option maxRecDepth 10000
namespace Go.Ex
open Go.Proofs
structure In where
 s:ByteArray
 toks:List M7
 pair:List Int
def In.L(I:In):Int:=I.toks.length
inductive Nd where
 |mk (kind word frm to:Int) (kids:List Nd)
def Nd.kind:Nd→Int|.mk k _ _ _ _=>k
def Nd.word:Nd→Int|.mk _ w _ _ _=>w
def Nd.frm:Nd→Int|.mk _ _ f _ _=>f
def Nd.to:Nd→Int|.mk _ _ _ t _=>t
def Nd.kids:Nd→List Nd|.mk _ _ _ _ l=>l
def I3:Nd:=.mk 0 0 0 0 []
inductive G3 (α:Type) where
 |ok (a:α) (n:Int)
 |err (x:Int)
def bnd{α β:Type}(o:G3 α)(f:α→Int→G3 β):G3 β:=match o with
 |.ok a n=>f a n
 |.err x=>.err x
theorem E2{α β:Type}(a:α)(n:Int)(f:α→Int→G3 β):bnd (.ok a n) f=f a n:=rfl
theorem Dl{α β:Type}(x:Int)(f:α→Int→G3 β):bnd (.err x) f = .err x:=rfl
def B9(I:In)(n:Int):Int:=if n<0∨I.L≤n then 0 else (B1 C4.dflt I.toks n).kind
def word(I:In)(n:Int):ByteArray:=if n<0∨I.L≤n then ⟨#[]⟩ else if (B1 C4.dflt I.toks n).kind=9 then (⟨#[59]⟩:ByteArray) else
 if (B1 C4.dflt I.toks n).kind=8∨(B1 C4.dflt I.toks n).kind=2 then I.s.extract (B1 C4.dflt I.toks n).frm.toNat (B1 C4.dflt I.toks n).to.toNat else ⟨#[]⟩
inductive Fn where
 |expr|binary (k:Int)|unary|operand|primary|exprs|element|value|elements
 |typ|anyType|typeName|signature|params|param|tparams|names|union|block|stmts|anyStmts|stmt|simple
 |ifs|switches|selects|fors|declared|started|returned|branch|group|valueSpec|constSpec|importSpec|typeSpec|fn|file
 |field|elem|types
abbrev Gt:=Fn→Bool→Int→G3 Nd
def want(I:In)(w:ByteArray)(n:Int):G3 Unit:=if word I n=w then .ok () (n+1) else .err n
def E3(k n:Int):Nd:=.mk k (-1) n n []
def bI(k n:Int):Nd:=.mk k n n (n+1) []
def Q7(I:In)(n:Int):G3 Nd:=if B9 I n=1 then .ok (bI 26 n) (n+1) else .err n
def rH(I:In)(n:Int):G3 Nd:=if B9 I n=7 then .ok (bI 27 n) (n+1) else .err n
def K3(k:Int)(l:List Nd)(n:Int):Nd:=match l with
 |[]=>E3 k n
 |x::r=>.mk k (-1) x.frm ((x::r).getLastD I3).to (x::r)
def P1(I:In)(w:ByteArray)(one:Int→G3 Nd):Nat→List Nd→Int→G3 (List Nd)
 |0,_,_=>.err 0
 |f+1,acc,n=>if word I n=w then bnd (one (n+1)) fun x m=>P1 I w one f (acc++[x]) m else .ok acc n
def F6(I:In)(n:Int):Nat:=(I.L+1-n).toNat
def jG(I:In)(k:Int)(w:ByteArray)(one:Int→G3 Nd)(n:Int):G3 Nd:=bnd (one n) fun x m=>bnd (P1 I w one (F6 I m) [x] m) fun l m=>.ok (K3 k l m) m
def T3(I:In)(mark shut:ByteArray)(one:Int→Int→G3 (Nd×Int)):Nat→Int→List Nd→Int→G3 (List Nd×Int)
 |0,_,_,_=>.err 0
 |f+1,w,acc,n=>if word I n=shut then .ok (acc,w) n else bnd (one w n) fun x m=>
  if word I m=shut then T3 I mark shut one f x.2 (acc++[x.1]) m else bnd (want I mark m) fun _ m=>T3 I mark shut one f x.2 (acc++[x.1]) m
def T5(I:In)(op mark shut:ByteArray)(one:Int→Int→G3 (Nd×Int))(w n:Int):G3 (List Nd×Int):=bnd (want I op n) fun _ m=>T3 I mark shut one (F6 I m) w [] m
def pl(one:Int→G3 Nd)(w n:Int):G3 (Nd×Int):=bnd (one n) fun x m=>.ok (x,w) m
def X6(w:ByteArray):Int:=if w=(⟨#[124,124]⟩:ByteArray) then 1 else if w=(⟨#[38,38]⟩:ByteArray) then 2 else
 if w=(⟨#[61,61]⟩:ByteArray)∨w=(⟨#[33,61]⟩:ByteArray)∨w=(⟨#[60]⟩:ByteArray)∨w=(⟨#[60,61]⟩:ByteArray)∨w=(⟨#[62]⟩:ByteArray)∨w=(⟨#[62,61]⟩:ByteArray) then 3 else
 if w=(⟨#[43]⟩:ByteArray)∨w=(⟨#[45]⟩:ByteArray)∨w=(⟨#[124]⟩:ByteArray)∨w=(⟨#[94]⟩:ByteArray) then 4 else
 if w=(⟨#[42]⟩:ByteArray)∨w=(⟨#[47]⟩:ByteArray)∨w=(⟨#[37]⟩:ByteArray)∨w=(⟨#[60,60]⟩:ByteArray)∨w=(⟨#[62,62]⟩:ByteArray)∨w=(⟨#[38]⟩:ByteArray)∨w=(⟨#[38,94]⟩:ByteArray) then 5 else 0
section
variable (I:In)(g:Gt)
def eB(t:Bool)(n:Int):G3 Nd:=jG I 11 (⟨#[44]⟩:ByteArray) (g .expr t) n
def xG(t:Bool)(n:Int):G3 Nd:=g (.binary 1) t n
def hI(t:Bool)(least frm:Int):Nat→Nd→Int→G3 Nd
 |0,_,_=>.err 0
 |f+1,x,n=>if X6 (word I n)<least then .ok x n else bnd (g (.binary (X6 (word I n)+1)) t (n+1)) fun y m=>hI t least frm f (.mk 37 n frm m [x,y]) m
def bD(least:Int)(t:Bool)(n:Int):G3 Nd:=bnd (g .unary t n) fun x m=>hI I g t least n (F6 I m) x m
def fQ(t:Bool)(n:Int):G3 Nd:=
 if word I n=(⟨#[60,45]⟩:ByteArray) then (if word I (n+1)=(⟨#[99,104,97,110]⟩:ByteArray) then g .primary t n else bnd (g .unary t (n+1)) fun x m=>.ok (.mk 36 n n m [x]) m) else
 if word I n=(⟨#[43]⟩:ByteArray)∨word I n=(⟨#[45]⟩:ByteArray)∨word I n=(⟨#[33]⟩:ByteArray)∨word I n=(⟨#[94]⟩:ByteArray)∨word I n=(⟨#[38]⟩:ByteArray) then bnd (g .unary t (n+1)) fun x m=>.ok (.mk 36 n n m [x]) m else
 if word I n=(⟨#[42]⟩:ByteArray) then bnd (g .unary t (n+1)) fun x m=>.ok (.mk 35 (-1) n m [x]) m else g .primary t n
def La(I:In)(n:Int):Prop:=3≤B9 I n∧B9 I n≤7
instance (n:Int):Decidable (La I n):=by unfold La;exact inferInstance
def Z8(t:Bool)(n:Int):G3 Nd:=
 if La I n then .ok (bI 27 n) (n+1) else
 if word I n=(⟨#[40]⟩:ByteArray) then bnd (g .expr false (n+1)) fun x m=>bnd (want I (⟨#[41]⟩:ByteArray) m) fun _ m=>.ok (.mk 28 (-1) n m [x]) m else
 if word I n=(⟨#[102,117,110,99]⟩:ByteArray) then bnd (g .signature false (n+1)) fun x m=>if word I m=(⟨#[123]⟩:ByteArray) then bnd (g .block false m) fun y m=>.ok (.mk 40 (-1) n m [x,y]) m else .ok (.mk 46 (-1) n m [x]) m else
 if word I n=(⟨#[91]⟩:ByteArray)∨word I n=(⟨#[115,116,114,117,99,116]⟩:ByteArray)∨word I n=(⟨#[109,97,112]⟩:ByteArray)∨word I n=(⟨#[99,104,97,110]⟩:ByteArray)∨word I n=(⟨#[105,110,116,101,114,102,97,99,101]⟩:ByteArray)∨word I n=(⟨#[60,45]⟩:ByteArray) then
  (if word I n=(⟨#[60,45]⟩:ByteArray)∧¬ word I (n+1)=(⟨#[99,104,97,110]⟩:ByteArray) then .err n else g .typ t n) else Q7 I n
def cV(x:Nd):Prop:=x.kind=26∨x.kind=29∧(x.kids.getD 0 I3).kind=26
instance (x:Nd):Decidable (cV x):=by unfold cV;exact inferInstance
def O4(t:Bool)(x:Nd):Prop:=x.kind=41∨x.kind=42∨x.kind=43∨x.kind=44∨x.kind=47∨t=false∧cV (if x.kind=30 then x.kids.getD 0 I3 else x)
instance (t:Bool) (x:Nd):Decidable (O4 t x):=by unfold O4;exact inferInstance
def zU(t:Bool)(frm:Int)(x:Nd)(n:Int):G3 Nd:=
 if word I n=(⟨#[40]⟩:ByteArray) then
  (if word I (n+1)=(⟨#[116,121,112,101]⟩:ByteArray) then bnd (want I (⟨#[41]⟩:ByteArray) (n+1+1)) fun _ m=>.ok (.mk 33 (-1) frm m [x]) m else bnd (g .typ t (n+1)) fun y m=>bnd (want I (⟨#[41]⟩:ByteArray) m) fun _ m=>.ok (.mk 32 (-1) frm m [x,y]) m)
 else bnd (Q7 I n) fun y m=>.ok (.mk 29 (-1) frm m [x,y]) m
def jJ(w n:Int):G3 (Nd×Int):=if 0≤w then .err n else bnd (g .expr false n) fun x m=>if word I m=(⟨#[46,46,46]⟩:ByteArray) then .ok (x,m) (m+1) else .ok (x,w) m
def mW(frm:Int)(x:Nd)(n:Int):G3 Nd:=bnd (T5 I (⟨#[40]⟩:ByteArray) (⟨#[44]⟩:ByteArray) (⟨#[41]⟩:ByteArray) (jJ I g) (-1) n) fun l m=>bnd (want I (⟨#[41]⟩:ByteArray) m) fun _ m'=>.ok (.mk 34 l.2 frm m' [x,K3 11 l.1 m]) m'
def fS(frm:Int)(x lo:Nd)(n:Int):G3 Nd:=
 if word I n=(⟨#[93]⟩:ByteArray) then .ok (.mk 31 (-1) frm (n+1) [x,lo,E3 0 n,E3 0 n]) (n+1) else bnd (g .expr false n) fun hi m=>
  if word I m=(⟨#[58]⟩:ByteArray) then bnd (g .expr false (m+1)) fun mo m=>bnd (want I (⟨#[93]⟩:ByteArray) m) fun _ m=>.ok (.mk 31 (-1) frm m [x,lo,hi,mo]) m
  else bnd (want I (⟨#[93]⟩:ByteArray) m) fun _ m'=>.ok (.mk 31 (-1) frm m' [x,lo,hi,E3 0 m]) m'
def gZ:Nat→List Nd→Int→G3 (List Nd)
 |0,_,_=>.err 0
 |f+1,acc,n=>if word I n=(⟨#[44]⟩:ByteArray)∧¬ word I (n+1)=(⟨#[93]⟩:ByteArray) then bnd (g .expr false (n+1)) fun x m=>gZ f (acc++[x]) m else .ok acc n
def maybe(w:ByteArray)(n:Int):Int:=if word I n=w then n+1 else n
def cY(frm:Int)(x:Nd)(n:Int):G3 Nd:=
 if word I n=(⟨#[58]⟩:ByteArray) then fS I g frm x (E3 0 n) (n+1) else bnd (g .expr false n) fun lo m=>
  if word I m=(⟨#[58]⟩:ByteArray) then fS I g frm x lo (m+1) else bnd (gZ I g (F6 I m) [lo] m) fun l m=>
   bnd (want I (⟨#[93]⟩:ByteArray) (maybe I (⟨#[44]⟩:ByteArray) m)) fun _ m'=>.ok (.mk 30 (-1) frm m' [x,K3 11 l m]) m'
def X4(t:Bool)(frm:Int):Nat→Nd→Int→G3 Nd
 |0,_,_=>.err 0
 |f+1,x,n=>
  if word I n=(⟨#[46]⟩:ByteArray) then bnd (zU I g t frm x (n+1)) (X4 t frm f) else
  if word I n=(⟨#[40]⟩:ByteArray) then bnd (mW I g frm x n) (X4 t frm f) else
  if word I n=(⟨#[91]⟩:ByteArray) then bnd (cY I g frm x (n+1)) (X4 t frm f) else
  if word I n=(⟨#[123]⟩:ByteArray)∧O4 t x then bnd (g .elements t n) fun e m=>X4 t frm f (.mk 39 (-1) frm m [x,e]) m else .ok x n
def W3(t:Bool)(n:Int):G3 Nd:=bnd (g .operand t n) fun x m=>X4 I g t n (F6 I m) x m
def V2(t:Bool)(n:Int):G3 Nd:=bnd (T5 I (⟨#[123]⟩:ByteArray) (⟨#[44]⟩:ByteArray) (⟨#[125]⟩:ByteArray) (pl (g .element false)) (-1) n) fun l m=>bnd (want I (⟨#[125]⟩:ByteArray) m) fun _ m'=>.ok (K3 12 l.1 m) m'
def aE(t:Bool)(n:Int):G3 Nd:=bnd (g .value t n) fun x m=>if word I m=(⟨#[58]⟩:ByteArray) then bnd (g .value t (m+1)) fun y m=>.ok (.mk 38 (-1) n m [x,y]) m else .ok x m
def fO(t:Bool)(n:Int):G3 Nd:=if word I n=(⟨#[123]⟩:ByteArray) then bnd (g .elements t n) fun e m=>.ok (.mk 39 (-1) n m [E3 0 n,e]) m else g .expr t n
def Cm(t:Bool)(n:Int):G3 Nd:=g .anyType false n
def M3(k w frm:Int)(l:List Nd)(t:Bool)(n:Int):G3 Nd:=bnd (g .typ t n) fun x m=>.ok (.mk k w frm m (l++[x])) m
def aJ(frm:Int)(t:Bool)(n:Int):G3 Nd:=
 if word I n=(⟨#[93]⟩:ByteArray) then M3 g 43 (-1) frm [] t (n+1) else
 if word I n=(⟨#[46,46,46]⟩:ByteArray) then bnd (want I (⟨#[93]⟩:ByteArray) (n+1)) fun _ m=>M3 g 42 (-1) frm [] t m else
 bnd (g .expr false n) fun x m=>bnd (want I (⟨#[93]⟩:ByteArray) m) fun _ m=>M3 g 41 (-1) frm [x] t m
def F1(k kk:Int)(one:Int→G3 Nd)(frm n:Int):G3 Nd:=bnd (T5 I (⟨#[123]⟩:ByteArray) (⟨#[59]⟩:ByteArray) (⟨#[125]⟩:ByteArray) (pl one) (-1) n) fun l m=>bnd (want I (⟨#[125]⟩:ByteArray) m) fun _ m'=>.ok (.mk k (-1) frm m' [K3 kk l.1 m]) m'
def fK(t:Bool)(n:Int):G3 Nd:=
 if B9 I n=1 then g .typeName t n else
 if word I n=(⟨#[42]⟩:ByteArray) then M3 g 35 (-1) n [] t (n+1) else
 if word I n=(⟨#[40]⟩:ByteArray) then bnd (g .typ t (n+1)) fun x m=>bnd (want I (⟨#[41]⟩:ByteArray) m) fun _ m=>.ok (.mk 28 (-1) n m [x]) m else
 if word I n=(⟨#[91]⟩:ByteArray) then aJ I g n t (n+1) else
 if word I n=(⟨#[109,97,112]⟩:ByteArray) then bnd (want I (⟨#[91]⟩:ByteArray) (n+1)) fun _ m=>bnd (g .typ t m) fun x m=>bnd (want I (⟨#[93]⟩:ByteArray) m) fun _ m=>M3 g 44 (-1) n [x] t m else
 if word I n=(⟨#[99,104,97,110]⟩:ByteArray) then M3 g 45 n n [] t (maybe I (⟨#[60,45]⟩:ByteArray) (n+1)) else
 if word I n=(⟨#[60,45]⟩:ByteArray) then bnd (want I (⟨#[99,104,97,110]⟩:ByteArray) (n+1)) fun _ m=>M3 g 45 n n [] t m else
 if word I n=(⟨#[102,117,110,99]⟩:ByteArray) then bnd (g .signature t (n+1)) fun x m=>.ok (.mk 46 (-1) n m [x]) m else
 if word I n=(⟨#[115,116,114,117,99,116]⟩:ByteArray) then F1 I 47 20 (g .field t) n (n+1) else
 if word I n=(⟨#[105,110,116,101,114,102,97,99,101]⟩:ByteArray) then F1 I 48 23 (g .elem t) n (n+1) else .err n
def S2(t:Bool)(n:Int):G3 Nd:=if word I (n+1)=(⟨#[93]⟩:ByteArray) then .err (n+1) else bnd (T5 I (⟨#[91]⟩:ByteArray) (⟨#[44]⟩:ByteArray) (⟨#[93]⟩:ByteArray) (pl (g .typ t)) (-1) n) fun l m=>bnd (want I (⟨#[93]⟩:ByteArray) m) fun _ m'=>.ok (K3 11 l.1 m) m'
def U7(t:Bool)(n:Int):G3 Nd:=bnd (Q7 I n) fun x m=>
 if word I m=(⟨#[46]⟩:ByteArray) then bnd (Q7 I (m+1)) fun y m=>(if word I m=(⟨#[91]⟩:ByteArray) then bnd (S2 I g t m) fun z m'=>.ok (.mk 30 (-1) n m' [.mk 29 (-1) n m [x,y],z]) m' else .ok (.mk 29 (-1) n m [x,y]) m)
 else if word I m=(⟨#[91]⟩:ByteArray) then bnd (S2 I g t m) fun z m'=>.ok (.mk 30 (-1) n m' [x,z]) m' else .ok x m
def V6(n:Int):Prop:=word I n=(⟨#[91]⟩:ByteArray)∧¬ B1 0 I.pair n=n+1
instance (n:Int):Decidable (V6 I n):=by unfold V6;exact inferInstance
def aG(n:Int):Int:=B1 0 I.pair n+1
def rB(n:Int):G3 Nd:=if B9 I n=7 then rH I n else .ok (E3 0 n) n
def cS(n:Int):Prop:=B9 I n=7∨word I n=(⟨#[59]⟩:ByteArray)∨word I n=(⟨#[125]⟩:ByteArray)
instance (n:Int):Decidable (cS I n):=by unfold cS;exact inferInstance
def mN(n:Int):Prop:=B9 I n=1∧(cS I (n+1)∨word I (n+1)=(⟨#[46]⟩:ByteArray)∨V6 I (n+1)∧cS I (aG I (n+1)))
instance (n:Int):Decidable (mN I n):=by unfold mN;exact inferInstance
def gJ(t:Bool)(n:Int):G3 Nd:=
 if word I n=(⟨#[42]⟩:ByteArray) then (if B9 I (n+1)=1 then bnd (g .typeName t (n+1)) fun x m=>bnd (rB I m) fun y m'=>.ok (.mk 22 (-1) n m' [.mk 35 (-1) n m [x],y]) m' else .err (n+1)) else
 if mN I n then bnd (g .typeName t n) fun x m=>bnd (rB I m) fun y m=>.ok (.mk 22 (-1) n m [x,y]) m else
 bnd (g .names t n) fun x m=>bnd (g .typ t m) fun y m=>bnd (rB I m) fun z m=>.ok (.mk 21 (-1) n m [x,y,z]) m
def mP(t:Bool)(n:Int):G3 Nd:=if B9 I n=1∧word I (n+1)=(⟨#[40]⟩:ByteArray) then bnd (Q7 I n) fun x m=>bnd (g .signature t m) fun y m=>.ok (.mk 24 (-1) n m [x,y]) m else g .union t n
def D5(t:Bool)(n:Int):G3 Nd:=if word I n=(⟨#[126]⟩:ByteArray) then bnd (g .typ t (n+1)) fun x m=>.ok (.mk 19 (-1) n m [x]) m else g .typ t n
def fP(t:Bool)(n:Int):G3 Nd:=jG I 18 (⟨#[124]⟩:ByteArray) (D5 I g t) n
def dX(t:Bool)(n:Int):G3 Nd:=jG I 10 (⟨#[44]⟩:ByteArray) (Q7 I) n
def Jf(w:ByteArray):Prop:=w=(⟨#[91]⟩:ByteArray)∨w=(⟨#[42]⟩:ByteArray)∨w=(⟨#[115,116,114,117,99,116]⟩:ByteArray)∨w=(⟨#[109,97,112]⟩:ByteArray)∨w=(⟨#[99,104,97,110]⟩:ByteArray)∨w=(⟨#[105,110,116,101,114,102,97,99,101]⟩:ByteArray)∨w=(⟨#[102,117,110,99]⟩:ByteArray)∨w=(⟨#[60,45]⟩:ByteArray)
instance (w:ByteArray):Decidable (Jf w):=by unfold Jf;exact inferInstance
def R5(t:Bool)(n:Int):G3 Nd:=bnd (g .params t n) fun x m=>
 if word I m=(⟨#[40]⟩:ByteArray) then bnd (g .params t m) fun y m=>.ok (.mk 9 (-1) n m [x,y]) m else
 if Jf (word I m)∨B9 I m=1 then bnd (g .typ t m) fun y m=>.ok (.mk 9 (-1) n m [x,y]) m else .ok (.mk 9 (-1) n m [x,E3 0 m]) m
def cG(t:Bool)(n:Int):G3 Nd:=bnd (T5 I (⟨#[40]⟩:ByteArray) (⟨#[44]⟩:ByteArray) (⟨#[41]⟩:ByteArray) (pl (g .param t)) (-1) n) fun l m=>bnd (want I (⟨#[41]⟩:ByteArray) m) fun _ m=>.ok (.mk 14 (-1) n m l.1) m
def fH(n:Int):Prop:=¬ B9 I n=1∨(word I (n+1)=(⟨#[44]⟩:ByteArray)∨word I (n+1)=(⟨#[41]⟩:ByteArray)∨word I (n+1)=(⟨#[46]⟩:ByteArray))∨V6 I (n+1)∧(word I (aG I (n+1))=(⟨#[44]⟩:ByteArray)∨word I (aG I (n+1))=(⟨#[41]⟩:ByteArray))
instance (n:Int):Decidable (fH I n):=by unfold fH;exact inferInstance
def gF(t:Bool)(n:Int):G3 Nd:=bnd (if fH I n then .ok (E3 0 n) n else Q7 I n) fun x m=>
 if word I m=(⟨#[46,46,46]⟩:ByteArray) then bnd (g .typ t (m+1)) fun y m'=>.ok (.mk 15 m n m' [x,y]) m' else bnd (g .typ t m) fun y m'=>.ok (.mk 15 (-1) n m' [x,y]) m'
def dJ(t:Bool)(n:Int):G3 Nd:=bnd (g .names t n) fun x m=>bnd (g .union t m) fun y m=>.ok (.mk 17 (-1) n m [x,y]) m
def Z2(t:Bool)(n:Int):G3 Nd:=if word I (n+1)=(⟨#[93]⟩:ByteArray) then .err (n+1) else bnd (T5 I (⟨#[91]⟩:ByteArray) (⟨#[44]⟩:ByteArray) (⟨#[93]⟩:ByteArray) (pl (dJ g t)) (-1) n) fun l m=>bnd (want I (⟨#[93]⟩:ByteArray) m) fun _ m=>.ok (.mk 16 (-1) n m l.1) m
def X3(w:ByteArray):Fn:=if w=(⟨#[105,109,112,111,114,116]⟩:ByteArray) then .importSpec else if w=(⟨#[99,111,110,115,116]⟩:ByteArray) then .constSpec else if w=(⟨#[116,121,112,101]⟩:ByteArray) then .typeSpec else .valueSpec
def R6(t:Bool)(n:Int):G3 Nd:=if word I (n+1)=(⟨#[40]⟩:ByteArray) then bnd (T5 I (⟨#[40]⟩:ByteArray) (⟨#[59]⟩:ByteArray) (⟨#[41]⟩:ByteArray) (pl (g (X3 (word I n)) t)) (-1) (n+1)) fun l m=>bnd (want I (⟨#[41]⟩:ByteArray) m) fun _ m=>.ok (.mk 4 n n m l.1) m
 else bnd (g (X3 (word I n)) t (n+1)) fun x m=>.ok (.mk 3 n n m [x]) m
def P5(t:Bool)(n:Int):G3 Nd:=
 if word I n=(⟨#[46]⟩:ByteArray) then bnd (rH I (n+1)) fun y m=>.ok (.mk 5 n n m [E3 0 n,y]) m else
 if B9 I n=1 then bnd (Q7 I n) fun x m=>bnd (rH I m) fun y m=>.ok (.mk 5 (-1) n m [x,y]) m else bnd (rH I n) fun y m=>.ok (.mk 5 (-1) n m [E3 0 n,y]) m
def V1(must:Bool)(t:Bool)(n:Int):G3 Nd:=if word I n=(⟨#[61]⟩:ByteArray) then g .exprs t (n+1) else if must=true then .err n else .ok (E3 0 n) n
def R9(t:Bool)(n:Int):G3 Nd:=bnd (g .names t n) fun x m=>
 if word I m=(⟨#[59]⟩:ByteArray)∨word I m=(⟨#[41]⟩:ByteArray)∨m=I.L then .ok (.mk 6 (-1) n m [x,E3 0 m,E3 0 m]) m else
 if word I m=(⟨#[61]⟩:ByteArray) then bnd (V1 I g true t m) fun z m'=>.ok (.mk 6 (-1) n m' [x,E3 0 m,z]) m' else
 bnd (g .typ t m) fun y m=>bnd (V1 I g true t m) fun z m=>.ok (.mk 6 (-1) n m [x,y,z]) m
def R4(t:Bool)(n:Int):G3 Nd:=bnd (g .names t n) fun x m=>
 if word I m=(⟨#[61]⟩:ByteArray) then bnd (V1 I g false t m) fun z m'=>.ok (.mk 6 (-1) n m' [x,E3 0 m,z]) m' else
 bnd (g .typ t m) fun y m=>bnd (V1 I g false t m) fun z m=>.ok (.mk 6 (-1) n m [x,y,z]) m
def U5(n:Int):Prop:=word I n=(⟨#[91]⟩:ByteArray)∧B9 I (n+1)=1∧((word I (n+2)=(⟨#[44]⟩:ByteArray)∨word I (n+2)=(⟨#[126]⟩:ByteArray)∨word I (n+2)=(⟨#[105,110,116,101,114,102,97,99,101]⟩:ByteArray)∨word I (n+2)=(⟨#[102,117,110,99]⟩:ByteArray)∨word I (n+2)=(⟨#[109,97,112]⟩:ByteArray)∨word I (n+2)=(⟨#[99,104,97,110]⟩:ByteArray)∨word I (n+2)=(⟨#[115,116,114,117,99,116]⟩:ByteArray))∨B9 I (n+2)=1)
instance (n:Int):Decidable (U5 I n):=by unfold U5;exact inferInstance
def U6(t:Bool)(n:Int):G3 Nd:=bnd (Q7 I n) fun x m=>bnd (if U5 I m then g .tparams t m else .ok (E3 0 m) m) fun y m=>
 if word I m=(⟨#[61]⟩:ByteArray) then bnd (g .typ t (m+1)) fun z m'=>.ok (.mk 7 m n m' [x,y,z]) m' else bnd (g .typ t m) fun z m'=>.ok (.mk 7 (-1) n m' [x,y,z]) m'
def Mx(t:Bool)(n:Int):G3 Nd:=bnd (want I (⟨#[102,117,110,99]⟩:ByteArray) n) fun _ m=>bnd (if word I m=(⟨#[40]⟩:ByteArray) then g .params t m else .ok (E3 0 m) m) fun r m=>bnd (Q7 I m) fun x m=>
 bnd (if word I m=(⟨#[91]⟩:ByteArray) then g .tparams t m else .ok (E3 0 m) m) fun y m=>bnd (g .signature t m) fun z m=>bnd (if word I m=(⟨#[123]⟩:ByteArray) then g .block t m else .ok (E3 0 m) m) fun b m=>.ok (.mk 8 (-1) n m [r,x,y,z,b]) m
def gY(t:Bool):Nat→List Nd→Int→G3 (List Nd)
 |0,_,_=>.err 0
 |f+1,acc,n=>if word I n=(⟨#[105,109,112,111,114,116]⟩:ByteArray) then bnd (g .group t n) fun x m=>bnd (want I (⟨#[59]⟩:ByteArray) m) fun _ m=>gY t f (acc++[x]) m else .ok acc n
def R8(t:Bool):Nat→List Nd→Int→G3 (List Nd)
 |0,_,_=>.err 0
 |f+1,acc,n=>
  if word I n=(⟨#[99,111,110,115,116]⟩:ByteArray)∨word I n=(⟨#[118,97,114]⟩:ByteArray)∨word I n=(⟨#[116,121,112,101]⟩:ByteArray) then bnd (g .group t n) fun x m=>bnd (want I (⟨#[59]⟩:ByteArray) m) fun _ m=>R8 t f (acc++[x]) m else
  if word I n=(⟨#[102,117,110,99]⟩:ByteArray) then bnd (g .fn t n) fun x m=>bnd (want I (⟨#[59]⟩:ByteArray) m) fun _ m=>R8 t f (acc++[x]) m else .ok acc n
def jQ(t:Bool)(n:Int):G3 Nd:=bnd (want I (⟨#[112,97,99,107,97,103,101]⟩:ByteArray) n) fun _ m=>bnd (Q7 I m) fun x m=>bnd (want I (⟨#[59]⟩:ByteArray) m) fun _ m=>bnd (gY I g t (F6 I m) [] m) fun l m=>
 bnd (R8 I g t (F6 I m) [] m) fun k m'=>.ok (.mk 1 (-1) n m' [x,K3 2 l m,K3 2 k m']) m'
def nJ(t:Bool)(n:Int):G3 Nd:=g .anyStmts false n
def lP(t:Bool):Nat→List Nd→Int→G3 (List Nd)
 |0,_,_=>.err 0
 |f+1,acc,n=>if word I n=(⟨#[125]⟩:ByteArray)∨word I n=(⟨#[99,97,115,101]⟩:ByteArray)∨word I n=(⟨#[100,101,102,97,117,108,116]⟩:ByteArray)∨n=I.L then .ok acc n else
  if word I n=(⟨#[59]⟩:ByteArray) then lP t f (acc++[E3 49 n]) (n+1) else bnd (g .stmt t n) fun x m=>
   if word I m=(⟨#[125]⟩:ByteArray)∨m=I.L then lP t f (acc++[x]) m else bnd (want I (⟨#[59]⟩:ByteArray) m) fun _ m=>lP t f (acc++[x]) m
def V4(t:Bool)(n:Int):G3 Nd:=bnd (lP I g t (F6 I n) [] n) fun l m=>.ok (K3 13 l m) m
def gP(t:Bool)(n:Int):G3 Nd:=bnd (want I (⟨#[123]⟩:ByteArray) n) fun _ m=>bnd (g .stmts t m) fun x m=>bnd (want I (⟨#[125]⟩:ByteArray) m) fun _ m=>.ok (.mk 58 (-1) n m [x]) m
def bS(n:Int):Prop:=word I n=(⟨#[59]⟩:ByteArray)∨word I n=(⟨#[125]⟩:ByteArray)∨n=I.L
instance (n:Int):Decidable (bS I n):=by unfold bS;exact inferInstance
def F8(t:Bool)(n:Int):G3 Nd:=
 if word I n=(⟨#[99,111,110,115,116]⟩:ByteArray)∨word I n=(⟨#[118,97,114]⟩:ByteArray)∨word I n=(⟨#[116,121,112,101]⟩:ByteArray) then g .declared t n else
 if word I n=(⟨#[103,111]⟩:ByteArray)∨word I n=(⟨#[100,101,102,101,114]⟩:ByteArray) then g .started t n else
 if word I n=(⟨#[114,101,116,117,114,110]⟩:ByteArray) then g .returned t n else
 if word I n=(⟨#[98,114,101,97,107]⟩:ByteArray)∨word I n=(⟨#[99,111,110,116,105,110,117,101]⟩:ByteArray)∨word I n=(⟨#[103,111,116,111]⟩:ByteArray)∨word I n=(⟨#[102,97,108,108,116,104,114,111,117,103,104]⟩:ByteArray) then g .branch t n else
 if word I n=(⟨#[123]⟩:ByteArray) then g .block t n else
 if word I n=(⟨#[105,102]⟩:ByteArray) then g .ifs t n else
 if word I n=(⟨#[115,119,105,116,99,104]⟩:ByteArray) then g .switches t n else
 if word I n=(⟨#[115,101,108,101,99,116]⟩:ByteArray) then g .selects t n else
 if word I n=(⟨#[102,111,114]⟩:ByteArray) then g .fors t n else
 if B9 I n=1∧word I (n+1)=(⟨#[58]⟩:ByteArray) then bnd (Q7 I n) fun x m=>(if bS I (m+1) then .ok (.mk 67 (-1) n (m+1) [x,E3 49 (m+1)]) (m+1) else bnd (g .stmt t (m+1)) fun y m=>.ok (.mk 67 (-1) n m [x,y]) m)
 else g .simple t n
def cQ(t:Bool)(n:Int):G3 Nd:=bnd (g .group t n) fun x m=>.ok (.mk 68 (-1) n m [x]) m
def Z3(t:Bool)(n:Int):G3 Nd:=bnd (g .expr t (n+1)) fun x m=>.ok (.mk (if word I n=(⟨#[100,101,102,101,114]⟩:ByteArray) then 55 else 54) (-1) n m [x]) m
def U9(t:Bool)(n:Int):G3 Nd:=if bS I (n+1) then .ok (.mk 56 (-1) n (n+1) [E3 11 (n+1)]) (n+1) else bnd (g .exprs t (n+1)) fun x m=>.ok (.mk 56 (-1) n m [x]) m
def cJ(t:Bool)(n:Int):G3 Nd:=if word I n=(⟨#[103,111,116,111]⟩:ByteArray)∨¬ word I n=(⟨#[102,97,108,108,116,104,114,111,117,103,104]⟩:ByteArray)∧B9 I (n+1)=1 then bnd (Q7 I (n+1)) fun x m=>.ok (.mk 57 n n m [x]) m else .ok (.mk 57 n n (n+1) [E3 0 (n+1)]) (n+1)
def M4(w:ByteArray):Prop:=w=(⟨#[61]⟩:ByteArray)∨w=(⟨#[58,61]⟩:ByteArray)∨w=(⟨#[43,61]⟩:ByteArray)∨w=(⟨#[45,61]⟩:ByteArray)∨w=(⟨#[42,61]⟩:ByteArray)∨w=(⟨#[47,61]⟩:ByteArray)∨w=(⟨#[37,61]⟩:ByteArray)∨w=(⟨#[38,61]⟩:ByteArray)∨w=(⟨#[124,61]⟩:ByteArray)∨w=(⟨#[94,61]⟩:ByteArray)∨w=(⟨#[60,60,61]⟩:ByteArray)∨w=(⟨#[62,62,61]⟩:ByteArray)∨w=(⟨#[38,94,61]⟩:ByteArray)
instance (w:ByteArray):Decidable (M4 w):=by unfold M4;exact inferInstance
def U3(t:Bool)(frm:Int)(l:Nd)(n:Int):G3 Nd:=
 if M4 (word I n) then bnd (g .exprs t (n+1)) fun x m=>.ok (.mk 53 n frm m [l,x]) m else
 if ¬ (l.kids.length:Int)=1 then .err n else
 if word I n=(⟨#[43,43]⟩:ByteArray)∨word I n=(⟨#[45,45]⟩:ByteArray) then .ok (.mk 52 n frm (n+1) [l.kids.getD 0 I3]) (n+1) else
 if word I n=(⟨#[60,45]⟩:ByteArray) then bnd (g .expr t (n+1)) fun x m=>.ok (.mk 51 (-1) frm m [l.kids.getD 0 I3,x]) m else .ok (.mk 50 (-1) frm n [l.kids.getD 0 I3]) n
def Z4(t:Bool)(n:Int):G3 Nd:=bnd (g .exprs t n) fun l m=>U3 I g t n l m
def V8(s:Nd)(n:Int):G3 Nd:=if s.kind=50 then .ok (s.kids.getD 0 I3) n else .err n
def mV(n:Int):G3 Nd:=bnd (want I (⟨#[59]⟩:ByteArray) n) fun _ m=>g .expr true m
def iI(n:Int):G3 (Nd×Nd):=if word I n=(⟨#[59]⟩:ByteArray) then bnd (mV I g n) fun c m=>.ok (E3 0 n,c) m else bnd (g .simple true n) fun s m=>
 if word I m=(⟨#[59]⟩:ByteArray) then bnd (mV I g m) fun c m=>.ok (s,c) m else bnd (V8 s m) fun c m=>.ok (E3 0 n,c) m
def zH(t:Bool)(n:Int):G3 Nd:=bnd (iI I g (n+1)) fun h m=>bnd (g .block t m) fun b m=>
 if word I m=(⟨#[101,108,115,101]⟩:ByteArray) then (if word I (m+1)=(⟨#[105,102]⟩:ByteArray) then bnd (g .ifs t (m+1)) fun o m=>.ok (.mk 59 (-1) n m [h.1,h.2,b,o]) m else bnd (g .block t (m+1)) fun o m=>.ok (.mk 59 (-1) n m [h.1,h.2,b,o]) m)
 else .ok (.mk 59 (-1) n m [h.1,h.2,b,E3 0 m]) m
def pZ(kind:Int)(one:Int→G3 Nd):Nat→List Nd→Int→G3 (List Nd)
 |0,_,_=>.err 0
 |f+1,acc,n=>if word I n=(⟨#[125]⟩:ByteArray) then .ok acc n else
  bnd (if word I n=(⟨#[100,101,102,97,117,108,116]⟩:ByteArray) then .ok (E3 0 (n+1)) (n+1) else bnd (want I (⟨#[99,97,115,101]⟩:ByteArray) n) fun _ m=>one m) fun x m=>bnd (want I (⟨#[58]⟩:ByteArray) m) fun _ m=>bnd (g .stmts false m) fun y m=>
   pZ kind one f (acc++[.mk kind (-1) n m [x,y]]) m
def P7(kind:Int)(one:Int→G3 Nd)(n:Int):G3 Nd:=bnd (want I (⟨#[123]⟩:ByteArray) n) fun _ m=>bnd (pZ I g kind one (F6 I m) [] m) fun l m=>bnd (want I (⟨#[125]⟩:ByteArray) m) fun _ m'=>.ok (K3 25 l m) m'
def aL(s:Nd):Option (Nd×Nd):=
 if s.kind=50∧(s.kids.getD 0 I3).kind=33 then some (.mk 0 (-1) s.frm s.frm [],(s.kids.getD 0 I3).kids.getD 0 I3) else
 if s.kind=53∧word I s.word=(⟨#[58,61]⟩:ByteArray)∧((s.kids.getD 0 I3).kids.length:Int)=1∧((s.kids.getD 1 I3).kids.length:Int)=1∧((s.kids.getD 0 I3).kids.getD 0 I3).kind=26∧((s.kids.getD 1 I3).kids.getD 0 I3).kind=33 then
  some ((s.kids.getD 0 I3).kids.getD 0 I3,((s.kids.getD 1 I3).kids.getD 0 I3).kids.getD 0 I3) else none
def bU(n:Int)(first tag:Nd)(s:Option Nd)(m:Int):G3 Nd:=match s with
 |none=>bnd (P7 I g 62 (g .exprs false) m) fun c m=>.ok (.mk 60 (-1) n m [first,tag,c]) m
 |some s=>match aL I s with
  |some (a,x)=>bnd (P7 I g 62 (g .types false) m) fun c m=>.ok (.mk 61 (-1) n m [first,a,x,c]) m
  |none=>bnd (V8 s m) fun y m=>bnd (P7 I g 62 (g .exprs false) m) fun c m=>.ok (.mk 60 (-1) n m [first,y,c]) m
def eM(n:Int)(first:Nd)(m:Int):G3 Nd:=if word I m=(⟨#[123]⟩:ByteArray) then bU I g n first (E3 0 m) none m else bnd (g .simple true m) fun s m'=>bU I g n first (E3 0 m) (some s) m'
def J6(t:Bool)(n:Int):G3 Nd:=
 if word I (n+1)=(⟨#[123]⟩:ByteArray) then bU I g n (E3 0 (n+1)) (E3 0 (n+1)) none (n+1) else
 if word I (n+1)=(⟨#[59]⟩:ByteArray) then eM I g n (E3 0 (n+1)) (n+1+1) else
 bnd (g .simple true (n+1)) fun s m=>if word I m=(⟨#[59]⟩:ByteArray) then eM I g n s (m+1) else bU I g n (E3 0 (n+1)) (E3 0 (n+1)) (some s) m
def dT(t:Bool)(n:Int):G3 Nd:=jG I 11 (⟨#[44]⟩:ByteArray) (g .typ t) n
def Z5(t:Bool)(n:Int):G3 Nd:=bnd (P7 I g 64 (g .simple false) (n+1)) fun c m=>.ok (.mk 63 (-1) n m [c]) m
def N8(t:Bool)(w frm:Int)(l:Nd)(n:Int):G3 Nd:=bnd (want I (⟨#[114,97,110,103,101]⟩:ByteArray) n) fun _ m=>bnd (g .expr true m) fun x m=>bnd (g .block t m) fun b m=>.ok (.mk 66 w frm m [l,x,b]) m
def T6(t:Bool)(n:Int)(first cond:Nd)(m:Int):G3 Nd:=bnd (if word I m=(⟨#[123]⟩:ByteArray) then .ok (E3 0 m) m else g .simple true m) fun l m=>bnd (g .block t m) fun b m=>.ok (.mk 65 (-1) n m [first,cond,l,b]) m
def Q1(t:Bool)(n:Int)(first:Nd)(m:Int):G3 Nd:=bnd (want I (⟨#[59]⟩:ByteArray) m) fun _ m=>
 bnd (if word I m=(⟨#[59]⟩:ByteArray) then .ok (E3 0 m) m else g .expr true m) fun c m=>bnd (want I (⟨#[59]⟩:ByteArray) m) fun _ m=>T6 I g t n first c m
def W9(t:Bool)(n:Int):G3 Nd:=
 if word I (n+1)=(⟨#[123]⟩:ByteArray) then bnd (g .block t (n+1)) fun b m=>.ok (.mk 65 (-1) n m [E3 0 (n+1),E3 0 (n+1),E3 0 (n+1),b]) m else
 if word I (n+1)=(⟨#[114,97,110,103,101]⟩:ByteArray) then N8 I g t (-1) n (E3 0 (n+1)) (n+1) else
 if word I (n+1)=(⟨#[59]⟩:ByteArray) then Q1 I g t n (E3 0 (n+1)) (n+1) else
 bnd (g .exprs true (n+1)) fun l m=>if (word I m=(⟨#[61]⟩:ByteArray)∨word I m=(⟨#[58,61]⟩:ByteArray))∧word I (m+1)=(⟨#[114,97,110,103,101]⟩:ByteArray) then N8 I g t m n l (m+1) else
  bnd (U3 I g true (n+1) l m) fun s m=>if word I m=(⟨#[59]⟩:ByteArray) then Q1 I g t n s m else bnd (V8 s m) fun x m=>bnd (g .block t m) fun b m'=>.ok (.mk 65 (-1) n m' [E3 0 (n+1),x,E3 0 m,b]) m'
def step:Gt
 |.expr=>xG g|.binary k=>bD I g k|.unary=>fQ I g|.operand=>Z8 I g|.primary=>W3 I g|.exprs=>eB I g|.element=>aE I g|.value=>fO I g|.elements=>V2 I g
 |.typ=>Cm g|.anyType=>fK I g|.typeName=>U7 I g|.signature=>R5 I g|.params=>cG I g|.param=>gF I g|.tparams=>Z2 I g|.names=>dX I|.union=>fP I g
 |.block=>gP I g|.stmts=>nJ g|.anyStmts=>V4 I g|.stmt=>F8 I g|.simple=>Z4 I g
 |.ifs=>zH I g|.switches=>J6 I g|.selects=>Z5 I g|.fors=>W9 I g|.declared=>cQ g|.started=>Z3 I g|.returned=>U9 I g|.branch=>cJ I
 |.group=>R6 I g|.valueSpec=>R4 I g|.constSpec=>R9 I g|.importSpec=>P5 I|.typeSpec=>U6 I g|.fn=>Mx I g|.file=>jQ I g
 |.field=>gJ I g|.elem=>mP I g|.types=>dT I g
end
def G(I:In):Nat→Gt
 |0=>fun _ _ _=>.err 0
 |f+1=>step I (G I f)
def A6:Fn→Int
 |.importSpec=>0|.names=>0|.branch=>0
 |.params=>1|.tparams=>1|.signature=>2|.block=>1|.elements=>1
 |.typeName=>1|.anyType=>3|.typ=>4|.union=>5|.elem=>6|.field=>6|.param=>6 |.types=>6
 |.operand=>6|.primary=>7|.unary=>8|.binary _=>9|.expr=>10|.exprs=>11|.value=>11|.element=>12
 |.simple=>13|.valueSpec=>7|.constSpec=>7|.typeSpec=>7|.group=>2|.declared=>3|.started=>1|.returned=>1
 |.fn=>3|.ifs=>2|.switches=>2|.selects=>2|.fors=>2|.stmt=>20|.anyStmts=>21|.stmts=>22|.file=>23
def C5(I:In)(f:Fn)(n:Int):Int:=32*(I.L+1-n)+A6 f
end Go.Ex
