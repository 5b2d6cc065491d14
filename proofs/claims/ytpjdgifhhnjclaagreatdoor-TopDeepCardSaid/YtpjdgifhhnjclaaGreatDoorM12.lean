/-
  Top: TopDeep: whatever the input, the law answers true (part 12)
-/
import Derived.Test.YtpjdgifhhnjclaaGreatDoorM11
set_option linter.unusedVariables false
set_option linter.unusedSimpArgs false
set_option maxHeartbeats 4000000
set_option maxRecDepth 10000
namespace Go.Ex
open Go.Proofs
structure In where
 s:ByteArray
 toks:List Tok
 pair:List Int
def In.L(I:In):Int:=I.toks.length
inductive Nd where
 |mk (kind word frm to:Int) (kids:List Nd)
def Nd.kind:Nd→Int|.mk k _ _ _ _=>k
def Nd.word:Nd→Int|.mk _ w _ _ _=>w
def Nd.frm:Nd→Int|.mk _ _ f _ _=>f
def Nd.to:Nd→Int|.mk _ _ _ t _=>t
def Nd.kids:Nd→List Nd|.mk _ _ _ _ l=>l
def nd0:Nd:=.mk 0 0 0 0 []
inductive Out (α:Type) where
 |ok (a:α) (n:Int)
 |err (x:Int)
def bnd{α β:Type}(o:Out α)(f:α→Int→Out β):Out β:=match o with
 |.ok a n=>f a n
 |.err x=>.err x
theorem bnd_ok{α β:Type}(a:α)(n:Int)(f:α→Int→Out β):bnd (.ok a n) f=f a n:=rfl
theorem bnd_err{α β:Type}(x:Int)(f:α→Int→Out β):bnd (.err x) f = .err x:=rfl
def kindT(I:In)(n:Int):Int:=if n<0∨I.L≤n then 0 else (getI tokR.dflt I.toks n).kind
def word(I:In)(n:Int):ByteArray:=if n<0∨I.L≤n then ⟨#[]⟩ else if (getI tokR.dflt I.toks n).kind=9 then (⟨#[59]⟩:ByteArray) else
 if (getI tokR.dflt I.toks n).kind=8∨(getI tokR.dflt I.toks n).kind=2 then I.s.extract (getI tokR.dflt I.toks n).frm.toNat (getI tokR.dflt I.toks n).to.toNat else ⟨#[]⟩
inductive Fn where
 |expr|binary (k:Int)|unary|operand|primary|exprs|element|value|elements
 |typ|anyType|typeName|signature|params|param|tparams|names|union|block|stmts|anyStmts|stmt|simple
 |ifs|switches|selects|fors|declared|started|returned|branch|group|valueSpec|constSpec|importSpec|typeSpec|fn|file
 |field|elem|types
abbrev Gt:=Fn→Bool→Int→Out Nd
def want(I:In)(w:ByteArray)(n:Int):Out Unit:=if word I n=w then .ok () (n+1) else .err n
def noneN(k n:Int):Nd:=.mk k (-1) n n []
def leafN(k n:Int):Nd:=.mk k n n (n+1) []
def nameS(I:In)(n:Int):Out Nd:=if kindT I n=1 then .ok (leafN 26 n) (n+1) else .err n
def strS(I:In)(n:Int):Out Nd:=if kindT I n=7 then .ok (leafN 27 n) (n+1) else .err n
def listN(k:Int)(l:List Nd)(n:Int):Nd:=match l with
 |[]=>noneN k n
 |x::r=>.mk k (-1) x.frm ((x::r).getLastD nd0).to (x::r)
def sepGo(I:In)(w:ByteArray)(one:Int→Out Nd):Nat→List Nd→Int→Out (List Nd)
 |0,_,_=>.err 0
 |f+1,acc,n=>if word I n=w then bnd (one (n+1)) fun x m=>sepGo I w one f (acc++[x]) m else .ok acc n
def fuel(I:In)(n:Int):Nat:=(I.L+1-n).toNat
def sepS(I:In)(k:Int)(w:ByteArray)(one:Int→Out Nd)(n:Int):Out Nd:=bnd (one n) fun x m=>bnd (sepGo I w one (fuel I m) [x] m) fun l m=>.ok (listN k l m) m
def rowsGo(I:In)(mark shut:ByteArray)(one:Int→Int→Out (Nd×Int)):Nat→Int→List Nd→Int→Out (List Nd×Int)
 |0,_,_,_=>.err 0
 |f+1,w,acc,n=>if word I n=shut then .ok (acc,w) n else bnd (one w n) fun x m=>
  if word I m=shut then rowsGo I mark shut one f x.2 (acc++[x.1]) m else bnd (want I mark m) fun _ m=>rowsGo I mark shut one f x.2 (acc++[x.1]) m
def rowsS(I:In)(op mark shut:ByteArray)(one:Int→Int→Out (Nd×Int))(w n:Int):Out (List Nd×Int):=bnd (want I op n) fun _ m=>rowsGo I mark shut one (fuel I m) w [] m
def pl(one:Int→Out Nd)(w n:Int):Out (Nd×Int):=bnd (one n) fun x m=>.ok (x,w) m
def levelF(w:ByteArray):Int:=if w=(⟨#[124,124]⟩:ByteArray) then 1 else if w=(⟨#[38,38]⟩:ByteArray) then 2 else
 if w=(⟨#[61,61]⟩:ByteArray)∨w=(⟨#[33,61]⟩:ByteArray)∨w=(⟨#[60]⟩:ByteArray)∨w=(⟨#[60,61]⟩:ByteArray)∨w=(⟨#[62]⟩:ByteArray)∨w=(⟨#[62,61]⟩:ByteArray) then 3 else
 if w=(⟨#[43]⟩:ByteArray)∨w=(⟨#[45]⟩:ByteArray)∨w=(⟨#[124]⟩:ByteArray)∨w=(⟨#[94]⟩:ByteArray) then 4 else
 if w=(⟨#[42]⟩:ByteArray)∨w=(⟨#[47]⟩:ByteArray)∨w=(⟨#[37]⟩:ByteArray)∨w=(⟨#[60,60]⟩:ByteArray)∨w=(⟨#[62,62]⟩:ByteArray)∨w=(⟨#[38]⟩:ByteArray)∨w=(⟨#[38,94]⟩:ByteArray) then 5 else 0
section
variable (I:In)(g:Gt)
def exprsS(t:Bool)(n:Int):Out Nd:=sepS I 11 (⟨#[44]⟩:ByteArray) (g .expr t) n
def exprS(t:Bool)(n:Int):Out Nd:=g (.binary 1) t n
def binGo(t:Bool)(least frm:Int):Nat→Nd→Int→Out Nd
 |0,_,_=>.err 0
 |f+1,x,n=>if levelF (word I n)<least then .ok x n else bnd (g (.binary (levelF (word I n)+1)) t (n+1)) fun y m=>binGo t least frm f (.mk 37 n frm m [x,y]) m
def binaryS(least:Int)(t:Bool)(n:Int):Out Nd:=bnd (g .unary t n) fun x m=>binGo I g t least n (fuel I m) x m
def unaryS(t:Bool)(n:Int):Out Nd:=
 if word I n=(⟨#[60,45]⟩:ByteArray) then (if word I (n+1)=(⟨#[99,104,97,110]⟩:ByteArray) then g .primary t n else bnd (g .unary t (n+1)) fun x m=>.ok (.mk 36 n n m [x]) m) else
 if word I n=(⟨#[43]⟩:ByteArray)∨word I n=(⟨#[45]⟩:ByteArray)∨word I n=(⟨#[33]⟩:ByteArray)∨word I n=(⟨#[94]⟩:ByteArray)∨word I n=(⟨#[38]⟩:ByteArray) then bnd (g .unary t (n+1)) fun x m=>.ok (.mk 36 n n m [x]) m else
 if word I n=(⟨#[42]⟩:ByteArray) then bnd (g .unary t (n+1)) fun x m=>.ok (.mk 35 (-1) n m [x]) m else g .primary t n
def Lit(I:In)(n:Int):Prop:=3≤kindT I n∧kindT I n≤7
instance (n:Int):Decidable (Lit I n):=by unfold Lit;exact inferInstance
def operandS(t:Bool)(n:Int):Out Nd:=
 if Lit I n then .ok (leafN 27 n) (n+1) else
 if word I n=(⟨#[40]⟩:ByteArray) then bnd (g .expr false (n+1)) fun x m=>bnd (want I (⟨#[41]⟩:ByteArray) m) fun _ m=>.ok (.mk 28 (-1) n m [x]) m else
 if word I n=(⟨#[102,117,110,99]⟩:ByteArray) then bnd (g .signature false (n+1)) fun x m=>if word I m=(⟨#[123]⟩:ByteArray) then bnd (g .block false m) fun y m=>.ok (.mk 40 (-1) n m [x,y]) m else .ok (.mk 46 (-1) n m [x]) m else
 if word I n=(⟨#[91]⟩:ByteArray)∨word I n=(⟨#[115,116,114,117,99,116]⟩:ByteArray)∨word I n=(⟨#[109,97,112]⟩:ByteArray)∨word I n=(⟨#[99,104,97,110]⟩:ByteArray)∨word I n=(⟨#[105,110,116,101,114,102,97,99,101]⟩:ByteArray)∨word I n=(⟨#[60,45]⟩:ByteArray) then
  (if word I n=(⟨#[60,45]⟩:ByteArray)∧¬ word I (n+1)=(⟨#[99,104,97,110]⟩:ByteArray) then .err n else g .typ t n) else nameS I n
def plainN(x:Nd):Prop:=x.kind=26∨x.kind=29∧(x.kids.getD 0 nd0).kind=26
instance (x:Nd):Decidable (plainN x):=by unfold plainN;exact inferInstance
def filledN(t:Bool)(x:Nd):Prop:=x.kind=41∨x.kind=42∨x.kind=43∨x.kind=44∨x.kind=47∨t=false∧plainN (if x.kind=30 then x.kids.getD 0 nd0 else x)
instance (t:Bool) (x:Nd):Decidable (filledN t x):=by unfold filledN;exact inferInstance
def dotS(t:Bool)(frm:Int)(x:Nd)(n:Int):Out Nd:=
 if word I n=(⟨#[40]⟩:ByteArray) then
  (if word I (n+1)=(⟨#[116,121,112,101]⟩:ByteArray) then bnd (want I (⟨#[41]⟩:ByteArray) (n+1+1)) fun _ m=>.ok (.mk 33 (-1) frm m [x]) m else bnd (g .typ t (n+1)) fun y m=>bnd (want I (⟨#[41]⟩:ByteArray) m) fun _ m=>.ok (.mk 32 (-1) frm m [x,y]) m)
 else bnd (nameS I n) fun y m=>.ok (.mk 29 (-1) frm m [x,y]) m
def argS(w n:Int):Out (Nd×Int):=if 0≤w then .err n else bnd (g .expr false n) fun x m=>if word I m=(⟨#[46,46,46]⟩:ByteArray) then .ok (x,m) (m+1) else .ok (x,w) m
def callS(frm:Int)(x:Nd)(n:Int):Out Nd:=bnd (rowsS I (⟨#[40]⟩:ByteArray) (⟨#[44]⟩:ByteArray) (⟨#[41]⟩:ByteArray) (argS I g) (-1) n) fun l m=>bnd (want I (⟨#[41]⟩:ByteArray) m) fun _ m'=>.ok (.mk 34 l.2 frm m' [x,listN 11 l.1 m]) m'
def sliceS(frm:Int)(x lo:Nd)(n:Int):Out Nd:=
 if word I n=(⟨#[93]⟩:ByteArray) then .ok (.mk 31 (-1) frm (n+1) [x,lo,noneN 0 n,noneN 0 n]) (n+1) else bnd (g .expr false n) fun hi m=>
  if word I m=(⟨#[58]⟩:ByteArray) then bnd (g .expr false (m+1)) fun mo m=>bnd (want I (⟨#[93]⟩:ByteArray) m) fun _ m=>.ok (.mk 31 (-1) frm m [x,lo,hi,mo]) m
  else bnd (want I (⟨#[93]⟩:ByteArray) m) fun _ m'=>.ok (.mk 31 (-1) frm m' [x,lo,hi,noneN 0 m]) m'
def idxGo:Nat→List Nd→Int→Out (List Nd)
 |0,_,_=>.err 0
 |f+1,acc,n=>if word I n=(⟨#[44]⟩:ByteArray)∧¬ word I (n+1)=(⟨#[93]⟩:ByteArray) then bnd (g .expr false (n+1)) fun x m=>idxGo f (acc++[x]) m else .ok acc n
def maybe(w:ByteArray)(n:Int):Int:=if word I n=w then n+1 else n
def indexS(frm:Int)(x:Nd)(n:Int):Out Nd:=
 if word I n=(⟨#[58]⟩:ByteArray) then sliceS I g frm x (noneN 0 n) (n+1) else bnd (g .expr false n) fun lo m=>
  if word I m=(⟨#[58]⟩:ByteArray) then sliceS I g frm x lo (m+1) else bnd (idxGo I g (fuel I m) [lo] m) fun l m=>
   bnd (want I (⟨#[93]⟩:ByteArray) (maybe I (⟨#[44]⟩:ByteArray) m)) fun _ m'=>.ok (.mk 30 (-1) frm m' [x,listN 11 l m]) m'
def primGo(t:Bool)(frm:Int):Nat→Nd→Int→Out Nd
 |0,_,_=>.err 0
 |f+1,x,n=>
  if word I n=(⟨#[46]⟩:ByteArray) then bnd (dotS I g t frm x (n+1)) (primGo t frm f) else
  if word I n=(⟨#[40]⟩:ByteArray) then bnd (callS I g frm x n) (primGo t frm f) else
  if word I n=(⟨#[91]⟩:ByteArray) then bnd (indexS I g frm x (n+1)) (primGo t frm f) else
  if word I n=(⟨#[123]⟩:ByteArray)∧filledN t x then bnd (g .elements t n) fun e m=>primGo t frm f (.mk 39 (-1) frm m [x,e]) m else .ok x n
def primaryS(t:Bool)(n:Int):Out Nd:=bnd (g .operand t n) fun x m=>primGo I g t n (fuel I m) x m
def elementsS(t:Bool)(n:Int):Out Nd:=bnd (rowsS I (⟨#[123]⟩:ByteArray) (⟨#[44]⟩:ByteArray) (⟨#[125]⟩:ByteArray) (pl (g .element false)) (-1) n) fun l m=>bnd (want I (⟨#[125]⟩:ByteArray) m) fun _ m'=>.ok (listN 12 l.1 m) m'
def elementS(t:Bool)(n:Int):Out Nd:=bnd (g .value t n) fun x m=>if word I m=(⟨#[58]⟩:ByteArray) then bnd (g .value t (m+1)) fun y m=>.ok (.mk 38 (-1) n m [x,y]) m else .ok x m
def valueS(t:Bool)(n:Int):Out Nd:=if word I n=(⟨#[123]⟩:ByteArray) then bnd (g .elements t n) fun e m=>.ok (.mk 39 (-1) n m [noneN 0 n,e]) m else g .expr t n
def typS(t:Bool)(n:Int):Out Nd:=g .anyType false n
def wrapS(k w frm:Int)(l:List Nd)(t:Bool)(n:Int):Out Nd:=bnd (g .typ t n) fun x m=>.ok (.mk k w frm m (l++[x])) m
def rowS(frm:Int)(t:Bool)(n:Int):Out Nd:=
 if word I n=(⟨#[93]⟩:ByteArray) then wrapS g 43 (-1) frm [] t (n+1) else
 if word I n=(⟨#[46,46,46]⟩:ByteArray) then bnd (want I (⟨#[93]⟩:ByteArray) (n+1)) fun _ m=>wrapS g 42 (-1) frm [] t m else
 bnd (g .expr false n) fun x m=>bnd (want I (⟨#[93]⟩:ByteArray) m) fun _ m=>wrapS g 41 (-1) frm [x] t m
def membersS(k kk:Int)(one:Int→Out Nd)(frm n:Int):Out Nd:=bnd (rowsS I (⟨#[123]⟩:ByteArray) (⟨#[59]⟩:ByteArray) (⟨#[125]⟩:ByteArray) (pl one) (-1) n) fun l m=>bnd (want I (⟨#[125]⟩:ByteArray) m) fun _ m'=>.ok (.mk k (-1) frm m' [listN kk l.1 m]) m'
def aTS(t:Bool)(n:Int):Out Nd:=
 if kindT I n=1 then g .typeName t n else
 if word I n=(⟨#[42]⟩:ByteArray) then wrapS g 35 (-1) n [] t (n+1) else
 if word I n=(⟨#[40]⟩:ByteArray) then bnd (g .typ t (n+1)) fun x m=>bnd (want I (⟨#[41]⟩:ByteArray) m) fun _ m=>.ok (.mk 28 (-1) n m [x]) m else
 if word I n=(⟨#[91]⟩:ByteArray) then rowS I g n t (n+1) else
 if word I n=(⟨#[109,97,112]⟩:ByteArray) then bnd (want I (⟨#[91]⟩:ByteArray) (n+1)) fun _ m=>bnd (g .typ t m) fun x m=>bnd (want I (⟨#[93]⟩:ByteArray) m) fun _ m=>wrapS g 44 (-1) n [x] t m else
 if word I n=(⟨#[99,104,97,110]⟩:ByteArray) then wrapS g 45 n n [] t (maybe I (⟨#[60,45]⟩:ByteArray) (n+1)) else
 if word I n=(⟨#[60,45]⟩:ByteArray) then bnd (want I (⟨#[99,104,97,110]⟩:ByteArray) (n+1)) fun _ m=>wrapS g 45 n n [] t m else
 if word I n=(⟨#[102,117,110,99]⟩:ByteArray) then bnd (g .signature t (n+1)) fun x m=>.ok (.mk 46 (-1) n m [x]) m else
 if word I n=(⟨#[115,116,114,117,99,116]⟩:ByteArray) then membersS I 47 20 (g .field t) n (n+1) else
 if word I n=(⟨#[105,110,116,101,114,102,97,99,101]⟩:ByteArray) then membersS I 48 23 (g .elem t) n (n+1) else .err n
def argumentsS(t:Bool)(n:Int):Out Nd:=if word I (n+1)=(⟨#[93]⟩:ByteArray) then .err (n+1) else bnd (rowsS I (⟨#[91]⟩:ByteArray) (⟨#[44]⟩:ByteArray) (⟨#[93]⟩:ByteArray) (pl (g .typ t)) (-1) n) fun l m=>bnd (want I (⟨#[93]⟩:ByteArray) m) fun _ m'=>.ok (listN 11 l.1 m) m'
def typeNameS(t:Bool)(n:Int):Out Nd:=bnd (nameS I n) fun x m=>
 if word I m=(⟨#[46]⟩:ByteArray) then bnd (nameS I (m+1)) fun y m=>(if word I m=(⟨#[91]⟩:ByteArray) then bnd (argumentsS I g t m) fun z m'=>.ok (.mk 30 (-1) n m' [.mk 29 (-1) n m [x,y],z]) m' else .ok (.mk 29 (-1) n m [x,y]) m)
 else if word I m=(⟨#[91]⟩:ByteArray) then bnd (argumentsS I g t m) fun z m'=>.ok (.mk 30 (-1) n m' [x,z]) m' else .ok x m
def acrossP(n:Int):Prop:=word I n=(⟨#[91]⟩:ByteArray)∧¬ getI 0 I.pair n=n+1
instance (n:Int):Decidable (acrossP I n):=by unfold acrossP;exact inferInstance
def acrossN(n:Int):Int:=getI 0 I.pair n+1
def tagS(n:Int):Out Nd:=if kindT I n=7 then strS I n else .ok (noneN 0 n) n
def stopsP(n:Int):Prop:=kindT I n=7∨word I n=(⟨#[59]⟩:ByteArray)∨word I n=(⟨#[125]⟩:ByteArray)
instance (n:Int):Decidable (stopsP I n):=by unfold stopsP;exact inferInstance
def embP(n:Int):Prop:=kindT I n=1∧(stopsP I (n+1)∨word I (n+1)=(⟨#[46]⟩:ByteArray)∨acrossP I (n+1)∧stopsP I (acrossN I (n+1)))
instance (n:Int):Decidable (embP I n):=by unfold embP;exact inferInstance
def fieldS(t:Bool)(n:Int):Out Nd:=
 if word I n=(⟨#[42]⟩:ByteArray) then (if kindT I (n+1)=1 then bnd (g .typeName t (n+1)) fun x m=>bnd (tagS I m) fun y m'=>.ok (.mk 22 (-1) n m' [.mk 35 (-1) n m [x],y]) m' else .err (n+1)) else
 if embP I n then bnd (g .typeName t n) fun x m=>bnd (tagS I m) fun y m=>.ok (.mk 22 (-1) n m [x,y]) m else
 bnd (g .names t n) fun x m=>bnd (g .typ t m) fun y m=>bnd (tagS I m) fun z m=>.ok (.mk 21 (-1) n m [x,y,z]) m
def elemS(t:Bool)(n:Int):Out Nd:=if kindT I n=1∧word I (n+1)=(⟨#[40]⟩:ByteArray) then bnd (nameS I n) fun x m=>bnd (g .signature t m) fun y m=>.ok (.mk 24 (-1) n m [x,y]) m else g .union t n
def unionOne(t:Bool)(n:Int):Out Nd:=if word I n=(⟨#[126]⟩:ByteArray) then bnd (g .typ t (n+1)) fun x m=>.ok (.mk 19 (-1) n m [x]) m else g .typ t n
def unionS(t:Bool)(n:Int):Out Nd:=sepS I 18 (⟨#[124]⟩:ByteArray) (unionOne I g t) n
def namesS(t:Bool)(n:Int):Out Nd:=sepS I 10 (⟨#[44]⟩:ByteArray) (nameS I) n
def TypeW(w:ByteArray):Prop:=w=(⟨#[91]⟩:ByteArray)∨w=(⟨#[42]⟩:ByteArray)∨w=(⟨#[115,116,114,117,99,116]⟩:ByteArray)∨w=(⟨#[109,97,112]⟩:ByteArray)∨w=(⟨#[99,104,97,110]⟩:ByteArray)∨w=(⟨#[105,110,116,101,114,102,97,99,101]⟩:ByteArray)∨w=(⟨#[102,117,110,99]⟩:ByteArray)∨w=(⟨#[60,45]⟩:ByteArray)
instance (w:ByteArray):Decidable (TypeW w):=by unfold TypeW;exact inferInstance
def signatureS(t:Bool)(n:Int):Out Nd:=bnd (g .params t n) fun x m=>
 if word I m=(⟨#[40]⟩:ByteArray) then bnd (g .params t m) fun y m=>.ok (.mk 9 (-1) n m [x,y]) m else
 if TypeW (word I m)∨kindT I m=1 then bnd (g .typ t m) fun y m=>.ok (.mk 9 (-1) n m [x,y]) m else .ok (.mk 9 (-1) n m [x,noneN 0 m]) m
def paramsS(t:Bool)(n:Int):Out Nd:=bnd (rowsS I (⟨#[40]⟩:ByteArray) (⟨#[44]⟩:ByteArray) (⟨#[41]⟩:ByteArray) (pl (g .param t)) (-1) n) fun l m=>bnd (want I (⟨#[41]⟩:ByteArray) m) fun _ m=>.ok (.mk 14 (-1) n m l.1) m
def bareP(n:Int):Prop:=¬ kindT I n=1∨(word I (n+1)=(⟨#[44]⟩:ByteArray)∨word I (n+1)=(⟨#[41]⟩:ByteArray)∨word I (n+1)=(⟨#[46]⟩:ByteArray))∨acrossP I (n+1)∧(word I (acrossN I (n+1))=(⟨#[44]⟩:ByteArray)∨word I (acrossN I (n+1))=(⟨#[41]⟩:ByteArray))
instance (n:Int):Decidable (bareP I n):=by unfold bareP;exact inferInstance
def paramS(t:Bool)(n:Int):Out Nd:=bnd (if bareP I n then .ok (noneN 0 n) n else nameS I n) fun x m=>
 if word I m=(⟨#[46,46,46]⟩:ByteArray) then bnd (g .typ t (m+1)) fun y m'=>.ok (.mk 15 m n m' [x,y]) m' else bnd (g .typ t m) fun y m'=>.ok (.mk 15 (-1) n m' [x,y]) m'
def tparamS(t:Bool)(n:Int):Out Nd:=bnd (g .names t n) fun x m=>bnd (g .union t m) fun y m=>.ok (.mk 17 (-1) n m [x,y]) m
def tparamsS(t:Bool)(n:Int):Out Nd:=if word I (n+1)=(⟨#[93]⟩:ByteArray) then .err (n+1) else bnd (rowsS I (⟨#[91]⟩:ByteArray) (⟨#[44]⟩:ByteArray) (⟨#[93]⟩:ByteArray) (pl (tparamS g t)) (-1) n) fun l m=>bnd (want I (⟨#[93]⟩:ByteArray) m) fun _ m=>.ok (.mk 16 (-1) n m l.1) m
def specOf(w:ByteArray):Fn:=if w=(⟨#[105,109,112,111,114,116]⟩:ByteArray) then .importSpec else if w=(⟨#[99,111,110,115,116]⟩:ByteArray) then .constSpec else if w=(⟨#[116,121,112,101]⟩:ByteArray) then .typeSpec else .valueSpec
def groupS(t:Bool)(n:Int):Out Nd:=if word I (n+1)=(⟨#[40]⟩:ByteArray) then bnd (rowsS I (⟨#[40]⟩:ByteArray) (⟨#[59]⟩:ByteArray) (⟨#[41]⟩:ByteArray) (pl (g (specOf (word I n)) t)) (-1) (n+1)) fun l m=>bnd (want I (⟨#[41]⟩:ByteArray) m) fun _ m=>.ok (.mk 4 n n m l.1) m
 else bnd (g (specOf (word I n)) t (n+1)) fun x m=>.ok (.mk 3 n n m [x]) m
def importSpecS(t:Bool)(n:Int):Out Nd:=
 if word I n=(⟨#[46]⟩:ByteArray) then bnd (strS I (n+1)) fun y m=>.ok (.mk 5 n n m [noneN 0 n,y]) m else
 if kindT I n=1 then bnd (nameS I n) fun x m=>bnd (strS I m) fun y m=>.ok (.mk 5 (-1) n m [x,y]) m else bnd (strS I n) fun y m=>.ok (.mk 5 (-1) n m [noneN 0 n,y]) m
def equalsS(must:Bool)(t:Bool)(n:Int):Out Nd:=if word I n=(⟨#[61]⟩:ByteArray) then g .exprs t (n+1) else if must=true then .err n else .ok (noneN 0 n) n
def constSpecS(t:Bool)(n:Int):Out Nd:=bnd (g .names t n) fun x m=>
 if word I m=(⟨#[59]⟩:ByteArray)∨word I m=(⟨#[41]⟩:ByteArray)∨m=I.L then .ok (.mk 6 (-1) n m [x,noneN 0 m,noneN 0 m]) m else
 if word I m=(⟨#[61]⟩:ByteArray) then bnd (equalsS I g true t m) fun z m'=>.ok (.mk 6 (-1) n m' [x,noneN 0 m,z]) m' else
 bnd (g .typ t m) fun y m=>bnd (equalsS I g true t m) fun z m=>.ok (.mk 6 (-1) n m [x,y,z]) m
def valueSpecS(t:Bool)(n:Int):Out Nd:=bnd (g .names t n) fun x m=>
 if word I m=(⟨#[61]⟩:ByteArray) then bnd (equalsS I g false t m) fun z m'=>.ok (.mk 6 (-1) n m' [x,noneN 0 m,z]) m' else
 bnd (g .typ t m) fun y m=>bnd (equalsS I g false t m) fun z m=>.ok (.mk 6 (-1) n m [x,y,z]) m
def genericP(n:Int):Prop:=word I n=(⟨#[91]⟩:ByteArray)∧kindT I (n+1)=1∧((word I (n+2)=(⟨#[44]⟩:ByteArray)∨word I (n+2)=(⟨#[126]⟩:ByteArray)∨word I (n+2)=(⟨#[105,110,116,101,114,102,97,99,101]⟩:ByteArray)∨word I (n+2)=(⟨#[102,117,110,99]⟩:ByteArray)∨word I (n+2)=(⟨#[109,97,112]⟩:ByteArray)∨word I (n+2)=(⟨#[99,104,97,110]⟩:ByteArray)∨word I (n+2)=(⟨#[115,116,114,117,99,116]⟩:ByteArray))∨kindT I (n+2)=1)
instance (n:Int):Decidable (genericP I n):=by unfold genericP;exact inferInstance
def typeSpecS(t:Bool)(n:Int):Out Nd:=bnd (nameS I n) fun x m=>bnd (if genericP I m then g .tparams t m else .ok (noneN 0 m) m) fun y m=>
 if word I m=(⟨#[61]⟩:ByteArray) then bnd (g .typ t (m+1)) fun z m'=>.ok (.mk 7 m n m' [x,y,z]) m' else bnd (g .typ t m) fun z m'=>.ok (.mk 7 (-1) n m' [x,y,z]) m'
def fnS(t:Bool)(n:Int):Out Nd:=bnd (want I (⟨#[102,117,110,99]⟩:ByteArray) n) fun _ m=>bnd (if word I m=(⟨#[40]⟩:ByteArray) then g .params t m else .ok (noneN 0 m) m) fun r m=>bnd (nameS I m) fun x m=>
 bnd (if word I m=(⟨#[91]⟩:ByteArray) then g .tparams t m else .ok (noneN 0 m) m) fun y m=>bnd (g .signature t m) fun z m=>bnd (if word I m=(⟨#[123]⟩:ByteArray) then g .block t m else .ok (noneN 0 m) m) fun b m=>.ok (.mk 8 (-1) n m [r,x,y,z,b]) m
def impGo(t:Bool):Nat→List Nd→Int→Out (List Nd)
 |0,_,_=>.err 0
 |f+1,acc,n=>if word I n=(⟨#[105,109,112,111,114,116]⟩:ByteArray) then bnd (g .group t n) fun x m=>bnd (want I (⟨#[59]⟩:ByteArray) m) fun _ m=>impGo t f (acc++[x]) m else .ok acc n
def declGo(t:Bool):Nat→List Nd→Int→Out (List Nd)
 |0,_,_=>.err 0
 |f+1,acc,n=>
  if word I n=(⟨#[99,111,110,115,116]⟩:ByteArray)∨word I n=(⟨#[118,97,114]⟩:ByteArray)∨word I n=(⟨#[116,121,112,101]⟩:ByteArray) then bnd (g .group t n) fun x m=>bnd (want I (⟨#[59]⟩:ByteArray) m) fun _ m=>declGo t f (acc++[x]) m else
  if word I n=(⟨#[102,117,110,99]⟩:ByteArray) then bnd (g .fn t n) fun x m=>bnd (want I (⟨#[59]⟩:ByteArray) m) fun _ m=>declGo t f (acc++[x]) m else .ok acc n
def fileS(t:Bool)(n:Int):Out Nd:=bnd (want I (⟨#[112,97,99,107,97,103,101]⟩:ByteArray) n) fun _ m=>bnd (nameS I m) fun x m=>bnd (want I (⟨#[59]⟩:ByteArray) m) fun _ m=>bnd (impGo I g t (fuel I m) [] m) fun l m=>
 bnd (declGo I g t (fuel I m) [] m) fun k m'=>.ok (.mk 1 (-1) n m' [x,listN 2 l m,listN 2 k m']) m'
def stmtsS(t:Bool)(n:Int):Out Nd:=g .anyStmts false n
def stGo(t:Bool):Nat→List Nd→Int→Out (List Nd)
 |0,_,_=>.err 0
 |f+1,acc,n=>if word I n=(⟨#[125]⟩:ByteArray)∨word I n=(⟨#[99,97,115,101]⟩:ByteArray)∨word I n=(⟨#[100,101,102,97,117,108,116]⟩:ByteArray)∨n=I.L then .ok acc n else
  if word I n=(⟨#[59]⟩:ByteArray) then stGo t f (acc++[noneN 49 n]) (n+1) else bnd (g .stmt t n) fun x m=>
   if word I m=(⟨#[125]⟩:ByteArray)∨m=I.L then stGo t f (acc++[x]) m else bnd (want I (⟨#[59]⟩:ByteArray) m) fun _ m=>stGo t f (acc++[x]) m
def anyStmtsS(t:Bool)(n:Int):Out Nd:=bnd (stGo I g t (fuel I n) [] n) fun l m=>.ok (listN 13 l m) m
def blockS(t:Bool)(n:Int):Out Nd:=bnd (want I (⟨#[123]⟩:ByteArray) n) fun _ m=>bnd (g .stmts t m) fun x m=>bnd (want I (⟨#[125]⟩:ByteArray) m) fun _ m=>.ok (.mk 58 (-1) n m [x]) m
def quietP(n:Int):Prop:=word I n=(⟨#[59]⟩:ByteArray)∨word I n=(⟨#[125]⟩:ByteArray)∨n=I.L
instance (n:Int):Decidable (quietP I n):=by unfold quietP;exact inferInstance
def stmtS(t:Bool)(n:Int):Out Nd:=
 if word I n=(⟨#[99,111,110,115,116]⟩:ByteArray)∨word I n=(⟨#[118,97,114]⟩:ByteArray)∨word I n=(⟨#[116,121,112,101]⟩:ByteArray) then g .declared t n else
 if word I n=(⟨#[103,111]⟩:ByteArray)∨word I n=(⟨#[100,101,102,101,114]⟩:ByteArray) then g .started t n else
 if word I n=(⟨#[114,101,116,117,114,110]⟩:ByteArray) then g .returned t n else
 if word I n=(⟨#[98,114,101,97,107]⟩:ByteArray)∨word I n=(⟨#[99,111,110,116,105,110,117,101]⟩:ByteArray)∨word I n=(⟨#[103,111,116,111]⟩:ByteArray)∨word I n=(⟨#[102,97,108,108,116,104,114,111,117,103,104]⟩:ByteArray) then g .branch t n else
 if word I n=(⟨#[123]⟩:ByteArray) then g .block t n else
 if word I n=(⟨#[105,102]⟩:ByteArray) then g .ifs t n else
 if word I n=(⟨#[115,119,105,116,99,104]⟩:ByteArray) then g .switches t n else
 if word I n=(⟨#[115,101,108,101,99,116]⟩:ByteArray) then g .selects t n else
 if word I n=(⟨#[102,111,114]⟩:ByteArray) then g .fors t n else
 if kindT I n=1∧word I (n+1)=(⟨#[58]⟩:ByteArray) then bnd (nameS I n) fun x m=>(if quietP I (m+1) then .ok (.mk 67 (-1) n (m+1) [x,noneN 49 (m+1)]) (m+1) else bnd (g .stmt t (m+1)) fun y m=>.ok (.mk 67 (-1) n m [x,y]) m)
 else g .simple t n
def declaredS(t:Bool)(n:Int):Out Nd:=bnd (g .group t n) fun x m=>.ok (.mk 68 (-1) n m [x]) m
def startedS(t:Bool)(n:Int):Out Nd:=bnd (g .expr t (n+1)) fun x m=>.ok (.mk (if word I n=(⟨#[100,101,102,101,114]⟩:ByteArray) then 55 else 54) (-1) n m [x]) m
def returnedS(t:Bool)(n:Int):Out Nd:=if quietP I (n+1) then .ok (.mk 56 (-1) n (n+1) [noneN 11 (n+1)]) (n+1) else bnd (g .exprs t (n+1)) fun x m=>.ok (.mk 56 (-1) n m [x]) m
def branchS(t:Bool)(n:Int):Out Nd:=if word I n=(⟨#[103,111,116,111]⟩:ByteArray)∨¬ word I n=(⟨#[102,97,108,108,116,104,114,111,117,103,104]⟩:ByteArray)∧kindT I (n+1)=1 then bnd (nameS I (n+1)) fun x m=>.ok (.mk 57 n n m [x]) m else .ok (.mk 57 n n (n+1) [noneN 0 (n+1)]) (n+1)
def assignsP(w:ByteArray):Prop:=w=(⟨#[61]⟩:ByteArray)∨w=(⟨#[58,61]⟩:ByteArray)∨w=(⟨#[43,61]⟩:ByteArray)∨w=(⟨#[45,61]⟩:ByteArray)∨w=(⟨#[42,61]⟩:ByteArray)∨w=(⟨#[47,61]⟩:ByteArray)∨w=(⟨#[37,61]⟩:ByteArray)∨w=(⟨#[38,61]⟩:ByteArray)∨w=(⟨#[124,61]⟩:ByteArray)∨w=(⟨#[94,61]⟩:ByteArray)∨w=(⟨#[60,60,61]⟩:ByteArray)∨w=(⟨#[62,62,61]⟩:ByteArray)∨w=(⟨#[38,94,61]⟩:ByteArray)
instance (w:ByteArray):Decidable (assignsP w):=by unfold assignsP;exact inferInstance
def restS(t:Bool)(frm:Int)(l:Nd)(n:Int):Out Nd:=
 if assignsP (word I n) then bnd (g .exprs t (n+1)) fun x m=>.ok (.mk 53 n frm m [l,x]) m else
 if ¬ (l.kids.length:Int)=1 then .err n else
 if word I n=(⟨#[43,43]⟩:ByteArray)∨word I n=(⟨#[45,45]⟩:ByteArray) then .ok (.mk 52 n frm (n+1) [l.kids.getD 0 nd0]) (n+1) else
 if word I n=(⟨#[60,45]⟩:ByteArray) then bnd (g .expr t (n+1)) fun x m=>.ok (.mk 51 (-1) frm m [l.kids.getD 0 nd0,x]) m else .ok (.mk 50 (-1) frm n [l.kids.getD 0 nd0]) n
def simpleS(t:Bool)(n:Int):Out Nd:=bnd (g .exprs t n) fun l m=>restS I g t n l m
def onlyS(s:Nd)(n:Int):Out Nd:=if s.kind=50 then .ok (s.kids.getD 0 nd0) n else .err n
def condS(n:Int):Out Nd:=bnd (want I (⟨#[59]⟩:ByteArray) n) fun _ m=>g .expr true m
def ifHead(n:Int):Out (Nd×Nd):=if word I n=(⟨#[59]⟩:ByteArray) then bnd (condS I g n) fun c m=>.ok (noneN 0 n,c) m else bnd (g .simple true n) fun s m=>
 if word I m=(⟨#[59]⟩:ByteArray) then bnd (condS I g m) fun c m=>.ok (s,c) m else bnd (onlyS s m) fun c m=>.ok (noneN 0 n,c) m
def ifsS(t:Bool)(n:Int):Out Nd:=bnd (ifHead I g (n+1)) fun h m=>bnd (g .block t m) fun b m=>
 if word I m=(⟨#[101,108,115,101]⟩:ByteArray) then (if word I (m+1)=(⟨#[105,102]⟩:ByteArray) then bnd (g .ifs t (m+1)) fun o m=>.ok (.mk 59 (-1) n m [h.1,h.2,b,o]) m else bnd (g .block t (m+1)) fun o m=>.ok (.mk 59 (-1) n m [h.1,h.2,b,o]) m)
 else .ok (.mk 59 (-1) n m [h.1,h.2,b,noneN 0 m]) m
def clGo(kind:Int)(one:Int→Out Nd):Nat→List Nd→Int→Out (List Nd)
 |0,_,_=>.err 0
 |f+1,acc,n=>if word I n=(⟨#[125]⟩:ByteArray) then .ok acc n else
  bnd (if word I n=(⟨#[100,101,102,97,117,108,116]⟩:ByteArray) then .ok (noneN 0 (n+1)) (n+1) else bnd (want I (⟨#[99,97,115,101]⟩:ByteArray) n) fun _ m=>one m) fun x m=>bnd (want I (⟨#[58]⟩:ByteArray) m) fun _ m=>bnd (g .stmts false m) fun y m=>
   clGo kind one f (acc++[.mk kind (-1) n m [x,y]]) m
def clausesS(kind:Int)(one:Int→Out Nd)(n:Int):Out Nd:=bnd (want I (⟨#[123]⟩:ByteArray) n) fun _ m=>bnd (clGo I g kind one (fuel I m) [] m) fun l m=>bnd (want I (⟨#[125]⟩:ByteArray) m) fun _ m'=>.ok (listN 25 l m) m'
def askN(s:Nd):Option (Nd×Nd):=
 if s.kind=50∧(s.kids.getD 0 nd0).kind=33 then some (.mk 0 (-1) s.frm s.frm [],(s.kids.getD 0 nd0).kids.getD 0 nd0) else
 if s.kind=53∧word I s.word=(⟨#[58,61]⟩:ByteArray)∧((s.kids.getD 0 nd0).kids.length:Int)=1∧((s.kids.getD 1 nd0).kids.length:Int)=1∧((s.kids.getD 0 nd0).kids.getD 0 nd0).kind=26∧((s.kids.getD 1 nd0).kids.getD 0 nd0).kind=33 then
  some ((s.kids.getD 0 nd0).kids.getD 0 nd0,((s.kids.getD 1 nd0).kids.getD 0 nd0).kids.getD 0 nd0) else none
def swEnd(n:Int)(first tag:Nd)(s:Option Nd)(m:Int):Out Nd:=match s with
 |none=>bnd (clausesS I g 62 (g .exprs false) m) fun c m=>.ok (.mk 60 (-1) n m [first,tag,c]) m
 |some s=>match askN I s with
  |some (a,x)=>bnd (clausesS I g 62 (g .types false) m) fun c m=>.ok (.mk 61 (-1) n m [first,a,x,c]) m
  |none=>bnd (onlyS s m) fun y m=>bnd (clausesS I g 62 (g .exprs false) m) fun c m=>.ok (.mk 60 (-1) n m [first,y,c]) m
def swTwo(n:Int)(first:Nd)(m:Int):Out Nd:=if word I m=(⟨#[123]⟩:ByteArray) then swEnd I g n first (noneN 0 m) none m else bnd (g .simple true m) fun s m'=>swEnd I g n first (noneN 0 m) (some s) m'
def switchesS(t:Bool)(n:Int):Out Nd:=
 if word I (n+1)=(⟨#[123]⟩:ByteArray) then swEnd I g n (noneN 0 (n+1)) (noneN 0 (n+1)) none (n+1) else
 if word I (n+1)=(⟨#[59]⟩:ByteArray) then swTwo I g n (noneN 0 (n+1)) (n+1+1) else
 bnd (g .simple true (n+1)) fun s m=>if word I m=(⟨#[59]⟩:ByteArray) then swTwo I g n s (m+1) else swEnd I g n (noneN 0 (n+1)) (noneN 0 (n+1)) (some s) m
def typesS(t:Bool)(n:Int):Out Nd:=sepS I 11 (⟨#[44]⟩:ByteArray) (g .typ t) n
def selectsS(t:Bool)(n:Int):Out Nd:=bnd (clausesS I g 64 (g .simple false) (n+1)) fun c m=>.ok (.mk 63 (-1) n m [c]) m
def overallS(t:Bool)(w frm:Int)(l:Nd)(n:Int):Out Nd:=bnd (want I (⟨#[114,97,110,103,101]⟩:ByteArray) n) fun _ m=>bnd (g .expr true m) fun x m=>bnd (g .block t m) fun b m=>.ok (.mk 66 w frm m [l,x,b]) m
def forLast(t:Bool)(n:Int)(first cond:Nd)(m:Int):Out Nd:=bnd (if word I m=(⟨#[123]⟩:ByteArray) then .ok (noneN 0 m) m else g .simple true m) fun l m=>bnd (g .block t m) fun b m=>.ok (.mk 65 (-1) n m [first,cond,l,b]) m
def forRest(t:Bool)(n:Int)(first:Nd)(m:Int):Out Nd:=bnd (want I (⟨#[59]⟩:ByteArray) m) fun _ m=>
 bnd (if word I m=(⟨#[59]⟩:ByteArray) then .ok (noneN 0 m) m else g .expr true m) fun c m=>bnd (want I (⟨#[59]⟩:ByteArray) m) fun _ m=>forLast I g t n first c m
def forsS(t:Bool)(n:Int):Out Nd:=
 if word I (n+1)=(⟨#[123]⟩:ByteArray) then bnd (g .block t (n+1)) fun b m=>.ok (.mk 65 (-1) n m [noneN 0 (n+1),noneN 0 (n+1),noneN 0 (n+1),b]) m else
 if word I (n+1)=(⟨#[114,97,110,103,101]⟩:ByteArray) then overallS I g t (-1) n (noneN 0 (n+1)) (n+1) else
 if word I (n+1)=(⟨#[59]⟩:ByteArray) then forRest I g t n (noneN 0 (n+1)) (n+1) else
 bnd (g .exprs true (n+1)) fun l m=>if (word I m=(⟨#[61]⟩:ByteArray)∨word I m=(⟨#[58,61]⟩:ByteArray))∧word I (m+1)=(⟨#[114,97,110,103,101]⟩:ByteArray) then overallS I g t m n l (m+1) else
  bnd (restS I g true (n+1) l m) fun s m=>if word I m=(⟨#[59]⟩:ByteArray) then forRest I g t n s m else bnd (onlyS s m) fun x m=>bnd (g .block t m) fun b m'=>.ok (.mk 65 (-1) n m' [noneN 0 (n+1),x,noneN 0 m,b]) m'
def step:Gt
 |.expr=>exprS g|.binary k=>binaryS I g k|.unary=>unaryS I g|.operand=>operandS I g|.primary=>primaryS I g|.exprs=>exprsS I g|.element=>elementS I g|.value=>valueS I g|.elements=>elementsS I g
 |.typ=>typS g|.anyType=>aTS I g|.typeName=>typeNameS I g|.signature=>signatureS I g|.params=>paramsS I g|.param=>paramS I g|.tparams=>tparamsS I g|.names=>namesS I|.union=>unionS I g
 |.block=>blockS I g|.stmts=>stmtsS g|.anyStmts=>anyStmtsS I g|.stmt=>stmtS I g|.simple=>simpleS I g
 |.ifs=>ifsS I g|.switches=>switchesS I g|.selects=>selectsS I g|.fors=>forsS I g|.declared=>declaredS g|.started=>startedS I g|.returned=>returnedS I g|.branch=>branchS I
 |.group=>groupS I g|.valueSpec=>valueSpecS I g|.constSpec=>constSpecS I g|.importSpec=>importSpecS I|.typeSpec=>typeSpecS I g|.fn=>fnS I g|.file=>fileS I g
 |.field=>fieldS I g|.elem=>elemS I g|.types=>typesS I g
end
def G(I:In):Nat→Gt
 |0=>fun _ _ _=>.err 0
 |f+1=>step I (G I f)
def rank:Fn→Int
 |.importSpec=>0|.names=>0|.branch=>0
 |.params=>1|.tparams=>1|.signature=>2|.block=>1|.elements=>1
 |.typeName=>1|.anyType=>3|.typ=>4|.union=>5|.elem=>6|.field=>6|.param=>6 |.types=>6
 |.operand=>6|.primary=>7|.unary=>8|.binary _=>9|.expr=>10|.exprs=>11|.value=>11|.element=>12
 |.simple=>13|.valueSpec=>7|.constSpec=>7|.typeSpec=>7|.group=>2|.declared=>3|.started=>1|.returned=>1
 |.fn=>3|.ifs=>2|.switches=>2|.selects=>2|.fors=>2|.stmt=>20|.anyStmts=>21|.stmts=>22|.file=>23
def need(I:In)(f:Fn)(n:Int):Int:=32*(I.L+1-n)+rank f
end Go.Ex
