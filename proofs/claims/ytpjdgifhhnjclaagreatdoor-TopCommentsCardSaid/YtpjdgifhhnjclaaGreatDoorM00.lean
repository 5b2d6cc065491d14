/-
  Top: TopComments: whatever the input, the law answers true (part 0)
-/
import Derived.WalkKit
import Derived.Deep.Quiet
import Derived.Deep.LoopGhost
set_option linter.unusedVariables false
set_option linter.unusedSimpArgs false
set_option maxHeartbeats 4000000
set_option maxRecDepth 10000
namespace Go.Ex
theorem nN{p:Prop}(h:¬¬p):p:=Classical.not_not.1 h
theorem lL.{u}{α:Type u}:(∀ a b:List α,(a++b).length=a.length+b.length)∧(∀ (n:Nat) (a:List α),(a.take n).length=min n a.length)∧(∀ (n:Nat) (a:α),(List.replicate n a).length=n)∧(∀ (a:α) (l:List α),(a::l).length=l.length+1)∧([]:List α).length=0:=⟨fun _ _=>List.length_append,fun _ _=>List.length_take,fun _ _=>List.length_replicate,fun _ _=>rfl,rfl⟩
theorem lC2.{u}{α:Type u}:(∀ a b:List α,(a++b).length=a.length+b.length)∧(∀ (a:α) (l:List α),(a::l).length=l.length+1)∧([]:List α).length=0:=⟨fun _ _=>List.length_append,fun _ _=>rfl,rfl⟩
theorem mL.{u}{α:Type u}:(∀ (a b:α) (l:List α),a∈b::l↔a=b∨a∈l)∧∀ a:α,(a∈([]:List α))=False:=⟨fun _ _ _=>List.mem_cons,fun _=>by simp⟩
abbrev A3:=Array Obj
def K5(h:A3)(b o:Nat):Option Value:=match h[b]? with
 |some (.cells c _ _)=>c[o]?
 |_=>none
structure Y7(τ:Type) where
 dflt:τ
 sz:Nat
 cells:τ→List Value
 un:List Value→Option τ
 len:∀ x,(cells x).length=sz
 un_ok:∀ l x,un l=some x→cells x=l
 one:∀ x v,v∈cells x→v.oneCell'=true
 pos:0<sz
structure oP where
 {τ:Type}
 R:Y7 τ
def B1{α:Type}(d:α)(xs:List α)(i:Int):α:=xs.getD i.toNat d
inductive KV where
 |val (v:Value)
 |prop (p:Prop)
 |own (k b f:Nat)
 |elt (k b sz:Nat) (i:Int) (f:Nat)
 |osl (k b:Nat) (len:Int) (cap:Nat)
 |osv (k b sz:Nat) (off len:Int) (cap:Nat)
 |xel (A:Option Addr) (sz:Nat) (i:Int) (f:Nat)
 |fn (f:Nat) (caps:List KV)
 |agg (cs:List KV)
 |tup (vs:List KV)
noncomputable def A0:KV→Value
 |.val v=>v
 |.prop p=>.bool (@decide p (Classical.propDecidable p))
 |.own _ b f=>.pointer (some ⟨b,f,none⟩)
 |.elt _ b sz i f=>.pointer (some ⟨b,i.toNat*sz+f,none⟩)
 |.osl _ b len cap=>.slice (some ⟨b,0,none⟩) len.toNat cap
 |.osv _ b sz off len cap=>.slice (some ⟨b,if cap=off.toNat then 0 else off.toNat*sz,none⟩) len.toNat (cap-off.toNat)
 |.xel (some a) sz i f=>.pointer (some ⟨a.block,a.off+i.toNat*sz+f,none⟩)
 |.xel none _ _ _=>undef
 |.fn _ _=>undef
 |.agg _=>undef
 |.tup _=>undef
noncomputable def A1:KV→Value
 |.agg cs=>.agg (cs.map A0).toArray
 |.fn f caps=>.func (.func f) #[] (caps.map A0).toArray
 |x=>A0 x
noncomputable def B0:KV→Value
 |.tup vs=>.tuple (vs.map A1).toArray
 |x=>A1 x
def AG(v:Value):KV:=match v with
 |.bool b=>.prop (b=true)
 |.int k n=>.val (.int k n)
 |.string s=>.val (.string s)
 |.slice a l c=>.val (.slice a l c)
 |.pointer a=>.val (.pointer a)
 |v=>.val v
def O7:List Value→List KV
 |[]=>[]
 |v::r=>AG v::O7 r
def BJ(v:Value):KV:=match v with
 |.agg cs=>.agg (O7 cs.toList)
 |v=>AG v
def Tw:List Value→List KV
 |[]=>[]
 |v::r=>BJ v::Tw r
def Wh(v:Value):KV:=match v with
 |.tuple vs=>.tup (Tw vs.toList)
 |v=>BJ v
def kM:List Value→List KV
 |[]=>[]
 |v::r=>.val v::kM r
def Ed(v:Value):KV:=match v with
 |.agg cs=>.agg (kM cs.toList)
 |v=>.val v
def fk(v:KV)(κ:KV→Prop):Prop:=match v with
 |.val v=>κ (.val v)
 |.prop p=>κ (.prop p)
 |.own k b f=>κ (.own k b f)
 |.elt k b sz i f=>κ (.elt k b sz i f)
 |.osl k b l c=>κ (.osl k b l c)
 |.osv k b sz o l c=>κ (.osv k b sz o l c)
 |.xel a sz i f=>κ (.xel a sz i f)
 |.fn f cs=>κ (.fn f cs)
 |.agg cs=>κ (.agg cs)
 |.tup vs=>κ (.tup vs)
def BL(v:KV)(κ:KV→Prop):Prop:=match v with
 |.tup _=>False
 |v=>fk v κ
def EE(v:KV)(κ:KV→Prop):Prop:=match v with
 |.val v=>κ (.val v)
 |.prop p=>κ (.prop p)
 |.own k b f=>κ (.own k b f)
 |.elt k b sz i f=>κ (.elt k b sz i f)
 |.osl k b l c=>κ (.osl k b l c)
 |.osv k b sz o l c=>κ (.osv k b sz o l c)
 |.xel a sz i f=>κ (.xel a sz i f)
 |_=>False
def Vy(v:KV)(κ:KV→Prop):Prop:=match v with
 |.val (.int k n)=>κ (.val (.int k n))
 |.val (.bool b)=>κ (.val (.bool b))
 |.val (.string s)=>κ (.val (.string s))
 |.val (.slice a l c)=>κ (.val (.slice a l c))
 |.val (.pointer a)=>κ (.val (.pointer a))
 |.val (.func f x y)=>κ (.val (.func f x y))
 |.val (.iface t v)=>κ (.val (.iface t v))
 |.val .nilIface=>κ (.val .nilIface)
 |.val .nilFunc=>κ (.val .nilFunc)
 |.prop p=>κ (.prop p)
 |.own k b f=>κ (.own k b f)
 |.elt k b sz i f=>κ (.elt k b sz i f)
 |.osl k b l c=>κ (.osl k b l c)
 |.osv k b sz o l c=>κ (.osv k b sz o l c)
 |.xel (some a) sz i f=>κ (.xel (some a) sz i f)
 |_=>False
def BK:List KV→(List KV→Prop)→Prop
 |[],κ=>κ []
 |v::r,κ=>fk v fun v=>BK r fun r=>κ (v::r)
abbrev Kn:=List (Nat×KV)
def lk:Kn→Nat→Option KV
 |[],_=>none
 |(s,v)::r,t=>match Nat.beq s t with
  |true=>some v
  |false=>lk r t
def H4(K:Kn):Operand→Option KV
 |.tmp t=>lk K t
 |.const v=>some (Ed v)
 |.func f=>some (.fn f [])
 |.global g=>some (.val (.pointer (some ⟨g,0,none⟩)))
inductive D8 where
 |box (T:Nat) (cs:List KV)
 |arr {τ:Type} (T:Nat) (R:Y7 τ) (xs:List τ) (cap:Nat)
 |iter (s:ByteArray) (p:Nat)
 |obj (o:Obj)
abbrev L8:=List (Nat×Nat×D8)
structure St where
 h0:A3
 cap:List Nat
 ch:L8
def B3:L8→Nat→Option (Nat×D8)
 |[],_=>none
 |(j,b,c)::r,k=>match Nat.beq j k with
  |true=>some (b,c)
  |false=>B3 r k
def dF:L8→Nat→D8→(L8→Prop)→Prop
 |[],_,_,_=>False
 |(j,b,c0)::r,k,c,κ=>match Nat.beq j k with
  |true=>κ ((j,b,c)::r)
  |false=>dF r k c fun r=>κ ((j,b,c0)::r)
def V3:L8→Nat→(L8→Prop)→Prop
 |[],_,κ=>κ []
 |(j,b,c)::r,k,κ=>match Nat.beq j k with
  |true=>V3 r k κ
  |false=>V3 r k fun r=>κ ((j,b,c)::r)
structure VC(p q:Prop):Prop where
 vc:p
 go:q
structure Br(p a b:Prop):Prop where
 yes:p→a
 no:¬ p→b
structure E5(n:Nat)(κ:Nat→Prop):Prop where
 go:∀ b,n≤b→κ b
inductive TK where
 |int (k:IntKind)|bool|str|slice (e:Nat)|struct (fs:List (Nat×Option Nat))|ptr|arr (n e:Nat)|other
structure gS where
 sz:Nat
 bytes:Nat
 agg:Bool
 zero:List Value
 k:TK
def lo(k:IntKind):Int:=match k with|.i8=>-128|.i16=>-32768|.i32=>-2147483648|.i64=>-9223372036854775808|_=>0
def hi(k:IntKind):Int:=match k with|.i8=>127|.i16=>32767|.i32=>2147483647|.i64=>9223372036854775807|.u8=>255|.u16=>65535|.u32=>4294967295|.u64=>18446744073709551615
inductive Ar (p q r:Prop):Prop where
 |fit:p→q→Ar p q r
 |wrap:r→Ar p q r
def Yd(k:IntKind)(n:Int)(κ:Int→Prop):Prop:=match k with
 |.i64=>Ar (-9223372036854775808≤n∧n≤9223372036854775807) (κ n) (κ (IntKind.i64.wrap n))
 |.u8=>Ar (0≤n∧n≤255) (κ n) (κ (IntKind.u8.wrap n))
 |.i32=>Ar (-2147483648≤n∧n≤2147483647) (κ n) (κ (IntKind.i32.wrap n))
 |k=>Ar (lo k≤n∧n≤hi k) (κ n) (κ (k.wrap n))
def xH{α:Type}:Nat→List α→Option (List α)
 |0,l=>some l
 |_+1,[]=>none
 |n+1,_::r=>xH n r
def rA{α:Type}:Nat→List α→Option (List α)
 |0,_=>some []
 |_+1,[]=>none
 |n+1,x::r=>match rA n r with
  |some l=>some (x::l)
  |none=>none
def kB{α:Type}(f n:Nat)(l:List α):Option (List α):=match xH f l with
 |some r=>rA n r
 |none=>none
def K2{α:Type}:Nat→List α→List α→Option (List α)
 |0,[],l=>some l
 |0,_::_,[]=>none
 |0,x::xs,_::l=>match K2 0 xs l with
  |some r=>some (x::r)
  |none=>none
 |_+1,_,[]=>none
 |n+1,xs,y::l=>match K2 n xs l with
  |some r=>some (y::r)
  |none=>none
def G8(agg:Bool)(l:List KV)(κ:KV→Prop):Prop:=match agg with
 |true=>BK l fun l=>κ (.agg l)
 |false=>match l with
  |[v]=>EE v κ
  |_=>False
def A4(s:ByteArray)(i:Int):Int:=((s.data.toList.getD i.toNat 0).toNat:Int)
def O1(A:Option Addr):Prop:=∃ b o,A=some ⟨b,o,none⟩
structure Sl{τ:Type}(R:Y7 τ)(h:A3)(A:Option Addr)(len:Nat)(xs:List τ):Prop where
 len_eq:xs.length=len
 small:len≤9223372036854775807
 at_:0<len→∃ b o,A=some ⟨b,o,none⟩∧b<h.size∧∀ i,i<len→∀ j v,(R.cells (xs.getD i R.dflt))[j]?=some v→K5 h b (o+i*R.sz+j)=some v
structure C1(S:St)(A:Option Addr)(sz:Nat)(i:Int)(f n:Nat)(agg:Bool)(κ:KV→Prop):Prop where
 go:(∃ (τ:Type) (R:Y7 τ) (len:Nat) (xs:List τ),Sl R S.h0 A len xs∧(∀ a,A=some a→¬ a.block∈S.cap)∧R.sz=sz∧0≤i∧i<len ∧
  ∃ l,kB f n (R.cells (B1 R.dflt xs i))=some l∧G8 agg (O7 l) κ) ∨
  ∃ (k b:Nat) (τ:Type) (T:Nat) (R:Y7 τ) (xs:List τ) (cap:Nat),A=some ⟨b,0,none⟩∧B3 S.ch k=some (b,.arr T R xs cap)∧R.sz=sz∧0≤i∧i<xs.length ∧
  ∃ l,kB f n (R.cells (B1 R.dflt xs i))=some l∧G8 agg (O7 l) κ
structure A9(S:St)(a:Addr)(n:Nat)(agg:Bool)(κ:KV→Prop):Prop where
 go:(a.block<S.h0.size∧¬ a.block∈S.cap∧a.spot=none∧∃ vs:List Value,vs.length=n∧(∀ j v,vs[j]?=some v→K5 S.h0 a.block (a.off+j)=some v)∧∃ cs:List KV,cs.map A0=vs∧G8 agg cs κ) ∨
  ∃ (k T:Nat) (cs l:List KV),B3 S.ch k=some (a.block,.box T cs)∧a.spot=none∧kB a.off n cs=some l∧G8 agg l κ
def AI(a b:IntKind):Bool:=match a,b with
 |.i8,.i8=>true|.i16,.i16=>true|.i32,.i32=>true|.i64,.i64=>true
 |.u8,.u8=>true|.u16,.u16=>true|.u32,.u32=>true|.u64,.u64=>true
 |_,_=>false
theorem sV{a b:IntKind}(h:AI a b=true):a=b:=by cases a<;>cases b<;>first|rfl|cases h
def EB(k:IntKind):List Value→Option Int
 |[.int k' n]=>match AI k k' with
  |true=>some n
  |false=>none
 |_=>none
def E9(k:IntKind):Y7 Int where
 dflt:=0
 sz:=1
 cells:=fun n=>[.int k n]
 un:=EB k
 len:=fun _=>rfl
 un_ok:=fun l x h=>by
  unfold EB at h
  split at h
  ·split at h
   ·rename_i e;rw [sV e];cases h;rfl
   ·cases h
  ·cases h
 one:=fun x v h=>by simp at h;subst h;rfl
 pos:=by decide
inductive SR {τ:Type}(R:Y7 τ):{τ2:Type}→(R2:Y7 τ2)→(ys:List τ2)→(κ:List τ→Prop)→Prop where
 |same {ys:List τ} {κ:List τ→Prop} (h:κ ys):SR R R ys κ
section
variable (P:Program)(ty:Nat→Option gS)(rep:Nat→Option oP)
def Uk(t:Nat)(p:KV)(S:St)(κ:KV→Prop):Prop:=match ty t with
 |none=>False
 |some i=>match p with
  |.own k b f=>match B3 S.ch k with
   |some (b',.box _ cs)=>VC (b=b') (match kB f i.sz cs with
    |some l=>G8 i.agg l κ
    |none=>False)
   |some (b',.arr T R xs cap)=>match i.k with
    |.arr n e=>match f with
     |0=>VC (b=b'∧xs.length*R.sz=i.sz) (G8 i.agg (O7 (xs.flatMap R.cells)) κ)
     |_=>False
    |_=>VC (b=b'∧0<xs.length) (match kB f i.sz (R.cells (B1 R.dflt xs 0)) with
     |some l=>G8 i.agg (O7 l) κ
     |none=>False)
   |_=>False
  |.elt k b sz ix f=>match B3 S.ch k with
   |some (b',.arr T R xs cap)=>VC (b=b'∧R.sz=sz∧0≤ix∧ix<xs.length) (match kB f i.sz (R.cells (B1 R.dflt xs ix)) with
    |some l=>G8 i.agg (O7 l) κ
    |none=>False)
   |_=>False
  |.xel A sz ix f=>C1 S A sz ix f i.sz i.agg κ
  |.val (.pointer (some a))=>A9 S a i.sz i.agg κ
  |_=>False
def CA(b:Int)(κ:Int→Prop):Prop:=match b with
 |.ofNat 0=>κ 1
 |.ofNat 1=>κ 2
 |.ofNat 2=>κ 4
 |.ofNat 3=>κ 8
 |.ofNat 4=>κ 16
 |.ofNat 5=>κ 32
 |.ofNat 6=>κ 64
 |.ofNat 7=>κ 128
 |_=>False
def bX(op:BinOp)(k:IntKind)(a b:Int):Int:=match op with
 |.and=>k.wrap ((BitVec.ofInt k.bits a &&& BitVec.ofInt k.bits b).toNat:Nat)
 |.or=>k.wrap ((BitVec.ofInt k.bits a ||| BitVec.ofInt k.bits b).toNat:Nat)
 |.xor=>k.wrap ((BitVec.ofInt k.bits a ^^^ BitVec.ofInt k.bits b).toNat:Nat)
 |_=>k.wrap ((BitVec.ofInt k.bits a &&& ~~~(BitVec.ofInt k.bits b)).toNat:Nat)
def Az(op:BinOp)(k:IntKind)(a b:Int)(κ:KV→Prop):Prop:=match op with
 |.add=>Yd k (a+b) fun n=>κ (.val (.int k n))
 |.sub=>Yd k (a-b) fun n=>κ (.val (.int k n))
 |.mul=>Yd k (a*b) fun n=>κ (.val (.int k n))
 |.quo=>VC (0<b) (Br (0≤a) (Yd k (a / b) fun n=>κ (.val (.int k n))) (Yd k (-((-a) / b)) fun n=>κ (.val (.int k n))))
 |.rem=>VC (0<b) (Br (0≤a) (κ (.val (.int k (a % b)))) (κ (.val (.int k (-((-a) % b))))))
 |.eql=>κ (.prop (a=b))
 |.neq=>κ (.prop (¬ a=b))
 |.lss=>κ (.prop (a<b))
 |.leq=>κ (.prop (a≤b))
 |.gtr=>κ (.prop (b<a))
 |.geq=>κ (.prop (b≤a))
 |.and=>κ (.val (.int k (bX .and k a b)))
 |.or=>κ (.val (.int k (bX .or k a b)))
 |.xor=>κ (.val (.int k (bX .xor k a b)))
 |.andNot=>κ (.val (.int k (bX .andNot k a b)))
 |_=>False
def BT(op:BinOp)(a b:ByteArray)(κ:KV→Prop):Prop:=match op with
 |.add=>VC (((a.size+b.size:Nat):Int)≤9223372036854775807) (κ (.val (.string (a++b))))
 |.eql=>κ (.prop (a=b))
 |.neq=>κ (.prop (¬ a=b))
 |_=>False
structure Ij(op:BinOp)(t:Nat)(x y:KV)(κ:KV→Prop):Prop where
 go:∃ p:Prop,(∀ (u v:Operand) w,(do eqGuard op t u v (B0 x) (B0 y);binOp op t (B0 x) (B0 y):Sem Value).run P w = .ok (A0 (.prop p)) w)∧κ (.prop p)
def AV(op:BinOp)(t:Nat)(x y:KV)(κ:KV→Prop):Prop:=match x,y with
 |.val (.int k a),.val (.int k' b)=>match op with
  |.shr=>CA b fun p=>κ (.val (.int k (a / p)))
  |op=>match AI k k' with
   |true=>Az op k a b κ
   |false=>False
 |.val (.string a),.val (.string b)=>BT op a b κ
 |x,y=>match op with
  |.eql=>Ij P .eql t x y κ
  |.neq=>Ij P .neq t x y κ
  |_=>False
def AC(x:KV)(κ:KV→Prop):Prop:=match x with
 |.val (.bool true)=>κ (.val (.bool false))
 |.val (.bool false)=>κ (.val (.bool true))
 |.prop p=>κ (.prop (¬ p))
 |_=>False
def uS(K:Kn)(o:Option Operand)(d:Int)(κ:Int→Prop):Prop:=match o with
 |none=>κ d
 |some x=>match H4 K x with
  |some (.val (.int .i64 n))=>κ n
  |_=>False
def Ff(A:Option Addr)(cap:Nat)(l:Int)(sz:Nat):Option Addr:=if cap=l.toNat then A else A.map (·.add (l.toNat*sz))
def Hg(t:Nat)(K:Kn)(x:KV)(l h m:Option Operand)(κ:KV→Prop):Prop:=match m with
 |some _=>False
 |none=>match x with
  |.val (.string s)=>match ty t with
   |some ⟨_,_,_,_,.str⟩=>uS K l 0 fun l=>uS K h (s.size:Int) fun h=>VC (0≤l∧l≤h∧h≤(s.size:Int)) (κ (.val (.string (s.extract l.toNat h.toNat))))
   |_=>False
  |.val (.slice A n c)=>match ty t with
   |some ⟨_,_,_,_,.slice e⟩=>match ty e with
    |some i=>uS K l 0 fun l=>uS K h (n:Int) fun h=>VC (0≤l∧l≤h∧h≤(n:Int)∧n≤c) (κ (.val (.slice (Ff A c l i.sz) (h-l).toNat (c-l.toNat))))
    |none=>False
   |_=>False
  |.osl k b n c=>match ty t with
   |some ⟨_,_,_,_,.slice e⟩=>match ty e with
    |some i=>match l with
     |none=>uS K h n fun h=>VC (0≤h∧h≤n∧n≤(c:Int)) (κ (.osl k b h c))
     |some (.const (.int .i64 0))=>uS K h n fun h=>VC (0≤h∧h≤n∧n≤(c:Int)) (κ (.osl k b h c))
     |l=>uS K l 0 fun l=>uS K h n fun h=>VC (0≤l∧l≤h∧h≤n∧n≤(c:Int)) (κ (.osv k b i.sz l (h-l) c))
    |none=>False
   |_=>False
  |_=>False
def fieldAt(t:Nat)(j:Nat):Option (Nat×Option Nat):=match ty t with
 |some ⟨_,_,_,_,.struct fs⟩=>fs[j]?
 |_=>none
def kT(t:Nat)(x:KV)(j:Nat)(κ:KV→Prop):Prop:=match fieldAt ty t j with
 |none=>False
 |some (o,_)=>match x with
  |.own k b f=>κ (.own k b (f+o))
  |.elt k b sz i f=>κ (.elt k b sz i (f+o))
  |.xel A sz i f=>VC (O1 A) (κ (.xel A sz i (f+o)))
  |.val (.pointer (some ⟨b,f,none⟩))=>κ (.val (.pointer (some ⟨b,f+o,none⟩)))
  |_=>False
def Mi(t:Nat)(x:KV)(j:Nat)(κ:KV→Prop):Prop:=match fieldAt ty t j with
 |none=>False
 |some (o,n?)=>match x with
  |.agg cs=>match n? with
   |some n=>match kB o n cs with
    |some l=>G8 true l κ
    |none=>False
   |none=>match kB o 1 cs with
    |some l=>G8 false l κ
    |none=>False
  |_=>False
def kP(t:Nat)(x ix:KV)(κ:KV→Prop):Prop:=match ty t with
 |some ⟨_,_,_,_,.slice e⟩=>match ty e with
  |some i=>match ix with
   |.val (.int _ n)=>match x with
    |.val (.slice A len _)=>VC (0≤n∧n<(len:Int)) (VC (O1 A) (κ (.xel A i.sz n 0)))
    |.osl k b len _=>VC (0≤n∧n<len) (κ (.elt k b i.sz n 0))
    |_=>False
   |_=>False
  |none=>False
 |some ⟨_,_,_,_,.arr n e⟩=>match ty e with
  |some i=>match ix with
   |.val (.int _ j)=>match x with
    |.own k b 0=>VC (0≤j∧j<(n:Int)) (κ (.elt k b i.sz j 0))
    |_=>False
   |_=>False
  |none=>False
 |_=>False
def Bi(t:Nat)(x ix:KV)(κ:KV→Prop):Prop:=match ty t with
 |some ⟨_,_,_,_,.str⟩=>match x,ix with
  |.val (.string s),.val (.int _ n)=>VC (0≤n∧n<(s.size:Int)) (κ (.val (.int .u8 (A4 s n))))
  |_,_=>False
 |some ⟨_,_,_,_,.arr n e⟩=>match ty e with
  |some ⟨1,_,false,_,_⟩=>match x,ix with
   |.agg cs,.val (.int _ (.ofNat j))=>match Nat.blt j n with
    |true=>match kB j 1 cs with
     |some l=>G8 false l κ
     |none=>False
    |false=>False
   |_,_=>False
  |_=>False
 |_=>False
def kJ(fa:Nat→Option (Nat×Option Nat))(K:Kn):List (Nat×Operand)→List KV→(List KV→Prop)→Prop
 |[],l,κ=>κ l
 |(j,x)::r,l,κ=>match fa j with
  |some (o,none)=>match H4 K x with
   |some v=>match K2 o [v] l with
    |some l'=>Vy v fun _=>kJ fa K r l' κ
    |none=>False
   |none=>False
  |some (o,some n)=>match H4 K x with
   |some (.agg cs)=>match K2 o cs l with
    |some l=>VC (cs.length=n) (kJ fa K r l κ)
    |none=>False
   |_=>False
  |none=>False
def AF(t:Nat)(x:KV)(κ:KV→Prop):Prop:=match ty t with
 |some ⟨_,_,_,_,.str⟩=>match x with
  |.val (.string s)=>κ (.val (.int .i64 (s.size:Int)))
  |_=>False
 |some ⟨_,_,_,_,.slice _⟩=>match x with
  |.val (.slice _ n _)=>κ (.val (.int .i64 (n:Int)))
  |.osl _ _ n _=>VC (0≤n) (κ (.val (.int .i64 n)))
  |.osv _ _ _ _ n _=>VC (0≤n) (κ (.val (.int .i64 n)))
  |_=>False
 |_=>False
def AT(ns:List Int):ByteArray:=ns.foldl (fun r n=>r.push (UInt8.ofNat n.toNat)) ByteArray.empty
def Zu(src dst:Nat)(x:KV)(S:St)(κ:KV→Prop):Prop:=match ty src with
 |none=>False
 |some ⟨_,_,_,_,.slice e⟩=>match ty e with
  |some ⟨_,_,_,_,.int .u8⟩=>match ty dst with
   |some ⟨_,_,_,_,.str⟩=>match x with
    |.osl k b n c=>match B3 S.ch k with
     |some (b',.arr T R xs c')=>VC (b=b'∧0≤n∧n≤xs.length) (SR (E9 .u8) R (xs.take n.toNat) fun xs=>κ (.val (.string (AT xs))))
     |_=>False
    |.val (.slice none 0 0)=>κ (.val (.string .empty))
    |_=>False
   |_=>False
  |_=>False
 |some _=>match ty dst with
  |some ⟨_,_,_,_,.int k⟩=>match x with
   |.val (.int _ n)=>Yd k n fun n=>κ (.val (.int k n))
   |_=>False
  |some ⟨_,_,_,_,.str⟩=>match x with
   |.val (.string s)=>κ (.val (.string s))
   |.val (.int _ n)=>κ (.val (.string (Utf8.encode n)))
   |_=>False
  |_=>False
def aV:List KV→Option (List Value)
 |[]=>some []
 |.val v::r=>match aV r with
  |some l=>some (v::l)
  |none=>none
 |_=>none
def zI(t:Nat)(v:KV)(κ:KV→Prop):Prop:=match v with
 |.own _ b f=>κ (.val (.iface t (.pointer (some ⟨b,f,none⟩))))
 |.agg cs=>match aV cs with
  |some vs=>κ (.val (.iface t (.agg ⟨vs⟩)))
  |none=>False
 |_=>False
def AD(v:KV)(κ:KV→Prop):Prop:=match v with
 |.own k b f=>κ (.own k b f)
 |.elt k b sz i f=>κ (.elt k b sz i f)
 |.xel (some a) sz i f=>κ (.xel (some a) sz i f)
 |.val (.pointer (some a))=>κ (.val (.pointer (some a)))
 |_=>False
def Qs(o:Oper)(K:Kn)(S:St)(κ:KV→Prop):Prop:=match o.op with
 |.move x=>match H4 K x with
  |some v=>fk v κ
  |none=>False
 |.assign x=>match H4 K x with
  |some v=>fk v κ
  |none=>False
 |.pick c a b=>match H4 K c with
  |some (.val (.bool true))=>match H4 K a with
   |some v=>fk v κ
   |none=>False
  |some (.val (.bool false))=>match H4 K b with
   |some v=>fk v κ
   |none=>False
  |some (.prop p)=>match H4 K a with
   |some v=>match H4 K b with
    |some u=>Br p (fk v κ) (fk u κ)
    |none=>False
   |none=>False
  |_=>False
 |.load t x=>match H4 K x with
  |some p=>Uk ty t p S κ
  |none=>False
 |.binOp op t x y _=>match H4 K x with
  |some u=>match H4 K y with
   |some v=>AV P op t u v κ
   |none=>False
  |none=>False
 |.unOp .not _ x=>match H4 K x with
  |some v=>AC v κ
  |none=>False
 |.unOp .neg _ x=>match H4 K x with
  |some (.val (.int k n))=>Yd k (0-n) fun n=>κ (.val (.int k n))
  |_=>False
 |.convert src dst x=>match H4 K x with
  |some v=>Zu ty src dst v S κ
  |none=>False
 |.slice t x l h m=>match H4 K x with
  |some v=>Hg ty t K v l h m κ
  |none=>False
 |.fieldAddr t x j=>match H4 K x with
  |some v=>kT ty t v j κ
  |none=>False
 |.field t x j=>match H4 K x with
  |some v=>Mi ty t v j κ
  |none=>False
 |.indexAddr t x ix=>match H4 K x with
  |some v=>match H4 K ix with
   |some i=>kP ty t v i κ
   |none=>False
  |none=>False
 |.index t x ix=>match H4 K x with
  |some v=>match H4 K ix with
   |some i=>Bi ty t v i κ
   |none=>False
  |none=>False
 |.extract x j=>match H4 K x with
  |some (.tup vs)=>match vs[j]? with
   |some v=>BL v κ
   |none=>False
  |_=>False
 |.build t parts=>match ty t with
  |some ⟨_,_,true,zero,.struct _⟩=>kJ (fieldAt ty t) K parts.toList (kM zero) fun l=>BK l fun l=>κ (.agg l)
  |some ⟨_,_,true,zero,.arr _ e⟩=>match ty e with
   |some ⟨sz,_,true,_,_⟩=>kJ (fun j=>some (j*sz,some sz)) K parts.toList (kM zero) fun l=>BK l fun l=>κ (.agg l)
   |some ⟨_,_,false,_,_⟩=>kJ (fun j=>some (j,none)) K parts.toList (kM zero) fun l=>BK l fun l=>κ (.agg l)
   |none=>False
  |_=>False
 |.call ⟨.builtin .len,⟨[x]⟩,⟨[t]⟩⟩=>match H4 K x with
  |some v=>AF ty t v κ
  |none=>False
 |.call ⟨.builtin .max,⟨[x,y]⟩,_⟩=>match H4 K x with
  |some (.val (.int k a))=>match H4 K y with
   |some (.val (.int _ b))=>κ (.val (.int k (max a b)))
   |_=>False
  |_=>False
 |.call ⟨.builtin .min,⟨[x,y]⟩,_⟩=>match H4 K x with
  |some (.val (.int k a))=>match H4 K y with
   |some (.val (.int _ b))=>κ (.val (.int k (min a b)))
   |_=>False
  |_=>False
 |.makeFunc (.func f) ⟨[]⟩ caps=>capsK f caps.toList [] κ
 |.makeFunc (.func f) ⟨[x]⟩ ⟨[]⟩=>match H4 K x with
  |some (.own _ b j)=>κ (.val (.func (.func f) #[.pointer (some ⟨b,j,none⟩)] #[]))
  |_=>False
 |.nilCheck x=>match H4 K x with
  |some v=>AD v κ
  |none=>False
 |.makeInterface t x=>match ty t with
  |some ⟨_,_,_,_,.ptr⟩=>match H4 K x with
   |some v=>zI t v κ
   |none=>False
  |some ⟨_,_,_,_,.struct _⟩=>match H4 K x with
   |some v=>zI t v κ
   |none=>False
  |some ⟨_,_,_,_,.int _⟩=>match H4 K x with
   |some (.val (.int k n))=>κ (.val (.iface t (.int k n)))
   |_=>False
  |_=>False
 |.typeAssert x _ t true=>match ty t with
  |some ⟨_,_,_,_,.struct _⟩=>match H4 K x with
   |some (.val (.iface t' (.agg ⟨vs⟩)))=>match Nat.beq t' t with
    |true=>κ (.tup [.agg (kM vs),.val (.bool true)])
    |false=>False
   |_=>False
  |some ⟨_,_,_,_,.int _⟩=>match H4 K x with
   |some (.val (.iface t' (.int k n)))=>match Nat.beq t' t with
    |true=>κ (.tup [.val (.int k n),.val (.bool true)])
    |false=>False
   |_=>False
  |_=>False
 |_=>False
where capsK (f:Nat):List Operand→List KV→(KV→Prop)→Prop
 |[],acc,κ=>κ (.fn f acc.reverse)
 |x::r,acc,κ=>match H4 K x with
  |some (.own k b j)=>capsK f r (.own k b j::acc) κ
  |some (.val v)=>capsK f r (.val v::acc) κ
  |_=>False
def gV(S:St)(ch:L8)(κ:St→Prop):Prop:=match S with
 |⟨h0,cap,_⟩=>κ ⟨h0,cap,ch⟩
def Qx:List KV→(List KV→Prop)→Prop
 |[],κ=>κ []
 |v::r,κ=>Vy v fun v=>Qx r fun r=>κ (v::r)
def kX(v:KV)(κ:List KV→Prop):Prop:=match v with
 |.agg cs=>Qx cs κ
 |v=>Vy v fun v=>κ [v]
def Tc(dst:Option Nat)(S:St)(c:D8)(κ:Nat→Nat→St→Prop):Prop:=match dst with
 |some d=>E5 S.h0.size fun b=>V3 S.ch d fun ch=>gV S ((d,b,c)::ch) fun S=>κ d b S
 |none=>False
def BN{τ:Type}(R:Y7 τ):Nat→List Value→(List τ→Prop)→Prop
 |0,l,κ=>match l with
  |[]=>κ []
  |_=>False
 |n+1,l,κ=>match R.un (l.take R.sz) with
  |some x=>BN R n (l.drop R.sz) fun ys=>κ (x::ys)
  |none=>False
def iW(i:gS)(k b sz:Nat)(ix:Int)(f:Nat)(v:KV)(S:St)(κ:St→Prop):Prop:=match B3 S.ch k with
 |some (b',.arr T R xs cap)=>VC (b=b'∧R.sz=sz∧0≤ix∧ix<xs.length) (kX v fun l=>match Nat.beq l.length i.sz with
  |true=>match K2 f (l.map A0) (R.cells (B1 R.dflt xs ix)) with
   |some vs=>match R.un vs with
    |some x=>dF S.ch k (.arr T R (xs.set ix.toNat x) cap) fun ch=>gV S ch κ
    |none=>False
   |none=>False
  |false=>False)
 |_=>False
structure BB(A:Option Addr)(κ:Nat→Nat→Prop):Prop where
 go:∃ k b,A=some ⟨b,0,none⟩∧κ k b
def yF(t:Nat)(p v:KV)(S:St)(κ:St→Prop):Prop:=match ty t with
 |none=>False
 |some i=>match p with
  |.own k b f=>match B3 S.ch k with
   |some (b',.box T cs)=>VC (b=b') (kX v fun l=>match Nat.beq l.length i.sz with
    |true=>match K2 f l cs with
     |some cs'=>dF S.ch k (.box T cs') fun ch=>gV S ch κ
     |none=>False
    |false=>False)
   |some (b',.arr T R xs cap)=>match f with
    |0=>kX v fun l=>BN R xs.length (l.map A0) fun ys=>VC (b=b'∧l.length=i.sz∧i.sz=xs.length*R.sz∧xs.length=cap) (dF S.ch k (.arr T R ys cap) fun ch=>gV S ch κ)
    |_=>False
   |_=>False
  |.elt k b sz ix f=>iW i k b sz ix f v S κ
  |.xel A sz ix f=>BB A fun k b=>iW i k b sz ix f v S κ
  |_=>False
structure Cj(a:Addr)(κ:Nat→Nat→Nat→Prop):Prop where
 go:∃ k b f,a=⟨b,f,none⟩∧κ k b f
def Eg(t:Nat)(p v:KV)(S:St)(κ:St→Prop):Prop:=match p with
 |.val (.pointer (some a))=>Cj a fun k b f=>yF ty t (.own k b f) v S κ
 |p=>yF ty t p v S κ
def zQ{τ:Type}(R:Y7 τ)(K:Kn):List (Nat×Operand)→Nat→(List τ→Prop)→Prop
 |[],_,κ=>κ []
 |(j,x)::r,n,κ=>match Nat.beq j n with
  |true=>match H4 K x with
   |some v=>kX v fun l=>match R.un (l.map A0) with
    |some e=>zQ R K r (n+1) fun es=>κ (e::es)
    |none=>False
   |none=>False
  |false=>False
structure If{τ:Type}(R:Y7 τ)(S:St)(A:Option Addr)(n:Nat)(κ:List τ→Prop):Prop where
 go:∃ xs:List τ,Sl R S.h0 A n xs∧(0<n→∀ a,A=some a→¬ a.block∈S.cap)∧κ xs
def Ok{τ:Type}(R:Y7 τ)(S:St)(y:KV)(κ:List τ→Prop):Prop:=match y with
 |.osl k b m c=>match B3 S.ch k with
  |some (b',.arr T R2 ys c')=>VC (b=b'∧0≤m∧m≤ys.length∧c=c') (SR R R2 (ys.take m.toNat) κ)
  |_=>False
 |.osv k b sz o m c=>match B3 S.ch k with
  |some (b',.arr T R2 ys c')=>VC (b=b'∧0≤o∧0≤m∧o+m≤ys.length∧c=c'∧R2.sz=sz) (SR R R2 ((ys.drop o.toNat).take m.toNat) κ)
  |_=>False
 |.val (.slice A m c)=>If R S A m κ
 |_=>False
structure aH(n m:Nat)(κ:Nat→Nat→Prop):Prop where
 go:∀ b c,n≤b→m≤c→κ b c
structure X0(S:St)(b0 m:Nat)(κ:Nat→Nat→Prop):Prop where
 go:∀ b c,(S.h0.size≤b∨b=b0∧b0∈S.cap)→m≤c→κ b c
def Cl(s:ByteArray):List Int:=s.data.toList.map fun b=>(b.toNat:Int)
def Da(dst:Option Nat)(t t':Nat)(x y:KV)(S:St)(κ:KV→St→Prop):Prop:=match dst with
 |none=>False
 | some d => match ty t with
  |some ⟨_,_,_,_,.slice e⟩=>match ty e with
   |some ⟨1,1,_,[.int .u8 0],.int .u8⟩=>match ty t' with
    |some ⟨_,_,_,_,.str⟩=>match y with
     | .val (.string s)=>match x with
      |.val (.slice none 0 0)=>VC (s.size≤140737488355328)
       (Br (s.size=0) (κ (.val (.slice none 0 0)) S)
        (aH S.h0.size s.size fun b cap=>V3 S.ch d fun ch=>gV S ((d,b,.arr e (E9 .u8) (Cl s) cap)::ch) fun S=>κ (.osl d b (s.size:Int) cap) S))
      |.osl k b n c=>match B3 S.ch k with
       |some (b',.arr T R xs c')=>VC (b=b'∧c=c'∧T=e∧0≤n∧n≤xs.length∧n.toNat+s.size≤140737488355328)
        (SR (E9 .u8) R (xs.take n.toNat) fun xs=>X0 S b (n.toNat+s.size) fun b cap=>V3 S.ch k fun ch=>V3 ch d fun ch=>gV S ((d,b,.arr e (E9 .u8) (xs++Cl s) cap)::ch) fun S=>κ (.osl d b (n+(s.size:Int)) cap) S)
       |_=>False
      |_=>False
     |_=>False
    |_=>False
   |_=>False
  |_=>False
def qU(dst:Option Nat)(t:Nat)(x y:KV)(S:St)(κ:KV→St→Prop):Prop:=match dst with
 |none=>False
 | some d => match ty t with
  |some ⟨_,_,_,_,.slice e⟩=>match ty e with
   |none=>False
   |some i=>match x with
    | .val (.slice none 0 0)=>match rep e with
     |none=>False
     |some ⟨R⟩=>Ok R S y fun ys=>VC (R.sz=i.sz∧ys.length*i.bytes≤140737488355328∧ys.length≤9223372036854775807)
      (Br (ys.length=0) (κ (.val (.slice none 0 0)) S)
       (aH S.h0.size ys.length fun b cap=>V3 S.ch d fun ch=>gV S ((d,b,.arr e R ys cap)::ch) fun S=>κ (.osl d b (ys.length:Int) cap) S))
    |.osl k b n c=>match B3 S.ch k with
     |some (b',.arr T R xs c')=>Ok R S y fun ys=>VC (b=b'∧c=c'∧T=e∧R.sz=i.sz∧0≤n∧n≤xs.length∧(n.toNat+ys.length)*i.bytes≤140737488355328∧n.toNat+ys.length≤9223372036854775807)
      (X0 S b (n.toNat+ys.length) fun b cap=>V3 S.ch k fun ch=>V3 ch d fun ch=>gV S ((d,b,.arr e R (xs.take n.toNat++ys) cap)::ch) fun S=>κ (.osl d b (n+(ys.length:Int)) cap) S)
     |_=>False
    |_=>False
  |_=>False
structure Iy(a:Addr)(κ:Nat→Nat→Prop):Prop where
 go:∃ k b,a=⟨b,0,none⟩∧κ k b
def Ea(dst:Option Nat)(t:Nat)(x y:KV)(S:St)(κ:KV→St→Prop):Prop:=match x with
 |.val (.slice (some a) n c)=>Iy a fun k b=>qU ty rep dst t (.osl k b (n:Int) c) y S κ
 |x=>qU ty rep dst t x y S κ
def Qz(xs:List Int)(o:Nat)(ys:List Int):List Int:=xs.take o++ys++xs.drop (o+ys.length)
def Yu(t:Nat)(x y:KV)(S:St)(κ:KV→St→Prop):Prop:=match ty t with
 |some ⟨_,_,_,_,.slice e⟩=>match ty e with
  |some ⟨1,_,_,_,.int .u8⟩=>match y with
   |.val (.string s)=>match x with
    |.osv k b sz o m c=>match B3 S.ch k with
     |some (b',.arr T R xs c')=>VC (b=b'∧sz=1∧0≤o∧0≤m∧o+m≤xs.length∧c=c') (SR (E9 .u8) R xs fun xs=>dF S.ch k (.arr T (E9 .u8) (Qz xs o.toNat ((Cl s).take m.toNat)) c) fun ch=>gV S ch fun S=>κ (.val (.int .i64 (min (s.size:Int) m))) S)
     |_=>False
    |_=>False
   |_=>False
  |_=>False
 |_=>False
def iR(f:Nat):Prop:=∀ args w,(callFunc f args).run P w = .ok (.enter f args) w
def CH(f:Nat)(args:Array Value)(h:A3)(R:Value→A3→Prop):Prop:=
 iR P f∧∀ w:World,w.heap=h→Calls P f args w fun e w'=>(w'.os=w.os∧w'.tape=w.tape∧w'.output=w.output)∧∃ v,e = .returned v∧R v w'.heap
end
def C7(h:A3)(b:Nat):D8→Prop
 |.box T cs=>h[b]?=some (.cells (cs.map A0).toArray T (0,0))
 |.iter s p=>h[b]?=some (.stringIter s p)
 |.obj o=>h[b]?=some o
 |.arr T R xs cap=>∃ c:Array Value,h[b]?=some (.cells c T (0,0))∧c.toList.take (xs.length*R.sz)=xs.flatMap R.cells∧xs.length≤cap∧cap≤maxLen∧c.size=cap*R.sz
structure HS(S:St)(h:A3):Prop where
 size:S.h0.size≤h.size
 frame:∀ b,b<S.h0.size→¬ b∈S.cap→h[b]?=S.h0[b]?
 chunk:∀ e∈S.ch,e.2.1<h.size∧(S.h0.size≤e.2.1∨e.2.1∈S.cap)∧C7 h e.2.1 e.2.2
 apart:S.ch.Pairwise fun e e'=>e.2.1≠e'.2.1
structure Jj where
 f:Nat→Option oP
 pan:Value→A3→Prop
def lY:Value→A3→Prop:=fun _ _=>False
section
variable (P:Program)(ty:Nat→Option gS)(rep:Jj)
def X2(E:Value→A3→Prop)(f:Nat)(args:Array Value)(h:A3)(R:Value→A3→Prop):Prop:=
 iR P f∧∀ w:World,w.heap=h→Calls P f args w fun e w'=>(w'.os=w.os∧w'.tape=w.tape∧w'.output=w.output) ∧
  ((∃ v,e = .returned v∧R v w'.heap)∨∃ v,e = .panicked [{ v:=v,recovered:=false }]∧E v w'.heap)
def BF(f:Nat)(args:Array Value)(h:A3)(R:Value→A3→Prop):Prop:=
 ∀ w:World,w.heap=h→∃ v w',(callFunc f args).run P w = .ok (.value v) w'∧(w'.os=w.os∧w'.tape=w.tape∧w'.output=w.output)∧R v w'.heap
structure CK(E:Value→A3→Prop)(f:Nat)(args caps:List KV)(S:St)(κ:KV→St→Prop):Prop where
 go:∀ h,HS S h→(CH P f (args.map A1++caps.map A0).toArray h fun v h'=>∃ kv S',B0 kv=v∧HS S' h'∧κ kv S') ∨
  (BF P f (args.map A1++caps.map A0).toArray h fun v h'=>∃ kv S',B0 kv=v∧HS S' h'∧κ kv S') ∨
  (X2 P E f (args.map A1++caps.map A0).toArray h fun v h'=>∃ kv S',B0 kv=v∧HS S' h'∧κ kv S')
structure DS(E:Value→A3→Prop)(t:Nat)(v:Value)(S:St):Prop where
 go:∀ h,HS S h→E (.iface t v) h
structure uF(o:Oper)(K:Kn)(S:St)(κ:KV→St→Prop):Prop where
 go:∀ (ρ:Operand→Value) (w:World),(∀ x v,H4 K x=some v→ρ x=B0 v)→HS S w.heap→∃ kv S' w',(execOp ρ o).run P w = .ok (.value (B0 kv)) w'∧(w'.os=w.os∧w'.tape=w.tape∧w'.output=w.output)∧HS S' w'.heap∧κ kv S'
def Nv(P:Program)(t:Nat)(v:Value)(name:String)(S:St)(f:Nat)(r:KV):Prop:=
 ∀ w:World,HS S w.heap→(method (P.types.size+Made.depth) t v name).run P w = .ok (f,A1 r) w
structure DW(E:Value→A3→Prop)(t:Nat)(v:Value)(name:String)(args:List KV)(S:St)(κ:KV→St→Prop):Prop where
 go:∃ f r,Nv P t v name S f r∧CK P E f (r::args) [] S κ
def tT(K:Kn):List Operand→List KV→(List KV→Prop)→Prop
 |[],acc,κ=>κ acc.reverse
 |x::r,acc,κ=>match H4 K x with
  |some v=>BL v fun v=>tT K r (v::acc) κ
  |none=>False
def Yn(o:Oper)(K:Kn)(S:St)(κ:KV→St→Prop):Prop:=match o.op with
 |.alloc t=>match ty t with
  |some ⟨_,_,_,ze,.arr n e⟩=>match rep.f e with
   |some ⟨R⟩=>VC ((List.replicate n R.dflt).flatMap R.cells=ze∧n≤maxLen) (Tc o.dst S (.arr t R (List.replicate n R.dflt) n) fun d b S=>κ (.own d b 0) S)
   |none=>False
  |some i=>Tc o.dst S (.box t (kM i.zero)) fun d b S=>κ (.own d b 0) S
  |none=>False
 |.box t x=>match ty t with
  |some i=>match H4 K x with
   |some v=>kX v fun l=>Tc o.dst S (.box t l) fun d b S=>κ (.own d b 0) S
   |none=>False
  |none=>False
 |.store t x y=>match H4 K x with
  |some p=>match H4 K y with
   |some v=>Eg ty t p v S fun S=>κ (.val undef) S
   |none=>False
  |none=>False
 |.makeSlice t x y=>match ty t with
  |some ⟨_,_,_,_,.slice e⟩=>match ty e with
   |some i=>match rep.f e with
    |some ⟨R⟩=>match H4 K x with
     |some (.val (.int _ l))=>match H4 K y with
      |some (.val (.int _ c))=>VC (0≤l∧l≤c∧(i.bytes:Int)*c≤281474976710656∧c≤9223372036854775807) (VC (R.sz=i.sz∧R.cells R.dflt=i.zero)
       (Tc o.dst S (.arr e R (List.replicate l.toNat R.dflt) c.toNat) fun d b S=>κ (.osl d b l c.toNat) S))
      |_=>False
     |_=>False
    |none=>False
   |none=>False
  |_=>False
 |.buildSlice t len parts=>match ty t with
  |some ⟨_,_,_,_,.slice e⟩=>match ty e with
   |some i=>match rep.f e with
    |some ⟨R⟩=>match Nat.beq parts.toList.length len with
     |true=>VC (R.sz=i.sz∧len*i.sz≤16777216) (zQ R K parts.toList 0 fun es=>Tc o.dst S (.arr e R es len) fun d b S=>κ (.osl d b (len:Int) len) S)
     |false=>False
    |none=>False
   |none=>False
  |_=>False
 |.call ⟨.builtin .append,⟨[x,y]⟩,⟨[t,t']⟩⟩=>match Nat.beq t t' with
  |true=>match H4 K x with
   |some u=>match H4 K y with
    |some v=>Ea ty rep.f o.dst t u v S κ
    |none=>False
   |none=>False
  |false=>match H4 K x with
   |some u=>match H4 K y with
    |some v=>Da ty o.dst t t' u v S κ
    |none=>False
   |none=>False
 |.call ⟨.builtin .copy,⟨[x,y]⟩,⟨[t,_]⟩⟩=>match H4 K x with
  |some u=>match H4 K y with
   |some v=>Yu ty t u v S κ
   |none=>False
  |none=>False
 |.call ⟨.value f,args,_⟩=>match H4 K f with
  |some (.fn f caps)=>tT K args.toList [] fun vs=>CK P rep.pan f vs caps S κ
  |some (.val (.func (.func f) ⟨first⟩ ⟨caps⟩))=>tT K args.toList [] fun vs=>CK P rep.pan f (kM first++vs) (kM caps) S κ
  |_=>False
 |.call ⟨.invoke x name,args,_⟩=>match H4 K x with
  |some (.val (.iface t v))=>tT K args.toList [] fun vs=>DW P rep.pan t v name vs S κ
  |_=>False
 |.range t x=>match ty t with
  |some ⟨_,_,_,_,.str⟩=>match H4 K x with
   |some (.val (.string s))=>Tc o.dst S (.iter s 0) fun d b S=>κ (.own d b 0) S
   |_=>False
  |_=>False
 |.next x true=>match H4 K x with
  |some (.own k b 0)=>match B3 S.ch k with
   |some (b',.iter s p)=>VC (b=b') (Br (p<s.size) (dF S.ch k (.iter s (p+(Utf8.decode s p).2)) fun ch=>gV S ch fun S=>κ (.tup [.val (.bool true),.val (.int .i64 (p:Int)),.val (.int .i32 (Utf8.decode s p).1)]) S)
    (κ (.tup [.val (.bool false)]) S))
   |_=>False
  |_=>False
 |.panic x=>match H4 K x with
  |some (.val (.iface t v))=>DS rep.pan t v S
  |_=>False
 |.lookup ..=>uF P o K S κ
 |.makeMap ..=>uF P o K S κ
 |.insert ..=>uF P o K S κ
 |_=>Qs P ty o K S fun v=>κ v S
end
end Go.Ex
