/-
  Top: TopComments: whatever the input, the law answers true (part 9)
-/
import Derived.Lib.Bytealg
import Derived.Test.YtpjdgifhhnjclaaGreatDoorM08
set_option linter.unusedVariables false
set_option linter.unusedSimpArgs false
set_option maxHeartbeats 4000000
set_option maxRecDepth 10000
namespace Go.Ex
open Go.Proofs
attribute [local irreducible] CH
structure EJ where
 frm:Int
 to:Int
def oQ:Y7 EJ where
 dflt:=⟨0,0⟩
 sz:=2
 cells:=fun x=>[.int .i32 x.frm,.int .i32 x.to]
 un:=fun l=>match l with
  |[.int .i32 a,.int .i32 b]=>some ⟨a,b⟩
  |_=>none
 len:=fun _=>rfl
 un_ok:=fun l x h=>by
  split at h
  ·cases h;rfl
  ·cases h
 one:=fun x v h=>by simp at h;rcases h with rfl|rfl<;>rfl
 pos:=by decide
structure M7 where
 kind:Int
 frm:Int
 to:Int
def C4:Y7 M7 where
 dflt:=⟨0,0,0⟩
 sz:=3
 cells:=fun x=>[.int .u8 x.kind,.int .i64 x.frm,.int .i64 x.to]
 un:=fun l=>match l with
  |[.int .u8 a,.int .i64 b,.int .i64 c]=>some ⟨a,b,c⟩
  |_=>none
 len:=fun _=>rfl
 un_ok:=fun l x h=>by
  split at h
  ·cases h;rfl
  ·cases h
 one:=fun x v h=>by simp at h;rcases h with rfl|rfl|rfl<;>rfl
 pos:=by decide
def E1:Y7 (Option Addr) where
 dflt:=none
 sz:=1
 cells:=fun o=>[.pointer o]
 un:=fun l=>match l with
  |[.pointer o]=>some o
  |_=>none
 len:=fun _=>rfl
 un_ok:=fun l x h=>by
  split at h
  ·cases h;rfl
  ·cases h
 one:=fun x v h=>by simp at h;subst h;rfl
 pos:=by decide
structure Pq where
 kind:Int
 kids:Int
 word:Int
 frm:Int
 to:Int
def DL:Y7 Pq where
 dflt:=⟨0,0,0,0,0⟩
 sz:=5
 cells:=fun x=>[.int .u8 x.kind,.int .i64 x.kids,.int .i64 x.word,.int .i64 x.frm,.int .i64 x.to]
 un:=fun l=>match l with
  |[.int .u8 a,.int .i64 b,.int .i64 c,.int .i64 d,.int .i64 e]=>some ⟨a,b,c,d,e⟩
  |_=>none
 len:=fun _=>rfl
 un_ok:=fun l x h=>by
  split at h
  ·cases h;rfl
  ·cases h
 one:=fun x v h=>by simp at h;rcases h with rfl|rfl|rfl|rfl|rfl<;>rfl
 pos:=by decide
structure M8 where
 kind:Int
 kids:Int
 word:ByteArray
def P3:Y7 M8 where
 dflt:=⟨0,0,⟨#[]⟩⟩
 sz:=3
 cells:=fun x=>[.int .u8 x.kind,.int .i64 x.kids,.string x.word]
 un:=fun l=>match l with
  |[.int .u8 a,.int .i64 b,.string c]=>some ⟨a,b,c⟩
  |_=>none
 len:=fun _=>rfl
 un_ok:=fun l x h=>by
  split at h
  ·cases h;rfl
  ·cases h
 one:=fun x v h=>by simp at h;rcases h with rfl|rfl|rfl<;>rfl
 pos:=by decide
def rep:Nat→Option oP
 |3=>some ⟨E9 .i64⟩
 |5=>some ⟨E9 .u8⟩
 |21=>some ⟨E9 .i32⟩
 |40=>some ⟨C4⟩
 |45=>some ⟨DL⟩
 |51=>some ⟨P3⟩
 |63=>some ⟨E1⟩
 |93=>some ⟨E9 .i64⟩
 |150=>some ⟨oQ⟩
 |151=>some ⟨oQ⟩
 |_=>none
theorem CD {f : Nat} {fn : Func} (hf : Tryz.prog.funcs[f]? = some fn) : (fn.name == "runtime.NumGoroutine") = false := by
 have h : (Tryz.prog.funcs.all fun fn => !(fn.name == "runtime.NumGoroutine")) = true := by kernel_rfl
 have:=Array.all_eq_true'.1 h fn (Array.mem_of_getElem? hf)
 simpa using this
section
variable {E:Value→A3→Prop}{S:St}{f n:Nat}{fn:Func}{c:Code}{rs:List ResultVar}{R:Value→A3→Prop}{h:A3}
theorem O9(m:Nat)(ex cu:List Nat)(args:List KV)(hf:Tryz.prog.funcs[f]?=some fn)(e:(fn.body,fn.results,fn.ntmps,Nat.ble args.length n)=(some c,rs.toArray,n,true))(hs:HS S h)
 (hk:J8 Tryz.prog ty ⟨rep,E⟩ n m ex cu c ⟨kS ty rs R,[]⟩ (kS ty rs R) (mC 0 args) S):X2 Tryz.prog E f (args.map B0).toArray h R:=by
 simp only [Prod.mk.injEq] at e
 exact eP tO hf e.1 (CD hf) e.2.1 e.2.2.1 e.2.2.2 hs hk
theorem hX(m:Nat)(ex cu:List Nat)(args:List KV)(hf:Tryz.prog.funcs[f]?=some fn)(e:(fn.body,fn.results,fn.ntmps,Nat.ble args.length n)=(some c,rs.toArray,n,true))(hs:HS S h)
 (hk:J8 Tryz.prog ty ⟨rep,lY⟩ n m ex cu c ⟨kS ty rs R,[]⟩ (kS ty rs R) (mC 0 args) S):CH Tryz.prog f (args.map B0).toArray h R:=by
 simp only [Prod.mk.injEq] at e
 exact EG tO hf e.1 (CD hf) e.2.1 e.2.2.1 e.2.2.2 hs hk
theorem Q0(m:Nat)(ex cu:List Nat)(args:List KV)(hf:Tryz.prog.funcs[f]?=some fn)(e:(fn.body,fn.results,fn.ntmps,Nat.ble args.length n)=(some c,rs.toArray,n,true))
 (hk:J8 Tryz.prog ty ⟨rep,lY⟩ n m ex cu c ⟨kS ty rs R,[]⟩ (kS ty rs R) (mC 0 args) ⟨h,[],[]⟩):CH Tryz.prog f (args.map B0).toArray h R:=
 hX m ex cu args hf e (HS.start h) hk
end
theorem D0{p:Prop}(h:p):A0 (.prop p) = .bool true:=by simp [A0,h]
theorem K8{p:Prop}(h:¬ p):A0 (.prop p) = .bool false:=by simp [A0,h]
def cA(c:Int):Int:=if 48≤c∧c≤57 then c-48 else if 97≤c∧c≤102 then c-97+10 else if 65≤c∧c≤70 then c-65+10 else 99
theorem J5(c:Int)(h:A3)(hc:0≤c∧c<256):CH Tryz.prog 119 #[.int .u8 c] h fun v h'=>v = .int .i64 (cA c)∧A5 h h':=by
 refine Q0 4 [13,24] [] [.val (.int .u8 c)] Tryz.func119 rfl ?_
 obtain⟨c0,c1⟩:=hc
 ((repeat' (conv=>whnf);first|(refine Ar.fit (by omega) ?_)|(refine Br.mk ?_ ?_<;>intro hb<;>(try omega))|fail);all_goals try conv=>whnf)
 all_goals exact⟨fun h' hs=>⟨P9 (by simp only [cA];split<;>first|omega|(split<;>first|omega|(split<;>omega))),hs.grows⟩⟩
def CV(s:ByteArray)(base n:Int):Prop:=n<s.size∧cA (A4 s n)<base
instance (s:ByteArray) (base n:Int):Decidable (CV s base n):=by unfold CV;exact inferInstance
theorem L0(s:ByteArray)(i:Int):0≤A4 s i∧A4 s i<256:=by
 simp only [A4]
 have:=(s.data.toList.getD i.toNat 0).toNat_lt
 omega
def lS(s:ByteArray)(base:Int):Nat→Int→Int
 |0,n=>n
 |f+1,n=>if CV s base n then (if n+1+1<s.size∧A4 s (n+1)=95∧cA (A4 s (n+1+1))<base then lS s base f (n+1+1) else lS s base f (n+1)) else n
def J2(s:ByteArray)(base:Int):Int:=lS s base s.size 0
theorem qI(s:ByteArray)(base:Int)(h:A3)(hs:s.size≤140737488355328):CH Tryz.prog 77 #[.string s,.int .i64 base] h fun v h'=>v = .int .i64 (J2 s base)∧A5 h h':=by
 refine Q0 7 [9,31] [] [.val (.string s),.val (.int .i64 base)] Tryz.func77 rfl ?_
 ((repeat' (conv=>whnf);first|(refine VC.mk (by omega) ?_)|(refine E5.mk ?_;intro b hb)|fail);all_goals try conv=>whnf)
 rename_i b2 hb2 b3 hb3
 refine N1 tO [] (fun n:Int=>[]) (fun n=>[(5,b,.box 3 [.val (.int .i64 n)]),(3,b3,.box 3 [.val (.int .i64 base)]),(2,b2,.box 9 [.val (.string s)])]) (fun μ n=>0≤n∧n≤s.size∧s.size-n≤μ∧lS s base μ n=J2 s base) s.size 0 ?_
 conv=>whnf
 refine⟨by ((repeat (refine⟨rfl,?_⟩));trivial),⟨rfl,rfl,rfl,rfl,rfl,rfl,trivial⟩,⟨by omega,by omega,by omega,rfl⟩,?_⟩
 rintro μ n ⟨a0,a1,a2,a3⟩
 have r0:=L0 s n
 have r1:=L0 s (n+1+1)
 dsimp only
 by_cases hd:CV s base n
 ·obtain⟨f,rfl⟩:∃ f,μ=f+1:=⟨μ-1,by have:=hd.1;omega⟩
  simp only [lS] at a3
  rw [if_pos hd] at a3
  obtain⟨d1,d2⟩:=hd
  by_cases hu:n+1+1<s.size∧A4 s (n+1)=95∧cA (A4 s (n+1+1))<base
  ·rw [if_pos hu] at a3
   ((repeat' (conv=>whnf);first|(refine Ar.fit (by omega) ?_)|(refine VC.mk (by omega) ?_)|(refine Br.mk ?_ ?_<;>intro hb<;>(try omega))|(refine drawn tO mixed (by kernel_rfl) ?_)|(refine CK.inline (rep:=rep) tO Tryz.func129 rfl (by decide) (rs:=[.tmp 3]) rfl 4 [] [] rfl rfl rfl ?_)|(apply V9.pure;case hh=>intro h1 hs;exact J5 _ h1 (by omega))|fail);all_goals try conv=>whnf)
   all_goals exact⟨f,n+1+1,⟨by omega,by omega,by omega,a3⟩,by omega,by ((repeat (refine⟨rfl,?_⟩));trivial),rfl,rfl,⟨rfl,rfl,rfl,rfl,rfl,rfl,trivial⟩⟩
  ·rw [if_neg hu] at a3
   ((repeat' (conv=>whnf);first|(refine Ar.fit (by omega) ?_)|(refine VC.mk (by omega) ?_)|(refine Br.mk ?_ ?_<;>intro hb<;>(try omega))|(refine drawn tO mixed (by kernel_rfl) ?_)|(refine CK.inline (rep:=rep) tO Tryz.func129 rfl (by decide) (rs:=[.tmp 3]) rfl 4 [] [] rfl rfl rfl ?_)|(apply V9.pure;case hh=>intro h1 hs;exact J5 _ h1 (by omega))|fail);all_goals try conv=>whnf)
   all_goals exact⟨f,n+1,⟨by omega,by omega,by omega,a3⟩,by omega,by ((repeat (refine⟨rfl,?_⟩));trivial),rfl,rfl,⟨rfl,rfl,rfl,rfl,rfl,rfl,trivial⟩⟩
 ·have hr:n=J2 s base:=by
   rw [←a3]
   cases μ with
   |zero=>rfl
   |succ f=>simp only [lS];rw [if_neg hd]
  simp only [CV] at hd
  ((repeat' (conv=>whnf);first|(refine VC.mk (by omega) ?_)|(refine Br.mk ?_ ?_<;>intro hb<;>(try omega))|(refine drawn tO mixed (by kernel_rfl) ?_)|(refine CK.inline (rep:=rep) tO Tryz.func129 rfl (by decide) (rs:=[.tmp 3]) rfl 4 [] [] rfl rfl rfl ?_)|(apply V9.pure;case hh=>intro h1 hs;exact J5 _ h1 (by omega))|fail);all_goals try conv=>whnf)
  all_goals exact⟨fun h' hs=>⟨P9 hr,hs.grows⟩⟩
theorem nL(s:ByteArray)(base:Int):∀ (f:Nat) (n:Int),n≤s.size→n≤lS s base f n∧lS s base f n≤s.size
 |0,n,h=>⟨Int.le_refl _,h⟩
 |f+1,n,h=>by
  simp only [lS]
  split
  ·rename_i hd
   have:=hd.1
   split
   ·have:=nL s base f (n+1+1) (by omega);omega
   ·have:=nL s base f (n+1) (by omega);omega
  ·omega
theorem lT(s:ByteArray)(base:Int):0≤J2 s base∧J2 s base≤s.size:=nL s base s.size 0 (by omega)
end Go.Ex
namespace Go.Ex
open Go.Proofs
attribute [local irreducible] CH
theorem yD{a b:ByteArray}(h:a=b):B0 (.val (.string a)) = .string b:=by rw [h];rfl
abbrev sub(s:ByteArray)(a b:Int):ByteArray:=s.extract a.toNat b.toNat
theorem K1(s:ByteArray)(a b:Int)(h0:0≤a)(h1:a≤b)(h2:b≤s.size):((sub s a b).size:Int)=b-a:=by
 simp only [ByteArray.size_extract];omega
def O2(s p:ByteArray):Prop:=(p.size:Int)≤s.size∧sub s 0 p.size=p
instance (s p:ByteArray):Decidable (O2 s p):=by unfold O2;exact inferInstance
def vD(s p:ByteArray):Prop:=(p.size:Int)≤s.size∧sub s (s.size-p.size) s.size=p
instance (s p:ByteArray):Decidable (vD s p):=by unfold vD;exact inferInstance
def G2(s p:ByteArray):ByteArray:=if O2 s p then sub s p.size s.size else s
theorem nU(s p:ByteArray)(h:A3):CH Tryz.prog 115 #[.string s,.string p] h fun v h'=>v=A0 (.prop (O2 s p))∧A5 h h':=by
 refine Q0 5 [] [] [.val (.string s),.val (.string p)] Tryz.func115 rfl ?_
 ((repeat' (conv=>whnf);first|(refine VC.mk (by omega) ?_)|(refine Br.mk ?_ ?_<;>intro hb)|fail);all_goals try conv=>whnf)
 ·exact⟨fun h' hs=>⟨C3 ⟨fun h=>⟨hb,h⟩,fun h=>h.2⟩,hs.grows⟩⟩
 ·exact⟨fun h' hs=>⟨C0 (fun h=>hb h.1),hs.grows⟩⟩
theorem bJ(s p:ByteArray)(h:A3):CH Tryz.prog 63 #[.string s,.string p] h fun v h'=>v=A0 (.prop (O2 s p))∧A5 h h':=by
 refine Q0 5 [] [] [.val (.string s),.val (.string p)] Tryz.func63 rfl ?_
 ((repeat' (conv=>whnf);first|(refine A7 ?_ fun h1 hs=>nU s p h1)|fail);all_goals try conv=>whnf)
 exact⟨fun h' hs=>⟨C3 (by simp only [decide_eq_true_eq]),hs.grows⟩⟩
theorem No(s p:ByteArray)(h:A3)(hs:s.size≤140737488355328):CH Tryz.prog 128 #[.string s,.string p] h fun v h'=>v=A0 (.prop (vD s p))∧A5 h h':=by
 refine Q0 5 [] [] [.val (.string s),.val (.string p)] Tryz.func128 rfl ?_
 ((repeat' (conv=>whnf);first|(refine Ar.fit (by omega) ?_)|(refine VC.mk (by omega) ?_)|(refine Br.mk ?_ ?_<;>intro hb)|fail);all_goals try conv=>whnf)
 ·exact⟨fun h' hs=>⟨C3 ⟨fun h=>⟨hb,h⟩,fun h=>h.2⟩,hs.grows⟩⟩
 ·exact⟨fun h' hs=>⟨C0 (fun h=>hb h.1),hs.grows⟩⟩
theorem Id(s p:ByteArray)(h:A3)(hs:s.size≤140737488355328):CH Tryz.prog 76 #[.string s,.string p] h fun v h'=>v=A0 (.prop (vD s p))∧A5 h h':=by
 refine Q0 5 [] [] [.val (.string s),.val (.string p)] Tryz.func76 rfl ?_
 have hs':=hs
 ((repeat' (conv=>whnf);first|(refine A7 ?_ fun h1 hs=>No s p h1 hs')|fail);all_goals try conv=>whnf)
 exact⟨fun h' hs=>⟨C3 (by simp only [decide_eq_true_eq]),hs.grows⟩⟩
theorem Ph(s p:ByteArray)(h:A3):CH Tryz.prog 186 #[.string s,.string p] h fun v h'=>v = .string (G2 s p)∧A5 h h':=by
 refine Q0 5 [7] [] [.val (.string s),.val (.string p)] Tryz.func186 rfl ?_
 by_cases hp:O2 s p
 ·have hp1:=hp.1
  ((repeat' (conv=>whnf);first|(refine VC.mk (by omega) ?_)|(refine Br.mk ?_ ?_<;>intro hb<;>(try (exact absurd rfl hb)))|(refine A7 ?_ fun h1 hs=>(nU s p h1).mono (fun v h' ⟨e1,e2⟩=>⟨e1.trans (D0 hp),e2⟩))|fail);all_goals try conv=>whnf)
  all_goals exact⟨fun h' hs=>⟨yD (by rw [G2,if_pos hp]),hs.grows⟩⟩
 ·((repeat' (conv=>whnf);first|(refine Br.mk ?_ ?_<;>intro hb<;>(try (exact Bool.noConfusion hb)))|(refine A7 ?_ fun h1 hs=>(nU s p h1).mono (fun v h' ⟨e1,e2⟩=>⟨e1.trans (K8 hp),e2⟩))|fail);all_goals try conv=>whnf)
  all_goals exact⟨fun h' hs=>⟨yD (by rw [G2,if_neg hp]),hs.grows⟩⟩
theorem vM(s p:ByteArray)(h:A3):CH Tryz.prog 162 #[.string s,.string p] h fun v h'=>v = .string (G2 s p)∧A5 h h':=by
 refine Q0 5 [] [] [.val (.string s),.val (.string p)] Tryz.func162 rfl ?_
 ((repeat' (conv=>whnf);first|(refine A7 ?_ fun h1 hs=>Ph s p h1)|fail);all_goals try conv=>whnf)
 exact⟨fun h' hs=>⟨rfl,hs.grows⟩⟩
theorem CG(s:ByteArray)(c:Int)(w:World):(callFunc 157 #[.string s,.int .u8 c]).run Tryz.prog w = .ok (.value (.int .i64 (Go.Lib.indexByte s.data.toList c.toNat.toUInt8))) w:=by
 rw [run_callFunc_extern (e:=Extern.BytealgIndexByte.indexByte) Tryz.func157 (by decide) rfl (by decide +kernel) (by kernel_rfl)]
 rw [Go.Lib.run_indexByteString]
 rfl
def H7(s:ByteArray)(c:Int):Int:=Go.Lib.indexByte s.data.toList c.toNat.toUInt8
theorem eZ(s:ByteArray)(c:Int) : -1≤H7 s c∧H7 s c<s.size:=by
 refine⟨Go.Lib.indexByte_ge _ _,?_⟩
 have key:∀ (l:List UInt8) (c:UInt8),Go.Lib.indexByte l c<l.length:=by
  intro l c
  induction l with
  |nil=>simp [Go.Lib.indexByte]
  |cons b l ih=>
   unfold Go.Lib.indexByte
   simp only [List.length_cons]
   split
   ·omega
   ·split<;>omega
 have:=key s.data.toList c.toNat.toUInt8
 rw [Array.length_toList] at this
 exact this
theorem Rh(s:ByteArray)(c:Int)(h:A3):CH Tryz.prog 116 #[.string s,.int .u8 c] h fun v h'=>v = .int .i64 (H7 s c)∧A5 h h':=by
 refine Q0 5 [] [] [.val (.string s),.val (.int .u8 c)] Tryz.func116 rfl ?_
 (try (conv=>whnf))
 refine CK.ext _ (fun w=>CG s c w) ?_
 (try (conv=>whnf))
 exact⟨fun h' hs=>⟨rfl,hs.grows⟩⟩
theorem aZ(s:ByteArray)(c:Int)(h:A3):CH Tryz.prog 64 #[.string s,.int .u8 c] h fun v h'=>v = .int .i64 (H7 s c)∧A5 h h':=by
 refine Q0 5 [] [] [.val (.string s),.val (.int .u8 c)] Tryz.func64 rfl ?_
 ((repeat' (conv=>whnf);first|(refine A7 ?_ fun h1 hs=>Rh s c h1)|fail);all_goals try conv=>whnf)
 exact⟨fun h' hs=>⟨rfl,hs.grows⟩⟩
end Go.Ex
