/-
  Top: TopComments: whatever the input, the law answers true (part 18)
-/
import Derived.Shelf.Strings.SlTrimAscii
import Derived.Test.YtpjdgifhhnjclaaGreatDoorM17
set_option linter.unusedVariables false
set_option linter.unusedSimpArgs false
set_option maxHeartbeats 4000000
set_option maxRecDepth 10000
namespace Go.Ex
open Go.Proofs
attribute [local irreducible] CH A4 J2 H7 cA G2 cD R3 nG U0 O2 vD
theorem Ig{s:ByteArray}{r:Int}(hr:U0 s=r)(h:A3)(hs:s.size≤140737488355328):CH Tryz.prog 126 #[.string s] h fun v h'=>v = .int .u8 r∧A5 h h':=by subst hr;exact Tb s h hs
def dL(s:ByteArray):Int:=
 if 1<s.size∧A4 s 0=48 then
  (if A4 s 1=98∨A4 s 1=66 then R3 (sub s 2 s.size) 2
   else if A4 s 1=111∨A4 s 1=79 then R3 (sub s 2 s.size) 8
   else if A4 s 1=120∨A4 s 1=88 then U0 (sub s 2 s.size) else nG s)
 else nG s
theorem Hs(s:ByteArray)(h:A3)(hs:s.size≤140737488355328):CH Tryz.prog 75 #[.string s] h fun v h'=>v = .int .u8 (dL s)∧A5 h h':=by
 refine Q0 3 [10,12,13,19,25] [] [.val (.string s)] Tryz.func75 rfl ?_
 simp only [dL]
 dsimp only [sub]
 obtain⟨a,ha⟩:∃ a,R3 (s.extract (2:Int).toNat (s.size:Int).toNat) 2=a:=⟨_,rfl⟩
 obtain⟨b,hb⟩:∃ b,R3 (s.extract (2:Int).toNat (s.size:Int).toNat) 8=b:=⟨_,rfl⟩
 obtain⟨c,hc⟩:∃ c,U0 (s.extract (2:Int).toNat (s.size:Int).toNat)=c:=⟨_,rfl⟩
 obtain⟨d,hd⟩:∃ d,nG s=d:=⟨_,rfl⟩
 rw [ha,hb,hc,hd]
 have hb':=hb
 ((repeat' (conv=>whnf);first|(refine VC.mk (by omega) ?_)|(refine Br.mk ?_ ?_<;>intro hb<;>(try omega))|(refine A7 ?_ fun h1 hs=>Z1 ha h1 (by exact Nat.le_trans (X8 _ _ _) (by omega)))|(refine A7 ?_ fun h1 hs=>Z1 hb' h1 (by exact Nat.le_trans (X8 _ _ _) (by omega)))|(refine A7 ?_ fun h1 hs=>Ig hc h1 (by exact Nat.le_trans (X8 _ _ _) (by omega)))|(refine A7 ?_ fun h1 hs=>Oz hd h1 (by omega))|fail);all_goals try conv=>whnf)
 all_goals exact⟨fun h' hs=>⟨P9 (by (repeat' split)<;>first|rfl|omega),hs.grows⟩⟩
theorem qJ{s:ByteArray}{r:Int}(hr:dL s=r)(h:A3)(hs:s.size≤140737488355328):CH Tryz.prog 75 #[.string s] h fun v h'=>v = .int .u8 r∧A5 h h':=by subst hr;exact Hs s h hs
abbrev iS:ByteArray:=⟨#[105]⟩
def aS(s:ByteArray):Int:=
 if ¬ dL s=0 then dL s
 else if ¬ vD s iS then 0
 else if ¬ dL (sub s 0 (s.size-1))=0 then 5
 else if ¬ sub s 0 (s.size-1)=sM∧J2 (sub s 0 (s.size-1)) 10=(sub s 0 (s.size-1)).size then 5 else 0
attribute [local irreducible] dL
theorem Fd(s:ByteArray)(h:A3)(hs:s.size≤140737488355328):CH Tryz.prog 48 #[.string s] h fun v h'=>v = .int .u8 (aS s)∧A5 h h':=by
 refine Q0 4 [7,11,30] [] [.val (.string s)] Tryz.func48 rfl ?_
 simp only [aS]
 obtain⟨a,ha⟩:∃ a,dL s=a:=⟨_,rfl⟩
 rw [ha]
 by_cases ha0:¬ a=0
 ·rw [if_pos ha0]
  ((repeat' (conv=>whnf);first|(refine Br.mk ?_ ?_<;>intro hb<;>(try omega))|(refine A7 ?_ fun h1 hs=>qJ ha h1 (by omega))|fail);all_goals try conv=>whnf)
  all_goals exact⟨fun h' hs=>⟨rfl,hs.grows⟩⟩
 rw [if_neg ha0]
 by_cases hi:vD s iS
 case neg=>
  rw [if_pos hi]
  ((repeat' (conv=>whnf);first|(refine Br.mk ?_ ?_<;>intro hb<;>(try (first|omega|contradiction)))|(refine A7 ?_ fun h1 hs=>qJ ha h1 (by omega))|(refine A7 ?_ fun h1 hs=>(Id s iS h1 (by omega)).mono (fun v h' ⟨e1,e2⟩=>⟨e1.trans (K8 hi),e2⟩))|fail);all_goals try conv=>whnf)
  all_goals exact⟨fun h' hs=>⟨rfl,hs.grows⟩⟩
 rw [if_neg (fun hn=>hn hi)]
 have h1s:(1:Int)≤s.size:=by
  have:=hi
  unfold vD at this
  exact this.1
 have z:=K1 s 0 (s.size-1) (by omega) (by omega) (by omega)
 obtain⟨t,ht⟩:∃ t,sub s 0 (s.size-1)=t:=⟨_,rfl⟩
 rw [ht] at z ⊢
 dsimp only [sub] at ht
 obtain⟨b,hb⟩:∃ b,dL t=b:=⟨_,rfl⟩
 obtain⟨n,hn⟩:∃ n,J2 t 10=n:=⟨_,rfl⟩
 rw [hb,hn]
 have hb':=hb
 ((repeat' (conv=>whnf);first|(refine Ar.fit (by omega) ?_)|(refine VC.mk (by omega) ?_)|(refine Br.mk ?_ ?_<;>intro hb<;>(try (first|omega|exact absurd rfl hb)))|(refine A7 ?_ fun h1 hs=>qJ ha h1 (by omega))|(refine A7 ?_ fun h1 hs=>(Id s iS h1 (by omega)).mono (fun v h' ⟨e1,e2⟩=>⟨e1.trans (D0 hi),e2⟩))|fail);all_goals try conv=>whnf)
 rw [ht]
 ((repeat' (conv=>whnf);first|(refine Br.mk ?_ ?_<;>intro hb)|(refine A7 ?_ fun h1 hs=>qJ hb' h1 (by omega))|(refine A7 ?_ fun h1 hs=>bR hn h1 (by omega))|fail);all_goals try conv=>whnf)
 all_goals exact⟨fun h' hs=>⟨P9 (by (repeat' split)<;>first|rfl|(exfalso;simp_all;done)|omega),hs.grows⟩⟩
theorem jE{s:ByteArray}{r:Int}(hr:aS s=r)(h:A3)(hs:s.size≤140737488355328):CH Tryz.prog 48 #[.string s] h fun v h'=>v = .int .u8 r∧A5 h h':=by subst hr;exact Fd s h hs
def eD(s:ByteArray)(at_:Int):Prop:=0≤at_∧at_<s.size∧(cA (A4 s at_)<10∨A4 s at_=46∧at_+1<s.size∧cA (A4 s (at_+1))<10)
instance (s:ByteArray) (i:Int):Decidable (eD s i):=by unfold eD;exact inferInstance
theorem gQ(s:ByteArray)(i:Int)(h:A3)(hs:s.size≤140737488355328):CH Tryz.prog 118 #[.string s,.int .i64 i] h fun v h'=>v=A0 (.prop (eD s i))∧A5 h h':=by
 refine Q0 5 [12] [] [.val (.string s),.val (.int .i64 i)] Tryz.func118 rfl ?_
 have q0:=L0 s i
 have q1:=L0 s (i+1)
 ((repeat' (conv=>whnf);first|(refine Ar.fit (by omega) ?_)|(refine VC.mk (by omega) ?_)|(refine Br.mk ?_ ?_<;>intro hb)|(refine A7 ?_ fun h1 hs=>J5 _ h1 (by omega))|fail);all_goals try conv=>whnf)
 all_goals first
  |exact⟨fun h' hs=>⟨C0 (by simp only [eD];omega),hs.grows⟩⟩
  |exact⟨fun h' hs=>⟨B8 (by simp only [eD];omega),hs.grows⟩⟩
  |exact⟨fun h' hs=>⟨C3 (by simp only [eD];omega),hs.grows⟩⟩
end Go.Ex
namespace Go.Ex
open Go.Proofs
attribute [local irreducible] CH A4 J2 H7 cA G2 cD R3 nG U0 O2 vD dL aS eD bX
abbrev Ap:ByteArray:=⟨#[48,120]⟩
abbrev Ut:ByteArray:=⟨#[48,88]⟩
def jL(s:ByteArray)(a:Int):Prop:=O2 (sub s a s.size) Ap∨O2 (sub s a s.size) Ut
instance (s:ByteArray) (a:Int):Decidable (jL s a):=by unfold jL;exact inferInstance
def aA(s:ByteArray)(a to:Int):Int:=if a<to then bX .or .u8 (A4 s (to-1)) 32 else 0
def qD(c:Int):Prop:=c=95∨c=46∨cA c<10∨(97≤c∧c≤122)∨(65≤c∧c≤90)
def Dz(hex:Bool)(c l:Int):Prop:=(c=43∨c=45)∧(l=101∧hex=false∨l=112∧hex=true)
def fI(s:ByteArray)(a:Int)(hex:Bool)(to:Int):Prop:=to<s.size∧(qD (A4 s to)∨Dz hex (A4 s to) (aA s a to))
instance (s:ByteArray) (a:Int) (hex:Bool) (to:Int):Decidable (fI s a hex to):=by unfold fI qD Dz;exact inferInstance
def bP(s:ByteArray)(a:Int)(hex:Bool):Nat→Int→Int
 |0,to=>to
 |f+1,to=>if fI s a hex to then bP s a hex f (to+1) else to
theorem iD(s:ByteArray)(a:Int)(hex:Bool):∀ (f:Nat) (to:Int),to≤s.size→to≤bP s a hex f to∧bP s a hex f to≤s.size
 |0,to,h=>⟨Int.le_refl _,h⟩
 |f+1,to,h=>by
  simp only [bP]
  split
  ·rename_i hm
   have:=hm.1
   have:=iD s a hex f (to+1) (by omega)
   omega
  ·omega
def aR(s:ByteArray)(a:Int):Int:=bP s a (decide (jL s a)) s.size a
def S4(s:ByteArray)(a:Int):Int×Int×Int:=if ¬ eD s a then (0,0,15) else if ¬ aS (sub s a (aR s a))=0 then (aS (sub s a (aR s a)),aR s a,0) else (0,0,4)
theorem Re{s:ByteArray}{a:Int}(h:eD s a):0≤a∧a<s.size:=by
 unfold eD at h;exact⟨h.1,h.2.1⟩
theorem Ao(s:ByteArray)(a:Int)(h:A3)(hs:s.size≤140737488355328):CH Tryz.prog 67 #[.string s,.int .i64 a] h fun v h'=>v = .tuple #[.int .u8 (S4 s a).1,.int .i64 (S4 s a).2.1,.int .i64 (S4 s a).2.2]∧A5 h h':=by
 refine Q0 12 [15,30,62,65,91,98] [] [.val (.string s),.val (.int .i64 a)] Tryz.func67 rfl ?_
 by_cases hbg:eD s a
 case neg=>
  have e:S4 s a=(0,0,15):=by rw [S4,if_pos hbg]
  rw [e]
  ((repeat' (conv=>whnf);first|(refine Br.mk ?_ ?_<;>intro hb<;>(try (contradiction)))|(refine A7 ?_ fun h1 hs=>(gQ s a h1 (by omega)).mono (fun v h' ⟨e1,e2⟩=>⟨e1.trans (K8 hbg),e2⟩))|fail);all_goals try conv=>whnf)
  all_goals exact⟨fun h' hs=>⟨rfl,hs.grows⟩⟩
 obtain⟨g0,g1⟩:=Re hbg
 have hx:∃ hex:Bool,aR s a=bP s a hex s.size a∧((hex=true∧O2 (sub s a s.size) Ap)∨(hex=true∧¬ O2 (sub s a s.size) Ap∧O2 (sub s a s.size) Ut)∨(hex=false∧¬ O2 (sub s a s.size) Ap∧¬ O2 (sub s a s.size) Ut)):=by
  by_cases h1:O2 (sub s a s.size) Ap
  ·exact⟨true,by rw [aR,decide_eq_true (show jL s a from .inl h1)],.inl ⟨rfl,h1⟩⟩
  ·by_cases h2:O2 (sub s a s.size) Ut
   ·exact⟨true,by rw [aR,decide_eq_true (show jL s a from .inr h2)],.inr (.inl ⟨rfl,h1,h2⟩)⟩
   ·exact⟨false,by rw [aR,decide_eq_false (show ¬ jL s a from fun h=>h.elim h1 h2)],.inr (.inr ⟨rfl,h1,h2⟩)⟩
 obtain⟨hex,hto,hcase⟩:=hx
 obtain⟨E,hE⟩:∃ E,aR s a=E:=⟨_,rfl⟩
 rw [hE] at hto
 have hEr:a≤E∧E≤s.size:=by rw [hto];exact iD s a hex s.size a (by omega)
 dsimp only [sub] at hcase
 obtain⟨k,hk⟩:∃ k,aS (s.extract a.toNat E.toNat)=k:=⟨_,rfl⟩
 have e:S4 s a=if ¬ k=0 then (k,E,0) else (0,0,4):=by
  rw [S4,if_neg (fun hn=>hn hbg),hE]
  dsimp only [sub]
  rw [hk]
 rw [e]
 have hcase':=trivial
 rcases hcase with ⟨rfl,c1⟩|⟨rfl,c1,c2⟩|⟨rfl,c1,c2⟩
 ·((repeat' (conv=>whnf);first|(refine VC.mk (by omega) ?_)|(refine Br.mk ?_ ?_<;>intro hb<;>(try (exact absurd rfl hb)))|(refine A7 ?_ fun h1 hs=>(gQ s a h1 (by omega)).mono (fun v h' ⟨e1,e2⟩=>⟨e1.trans (D0 hbg),e2⟩))|(refine A7 ?_ fun h1 hs=>(bJ _ _ h1).mono (fun v h' ⟨e1,e2⟩=>⟨e1.trans (D0 c1),e2⟩))|fail);all_goals try conv=>whnf)
  refine N1 tO [8] (fun to:Int=>[(8,.val (.int .i64 to))]) (fun _=>[]) (fun μ to=>a≤to∧to≤s.size∧s.size-to≤μ∧bP s a true μ to=E) s.size a ?_
  conv=>whnf
  refine⟨by ((repeat (refine⟨rfl,?_⟩));trivial),trivial,⟨by omega,by omega,by omega,hto.symm⟩,?_⟩
  rintro μ to ⟨t1,t2,t3,t4⟩
  dsimp only
  have q:=L0 s to
  have hl:(a<to∧aA s a to=bX .or .u8 (A4 s (to-1)) 32)∨(a=to∧aA s a to=0):=by
   by_cases h:a<to
   ·exact .inl ⟨h,by rw [aA,if_pos h]⟩
   ·exact .inr ⟨by omega,by rw [aA,if_neg h]⟩
  obtain⟨l,hle⟩:∃ l,aA s a to=l:=⟨_,rfl⟩
  rw [hle] at hl
  have hmi:fI s a true to↔(to<s.size∧((A4 s to=95∨A4 s to=46∨cA (A4 s to)<10∨(97≤A4 s to∧A4 s to≤122)∨(65≤A4 s to∧A4 s to≤90))∨((A4 s to=43∨A4 s to=45)∧l=112))):=by
   simp [fI,qD,Dz,hle]
  by_cases hm:fI s a true to
  ·obtain⟨f,rfl⟩:∃ f,μ=f+1:=⟨μ-1,by have:=hm.1;omega⟩
   simp only [bP] at t4
   rw [if_pos hm] at t4
   rw [hmi] at hm
   obtain⟨m1,m2⟩:=hm
   clear hmi hcase' hk e hE hto
   rcases hl with ⟨l1,l2⟩|⟨l1,l2⟩
   ·((repeat' (conv=>whnf);first|(refine Ar.fit (by omega) ?_)|(refine VC.mk (by omega) ?_)|(refine Br.mk ?_ ?_<;>intro hb<;>(try omega))|(refine A7 ?_ fun h1 hs=>J5 _ h1 (by omega))|fail);all_goals try conv=>whnf)
    all_goals exact⟨f,to+1,⟨by omega,by omega,by omega,t4⟩,by omega,by ((repeat (refine⟨rfl,?_⟩));trivial),rfl,rfl,trivial⟩
   ·((repeat' (conv=>whnf);first|(refine Ar.fit (by omega) ?_)|(refine VC.mk (by omega) ?_)|(refine Br.mk ?_ ?_<;>intro hb<;>(try omega))|(refine A7 ?_ fun h1 hs=>J5 _ h1 (by omega))|fail);all_goals try conv=>whnf)
    all_goals exact⟨f,to+1,⟨by omega,by omega,by omega,t4⟩,by omega,by ((repeat (refine⟨rfl,?_⟩));trivial),rfl,rfl,trivial⟩
  ·have hE2:to=E:=by
    rw [←t4]
    cases μ with
    |zero=>rfl
    |succ f=>simp only [bP];rw [if_neg hm]
   rw [hmi] at hm
   subst hE2
   clear hmi hcase' e hE hto
   rcases hl with ⟨l1,l2⟩|⟨l1,l2⟩
   ·((repeat' (conv=>whnf);first|(refine Ar.fit (by omega) ?_)|(refine VC.mk (by omega) ?_)|(refine Br.mk ?_ ?_<;>intro hb<;>(try omega))|(refine A7 ?_ fun h1 hs=>J5 _ h1 (by omega))|(refine A7 ?_ fun h1 hs=>jE hk h1 (by exact Nat.le_trans (X8 _ _ _) (by omega)))|fail);all_goals try conv=>whnf)
    all_goals (split<;>first|omega|exact⟨fun h' hs=>⟨rfl,hs.grows⟩⟩)
   ·((repeat' (conv=>whnf);first|(refine VC.mk (by omega) ?_)|(refine Br.mk ?_ ?_<;>intro hb<;>(try omega))|(refine A7 ?_ fun h1 hs=>J5 _ h1 (by omega))|(refine A7 ?_ fun h1 hs=>jE hk h1 (by exact Nat.le_trans (X8 _ _ _) (by omega)))|fail);all_goals try conv=>whnf)
    all_goals (split<;>first|omega|exact⟨fun h' hs=>⟨rfl,hs.grows⟩⟩)
 ·((repeat' (conv=>whnf);first|(refine VC.mk (by omega) ?_)|(refine Br.mk ?_ ?_<;>intro hb<;>(try (first|exact absurd rfl hb|exact Bool.noConfusion hb)))|(refine A7 ?_ fun h1 hs=>(gQ s a h1 (by omega)).mono (fun v h' ⟨e1,e2⟩=>⟨e1.trans (D0 hbg),e2⟩))|(refine A7 ?_ fun h1 hs=>(bJ _ _ h1).mono (fun v h' ⟨e1,e2⟩=>⟨e1.trans (K8 c1),e2⟩))|(refine A7 ?_ fun h1 hs=>(bJ _ _ h1).mono (fun v h' ⟨e1,e2⟩=>⟨e1.trans (D0 c2),e2⟩))|fail);all_goals try conv=>whnf)
  refine N1 tO [8] (fun to:Int=>[(8,.val (.int .i64 to))]) (fun _=>[]) (fun μ to=>a≤to∧to≤s.size∧s.size-to≤μ∧bP s a true μ to=E) s.size a ?_
  conv=>whnf
  refine⟨by ((repeat (refine⟨rfl,?_⟩));trivial),trivial,⟨by omega,by omega,by omega,hto.symm⟩,?_⟩
  rintro μ to ⟨t1,t2,t3,t4⟩
  dsimp only
  have q:=L0 s to
  have hl:(a<to∧aA s a to=bX .or .u8 (A4 s (to-1)) 32)∨(a=to∧aA s a to=0):=by
   by_cases h:a<to
   ·exact .inl ⟨h,by rw [aA,if_pos h]⟩
   ·exact .inr ⟨by omega,by rw [aA,if_neg h]⟩
  obtain⟨l,hle⟩:∃ l,aA s a to=l:=⟨_,rfl⟩
  rw [hle] at hl
  have hmi:fI s a true to↔(to<s.size∧((A4 s to=95∨A4 s to=46∨cA (A4 s to)<10∨(97≤A4 s to∧A4 s to≤122)∨(65≤A4 s to∧A4 s to≤90))∨((A4 s to=43∨A4 s to=45)∧l=112))):=by
   simp [fI,qD,Dz,hle]
  by_cases hm:fI s a true to
  ·obtain⟨f,rfl⟩:∃ f,μ=f+1:=⟨μ-1,by have:=hm.1;omega⟩
   simp only [bP] at t4
   rw [if_pos hm] at t4
   rw [hmi] at hm
   obtain⟨m1,m2⟩:=hm
   clear hmi hcase' hk e hE hto
   rcases hl with ⟨l1,l2⟩|⟨l1,l2⟩
   ·((repeat' (conv=>whnf);first|(refine Ar.fit (by omega) ?_)|(refine VC.mk (by omega) ?_)|(refine Br.mk ?_ ?_<;>intro hb<;>(try (first|omega|exact absurd rfl hb)))|(refine A7 ?_ fun h1 hs=>J5 _ h1 (by omega))|fail);all_goals try conv=>whnf)
    all_goals exact⟨f,to+1,⟨by omega,by omega,by omega,t4⟩,by omega,by ((repeat (refine⟨rfl,?_⟩));trivial),rfl,rfl,trivial⟩
   ·((repeat' (conv=>whnf);first|(refine Ar.fit (by omega) ?_)|(refine VC.mk (by omega) ?_)|(refine Br.mk ?_ ?_<;>intro hb<;>(try omega))|(refine A7 ?_ fun h1 hs=>J5 _ h1 (by omega))|fail);all_goals try conv=>whnf)
    all_goals exact⟨f,to+1,⟨by omega,by omega,by omega,t4⟩,by omega,by ((repeat (refine⟨rfl,?_⟩));trivial),rfl,rfl,trivial⟩
  ·have hE2:to=E:=by
    rw [←t4]
    cases μ with
    |zero=>rfl
    |succ f=>simp only [bP];rw [if_neg hm]
   rw [hmi] at hm
   subst hE2
   clear hmi hcase' e hE hto
   rcases hl with ⟨l1,l2⟩|⟨l1,l2⟩
   ·((repeat' (conv=>whnf);first|(refine Ar.fit (by omega) ?_)|(refine VC.mk (by omega) ?_)|(refine Br.mk ?_ ?_<;>intro hb<;>(try (first|omega|exact absurd rfl hb)))|(refine A7 ?_ fun h1 hs=>J5 _ h1 (by omega))|(refine A7 ?_ fun h1 hs=>jE hk h1 (by exact Nat.le_trans (X8 _ _ _) (by omega)))|fail);all_goals try conv=>whnf)
    all_goals (split<;>first|omega|exact⟨fun h' hs=>⟨rfl,hs.grows⟩⟩)
   ·((repeat' (conv=>whnf);first|(refine VC.mk (by omega) ?_)|(refine Br.mk ?_ ?_<;>intro hb<;>(try omega))|(refine A7 ?_ fun h1 hs=>J5 _ h1 (by omega))|(refine A7 ?_ fun h1 hs=>jE hk h1 (by exact Nat.le_trans (X8 _ _ _) (by omega)))|fail);all_goals try conv=>whnf)
    all_goals (split<;>first|omega|exact⟨fun h' hs=>⟨rfl,hs.grows⟩⟩)
 ·((repeat' (conv=>whnf);first|(refine VC.mk (by omega) ?_)|(refine Br.mk ?_ ?_<;>intro hb<;>(try (first|exact absurd rfl hb|exact Bool.noConfusion hb)))|(refine A7 ?_ fun h1 hs=>(gQ s a h1 (by omega)).mono (fun v h' ⟨e1,e2⟩=>⟨e1.trans (D0 hbg),e2⟩))|(refine A7 ?_ fun h1 hs=>(bJ _ _ h1).mono (fun v h' ⟨e1,e2⟩=>⟨e1.trans (K8 c1),e2⟩))|(refine A7 ?_ fun h1 hs=>(bJ _ _ h1).mono (fun v h' ⟨e1,e2⟩=>⟨e1.trans (K8 c2),e2⟩))|fail);all_goals try conv=>whnf)
  refine N1 tO [8] (fun to:Int=>[(8,.val (.int .i64 to))]) (fun _=>[]) (fun μ to=>a≤to∧to≤s.size∧s.size-to≤μ∧bP s a false μ to=E) s.size a ?_
  conv=>whnf
  refine⟨by ((repeat (refine⟨rfl,?_⟩));trivial),trivial,⟨by omega,by omega,by omega,hto.symm⟩,?_⟩
  rintro μ to ⟨t1,t2,t3,t4⟩
  dsimp only
  have q:=L0 s to
  have hl:(a<to∧aA s a to=bX .or .u8 (A4 s (to-1)) 32)∨(a=to∧aA s a to=0):=by
   by_cases h:a<to
   ·exact .inl ⟨h,by rw [aA,if_pos h]⟩
   ·exact .inr ⟨by omega,by rw [aA,if_neg h]⟩
  obtain⟨l,hle⟩:∃ l,aA s a to=l:=⟨_,rfl⟩
  rw [hle] at hl
  have hmi:fI s a false to↔(to<s.size∧((A4 s to=95∨A4 s to=46∨cA (A4 s to)<10∨(97≤A4 s to∧A4 s to≤122)∨(65≤A4 s to∧A4 s to≤90))∨((A4 s to=43∨A4 s to=45)∧l=101))):=by
   simp [fI,qD,Dz,hle]
  by_cases hm:fI s a false to
  ·obtain⟨f,rfl⟩:∃ f,μ=f+1:=⟨μ-1,by have:=hm.1;omega⟩
   simp only [bP] at t4
   rw [if_pos hm] at t4
   rw [hmi] at hm
   obtain⟨m1,m2⟩:=hm
   clear hmi hcase' hk e hE hto
   rcases hl with ⟨l1,l2⟩|⟨l1,l2⟩
   ·((repeat' (conv=>whnf);first|(refine Ar.fit (by omega) ?_)|(refine VC.mk (by omega) ?_)|(refine Br.mk ?_ ?_<;>intro hb<;>(try (first|omega|contradiction)))|(refine A7 ?_ fun h1 hs=>J5 _ h1 (by omega))|fail);all_goals try conv=>whnf)
    all_goals exact⟨f,to+1,⟨by omega,by omega,by omega,t4⟩,by omega,by ((repeat (refine⟨rfl,?_⟩));trivial),rfl,rfl,trivial⟩
   ·((repeat' (conv=>whnf);first|(refine Ar.fit (by omega) ?_)|(refine VC.mk (by omega) ?_)|(refine Br.mk ?_ ?_<;>intro hb<;>(try omega))|(refine A7 ?_ fun h1 hs=>J5 _ h1 (by omega))|fail);all_goals try conv=>whnf)
    all_goals exact⟨f,to+1,⟨by omega,by omega,by omega,t4⟩,by omega,by ((repeat (refine⟨rfl,?_⟩));trivial),rfl,rfl,trivial⟩
  ·have hE2:to=E:=by
    rw [←t4]
    cases μ with
    |zero=>rfl
    |succ f=>simp only [bP];rw [if_neg hm]
   rw [hmi] at hm
   subst hE2
   clear hmi hcase' e hE hto
   rcases hl with ⟨l1,l2⟩|⟨l1,l2⟩
   ·((repeat' (conv=>whnf);first|(refine Ar.fit (by omega) ?_)|(refine VC.mk (by omega) ?_)|(refine Br.mk ?_ ?_<;>intro hb<;>(try (first|omega|exact Bool.noConfusion hb)))|(refine A7 ?_ fun h1 hs=>J5 _ h1 (by omega))|(refine A7 ?_ fun h1 hs=>jE hk h1 (by exact Nat.le_trans (X8 _ _ _) (by omega)))|fail);all_goals try conv=>whnf)
    all_goals (split<;>first|omega|exact⟨fun h' hs=>⟨rfl,hs.grows⟩⟩)
   ·((repeat' (conv=>whnf);first|(refine VC.mk (by omega) ?_)|(refine Br.mk ?_ ?_<;>intro hb<;>(try omega))|(refine A7 ?_ fun h1 hs=>J5 _ h1 (by omega))|(refine A7 ?_ fun h1 hs=>jE hk h1 (by exact Nat.le_trans (X8 _ _ _) (by omega)))|fail);all_goals try conv=>whnf)
    all_goals (split<;>first|omega|exact⟨fun h' hs=>⟨rfl,hs.grows⟩⟩)
end Go.Ex
namespace Go.Ex
open Go.Proofs
abbrev eC:ByteArray:=⟨#[32,9,13,10]⟩
def jM(s:ByteArray):ByteArray:=⟨(Lib.trimLeftS s.data.toList eC.data.toList).toArray⟩
theorem Uf(s:ByteArray):(jM s).size≤s.size:=by
 unfold jM Lib.trimLeftS
 show (List.dropWhile _ s.data.toList).toArray.size≤s.data.size
 rw [List.size_toArray]
 exact Nat.le_trans (List.IsSuffix.length_le (List.dropWhile_suffix _)) (by simp)
theorem Dm(s:ByteArray)(h:A3):CH Tryz.prog 62 #[.string s,.string eC] h fun v h'=>v = .string (jM s)∧A5 h h':=
 gN (Q9 Tryz.func62 (by decide) rfl) fun w hw=>Any.strings_TrimLeft_laid Tryz.lays161 (by kernel_rfl) s eC w (by decide) (ascii_of_all (by decide))
attribute [local irreducible] CH
abbrev sP:ByteArray:=⟨#[47,47]⟩
abbrev gO:ByteArray:=⟨#[47,42]⟩
abbrev Yj:ByteArray:=⟨#[42,47]⟩
def jI(s:ByteArray):Int:=Lib.index s.data.toList Yj.data.toList
theorem Ci(s:ByteArray)(h:A3)(ht:D2 h)(hs:s.size<4294967281):CH Tryz.prog 44 #[.string s,.string Yj] h fun v h'=>v = .int .i64 (jI s)∧A5 h h':=Xo s Yj h ht hs
theorem Wt{u:ByteArray}(h:O2 u gO):(2:Int)≤u.size:=h.1
theorem Hd(s:ByteArray) : -1≤jI s∧(jI s<0∨jI s+2≤s.size):=by
 refine⟨Lib.index_ge _ _,?_⟩
 by_cases h:jI s<0
 ·exact .inl h
 ·have:=Lib.index_room s.data.toList Yj.data.toList (by unfold jI at h;omega)
  refine .inr ?_
  simpa [jI] using this
def H0(s:ByteArray)(a:Int):Int×Int:=
 if (C9 s a).1=65279 then (10,a+(C9 s a).2) else
 if O3 (C9 s a).1 then (10,s.size-(jM (sub s a s.size)).size) else
 if O2 (sub s a s.size) sP then (if 0≤H7 (sub s a s.size) 10 then (11,a+H7 (sub s a s.size) 10) else (11,s.size)) else
 if O2 (sub s a s.size) gO then (if 0≤jI (sub (sub s a s.size) 2 (sub s a s.size).size) then (12,a+jI (sub (sub s a s.size) 2 (sub s a s.size).size)+4) else (0,0)) else
 if E7 (C9 s a).1=true then aO s a else
 if (C9 s a).1=59 then (9,a+1) else
 if ¬ (S4 s a).2.2=15 then ((S4 s a).1,(S4 s a).2.1) else
 if ¬ (J7 s a).2.2=15 then ((J7 s a).1,(J7 s a).2.1) else
 if 0<Y2 (sub s a s.size) then (8,a+Y2 (sub s a s.size)) else (0,0)
attribute [local irreducible] C9 hY E7 R0 dC jM jI S4 J7 Y2 aO O2 O3
theorem Ro(s:ByteArray)(a:Int)(h:A3)(ht:D2 h)(hz:s.size≤1048576)(ha:0≤a∧a<s.size) :
 CH Tryz.prog 43 #[.string s,.int .i64 a] h fun v h'=>v = .tuple #[.int .u8 (H0 s a).1,.int .i64 (H0 s a).2]∧A5 h h':=by
 refine Q0 12 [0,1,4,5,6,7,8,9,10,11,12,13,14,15,16,17,27,33,42,48,54,61,66,74,87,98,104] [] [.val (.string s),.val (.int .i64 a)] Tryz.func43 rfl ?_
 obtain⟨R,hR⟩:∃ R,H0 s a=R:=⟨_,rfl⟩
 rw [hR]
 unfold H0 at hR
 have hrl:=sG s a (by omega)
 have c1:=fun h1 (ht:D2 h1)=>sB s a h1 ht (by omega)
 generalize C9 s a=rd at hR hrl c1
 obtain⟨r,n⟩:=rd
 dsimp only at hR hrl c1
 have hsb:=K1 s a s.size (by omega) (by omega) (by omega)
 have c2:=fun h1=>Dm (sub s a s.size) h1
 have t2:=Uf (sub s a s.size)
 generalize jM (sub s a s.size)=tu at hR c2 t2
 have c3:=fun h1=>aZ (sub s a s.size) 10 h1
 have i3:=eZ (sub s a s.size) 10
 generalize H7 (sub s a s.size) 10=ix at hR c3 i3
 have c4:=fun h1 (ht:D2 h1)=>Ci (sub (sub s a s.size) 2 (sub s a s.size).size) h1 ht (Nat.lt_of_le_of_lt (X8 _ _ _) (Nat.lt_of_le_of_lt (X8 _ _ _) (by omega)))
 have i4 : -1≤jI (sub (sub s a s.size) 2 (sub s a s.size).size)∧(jI (sub (sub s a s.size) 2 (sub s a s.size).size)<0∨jI (sub (sub s a s.size) 2 (sub s a s.size).size)+2≤(sub (sub s a s.size) 2 (sub s a s.size).size).size):=Hd _
 have hb4:(sub (sub s a s.size) 2 (sub s a s.size).size).size≤(sub s a s.size).size:=X8 _ _ _
 generalize jI (sub (sub s a s.size) 2 (sub s a s.size).size)=iy at hR c4 i4
 have c5:=fun h1=>Nm s a h1 (by omega) (by omega)
 generalize aO s a=wd at hR c5
 have c6:=fun h1=>Ao s a h1 (by omega)
 generalize S4 s a=nf at hR c6
 have c7:=fun h1 (ht:D2 h1)=>Sn s a h1 ht hz
 generalize J7 s a=bf at hR c7
 have c8:=fun h1=>Tr (sub s a s.size) h1 (by omega)
 have i8:=vZ (sub s a s.size)
 generalize Y2 (sub s a s.size)=sg at hR c8 i8
 generalize hlf:E7 r=lf at hR
 obtain⟨w1,w2⟩:=wd
 obtain⟨n1,n2,n3⟩:=nf
 obtain⟨q1,q2,q3⟩:=bf
 dsimp only at hR c5 c6 c7
 rcases lf with _|_
 ·((repeat' (conv=>whnf);first|(refine Br.mk (p:=O2 (sub s a s.size) gO) ?_ ?_<;>intro hb<;>(try have hl2:=Wt hb))|(refine Ar.fit (by omega) ?_)|(refine VC.mk (by (first|omega|(and_intros<;>first|omega))) ?_)|(refine Br.mk ?_ ?_<;>intro hb<;>(try (exact Bool.noConfusion hb)))|(refine A7 ?_ fun h1 hs=>c1 h1 (ht.at hs))|(refine CK.says (.prop _) (fun h1 hs=>xL r h1) ?_)|(refine A7 ?_ fun h1 hs=>c2 h1)|(refine CK.says (.prop _) (fun h1 hs=>bJ _ _ h1) ?_)|(refine A7 ?_ fun h1 hs=>c3 h1)|(refine A7 ?_ fun h1 hs=>c4 h1 (ht.at hs))|(refine A7 ?_ fun h1 hs=>aY hlf h1)|(refine A7 ?_ fun h1 hs=>c6 h1)|(refine A7 ?_ fun h1 hs=>c7 h1 (ht.at hs))|(refine A7 ?_ fun h1 hs=>c8 h1)|fail);all_goals try conv=>whnf)
  all_goals first
   |((repeat (first|rw [if_pos (by assumption)] at hR|rw [if_neg (by first|assumption|(intro e;cases e))] at hR));subst hR;exact⟨fun h' hs=>⟨rfl,hs.grows⟩⟩)
 ·((repeat' (conv=>whnf);first|(refine Br.mk (p:=O2 (sub s a s.size) gO) ?_ ?_<;>intro hb<;>(try have hl2:=Wt hb))|(refine Ar.fit (by omega) ?_)|(refine VC.mk (by (first|omega|(and_intros<;>first|omega))) ?_)|(refine Br.mk ?_ ?_<;>intro hb<;>(try (exact absurd rfl hb)))|(refine A7 ?_ fun h1 hs=>c1 h1 (ht.at hs))|(refine CK.says (.prop _) (fun h1 hs=>xL r h1) ?_)|(refine A7 ?_ fun h1 hs=>c2 h1)|(refine CK.says (.prop _) (fun h1 hs=>bJ _ _ h1) ?_)|(refine A7 ?_ fun h1 hs=>c3 h1)|(refine A7 ?_ fun h1 hs=>c4 h1 (ht.at hs))|(refine A7 ?_ fun h1 hs=>aY hlf h1)|(refine A7 ?_ fun h1 hs=>c5 h1)|fail);all_goals try conv=>whnf)
  all_goals first
   |((repeat (first|rw [if_pos (by first|assumption|rfl)] at hR|rw [if_neg (by assumption)] at hR));subst hR;exact⟨fun h' hs=>⟨rfl,hs.grows⟩⟩)
end Go.Ex
