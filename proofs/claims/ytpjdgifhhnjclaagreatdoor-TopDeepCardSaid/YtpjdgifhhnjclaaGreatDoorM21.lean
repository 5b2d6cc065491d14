/-
  Top: TopDeep: whatever the input, the law answers true (part 21)
-/
import Derived.Shelf.Strings.SlTrimAscii
import Derived.Test.YtpjdgifhhnjclaaGreatDoorM20
set_option linter.unusedVariables false
set_option linter.unusedSimpArgs false
set_option maxHeartbeats 4000000
set_option maxRecDepth 10000
namespace Go.Ex
open Go.Proofs
attribute [local irreducible] CH byteI rowF idxB valD trimP powF wholeF tenF sixteenF HasP HasS
theorem sixteen_eq{s:ByteArray}{r:Int}(hr:sixteenF s=r)(h:Heap)(hs:s.size≤140737488355328):CH Tryz.prog 126 #[.string s] h fun v h'=>v = .int .u8 r∧Grows h h':=by subst hr;exact sixteen_any s h hs
def realF(s:ByteArray):Int:=
 if 1<s.size∧byteI s 0=48 then
  (if byteI s 1=98∨byteI s 1=66 then wholeF (sub s 2 s.size) 2
   else if byteI s 1=111∨byteI s 1=79 then wholeF (sub s 2 s.size) 8
   else if byteI s 1=120∨byteI s 1=88 then sixteenF (sub s 2 s.size) else tenF s)
 else tenF s
theorem real_any(s:ByteArray)(h:Heap)(hs:s.size≤140737488355328):CH Tryz.prog 75 #[.string s] h fun v h'=>v = .int .u8 (realF s)∧Grows h h':=by
 refine enter (rep:=rep) (m:=3) (ex:=[10,12,13,19,25]) (cu:=[]) tO Tryz.func75 rfl (by decide) (rs:=[.tmp 2]) rfl rfl [.val (.string s)] rfl ?_
 simp only [realF]
 dsimp only [sub]
 obtain⟨a,ha⟩:∃ a,wholeF (s.extract (2:Int).toNat (s.size:Int).toNat) 2=a:=⟨_,rfl⟩
 obtain⟨b,hb⟩:∃ b,wholeF (s.extract (2:Int).toNat (s.size:Int).toNat) 8=b:=⟨_,rfl⟩
 obtain⟨c,hc⟩:∃ c,sixteenF (s.extract (2:Int).toNat (s.size:Int).toNat)=c:=⟨_,rfl⟩
 obtain⟨d,hd⟩:∃ d,tenF s=d:=⟨_,rfl⟩
 rw [ha,hb,hc,hd]
 have hb':=hb
 ((repeat' ((conv=>whnf);(first|(refine VC.mk (by omega) ?_)|(refine Br.mk ?_ ?_<;>intro hb<;>(try (exfalso;omega)))|(apply CK.pure;(case hh=>(intro h1 hs;exact whole_eq ha h1 (by exact Nat.le_trans (ext_le _ _ _) (by omega)))))|(apply CK.pure;(case hh=>(intro h1 hs;exact whole_eq hb' h1 (by exact Nat.le_trans (ext_le _ _ _) (by omega)))))|(apply CK.pure;(case hh=>(intro h1 hs;exact sixteen_eq hc h1 (by exact Nat.le_trans (ext_le _ _ _) (by omega)))))|(apply CK.pure;(case hh=>(intro h1 hs;exact ten_eq hd h1 (by omega))))|fail)));all_goals (try (conv=>whnf)))
 all_goals exact⟨fun h' hs=>⟨int_eq (by (repeat' split)<;>first|rfl|(exfalso;omega)),hs.grows⟩⟩
theorem real_eq{s:ByteArray}{r:Int}(hr:realF s=r)(h:Heap)(hs:s.size≤140737488355328):CH Tryz.prog 75 #[.string s] h fun v h'=>v = .int .u8 r∧Grows h h':=by subst hr;exact real_any s h hs
abbrev iS:ByteArray:=⟨#[105]⟩
def kindF(s:ByteArray):Int:=
 if ¬ realF s=0 then realF s
 else if ¬ HasS s iS then 0
 else if ¬ realF (sub s 0 (s.size-1))=0 then 5
 else if ¬ sub s 0 (s.size-1)=noText∧rowF (sub s 0 (s.size-1)) 10=(sub s 0 (s.size-1)).size then 5 else 0
attribute [local irreducible] realF
theorem kind_any(s:ByteArray)(h:Heap)(hs:s.size≤140737488355328):CH Tryz.prog 48 #[.string s] h fun v h'=>v = .int .u8 (kindF s)∧Grows h h':=by
 refine enter (rep:=rep) (m:=4) (ex:=[7,11,30]) (cu:=[]) tO Tryz.func48 rfl (by decide) (rs:=[.tmp 2]) rfl rfl [.val (.string s)] rfl ?_
 simp only [kindF]
 obtain⟨a,ha⟩:∃ a,realF s=a:=⟨_,rfl⟩
 rw [ha]
 by_cases ha0:¬ a=0
 ·rw [if_pos ha0]
  ((repeat' ((conv=>whnf);(first|(refine Br.mk ?_ ?_<;>intro hb<;>(try (exfalso;omega)))|(apply CK.pure;(case hh=>(intro h1 hs;exact real_eq ha h1 (by omega))))|fail)));all_goals (try (conv=>whnf)))
  all_goals exact⟨fun h' hs=>⟨rfl,hs.grows⟩⟩
 rw [if_neg ha0]
 by_cases hi:HasS s iS
 case neg=>
  rw [if_pos hi]
  ((repeat' ((conv=>whnf);(first|(refine Br.mk ?_ ?_<;>intro hb<;>(try (first|(exfalso;omega)|contradiction)))|(apply CK.pure;(case hh=>(intro h1 hs;exact real_eq ha h1 (by omega))))|(apply CK.pure;(case hh=>(intro h1 hs;exact (hass_any s iS h1 (by omega)).mono (fun v h' ⟨e1,e2⟩=>⟨e1.trans (prop_false hi),e2⟩))))|fail)));all_goals (try (conv=>whnf)))
  all_goals exact⟨fun h' hs=>⟨rfl,hs.grows⟩⟩
 rw [if_neg (fun hn=>hn hi)]
 have h1s:(1:Int)≤s.size:=by
  have:=hi
  unfold HasS at this
  exact this.1
 have z:=sub_size s 0 (s.size-1) (by omega) (by omega) (by omega)
 obtain⟨t,ht⟩:∃ t,sub s 0 (s.size-1)=t:=⟨_,rfl⟩
 rw [ht] at z ⊢
 dsimp only [sub] at ht
 obtain⟨b,hb⟩:∃ b,realF t=b:=⟨_,rfl⟩
 obtain⟨n,hn⟩:∃ n,rowF t 10=n:=⟨_,rfl⟩
 rw [hb,hn]
 have hb':=hb
 ((repeat' ((conv=>whnf);(first|(refine Ar.fit (by omega) ?_)|(refine VC.mk (by omega) ?_)|(refine Br.mk ?_ ?_<;>intro hb<;>(try (first|(exfalso;omega)|exact absurd rfl hb)))|(apply CK.pure;(case hh=>(intro h1 hs;exact real_eq ha h1 (by omega))))|(apply CK.pure;(case hh=>(intro h1 hs;exact (hass_any s iS h1 (by omega)).mono (fun v h' ⟨e1,e2⟩=>⟨e1.trans (prop_true hi),e2⟩))))|fail)));all_goals (try (conv=>whnf)))
 rw [ht]
 ((repeat' ((conv=>whnf);(first|(refine Br.mk ?_ ?_<;>intro hb)|(apply CK.pure;(case hh=>(intro h1 hs;exact real_eq hb' h1 (by omega))))|(apply CK.pure;(case hh=>(intro h1 hs;exact row_eq hn h1 (by omega))))|fail)));all_goals (try (conv=>whnf)))
 all_goals exact⟨fun h' hs=>⟨int_eq (by (repeat' split)<;>first|rfl|(exfalso;simp_all;done)|(exfalso;omega)),hs.grows⟩⟩
theorem kind_eq{s:ByteArray}{r:Int}(hr:kindF s=r)(h:Heap)(hs:s.size≤140737488355328):CH Tryz.prog 48 #[.string s] h fun v h'=>v = .int .u8 r∧Grows h h':=by subst hr;exact kind_any s h hs
def Begs(s:ByteArray)(at_:Int):Prop:=0≤at_∧at_<s.size∧(valD (byteI s at_)<10∨byteI s at_=46∧at_+1<s.size∧valD (byteI s (at_+1))<10)
instance (s:ByteArray) (i:Int):Decidable (Begs s i):=by unfold Begs;exact inferInstance
theorem begins_any(s:ByteArray)(i:Int)(h:Heap)(hs:s.size≤140737488355328):CH Tryz.prog 118 #[.string s,.int .i64 i] h fun v h'=>v=denC (.prop (Begs s i))∧Grows h h':=by
 refine enter (rep:=rep) (m:=5) (ex:=[12]) (cu:=[]) tO Tryz.func118 rfl (by decide) (rs:=[.tmp 4]) rfl rfl [.val (.string s),.val (.int .i64 i)] rfl ?_
 have q0:=byteI_rng s i
 have q1:=byteI_rng s (i+1)
 ((repeat' ((conv=>whnf);(first|(refine Ar.fit (by omega) ?_)|(refine VC.mk (by omega) ?_)|(refine Br.mk ?_ ?_<;>intro hb)|(apply CK.pure;(case hh=>(intro h1 hs;exact value_any _ h1 (by omega))))|fail)));all_goals (try (conv=>whnf)))
 all_goals first
  |exact⟨fun h' hs=>⟨bool_no (by simp only [Begs];omega),hs.grows⟩⟩
  |exact⟨fun h' hs=>⟨bool_yes (by simp only [Begs];omega),hs.grows⟩⟩
  |exact⟨fun h' hs=>⟨prop_eq (by simp only [Begs];omega),hs.grows⟩⟩
end Go.Ex
namespace Go.Ex
open Go.Proofs
attribute [local irreducible] CH byteI rowF idxB valD trimP powF wholeF tenF sixteenF HasP HasS realF kindF Begs bitsI
abbrev hexA:ByteArray:=⟨#[48,120]⟩
abbrev hexB:ByteArray:=⟨#[48,88]⟩
def HexF(s:ByteArray)(a:Int):Prop:=HasP (sub s a s.size) hexA∨HasP (sub s a s.size) hexB
instance (s:ByteArray) (a:Int):Decidable (HexF s a):=by unfold HexF;exact inferInstance
def lastF(s:ByteArray)(a to:Int):Int:=if a<to then bitsI .or .u8 (byteI s (to-1)) 32 else 0
def NumB(c:Int):Prop:=c=95∨c=46∨valD c<10∨(97≤c∧c≤122)∨(65≤c∧c≤90)
def Sgn(hex:Bool)(c l:Int):Prop:=(c=43∨c=45)∧(l=101∧hex=false∨l=112∧hex=true)
def More(s:ByteArray)(a:Int)(hex:Bool)(to:Int):Prop:=to<s.size∧(NumB (byteI s to)∨Sgn hex (byteI s to) (lastF s a to))
instance (s:ByteArray) (a:Int) (hex:Bool) (to:Int):Decidable (More s a hex to):=by unfold More NumB Sgn;exact inferInstance
def toGo(s:ByteArray)(a:Int)(hex:Bool):Nat→Int→Int
 |0,to=>to
 |f+1,to=>if More s a hex to then toGo s a hex f (to+1) else to
theorem toGo_rng(s:ByteArray)(a:Int)(hex:Bool):∀ (f:Nat) (to:Int),to≤s.size→to≤toGo s a hex f to∧toGo s a hex f to≤s.size
 |0,to,h=>⟨Int.le_refl _,h⟩
 |f+1,to,h=>by
  simp only [toGo]
  split
  ·rename_i hm
   have:=hm.1
   have:=toGo_rng s a hex f (to+1) (by omega)
   omega
  ·omega
def numTo(s:ByteArray)(a:Int):Int:=toGo s a (decide (HexF s a)) s.size a
def numF(s:ByteArray)(a:Int):Int×Int×Int:=if ¬ Begs s a then (0,0,15) else if ¬ kindF (sub s a (numTo s a))=0 then (kindF (sub s a (numTo s a)),numTo s a,0) else (0,0,4)
theorem begs_rng{s:ByteArray}{a:Int}(h:Begs s a):0≤a∧a<s.size:=by
 unfold Begs at h;exact⟨h.1,h.2.1⟩
theorem nscan_any(s:ByteArray)(a:Int)(h:Heap)(hs:s.size≤140737488355328):CH Tryz.prog 67 #[.string s,.int .i64 a] h fun v h'=>v = .tuple #[.int .u8 (numF s a).1,.int .i64 (numF s a).2.1,.int .i64 (numF s a).2.2]∧Grows h h':=by
 refine enter (rep:=rep) (m:=12) (ex:=[15,30,62,65,91,98]) (cu:=[]) tO Tryz.func67 rfl (by decide) (rs:=[.tmp 4,.tmp 5,.tmp 6]) rfl rfl [.val (.string s),.val (.int .i64 a)] rfl ?_
 by_cases hbg:Begs s a
 case neg=>
  have e:numF s a=(0,0,15):=by rw [numF,if_pos hbg]
  rw [e]
  ((repeat' ((conv=>whnf);(first|(refine Br.mk ?_ ?_<;>intro hb<;>(try (contradiction)))|(apply CK.pure;(case hh=>(intro h1 hs;exact (begins_any s a h1 (by omega)).mono (fun v h' ⟨e1,e2⟩=>⟨e1.trans (prop_false hbg),e2⟩))))|fail)));all_goals (try (conv=>whnf)))
  all_goals exact⟨fun h' hs=>⟨rfl,hs.grows⟩⟩
 obtain⟨g0,g1⟩:=begs_rng hbg
 have hx:∃ hex:Bool,numTo s a=toGo s a hex s.size a∧((hex=true∧HasP (sub s a s.size) hexA)∨(hex=true∧¬ HasP (sub s a s.size) hexA∧HasP (sub s a s.size) hexB)∨(hex=false∧¬ HasP (sub s a s.size) hexA∧¬ HasP (sub s a s.size) hexB)):=by
  by_cases h1:HasP (sub s a s.size) hexA
  ·exact⟨true,by rw [numTo,decide_eq_true (show HexF s a from .inl h1)],.inl ⟨rfl,h1⟩⟩
  ·by_cases h2:HasP (sub s a s.size) hexB
   ·exact⟨true,by rw [numTo,decide_eq_true (show HexF s a from .inr h2)],.inr (.inl ⟨rfl,h1,h2⟩)⟩
   ·exact⟨false,by rw [numTo,decide_eq_false (show ¬ HexF s a from fun h=>h.elim h1 h2)],.inr (.inr ⟨rfl,h1,h2⟩)⟩
 obtain⟨hex,hto,hcase⟩:=hx
 obtain⟨E,hE⟩:∃ E,numTo s a=E:=⟨_,rfl⟩
 rw [hE] at hto
 have hEr:a≤E∧E≤s.size:=by rw [hto];exact toGo_rng s a hex s.size a (by omega)
 dsimp only [sub] at hcase
 obtain⟨k,hk⟩:∃ k,kindF (s.extract a.toNat E.toNat)=k:=⟨_,rfl⟩
 have e:numF s a=if ¬ k=0 then (k,E,0) else (0,0,4):=by
  rw [numF,if_neg (fun hn=>hn hbg),hE]
  dsimp only [sub]
  rw [hk]
 rw [e]
 have hcase':=trivial
 rcases hcase with ⟨rfl,c1⟩|⟨rfl,c1,c2⟩|⟨rfl,c1,c2⟩
 ·((repeat' ((conv=>whnf);(first|(refine VC.mk (by omega) ?_)|(refine Br.mk ?_ ?_<;>intro hb<;>(try (exact absurd rfl hb)))|(apply CK.pure;(case hh=>(intro h1 hs;exact (begins_any s a h1 (by omega)).mono (fun v h' ⟨e1,e2⟩=>⟨e1.trans (prop_true hbg),e2⟩))))|(apply CK.pure;(case hh=>(intro h1 hs;exact (hasp_any _ _ h1).mono (fun v h' ⟨e1,e2⟩=>⟨e1.trans (prop_true c1),e2⟩))))|fail)));all_goals (try (conv=>whnf)))
  refine loop_rule tO [8] (fun to:Int=>[(8,.val (.int .i64 to))]) (fun _=>[]) (fun μ to=>a≤to∧to≤s.size∧s.size-to≤μ∧toGo s a true μ to=E) s.size a ?_
  conv=>whnf
  refine⟨by ((repeat (refine⟨rfl,?_⟩));trivial),trivial,⟨by omega,by omega,by omega,hto.symm⟩,?_⟩
  rintro μ to ⟨t1,t2,t3,t4⟩
  dsimp only
  have q:=byteI_rng s to
  have hl:(a<to∧lastF s a to=bitsI .or .u8 (byteI s (to-1)) 32)∨(a=to∧lastF s a to=0):=by
   by_cases h:a<to
   ·exact .inl ⟨h,by rw [lastF,if_pos h]⟩
   ·exact .inr ⟨by omega,by rw [lastF,if_neg h]⟩
  obtain⟨l,hle⟩:∃ l,lastF s a to=l:=⟨_,rfl⟩
  rw [hle] at hl
  have hmi:More s a true to↔(to<s.size∧((byteI s to=95∨byteI s to=46∨valD (byteI s to)<10∨(97≤byteI s to∧byteI s to≤122)∨(65≤byteI s to∧byteI s to≤90))∨((byteI s to=43∨byteI s to=45)∧l=112))):=by
   simp [More,NumB,Sgn,hle]
  by_cases hm:More s a true to
  ·obtain⟨f,rfl⟩:∃ f,μ=f+1:=⟨μ-1,by have:=hm.1;omega⟩
   simp only [toGo] at t4
   rw [if_pos hm] at t4
   rw [hmi] at hm
   obtain⟨m1,m2⟩:=hm
   clear hmi hcase' hk e hE hto
   rcases hl with ⟨l1,l2⟩|⟨l1,l2⟩
   ·((repeat' ((conv=>whnf);(first|(refine Ar.fit (by omega) ?_)|(refine VC.mk (by omega) ?_)|(refine Br.mk ?_ ?_<;>intro hb<;>(try (exfalso;omega)))|(apply CK.pure;(case hh=>(intro h1 hs;exact value_any _ h1 (by omega))))|fail)));all_goals (try (conv=>whnf)))
    all_goals exact⟨f,to+1,⟨by omega,by omega,by omega,t4⟩,by omega,by ((repeat (refine⟨rfl,?_⟩));trivial),rfl,rfl,trivial⟩
   ·((repeat' ((conv=>whnf);(first|(refine Ar.fit (by omega) ?_)|(refine VC.mk (by omega) ?_)|(refine Br.mk ?_ ?_<;>intro hb<;>(try (exfalso;omega)))|(apply CK.pure;(case hh=>(intro h1 hs;exact value_any _ h1 (by omega))))|fail)));all_goals (try (conv=>whnf)))
    all_goals exact⟨f,to+1,⟨by omega,by omega,by omega,t4⟩,by omega,by ((repeat (refine⟨rfl,?_⟩));trivial),rfl,rfl,trivial⟩
  ·have hE2:to=E:=by
    rw [←t4]
    cases μ with
    |zero=>rfl
    |succ f=>simp only [toGo];rw [if_neg hm]
   rw [hmi] at hm
   subst hE2
   clear hmi hcase' e hE hto
   rcases hl with ⟨l1,l2⟩|⟨l1,l2⟩
   ·((repeat' ((conv=>whnf);(first|(refine Ar.fit (by omega) ?_)|(refine VC.mk (by omega) ?_)|(refine Br.mk ?_ ?_<;>intro hb<;>(try (exfalso;omega)))|(apply CK.pure;(case hh=>(intro h1 hs;exact value_any _ h1 (by omega))))|(apply CK.pure;(case hh=>(intro h1 hs;exact kind_eq hk h1 (by exact Nat.le_trans (ext_le _ _ _) (by omega)))))|fail)));all_goals (try (conv=>whnf)))
    all_goals (split<;>first|(exfalso;omega)|exact⟨fun h' hs=>⟨rfl,hs.grows⟩⟩)
   ·((repeat' ((conv=>whnf);(first|(refine VC.mk (by omega) ?_)|(refine Br.mk ?_ ?_<;>intro hb<;>(try (exfalso;omega)))|(apply CK.pure;(case hh=>(intro h1 hs;exact value_any _ h1 (by omega))))|(apply CK.pure;(case hh=>(intro h1 hs;exact kind_eq hk h1 (by exact Nat.le_trans (ext_le _ _ _) (by omega)))))|fail)));all_goals (try (conv=>whnf)))
    all_goals (split<;>first|(exfalso;omega)|exact⟨fun h' hs=>⟨rfl,hs.grows⟩⟩)
 ·((repeat' ((conv=>whnf);(first|(refine VC.mk (by omega) ?_)|(refine Br.mk ?_ ?_<;>intro hb<;>(try (first|exact absurd rfl hb|exact Bool.noConfusion hb)))|(apply CK.pure;(case hh=>(intro h1 hs;exact (begins_any s a h1 (by omega)).mono (fun v h' ⟨e1,e2⟩=>⟨e1.trans (prop_true hbg),e2⟩))))|(apply CK.pure;(case hh=>(intro h1 hs;exact (hasp_any _ _ h1).mono (fun v h' ⟨e1,e2⟩=>⟨e1.trans (prop_false c1),e2⟩))))|(apply CK.pure;(case hh=>(intro h1 hs;exact (hasp_any _ _ h1).mono (fun v h' ⟨e1,e2⟩=>⟨e1.trans (prop_true c2),e2⟩))))|fail)));all_goals (try (conv=>whnf)))
  refine loop_rule tO [8] (fun to:Int=>[(8,.val (.int .i64 to))]) (fun _=>[]) (fun μ to=>a≤to∧to≤s.size∧s.size-to≤μ∧toGo s a true μ to=E) s.size a ?_
  conv=>whnf
  refine⟨by ((repeat (refine⟨rfl,?_⟩));trivial),trivial,⟨by omega,by omega,by omega,hto.symm⟩,?_⟩
  rintro μ to ⟨t1,t2,t3,t4⟩
  dsimp only
  have q:=byteI_rng s to
  have hl:(a<to∧lastF s a to=bitsI .or .u8 (byteI s (to-1)) 32)∨(a=to∧lastF s a to=0):=by
   by_cases h:a<to
   ·exact .inl ⟨h,by rw [lastF,if_pos h]⟩
   ·exact .inr ⟨by omega,by rw [lastF,if_neg h]⟩
  obtain⟨l,hle⟩:∃ l,lastF s a to=l:=⟨_,rfl⟩
  rw [hle] at hl
  have hmi:More s a true to↔(to<s.size∧((byteI s to=95∨byteI s to=46∨valD (byteI s to)<10∨(97≤byteI s to∧byteI s to≤122)∨(65≤byteI s to∧byteI s to≤90))∨((byteI s to=43∨byteI s to=45)∧l=112))):=by
   simp [More,NumB,Sgn,hle]
  by_cases hm:More s a true to
  ·obtain⟨f,rfl⟩:∃ f,μ=f+1:=⟨μ-1,by have:=hm.1;omega⟩
   simp only [toGo] at t4
   rw [if_pos hm] at t4
   rw [hmi] at hm
   obtain⟨m1,m2⟩:=hm
   clear hmi hcase' hk e hE hto
   rcases hl with ⟨l1,l2⟩|⟨l1,l2⟩
   ·((repeat' ((conv=>whnf);(first|(refine Ar.fit (by omega) ?_)|(refine VC.mk (by omega) ?_)|(refine Br.mk ?_ ?_<;>intro hb<;>(try (first|(exfalso;omega)|exact absurd rfl hb)))|(apply CK.pure;(case hh=>(intro h1 hs;exact value_any _ h1 (by omega))))|fail)));all_goals (try (conv=>whnf)))
    all_goals exact⟨f,to+1,⟨by omega,by omega,by omega,t4⟩,by omega,by ((repeat (refine⟨rfl,?_⟩));trivial),rfl,rfl,trivial⟩
   ·((repeat' ((conv=>whnf);(first|(refine Ar.fit (by omega) ?_)|(refine VC.mk (by omega) ?_)|(refine Br.mk ?_ ?_<;>intro hb<;>(try (exfalso;omega)))|(apply CK.pure;(case hh=>(intro h1 hs;exact value_any _ h1 (by omega))))|fail)));all_goals (try (conv=>whnf)))
    all_goals exact⟨f,to+1,⟨by omega,by omega,by omega,t4⟩,by omega,by ((repeat (refine⟨rfl,?_⟩));trivial),rfl,rfl,trivial⟩
  ·have hE2:to=E:=by
    rw [←t4]
    cases μ with
    |zero=>rfl
    |succ f=>simp only [toGo];rw [if_neg hm]
   rw [hmi] at hm
   subst hE2
   clear hmi hcase' e hE hto
   rcases hl with ⟨l1,l2⟩|⟨l1,l2⟩
   ·((repeat' ((conv=>whnf);(first|(refine Ar.fit (by omega) ?_)|(refine VC.mk (by omega) ?_)|(refine Br.mk ?_ ?_<;>intro hb<;>(try (first|(exfalso;omega)|exact absurd rfl hb)))|(apply CK.pure;(case hh=>(intro h1 hs;exact value_any _ h1 (by omega))))|(apply CK.pure;(case hh=>(intro h1 hs;exact kind_eq hk h1 (by exact Nat.le_trans (ext_le _ _ _) (by omega)))))|fail)));all_goals (try (conv=>whnf)))
    all_goals (split<;>first|(exfalso;omega)|exact⟨fun h' hs=>⟨rfl,hs.grows⟩⟩)
   ·((repeat' ((conv=>whnf);(first|(refine VC.mk (by omega) ?_)|(refine Br.mk ?_ ?_<;>intro hb<;>(try (exfalso;omega)))|(apply CK.pure;(case hh=>(intro h1 hs;exact value_any _ h1 (by omega))))|(apply CK.pure;(case hh=>(intro h1 hs;exact kind_eq hk h1 (by exact Nat.le_trans (ext_le _ _ _) (by omega)))))|fail)));all_goals (try (conv=>whnf)))
    all_goals (split<;>first|(exfalso;omega)|exact⟨fun h' hs=>⟨rfl,hs.grows⟩⟩)
 ·((repeat' ((conv=>whnf);(first|(refine VC.mk (by omega) ?_)|(refine Br.mk ?_ ?_<;>intro hb<;>(try (first|exact absurd rfl hb|exact Bool.noConfusion hb)))|(apply CK.pure;(case hh=>(intro h1 hs;exact (begins_any s a h1 (by omega)).mono (fun v h' ⟨e1,e2⟩=>⟨e1.trans (prop_true hbg),e2⟩))))|(apply CK.pure;(case hh=>(intro h1 hs;exact (hasp_any _ _ h1).mono (fun v h' ⟨e1,e2⟩=>⟨e1.trans (prop_false c1),e2⟩))))|(apply CK.pure;(case hh=>(intro h1 hs;exact (hasp_any _ _ h1).mono (fun v h' ⟨e1,e2⟩=>⟨e1.trans (prop_false c2),e2⟩))))|fail)));all_goals (try (conv=>whnf)))
  refine loop_rule tO [8] (fun to:Int=>[(8,.val (.int .i64 to))]) (fun _=>[]) (fun μ to=>a≤to∧to≤s.size∧s.size-to≤μ∧toGo s a false μ to=E) s.size a ?_
  conv=>whnf
  refine⟨by ((repeat (refine⟨rfl,?_⟩));trivial),trivial,⟨by omega,by omega,by omega,hto.symm⟩,?_⟩
  rintro μ to ⟨t1,t2,t3,t4⟩
  dsimp only
  have q:=byteI_rng s to
  have hl:(a<to∧lastF s a to=bitsI .or .u8 (byteI s (to-1)) 32)∨(a=to∧lastF s a to=0):=by
   by_cases h:a<to
   ·exact .inl ⟨h,by rw [lastF,if_pos h]⟩
   ·exact .inr ⟨by omega,by rw [lastF,if_neg h]⟩
  obtain⟨l,hle⟩:∃ l,lastF s a to=l:=⟨_,rfl⟩
  rw [hle] at hl
  have hmi:More s a false to↔(to<s.size∧((byteI s to=95∨byteI s to=46∨valD (byteI s to)<10∨(97≤byteI s to∧byteI s to≤122)∨(65≤byteI s to∧byteI s to≤90))∨((byteI s to=43∨byteI s to=45)∧l=101))):=by
   simp [More,NumB,Sgn,hle]
  by_cases hm:More s a false to
  ·obtain⟨f,rfl⟩:∃ f,μ=f+1:=⟨μ-1,by have:=hm.1;omega⟩
   simp only [toGo] at t4
   rw [if_pos hm] at t4
   rw [hmi] at hm
   obtain⟨m1,m2⟩:=hm
   clear hmi hcase' hk e hE hto
   rcases hl with ⟨l1,l2⟩|⟨l1,l2⟩
   ·((repeat' ((conv=>whnf);(first|(refine Ar.fit (by omega) ?_)|(refine VC.mk (by omega) ?_)|(refine Br.mk ?_ ?_<;>intro hb<;>(try (first|(exfalso;omega)|contradiction)))|(apply CK.pure;(case hh=>(intro h1 hs;exact value_any _ h1 (by omega))))|fail)));all_goals (try (conv=>whnf)))
    all_goals exact⟨f,to+1,⟨by omega,by omega,by omega,t4⟩,by omega,by ((repeat (refine⟨rfl,?_⟩));trivial),rfl,rfl,trivial⟩
   ·((repeat' ((conv=>whnf);(first|(refine Ar.fit (by omega) ?_)|(refine VC.mk (by omega) ?_)|(refine Br.mk ?_ ?_<;>intro hb<;>(try (exfalso;omega)))|(apply CK.pure;(case hh=>(intro h1 hs;exact value_any _ h1 (by omega))))|fail)));all_goals (try (conv=>whnf)))
    all_goals exact⟨f,to+1,⟨by omega,by omega,by omega,t4⟩,by omega,by ((repeat (refine⟨rfl,?_⟩));trivial),rfl,rfl,trivial⟩
  ·have hE2:to=E:=by
    rw [←t4]
    cases μ with
    |zero=>rfl
    |succ f=>simp only [toGo];rw [if_neg hm]
   rw [hmi] at hm
   subst hE2
   clear hmi hcase' e hE hto
   rcases hl with ⟨l1,l2⟩|⟨l1,l2⟩
   ·((repeat' ((conv=>whnf);(first|(refine Ar.fit (by omega) ?_)|(refine VC.mk (by omega) ?_)|(refine Br.mk ?_ ?_<;>intro hb<;>(try (first|(exfalso;omega)|exact Bool.noConfusion hb)))|(apply CK.pure;(case hh=>(intro h1 hs;exact value_any _ h1 (by omega))))|(apply CK.pure;(case hh=>(intro h1 hs;exact kind_eq hk h1 (by exact Nat.le_trans (ext_le _ _ _) (by omega)))))|fail)));all_goals (try (conv=>whnf)))
    all_goals (split<;>first|(exfalso;omega)|exact⟨fun h' hs=>⟨rfl,hs.grows⟩⟩)
   ·((repeat' ((conv=>whnf);(first|(refine VC.mk (by omega) ?_)|(refine Br.mk ?_ ?_<;>intro hb<;>(try (exfalso;omega)))|(apply CK.pure;(case hh=>(intro h1 hs;exact value_any _ h1 (by omega))))|(apply CK.pure;(case hh=>(intro h1 hs;exact kind_eq hk h1 (by exact Nat.le_trans (ext_le _ _ _) (by omega)))))|fail)));all_goals (try (conv=>whnf)))
    all_goals (split<;>first|(exfalso;omega)|exact⟨fun h' hs=>⟨rfl,hs.grows⟩⟩)
end Go.Ex
namespace Go.Ex
open Go.Proofs
abbrev blankT:ByteArray:=⟨#[32,9,13,10]⟩
def trimF(s:ByteArray):ByteArray:=⟨(Lib.trimLeftS s.data.toList blankT.data.toList).toArray⟩
theorem trimF_size(s:ByteArray):(trimF s).size≤s.size:=by
 unfold trimF Lib.trimLeftS
 show (List.dropWhile _ s.data.toList).toArray.size≤s.data.size
 rw [List.size_toArray]
 exact Nat.le_trans (List.IsSuffix.length_le (List.dropWhile_suffix _)) (by simp)
theorem trimb_any(s:ByteArray)(h:Heap):CH Tryz.prog 62 #[.string s,.string blankT] h fun v h'=>v = .string (trimF s)∧Grows h h':=
 callsH_below (callRuns Tryz.func62 (by decide) rfl) fun w hw=>Any.strings_TrimLeft_laid Tryz.lays161 (by kernel_rfl) s blankT w (by decide) (ascii_of_all (by decide))
attribute [local irreducible] CH
abbrev lineT:ByteArray:=⟨#[47,47]⟩
abbrev blockT:ByteArray:=⟨#[47,42]⟩
abbrev shutT:ByteArray:=⟨#[42,47]⟩
def idx2(s:ByteArray):Int:=Lib.index s.data.toList shutT.data.toList
theorem index2_any(s:ByteArray)(h:Heap)(ht:TabsH h)(hs:s.size<4294967281):CH Tryz.prog 44 #[.string s,.string shutT] h fun v h'=>v = .int .i64 (idx2 s)∧Grows h h':=index_any s shutT h ht hs
theorem hasp2{u:ByteArray}(h:HasP u blockT):(2:Int)≤u.size:=h.1
theorem idx2_rng(s:ByteArray) : -1≤idx2 s∧(idx2 s<0∨idx2 s+2≤s.size):=by
 refine⟨Lib.index_ge _ _,?_⟩
 by_cases h:idx2 s<0
 ·exact .inl h
 ·have:=Lib.index_room s.data.toList shutT.data.toList (by unfold idx2 at h;omega)
  refine .inr ?_
  simpa [idx2] using this
def lexK(s:ByteArray)(a:Int):Int×Int:=
 if (readF s a).1=65279 then (10,a+(readF s a).2) else
 if BlankP (readF s a).1 then (10,s.size-(trimF (sub s a s.size)).size) else
 if HasP (sub s a s.size) lineT then (if 0≤idxB (sub s a s.size) 10 then (11,a+idxB (sub s a s.size) 10) else (11,s.size)) else
 if HasP (sub s a s.size) blockT then (if 0≤idx2 (sub (sub s a s.size) 2 (sub s a s.size).size) then (12,a+idx2 (sub (sub s a s.size) 2 (sub s a s.size).size)+4) else (0,0)) else
 if LetterF (readF s a).1=true then wordF s a else
 if (readF s a).1=59 then (9,a+1) else
 if ¬ (numF s a).2.2=15 then ((numF s a).1,(numF s a).2.1) else
 if ¬ (begF s a).2.2=15 then ((begF s a).1,(begF s a).2.1) else
 if 0<signF (sub s a s.size) then (8,a+signF (sub s a s.size)) else (0,0)
attribute [local irreducible] readF badF LetterF DigitP WordP trimF idx2 numF begF signF wordF HasP BlankP
theorem kind_any2(s:ByteArray)(a:Int)(h:Heap)(ht:TabsH h)(hz:s.size≤1048576)(ha:0≤a∧a<s.size) :
 CH Tryz.prog 43 #[.string s,.int .i64 a] h fun v h'=>v = .tuple #[.int .u8 (lexK s a).1,.int .i64 (lexK s a).2]∧Grows h h':=by
 refine enter (rep:=rep) (m:=12) (ex:=[0,1,4,5,6,7,8,9,10,11,12,13,14,15,16,17,27,33,42,48,54,61,66,74,87,98,104]) (cu:=[]) tO Tryz.func43 rfl (by decide) (rs:=[.tmp 4,.tmp 5]) rfl rfl [.val (.string s),.val (.int .i64 a)] rfl ?_
 obtain⟨R,hR⟩:∃ R,lexK s a=R:=⟨_,rfl⟩
 rw [hR]
 unfold lexK at hR
 have hrl:=readF_le s a (by omega)
 have c1:=fun h1 (ht:TabsH h1)=>read_any s a h1 ht (by omega)
 generalize readF s a=rd at hR hrl c1
 obtain⟨r,n⟩:=rd
 dsimp only at hR hrl c1
 have hsb:=sub_size s a s.size (by omega) (by omega) (by omega)
 have c2:=fun h1=>trimb_any (sub s a s.size) h1
 have t2:=trimF_size (sub s a s.size)
 generalize trimF (sub s a s.size)=tu at hR c2 t2
 have c3:=fun h1=>ibyte_any (sub s a s.size) 10 h1
 have i3:=idxB_rng (sub s a s.size) 10
 generalize idxB (sub s a s.size) 10=ix at hR c3 i3
 have c4:=fun h1 (ht:TabsH h1)=>index2_any (sub (sub s a s.size) 2 (sub s a s.size).size) h1 ht (Nat.lt_of_le_of_lt (ext_le _ _ _) (Nat.lt_of_le_of_lt (ext_le _ _ _) (by omega)))
 have i4 : -1≤idx2 (sub (sub s a s.size) 2 (sub s a s.size).size)∧(idx2 (sub (sub s a s.size) 2 (sub s a s.size).size)<0∨idx2 (sub (sub s a s.size) 2 (sub s a s.size).size)+2≤(sub (sub s a s.size) 2 (sub s a s.size).size).size):=idx2_rng _
 have hb4:(sub (sub s a s.size) 2 (sub s a s.size).size).size≤(sub s a s.size).size:=ext_le _ _ _
 generalize idx2 (sub (sub s a s.size) 2 (sub s a s.size).size)=iy at hR c4 i4
 have c5:=fun h1=>sword_any s a h1 (by omega) (by omega)
 generalize wordF s a=wd at hR c5
 have c6:=fun h1=>nscan_any s a h1 (by omega)
 generalize numF s a=nf at hR c6
 have c7:=fun h1 (ht:TabsH h1)=>qscan_any s a h1 ht hz
 generalize begF s a=bf at hR c7
 have c8:=fun h1=>sign_any (sub s a s.size) h1 (by omega)
 have i8:=signF_rng (sub s a s.size)
 generalize signF (sub s a s.size)=sg at hR c8 i8
 generalize hlf:LetterF r=lf at hR
 obtain⟨w1,w2⟩:=wd
 obtain⟨n1,n2,n3⟩:=nf
 obtain⟨q1,q2,q3⟩:=bf
 dsimp only at hR c5 c6 c7
 rcases lf with _|_
 ·((repeat' ((conv=>whnf);(first|(refine Br.mk (p:=HasP (sub s a s.size) blockT) ?_ ?_<;>intro hb<;>(try have hl2:=hasp2 hb))|(refine Ar.fit (by omega) ?_)|(refine VC.mk (by (first|omega|(and_intros<;>first|omega))) ?_)|(refine Br.mk ?_ ?_<;>intro hb<;>(try (exact Bool.noConfusion hb)))|(apply CK.pure;(case hh=>(intro h1 hs;exact c1 h1 (ht.at hs))))|(refine CK.says (.prop _) (fun h1 hs=>blank_any r h1) ?_)|(apply CK.pure;(case hh=>(intro h1 hs;exact c2 h1)))|(refine CK.says (.prop _) (fun h1 hs=>hasp_any _ _ h1) ?_)|(apply CK.pure;(case hh=>(intro h1 hs;exact c3 h1)))|(apply CK.pure;(case hh=>(intro h1 hs;exact c4 h1 (ht.at hs))))|(apply CK.pure;(case hh=>(intro h1 hs;exact letter_eq hlf h1)))|(apply CK.pure;(case hh=>(intro h1 hs;exact c6 h1)))|(apply CK.pure;(case hh=>(intro h1 hs;exact c7 h1 (ht.at hs))))|(apply CK.pure;(case hh=>(intro h1 hs;exact c8 h1)))|fail)));all_goals (try (conv=>whnf)))
  all_goals first
   |((repeat (first|rw [if_pos (by assumption)] at hR|rw [if_neg (by first|assumption|(intro e;cases e))] at hR));subst hR;exact⟨fun h' hs=>⟨rfl,hs.grows⟩⟩)
 ·((repeat' ((conv=>whnf);(first|(refine Br.mk (p:=HasP (sub s a s.size) blockT) ?_ ?_<;>intro hb<;>(try have hl2:=hasp2 hb))|(refine Ar.fit (by omega) ?_)|(refine VC.mk (by (first|omega|(and_intros<;>first|omega))) ?_)|(refine Br.mk ?_ ?_<;>intro hb<;>(try (exact absurd rfl hb)))|(apply CK.pure;(case hh=>(intro h1 hs;exact c1 h1 (ht.at hs))))|(refine CK.says (.prop _) (fun h1 hs=>blank_any r h1) ?_)|(apply CK.pure;(case hh=>(intro h1 hs;exact c2 h1)))|(refine CK.says (.prop _) (fun h1 hs=>hasp_any _ _ h1) ?_)|(apply CK.pure;(case hh=>(intro h1 hs;exact c3 h1)))|(apply CK.pure;(case hh=>(intro h1 hs;exact c4 h1 (ht.at hs))))|(apply CK.pure;(case hh=>(intro h1 hs;exact letter_eq hlf h1)))|(apply CK.pure;(case hh=>(intro h1 hs;exact c5 h1)))|fail)));all_goals (try (conv=>whnf)))
  all_goals first
   |((repeat (first|rw [if_pos (by first|assumption|rfl)] at hR|rw [if_neg (by assumption)] at hR));subst hR;exact⟨fun h' hs=>⟨rfl,hs.grows⟩⟩)
end Go.Ex
