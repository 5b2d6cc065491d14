/-
  Top: TopDeep: whatever the input, the law answers true (part 17)
-/
import Derived.Lib.DecodeN
import Derived.Test.YtpjdgifhhnjclaaGreatDoorM11
set_option linter.unusedVariables false
set_option linter.unusedSimpArgs false
set_option maxHeartbeats 4000000
set_option maxRecDepth 10000
namespace Go.Ex
open Go.Proofs
attribute [local irreducible] CH
def letTab:List Spn:=[⟨65,90⟩,⟨95,95⟩,⟨97,122⟩,⟨170,170⟩,⟨181,181⟩,⟨186,186⟩,⟨192,214⟩,⟨216,246⟩,⟨248,705⟩,⟨880,883⟩,⟨886,887⟩,⟨891,893⟩,⟨902,902⟩,⟨904,906⟩,⟨908,908⟩,⟨910,929⟩,⟨931,1013⟩,⟨1024,1153⟩,⟨1162,1327⟩,⟨1329,1366⟩,⟨1377,1415⟩,⟨1488,1514⟩,⟨1568,1610⟩,⟨2308,2361⟩,⟨3585,3632⟩,⟨4256,4293⟩,⟨7680,7957⟩,⟨12353,12438⟩,⟨12449,12538⟩,⟨19968,40959⟩,⟨44032,55203⟩,⟨66560,66639⟩,⟨131072,173791⟩]
def letGo(r:Int):Nat→Int→Int→Bool
 |0,_,_=>false
 |f+1,lo,hi=>if lo<hi then (if r<(getI spanR.dflt letTab ((lo+hi) / 2)).frm then letGo r f lo ((lo+hi) / 2) else if (getI spanR.dflt letTab ((lo+hi) / 2)).to<r then letGo r f ((lo+hi) / 2+1) hi else true) else false
def LetterF(r:Int):Bool:=letGo r 33 0 33
theorem letters_any(h:Heap):CH Tryz.prog 117 #[] h fun v h'=>v = .agg ⟨letTab.flatMap spanR.cells⟩∧Grows h h':=by
 refine enter (rep:=rep) (m:=1) (ex:=[]) (cu:=[]) tO Tryz.func117 rfl (by decide) (rs:=[.cell 0 151]) rfl rfl [] rfl ?_
 ((repeat' ((conv=>whnf);(first|(refine VC.mk (by (first|omega|rfl|(and_intros<;>first|omega|rfl|(simp only [maxLen];omega)))) ?_)|(refine New.mk ?_;intro b hb)|fail)));all_goals (try (conv=>whnf)))
 all_goals exact⟨fun h' hs=>⟨rfl,hs.grows⟩⟩
theorem letter_any(r:Int)(h:Heap):CH Tryz.prog 65 #[.int .i32 r] h fun v h'=>v = .bool (LetterF r)∧Grows h h':=by
 refine enter (rep:=rep) (m:=1) (ex:=[2,3,4,5,6,10,15,23]) (cu:=[]) tO Tryz.func65 rfl (by decide) (rs:=[.tmp 2]) rfl rfl [.val (.int .i32 r)] rfl ?_
 ((repeat' ((conv=>whnf);(first|(refine VC.mk (by (first|omega|(and_intros<;>first|omega|rfl|(simp only [maxLen];omega)))) ?_)|(refine New.mk ?_;intro b hb)|(apply CK.pure;(case hh=>(intro h1 hs;exact letters_any h1)))|fail)));all_goals (try (conv=>whnf)))
 refine loop_rule tO [4,5] (fun x:Int×Int=>[(4,.val (.int .i64 x.1)),(5,.val (.int .i64 x.2))]) (fun _=>[(3,b,.arr 151 spanR letTab 33)]) (fun μ x=>0≤x.1∧x.1≤x.2∧x.2≤33∧x.2-x.1≤μ∧letGo r μ x.1 x.2=LetterF r) 33 (0,33) ?_
 conv=>whnf
 refine⟨by ((repeat (refine⟨rfl,?_⟩));trivial),⟨rfl,rfl,trivial⟩,⟨by decide,by decide,by decide,by decide,rfl⟩,?_⟩
 rintro μ ⟨lo,hi⟩ ⟨a0,a1,a2,a3,a4⟩
 dsimp only at a0 a1 a2 a3 a4 ⊢
 have hlen:letTab.length=33:=rfl
 by_cases hlt:lo<hi
 ·obtain⟨f,rfl⟩:∃ f,μ=f+1:=⟨μ-1,by omega⟩
  simp only [letGo] at a4
  rw [if_pos hlt] at a4
  by_cases h1:r<(getI spanR.dflt letTab ((lo+hi) / 2)).frm
  ·rw [if_pos h1] at a4
   ((repeat' ((conv=>whnf);(first|(refine Ar.fit (by omega) ?_)|(refine VC.mk (by (first|omega|(and_intros<;>first|omega|rfl))) ?_)|(refine Br.mk ?_ ?_<;>intro hb<;>(try (exfalso;omega)))|fail)));all_goals (try (conv=>whnf)))
   all_goals exact⟨f,(lo,(lo+hi) / 2),⟨by omega,by dsimp only;omega,by dsimp only;omega,by dsimp only;omega,a4⟩,by omega,by ((repeat (refine⟨rfl,?_⟩));trivial),rfl,rfl,⟨rfl,rfl,trivial⟩⟩
  ·rw [if_neg h1] at a4
   by_cases h2:(getI spanR.dflt letTab ((lo+hi) / 2)).to<r
   ·rw [if_pos h2] at a4
    ((repeat' ((conv=>whnf);(first|(refine Ar.fit (by omega) ?_)|(refine VC.mk (by (first|omega|(and_intros<;>first|omega|rfl))) ?_)|(refine Br.mk ?_ ?_<;>intro hb<;>(try (exfalso;omega)))|fail)));all_goals (try (conv=>whnf)))
    all_goals exact⟨f,((lo+hi) / 2+1,hi),⟨by dsimp only;omega,by dsimp only;omega,by dsimp only;omega,by dsimp only;omega,a4⟩,by omega,by ((repeat (refine⟨rfl,?_⟩));trivial),rfl,rfl,⟨rfl,rfl,trivial⟩⟩
   ·rw [if_neg h2] at a4
    ((repeat' ((conv=>whnf);(first|(refine Ar.fit (by omega) ?_)|(refine VC.mk (by (first|omega|(and_intros<;>first|omega|rfl))) ?_)|(refine Br.mk ?_ ?_<;>intro hb<;>(try (exfalso;omega)))|fail)));all_goals (try (conv=>whnf)))
    all_goals exact⟨fun h' hs=>⟨by rw [←a4];rfl,hs.grows⟩⟩
 ·have e:LetterF r=false:=by
   rw [←a4]
   cases μ with
   |zero=>rfl
   |succ f=>simp only [letGo];rw [if_neg hlt]
  rw [e]
  ((repeat' ((conv=>whnf);(first|(refine Br.mk ?_ ?_<;>intro hb<;>(try (exfalso;omega)))|fail)));all_goals (try (conv=>whnf)))
  all_goals exact⟨fun h' hs=>⟨rfl,hs.grows⟩⟩
end Go.Ex
namespace Go.Ex
open Go.Proofs
attribute [local irreducible] CH byteI rowF idxB valD trimP
abbrev noText:ByteArray:=⟨#[]⟩
theorem size_pos{s:ByteArray}(h:¬ s=noText):0<s.size:=by
 rcases Nat.eq_zero_or_pos s.size with h0|h0
 ·exact absurd (ByteArray.ext (Array.eq_empty_of_size_eq_zero h0)) h
 ·exact h0
theorem ext_le(s:ByteArray)(a b:Nat):(s.extract a b).size≤s.size:=by simp only [ByteArray.size_extract];omega
theorem trimP_size(s p:ByteArray):(trimP s p).size≤s.size:=by
 unfold trimP
 split
 ·simp only [ByteArray.size_extract];omega
 ·exact Nat.le_refl _
abbrev undS:ByteArray:=⟨#[95]⟩
def wholeF(s:ByteArray)(base:Int):Int:=if ¬ trimP s undS=noText∧rowF (trimP s undS) base=(trimP s undS).size then 3 else 0
def powN(s:ByteArray):Int:=if 1<s.size∧(byteI s 1=43∨byteI s 1=45) then 1+1 else 1
def powF(s letters:ByteArray):Int:=if s=noText then 0 else if idxB letters (byteI s 0)<0 then 0 else if 0<rowF (sub s (powN s) s.size) 10 then powN s+rowF (sub s (powN s) s.size) 10 else 0
theorem whole_any(s:ByteArray)(base:Int)(h:Heap)(hs:s.size≤140737488355328):CH Tryz.prog 125 #[.string s,.int .i64 base] h fun v h'=>v = .int .u8 (wholeF s base)∧Grows h h':=by
 refine enter (rep:=rep) (m:=5) (ex:=[16]) (cu:=[]) tO Tryz.func125 rfl (by decide) (rs:=[.tmp 4]) rfl rfl [.val (.string s),.val (.int .i64 base)] rfl ?_
 have hz:=trimP_size s undS
 ((repeat' ((conv=>whnf);(first|(refine Br.mk ?_ ?_<;>intro hb)|(apply CK.pure;(case hh=>(intro h1 hs;exact trimp_any _ _ h1)))|(apply CK.pure;(case hh=>(intro h1 hs;exact row_any _ _ h1 (by exact Nat.le_trans (trimP_size _ _) (by omega)))))|fail)));all_goals (try (conv=>whnf)))
 all_goals exact⟨fun h' hs=>⟨int_eq (by simp only [wholeF];(repeat' split)<;>first|rfl|(exfalso;simp_all;done)|(exfalso;omega)),hs.grows⟩⟩
theorem power_any(s letters:ByteArray)(h:Heap)(hs:s.size≤140737488355328):CH Tryz.prog 163 #[.string s,.string letters] h fun v h'=>v = .int .i64 (powF s letters)∧Grows h h':=by
 refine enter (rep:=rep) (m:=7) (ex:=[15,31,39]) (cu:=[]) tO Tryz.func163 rfl (by decide) (rs:=[.tmp 4]) rfl rfl [.val (.string s),.val (.string letters)] rfl ?_
 by_cases he:s=noText
 ·subst he
  ((repeat' ((conv=>whnf);(first|(refine Br.mk ?_ ?_<;>intro hb<;>(try (exact absurd rfl hb)))|fail)));all_goals (try (conv=>whnf)))
  all_goals exact⟨fun h' hs=>⟨int_eq rfl,hs.grows⟩⟩
 have hp:=size_pos he
 by_cases hl:idxB letters (byteI s 0)<0
 ·((repeat' ((conv=>whnf);(first|(refine VC.mk (by omega) ?_)|(refine Br.mk ?_ ?_<;>intro hb<;>(try (first|(exfalso;omega)|contradiction)))|(apply CK.pure;(case hh=>(intro h1 hs;exact ibyte_any _ _ h1)))|fail)));all_goals (try (conv=>whnf)))
  all_goals exact⟨fun h' hs=>⟨int_eq (by rw [powF,if_neg he,if_pos hl]),hs.grows⟩⟩
 ·have e:powF s letters=if 0<rowF (sub s (powN s) s.size) 10 then powN s+rowF (sub s (powN s) s.size) 10 else 0:=by rw [powF,if_neg he,if_neg hl]
  rw [e]
  have r1:=rowF_rng (sub s 1 s.size) 10
  have r2:=rowF_rng (sub s (1+1) s.size) 10
  by_cases hn:1<s.size∧(byteI s 1=43∨byteI s 1=45)
  ·have en:powN s=1+1:=by rw [powN,if_pos hn]
   rw [en]
   have z2:=sub_size s (1+1) s.size (by omega) (by omega) (by omega)
   dsimp only [sub] at *
   ((repeat' ((conv=>whnf);(first|(refine Ar.fit (by omega) ?_)|(refine VC.mk (by omega) ?_)|(refine Br.mk ?_ ?_<;>intro hb<;>(try (first|(exfalso;omega)|contradiction)))|(apply CK.pure;(case hh=>(intro h1 hs;exact ibyte_any _ _ h1)))|(apply CK.pure;(case hh=>(intro h1 hs;exact row_any _ _ h1 (by omega))))|fail)));all_goals (try (conv=>whnf)))
   all_goals exact⟨fun h' hs=>⟨int_eq (by split<;>first|rfl|(exfalso;omega)),hs.grows⟩⟩
  ·have en:powN s=1:=by rw [powN,if_neg hn]
   rw [en]
   have z1:=sub_size s 1 s.size (by omega) (by omega) (by omega)
   dsimp only [sub] at *
   ((repeat' ((conv=>whnf);(first|(refine Ar.fit (by omega) ?_)|(refine VC.mk (by omega) ?_)|(refine Br.mk ?_ ?_<;>intro hb<;>(try (first|(exfalso;omega)|contradiction)))|(apply CK.pure;(case hh=>(intro h1 hs;exact ibyte_any _ _ h1)))|(apply CK.pure;(case hh=>(intro h1 hs;exact row_any _ _ h1 (by omega))))|fail)));all_goals (try (conv=>whnf)))
   all_goals exact⟨fun h' hs=>⟨int_eq (by split<;>first|rfl|(exfalso;omega)),hs.grows⟩⟩
theorem row_eq{s:ByteArray}{base r:Int}(hr:rowF s base=r)(h:Heap)(hs:s.size≤140737488355328):CH Tryz.prog 77 #[.string s,.int .i64 base] h fun v h'=>v = .int .i64 r∧Grows h h':=by subst hr;exact row_any s base h hs
theorem pow_eq{s l:ByteArray}{r:Int}(hr:powF s l=r)(h:Heap)(hs:s.size≤140737488355328):CH Tryz.prog 163 #[.string s,.string l] h fun v h'=>v = .int .i64 r∧Grows h h':=by subst hr;exact power_any s l h hs
theorem whole_eq{s:ByteArray}{base r:Int}(hr:wholeF s base=r)(h:Heap)(hs:s.size≤140737488355328):CH Tryz.prog 125 #[.string s,.int .i64 base] h fun v h'=>v = .int .u8 r∧Grows h h':=by subst hr;exact whole_any s base h hs
theorem row_rng{s:ByteArray}{base r:Int}(hr:rowF s base=r):0≤r∧r≤s.size:=by subst hr;exact rowF_rng s base
theorem powF_rng(s l:ByteArray):0≤powF s l∧powF s l≤s.size:=by
 unfold powF
 split
 ·omega
 ·rename_i he
  have hp:=size_pos he
  split
  ·omega
  ·have hpn:1≤powN s∧powN s≤s.size:=by unfold powN;split<;>omega
   have r:=rowF_rng (sub s (powN s) s.size) 10
   have z:=sub_size s (powN s) s.size (by omega) hpn.2 (by omega)
   split<;>omega
theorem pow_rng{s l:ByteArray}{r:Int}(hr:powF s l=r):0≤r∧r≤s.size:=by subst hr;exact powF_rng s l
end Go.Ex
namespace Go.Ex
open Go.Proofs
attribute [local irreducible] CH byteI rowF idxB valD trimP powF wholeF
def partF(c:Int):Int:=if c=40 then 41 else if c=91 then 93 else if c=123 then 125 else 0
theorem partner_any(c:Int)(h:Heap):CH Tryz.prog 41 #[.int .u8 c] h fun v h'=>v = .int .u8 (partF c)∧Grows h h':=by
 refine enter (rep:=rep) (m:=9) (ex:=[]) (cu:=[]) tO Tryz.func41 rfl (by decide) (rs:=[.tmp 2]) rfl rfl [.val (.int .u8 c)] rfl ?_
 simp only [partF]
 ((repeat' ((conv=>whnf);(first|(refine Br.mk ?_ ?_<;>intro hb)|fail)));all_goals (try (conv=>whnf)))
 all_goals exact⟨fun h' hs=>⟨int_eq (by (repeat' split)<;>first|rfl|(exfalso;omega)),hs.grows⟩⟩
def BlankP(r:Int):Prop:=r=32∨r=9∨r=10∨r=13
instance (r:Int):Decidable (BlankP r):=by unfold BlankP;exact inferInstance
theorem blank_any(r:Int)(h:Heap):CH Tryz.prog 61 #[.int .i32 r] h fun v h'=>v=denC (.prop (BlankP r))∧Grows h h':=by
 refine enter (rep:=rep) (m:=3) (ex:=[]) (cu:=[]) tO Tryz.func61 rfl (by decide) (rs:=[.tmp 2]) rfl rfl [.val (.int .i32 r)] rfl ?_
 ((repeat' ((conv=>whnf);(first|(refine Br.mk ?_ ?_<;>intro hb)|fail)));all_goals (try (conv=>whnf)))
 all_goals first
  |exact⟨fun h' hs=>⟨bool_no (by simp only [BlankP];omega),hs.grows⟩⟩
  |exact⟨fun h' hs=>⟨bool_yes (by simp only [BlankP];omega),hs.grows⟩⟩
  |exact⟨fun h' hs=>⟨prop_eq (by simp only [BlankP];omega),hs.grows⟩⟩
def baseF(r:Int):Int:=if 48≤r∧r≤57 then r-48 else if 97≤r∧r≤102 then r-97+10 else if 65≤r∧r≤70 then r-65+10 else -1
theorem base_any(r:Int)(h:Heap)(hr:0≤r∧r<1114112):CH Tryz.prog 215 #[.int .i32 r] h fun v h'=>v = .int .i64 (baseF r)∧Grows h h':=by
 refine enter (rep:=rep) (m:=3) (ex:=[3,13,24]) (cu:=[]) tO Tryz.func215 rfl (by decide) (rs:=[.tmp 2]) rfl rfl [.val (.int .i32 r)] rfl ?_
 obtain⟨n0,n1⟩:=hr
 simp only [baseF]
 ((repeat' ((conv=>whnf);(first|(refine Ar.fit (by omega) ?_)|(refine Br.mk ?_ ?_<;>intro hb<;>(try (exfalso;omega)))|fail)));all_goals (try (conv=>whnf)))
 all_goals exact⟨fun h' hs=>⟨int_eq (by (repeat' split)<;>first|omega|(exfalso;omega)),hs.grows⟩⟩
def words:List ByteArray:=[⟨#[98,114,101,97,107]⟩,⟨#[99,97,115,101]⟩,⟨#[99,104,97,110]⟩,⟨#[99,111,110,115,116]⟩,⟨#[99,111,110,116,105,110,117,101]⟩,⟨#[100,101,102,97,117,108,116]⟩,⟨#[100,101,102,101,114]⟩,⟨#[101,108,115,101]⟩,⟨#[102,97,108,108,116,104,114,111,117,103,104]⟩,⟨#[102,111,114]⟩,⟨#[102,117,110,99]⟩,⟨#[103,111]⟩,⟨#[103,111,116,111]⟩,⟨#[105,102]⟩,⟨#[105,109,112,111,114,116]⟩,⟨#[105,110,116,101,114,102,97,99,101]⟩,⟨#[109,97,112]⟩,⟨#[112,97,99,107,97,103,101]⟩,⟨#[114,97,110,103,101]⟩,⟨#[114,101,116,117,114,110]⟩,⟨#[115,101,108,101,99,116]⟩,⟨#[115,116,114,117,99,116]⟩,⟨#[115,119,105,116,99,104]⟩,⟨#[116,121,112,101]⟩,⟨#[118,97,114]⟩]
def WordP(s:ByteArray):Prop:=s∈words
instance (s:ByteArray):Decidable (WordP s):=decidable_of_iff (words.any (fun w=>decide (s=w))=true) (by simp [WordP])
theorem cword_any(s:ByteArray)(h:Heap):CH Tryz.prog 72 #[.string s] h fun v h'=>v=denC (.prop (WordP s))∧Grows h h':=by
 refine enter (rep:=rep) (m:=5) (ex:=[]) (cu:=[]) tO Tryz.func72 rfl (by decide) (rs:=[.tmp 2]) rfl rfl [.val (.string s)] rfl ?_
 by_cases hw:WordP s
 ·have hw0:=hw
  simp only [WordP,words,List.mem_cons,List.not_mem_nil,or_false] at hw
  rcases hw with rfl|rfl|rfl|rfl|rfl|rfl|rfl|rfl|rfl|rfl|rfl|rfl|rfl|rfl|rfl|rfl|rfl|rfl|rfl|rfl|rfl|rfl|rfl|rfl|rfl
  all_goals
   ((repeat' ((conv=>whnf);(first|(refine Br.mk ?_ ?_<;>intro hb<;>(try (first|exact absurd rfl hb|contradiction)))|fail)));all_goals (try (conv=>whnf)))
   all_goals exact⟨fun h' hs=>⟨bool_yes hw0,hs.grows⟩⟩
 ·have hw':=hw
  simp only [WordP,words,List.mem_cons,List.not_mem_nil,or_false,not_or] at hw'
  obtain⟨w0,w1,w2,w3,w4,w5,w6,w7,w8,w9,w10,w11,w12,w13,w14,w15,w16,w17,w18,w19,w20,w21,w22,w23,w24⟩:=hw'
  ((repeat' ((conv=>whnf);(first|(refine Br.mk ?_ ?_<;>intro hb<;>(try (contradiction)))|fail)));all_goals (try (conv=>whnf)))
  all_goals exact⟨fun h' hs=>⟨bool_no hw,hs.grows⟩⟩
end Go.Ex
namespace Go.Ex
open Go.Proofs
attribute [local irreducible] CH
structure QS where
 at_:Int
 bad:Bool
 o:Option (Nat×Nat)
 out:List Int
def outK(x:QS):KV:=match x.o with
 |none=>.val (.slice none 0 0)
 |some (b,c)=>.osl 21 b x.out.length c
def outC(x:QS):Chs:=match x.o with
 |none=>[]
 |some (b,c)=>[(21,b,.arr 5 (intR .u8) x.out c)]
abbrev qB(s:ByteArray)(mk a:Int)(V:KV)(bad:Bool):Chunk:=.box 161 [.val (.string s),.val (.int .i64 a),.val (.int .u8 mk),V,.val (.bool bad)]
def qC(bq:Nat)(s:ByteArray)(mk:Int)(x:QS):Chs:=(20,bq,qB s mk x.at_ (outK x) x.bad)::outC x
def numS(s:ByteArray)(base:Int):Nat→Int→Int→Int×Int×Bool
 |0,a,n=>(n,a,false)
 |c+1,a,n=>if a<s.size∧0≤baseF (byteI s a)∧baseF (byteI s a)<base then numS s base c (a+1) (n*base+baseF (byteI s a)) else (0,a,true)
theorem pow16_le:∀ (i:Nat),i≤7→0<(16:Int) ^ i∧(16:Int) ^ i≤268435456:=fun i h=>by
 have:i=0∨i=1∨i=2∨i=3∨i=4∨i=5∨i=6∨i=7:=by omega
 rcases this with rfl|rfl|rfl|rfl|rfl|rfl|rfl|rfl<;>decide
theorem baseF_rng(r:Int):baseF r = -1∨0≤baseF r∧baseF r<16:=by
 unfold baseF
 split
 ·omega
 ·split
  ·omega
  ·split<;>omega
theorem qnumber_any(bq:Nat)(s:ByteArray)(mk a base:Int)(cnt:Nat)(V:Value)(bad:Bool)(h:Heap)(hs:HS ⟨h,[bq],[(20,bq,qB s mk a (.val V) bad)]⟩ h)(hb:base=16∨base=8)(hc:cnt≤8)(ha:0≤a∧a≤s.size)(hz:s.size≤1048576) :
 CH Tryz.prog 185 #[.pointer (some ⟨bq,0,none⟩),.int .i64 cnt,.int .i64 base] h fun v h'=>v = .int .i64 (numS s base cnt a 0).1∧HS ⟨h,[bq],[(20,bq,qB s mk (numS s base cnt a 0).2.1 (.val V) (bad || (numS s base cnt a 0).2.2))]⟩ h':=by
 obtain⟨R,hR⟩:∃ R,numS s base cnt a 0=R:=⟨_,rfl⟩
 rw [hR]
 refine eIn (rep:=rep) (m:=1) (ex:=[0,1,2,6,7,8,9,10,11,21,39]) (cu:=[]) (args:=[.own 20 bq 0,.val (.int .i64 cnt),.val (.int .i64 base)]) tO Tryz.func185 rfl (by decide) (rs:=[.tmp 6]) rfl rfl rfl hs ?_
 rcases hb with rfl|rfl
 ·(try (conv=>whnf))
  refine loop_rule tO [7,10] (fun x:Int×Int×Int=>[(7,.val (.int .i64 x.2.1)),(10,.val (.int .i64 x.2.2))]) (fun x=>[(20,bq,qB s mk x.1 (.val V) bad)]) (fun μ x=>numS s 16 μ x.1 x.2.1=R∧(x.2.2+μ=cnt∧0≤x.2.2)∧(0≤x.1∧x.1≤s.size)∧0≤x.2.1∧x.2.1<(16:Int) ^ (cnt - μ)) cnt (a,0,0) ?_
  conv=>whnf
  refine⟨by ((repeat (refine⟨rfl,?_⟩));trivial),⟨rfl,rfl,trivial⟩,⟨hR,⟨by simp,Int.le_refl _⟩,ha,Int.le_refl _,by simp⟩,?_⟩
  rintro μ ⟨a',n',i⟩ ⟨t1,⟨t2,t6⟩,t3,t4,t5⟩
  dsimp only at t1 t2 t3 t4 t5 t6 ⊢
  have hq:=byteI_rng s a'
  have hw:=baseF_rng (byteI s a')
  rcases μ with _|μ
  ·have hi:i=cnt:=by omega
   subst hi
   clear hq hw hR
   simp only [numS] at t1
   subst t1
   ((repeat' ((conv=>whnf);(first|(refine Br.mk ?_ ?_<;>intro hb<;>(try (exfalso;omega)))|fail)));all_goals (try (conv=>whnf)))
   all_goals exact⟨fun h' hs=>⟨rfl,by simpa using hs⟩⟩
  ·have hi:i<cnt:=by omega
   obtain⟨p0,p1⟩:=pow16_le (cnt-(μ+1)) (by omega)
   have hp:(16:Int) ^ (cnt - μ)=16*16 ^ (cnt-(μ+1)):=by rw [show cnt - μ=cnt-(μ+1)+1 by omega,Int.pow_succ,Int.mul_comm]
   generalize (16:Int) ^ (cnt-(μ+1))=p at t5 p0 p1 hp
   simp only [numS] at t1
   have hbi:=fun h1=>base_any (byteI s a') h1 (by omega)
   generalize hv:baseF (byteI s a')=v at t1 hw hbi
   ((repeat' ((conv=>whnf);(first|(refine Ar.fit (by omega) ?_)|(refine VC.mk (by omega) ?_)|(refine Br.mk ?_ ?_<;>intro hb<;>(try (exfalso;omega)))|(refine drawn tO mixed (by kernel_rfl) ?_)|(apply CallQ.pure;(case hh=>(intro h1 hs;exact hbi h1)))|fail)));all_goals (try (conv=>whnf)))
   all_goals first
    |(rw [if_pos ⟨by omega,by omega,by omega⟩] at t1;refine⟨μ,(a'+1,n'*16+v,i+1),⟨t1,⟨by dsimp only;omega,by dsimp only;omega⟩,⟨by dsimp only;omega,by dsimp only;omega⟩,by dsimp only;omega,by dsimp only;rw [hp];omega⟩,by omega,by ((repeat (refine⟨rfl,?_⟩));trivial),rfl,rfl,⟨rfl,rfl,trivial⟩⟩)
    |(rw [if_neg (fun e=>by omega)] at t1;subst t1;exact⟨fun h' hs=>⟨rfl,by simpa using hs⟩⟩)
    |skip
 ·(try (conv=>whnf))
  refine loop_rule tO [7,10] (fun x:Int×Int×Int=>[(7,.val (.int .i64 x.2.1)),(10,.val (.int .i64 x.2.2))]) (fun x=>[(20,bq,qB s mk x.1 (.val V) bad)]) (fun μ x=>numS s 8 μ x.1 x.2.1=R∧(x.2.2+μ=cnt∧0≤x.2.2)∧(0≤x.1∧x.1≤s.size)∧0≤x.2.1∧x.2.1<(16:Int) ^ (cnt - μ)) cnt (a,0,0) ?_
  conv=>whnf
  refine⟨by ((repeat (refine⟨rfl,?_⟩));trivial),⟨rfl,rfl,trivial⟩,⟨hR,⟨by simp,Int.le_refl _⟩,ha,Int.le_refl _,by simp⟩,?_⟩
  rintro μ ⟨a',n',i⟩ ⟨t1,⟨t2,t6⟩,t3,t4,t5⟩
  dsimp only at t1 t2 t3 t4 t5 t6 ⊢
  have hq:=byteI_rng s a'
  have hw:=baseF_rng (byteI s a')
  rcases μ with _|μ
  ·have hi:i=cnt:=by omega
   subst hi
   clear hq hw hR
   simp only [numS] at t1
   subst t1
   ((repeat' ((conv=>whnf);(first|(refine Br.mk ?_ ?_<;>intro hb<;>(try (exfalso;omega)))|fail)));all_goals (try (conv=>whnf)))
   all_goals exact⟨fun h' hs=>⟨rfl,by simpa using hs⟩⟩
  ·have hi:i<cnt:=by omega
   obtain⟨p0,p1⟩:=pow16_le (cnt-(μ+1)) (by omega)
   have hp:(16:Int) ^ (cnt - μ)=16*16 ^ (cnt-(μ+1)):=by rw [show cnt - μ=cnt-(μ+1)+1 by omega,Int.pow_succ,Int.mul_comm]
   generalize (16:Int) ^ (cnt-(μ+1))=p at t5 p0 p1 hp
   simp only [numS] at t1
   have hbi:=fun h1=>base_any (byteI s a') h1 (by omega)
   generalize hv:baseF (byteI s a')=v at t1 hw hbi
   ((repeat' ((conv=>whnf);(first|(refine Ar.fit (by omega) ?_)|(refine VC.mk (by omega) ?_)|(refine Br.mk ?_ ?_<;>intro hb<;>(try (exfalso;omega)))|(refine drawn tO mixed (by kernel_rfl) ?_)|(apply CallQ.pure;(case hh=>(intro h1 hs;exact hbi h1)))|fail)));all_goals (try (conv=>whnf)))
   all_goals first
    |(rw [if_pos ⟨by omega,by omega,by omega⟩] at t1;refine⟨μ,(a'+1,n'*8+v,i+1),⟨t1,⟨by dsimp only;omega,by dsimp only;omega⟩,⟨by dsimp only;omega,by dsimp only;omega⟩,by dsimp only;omega,by dsimp only;rw [hp];omega⟩,by omega,by ((repeat (refine⟨rfl,?_⟩));trivial),rfl,rfl,⟨rfl,rfl,trivial⟩⟩)
    |(rw [if_neg (fun e=>by omega)] at t1;subst t1;exact⟨fun h' hs=>⟨rfl,by simpa using hs⟩⟩)
    |skip
end Go.Ex
namespace Go.Ex
open Go.Proofs
theorem callsH_same{P:Program}{f:Nat}{args:Array Value}{h:Heap}{v:Value}(hr:CallRuns P f)(hc:∀ w:World,w.heap=h→Calls P f args w fun e w'=>e = .returned v∧w'=w):CH P f args h fun u h'=>u=v∧Grows h h':=
 ⟨hr,fun w hw=>(hc w hw).mono fun e w' ⟨h1,h2⟩=>by subst h2;exact⟨⟨rfl,rfl,rfl⟩,v,h1,rfl,by rw [hw];exact Grows.refl _⟩⟩
theorem callsH_below{P:Program}{f:Nat}{args:Array Value}{h:Heap}{v:Value}(hr:CallRuns P f)(hc:∀ w:World,w.heap=h→Calls P f args w fun e w'=>e = .returned v∧Go.RowKit.Below w.heap.size w w'):CH P f args h fun u h'=>u=v∧Grows h h':=
 ⟨hr,fun w hw=>(hc w hw).mono fun e w' ⟨h1,h2⟩=>⟨⟨h2.os,h2.tape,h2.output⟩,v,h1,rfl,by subst hw;exact⟨h2.size,h2.block⟩⟩⟩
attribute [local irreducible] CH
structure TabsH(h:Heap):Prop where
 len:∃ m,hcell h 0 0=some (.int .i64 m)
 first:∀ c,c<256→hcell h 1 c=some (.int .u8 (Lib.firstT c))
 acc:∀ i,i<16→hcell h 2 (2*i)=some (.int .u8 (Lib.accLo i))∧hcell h 2 (2*i+1)=some (.int .u8 (Lib.accHi i))
theorem hcell_lt{h:Heap}{b o:Nat}{v:Value}(e:hcell h b o=some v):b<h.size:=by
 unfold hcell at e
 split at e
 ·rename_i he;exact (Array.getElem?_eq_some_iff.1 he).1
 ·cases e
theorem hcell_congr{h h':Heap}{b:Nat}(e:h'[b]?=h[b]?)(o:Nat):hcell h' b o=hcell h b o:=by unfold hcell;rw [e]
theorem TabsH.size{h:Heap}(ht:TabsH h):3≤h.size:=hcell_lt (ht.acc 0 (by omega)).1
theorem TabsH.congr{h h':Heap}(ht:TabsH h)(e:∀ b,b<3→h'[b]?=h[b]?):TabsH h':=
 ⟨by obtain⟨m,hm⟩:=ht.len;exact⟨m,by rw [hcell_congr (e 0 (by omega))];exact hm⟩,
  fun c hc=>by rw [hcell_congr (e 1 (by omega))];exact ht.first c hc,
  fun i hi=>by rw [hcell_congr (e 2 (by omega)),hcell_congr (e 2 (by omega))];exact ht.acc i hi⟩
theorem TabsH.grows{h h':Heap}(ht:TabsH h)(hg:Grows h h'):TabsH h':=ht.congr fun b hb=>hg.same b (Nat.lt_of_lt_of_le hb ht.size)
theorem TabsH.hs{S:St}{h:Heap}(ht:TabsH S.h0)(hc:∀ c∈S.cap,3≤c)(hs:HS S h):TabsH h:=
 ht.congr fun b hb=>hs.frame b (Nat.lt_of_lt_of_le hb ht.size) fun hm=>by have:=hc b hm;omega
theorem TabsH.at{h0 h:Heap}{ch:Chs}(ht:TabsH h0)(hs:HS ⟨h0,[],ch⟩ h):TabsH h:=TabsH.hs (S:=⟨h0,[],ch⟩) ht (fun c hc=>by cases hc) hs
theorem TabsH.tabs{w:World}(ht:TabsH w.heap):Lib.Utf8Tabs 1 2 w:=
 ⟨fun c hc=>by rw [cell_of];exact ht.first c hc,fun i hi=>by rw [cell_of,cell_of];exact ht.acc i hi⟩
theorem decode_any(s:ByteArray)(h:Heap)(ht:TabsH h):CH Tryz.prog 110 #[.string s] h fun v h'=>v = .tuple #[.int .i32 (Lib.decodeGo s).1,.int .i64 (Lib.decodeGo s).2]∧Grows h h':=
 callsH_below (callRuns Tryz.func110 (by decide) rfl) fun w hw=>Tryz.utf8_DecodeRuneInString s w (by subst hw;exact ht.tabs)
theorem index_any(s sub:ByteArray)(h:Heap)(ht:TabsH h)(hs:s.size<4294967281):CH Tryz.prog 44 #[.string s,.string sub] h fun v h'=>v = .int .i64 (Lib.index s.data.toList sub.data.toList)∧Grows h h':=
 callsH_same (callRuns Tryz.func44 (by decide) rfl) fun w hw=>by
  obtain⟨m,hm⟩:=ht.len
  exact Tryz.strings_Index s sub m w hs (by rw [cell_of,hw];exact hm)
theorem contains1_any(s:ByteArray)(c:UInt8)(h:Heap):CH Tryz.prog 34 #[.string s,.string ⟨#[c]⟩] h fun v h'=>v = .bool (decide (0≤Lib.indexByte s.data.toList c))∧Grows h h':=
 callsH_same (callRuns Tryz.func34 (by decide) rfl) fun w hw=>Tryz.strings_Contains_one s c w
theorem valid_any(r:Int)(h:Heap):CH Tryz.prog 209 #[.int .i32 r] h fun v h'=>v = .bool (Lib.validRune r)∧Grows h h':=
 callsH_same (callRuns Tryz.func209 (by decide) rfl) fun w hw=>Tryz.utf8_ValidRune r w
theorem replace_any(s old new:ByteArray)(h:Heap)(ht:TabsH h)(hs:s.size<4294967281)(h1:1≤old.size)(hlen:s.size+Lib.countB s old*new.size≤140737488355328) :
 CH Tryz.prog 123 #[.string s,.string old,.string new] h fun v h'=>v = .string ⟨(Lib.replaceAll s.data.toList old.data.toList new.data.toList).toArray⟩∧Grows h h':=
 callsH_below (callRuns Tryz.func123 (by decide) rfl) fun w hw=>by
  obtain⟨m,hm⟩:=ht.len
  exact Tryz.strings_ReplaceAll s old new m w hs (by rw [cell_of,hw];exact hm) h1 hlen
theorem decode_ext(s:ByteArray)(p:Nat)(hp:p<s.size):Lib.decodeGo (s.extract p s.size)=Utf8.decode s p:=by
 have hsz:(s.extract p s.size).size=s.size-p:=by rw [ByteArray.size_extract];omega
 have hg:∀ j,(s.extract p s.size).get! j=s.get! (p+j):=fun j=>by
  simp only [ByteArray.get!,getElem!_def]
  have e:(s.extract p s.size).data[j]?=s.data[p+j]?:=by
   simp only [ByteArray.data_extract,Array.getElem?_extract]
   split
   ·rfl
   ·rename_i hh
    have:s.size=s.data.size:=rfl
    rw [Array.getElem?_eq_none]
    omega
  rw [e]
 unfold Lib.decodeGo
 rw [if_neg (by omega),Lib.decode_at,Lib.decode_at,hsz,hg,hg,hg,hg]
 rfl
def readF(s:ByteArray)(i:Int):Int×Int:=
 if i<0∨s.size≤i then (0,0) else if (Utf8.decode s i.toNat).1=65533∧(Utf8.decode s i.toNat).2<2 then (0,0) else ((Utf8.decode s i.toNat).1,(Utf8.decode s i.toNat).2)
theorem read_any(s:ByteArray)(i:Int)(h:Heap)(ht:TabsH h)(hs0:s.size≤140737488355328):CH Tryz.prog 60 #[.string s,.int .i64 i] h fun v h'=>v = .tuple #[.int .i32 (readF s i).1,.int .i64 (readF s i).2]∧Grows h h':=by
 refine enter (rep:=rep) (m:=6) (ex:=[6,7,15,28]) (cu:=[]) tO Tryz.func60 rfl (by decide) (rs:=[.tmp 4,.tmp 5]) rfl rfl [.val (.string s),.val (.int .i64 i)] rfl ?_
 by_cases hi:i<0∨s.size≤i
 ·have e:readF s i=(0,0):=by unfold readF;rw [if_pos hi]
  rw [e]
  ((repeat' ((conv=>whnf);(first|(refine Br.mk ?_ ?_<;>intro hb<;>(try (exfalso;omega)))|fail)));all_goals (try (conv=>whnf)))
  all_goals exact⟨fun h' hs=>⟨rfl,hs.grows⟩⟩
 ·have hd:Lib.decodeGo (s.extract i.toNat s.size)=Utf8.decode s i.toNat:=decode_ext s _ (by omega)
  have e:readF s i=if (Utf8.decode s i.toNat).1=65533∧(Utf8.decode s i.toNat).2<2 then ((0:Int),(0:Int)) else (((Utf8.decode s i.toNat).1:Int),((Utf8.decode s i.toNat).2:Int)):=by unfold readF;rw [if_neg hi]
  rw [e]
  obtain⟨⟨r,n⟩,hrn⟩:∃ x,Utf8.decode s i.toNat=x:=⟨_,rfl⟩
  rw [hrn] at hd ⊢
  have hD:∀ h1,TabsH h1→CH Tryz.prog 110 #[.string (s.extract i.toNat (s.size:Int).toNat)] h1 fun v h'=>v = .tuple #[.int .i32 (r:Int),.int .i64 (n:Int)]∧Grows h1 h':=fun h1 ht1=>by
   have:=decode_any (s.extract i.toNat s.size) h1 ht1
   rw [hd] at this
   exact this
  dsimp only
  ((repeat' ((conv=>whnf);(first|(refine VC.mk (by omega) ?_)|(refine Br.mk ?_ ?_<;>intro hb<;>(try (exfalso;omega)))|(apply CK.pure;(case hh=>(intro h1 hs;exact hD h1 (ht.at hs))))|fail)));all_goals (try (conv=>whnf)))
  all_goals first
   |exact⟨fun h' hs=>⟨by rw [if_pos (by omega)];rfl,hs.grows⟩⟩
   |exact⟨fun h' hs=>⟨by rw [if_neg (by omega)];rfl,hs.grows⟩⟩
end Go.Ex
