/-
  Top: TopComments: whatever the input, the law answers true (part 15)
-/
import Derived.Lib.DecodeN
import Derived.Test.YtpjdgifhhnjclaaGreatDoorM09
set_option linter.unusedVariables false
set_option linter.unusedSimpArgs false
set_option maxHeartbeats 4000000
set_option maxRecDepth 10000
namespace Go.Ex
open Go.Proofs
attribute [local irreducible] CH
def kN:List EJ:=[⟨65,90⟩,⟨95,95⟩,⟨97,122⟩,⟨170,170⟩,⟨181,181⟩,⟨186,186⟩,⟨192,214⟩,⟨216,246⟩,⟨248,705⟩,⟨880,883⟩,⟨886,887⟩,⟨891,893⟩,⟨902,902⟩,⟨904,906⟩,⟨908,908⟩,⟨910,929⟩,⟨931,1013⟩,⟨1024,1153⟩,⟨1162,1327⟩,⟨1329,1366⟩,⟨1377,1415⟩,⟨1488,1514⟩,⟨1568,1610⟩,⟨2308,2361⟩,⟨3585,3632⟩,⟨4256,4293⟩,⟨7680,7957⟩,⟨12353,12438⟩,⟨12449,12538⟩,⟨19968,40959⟩,⟨44032,55203⟩,⟨66560,66639⟩,⟨131072,173791⟩]
def wR(r:Int):Nat→Int→Int→Bool
 |0,_,_=>false
 |f+1,lo,hi=>if lo<hi then (if r<(B1 oQ.dflt kN ((lo+hi) / 2)).frm then wR r f lo ((lo+hi) / 2) else if (B1 oQ.dflt kN ((lo+hi) / 2)).to<r then wR r f ((lo+hi) / 2+1) hi else true) else false
def E7(r:Int):Bool:=wR r 33 0 33
theorem Dd(h:A3):CH Tryz.prog 117 #[] h fun v h'=>v = .agg ⟨kN.flatMap oQ.cells⟩∧A5 h h':=by
 refine Q0 1 [] [] [] Tryz.func117 rfl ?_
 ((repeat' (conv=>whnf);first|(refine VC.mk (by (first|omega|rfl|(and_intros<;>first|omega|rfl|(simp only [maxLen];omega)))) ?_)|(refine E5.mk ?_;intro b hb)|fail);all_goals try conv=>whnf)
 all_goals exact⟨fun h' hs=>⟨rfl,hs.grows⟩⟩
theorem Uh(r:Int)(h:A3):CH Tryz.prog 65 #[.int .i32 r] h fun v h'=>v = .bool (E7 r)∧A5 h h':=by
 refine Q0 1 [2,3,4,5,6,10,15,23] [] [.val (.int .i32 r)] Tryz.func65 rfl ?_
 ((repeat' (conv=>whnf);first|(refine VC.mk (by (first|omega|(and_intros<;>first|omega|rfl|(simp only [maxLen];omega)))) ?_)|(refine E5.mk ?_;intro b hb)|(refine A7 ?_ fun h1 hs=>Dd h1)|fail);all_goals try conv=>whnf)
 refine N1 tO [4,5] (fun x:Int×Int=>[(4,.val (.int .i64 x.1)),(5,.val (.int .i64 x.2))]) (fun _=>[(3,b,.arr 151 oQ kN 33)]) (fun μ x=>0≤x.1∧x.1≤x.2∧x.2≤33∧x.2-x.1≤μ∧wR r μ x.1 x.2=E7 r) 33 (0,33) ?_
 conv=>whnf
 refine⟨by ((repeat (refine⟨rfl,?_⟩));trivial),⟨rfl,rfl,trivial⟩,⟨by decide,by decide,by decide,by decide,rfl⟩,?_⟩
 rintro μ ⟨lo,hi⟩ ⟨a0,a1,a2,a3,a4⟩
 dsimp only at a0 a1 a2 a3 a4 ⊢
 have hlen:kN.length=33:=rfl
 by_cases hlt:lo<hi
 ·obtain⟨f,rfl⟩:∃ f,μ=f+1:=⟨μ-1,by omega⟩
  simp only [wR] at a4
  rw [if_pos hlt] at a4
  by_cases h1:r<(B1 oQ.dflt kN ((lo+hi) / 2)).frm
  ·rw [if_pos h1] at a4
   ((repeat' (conv=>whnf);first|(refine Ar.fit (by omega) ?_)|(refine VC.mk (by (first|omega|(and_intros<;>first|omega|rfl))) ?_)|(refine Br.mk ?_ ?_<;>intro hb<;>(try omega))|fail);all_goals try conv=>whnf)
   all_goals exact⟨f,(lo,(lo+hi) / 2),⟨by omega,by dsimp only;omega,by dsimp only;omega,by dsimp only;omega,a4⟩,by omega,by ((repeat (refine⟨rfl,?_⟩));trivial),rfl,rfl,⟨rfl,rfl,trivial⟩⟩
  ·rw [if_neg h1] at a4
   by_cases h2:(B1 oQ.dflt kN ((lo+hi) / 2)).to<r
   ·rw [if_pos h2] at a4
    ((repeat' (conv=>whnf);first|(refine Ar.fit (by omega) ?_)|(refine VC.mk (by (first|omega|(and_intros<;>first|omega|rfl))) ?_)|(refine Br.mk ?_ ?_<;>intro hb<;>(try omega))|fail);all_goals try conv=>whnf)
    all_goals exact⟨f,((lo+hi) / 2+1,hi),⟨by dsimp only;omega,by dsimp only;omega,by dsimp only;omega,by dsimp only;omega,a4⟩,by omega,by ((repeat (refine⟨rfl,?_⟩));trivial),rfl,rfl,⟨rfl,rfl,trivial⟩⟩
   ·rw [if_neg h2] at a4
    ((repeat' (conv=>whnf);first|(refine Ar.fit (by omega) ?_)|(refine VC.mk (by (first|omega|(and_intros<;>first|omega|rfl))) ?_)|(refine Br.mk ?_ ?_<;>intro hb<;>(try omega))|fail);all_goals try conv=>whnf)
    all_goals exact⟨fun h' hs=>⟨by rw [←a4];rfl,hs.grows⟩⟩
 ·have e:E7 r=false:=by
   rw [←a4]
   cases μ with
   |zero=>rfl
   |succ f=>simp only [wR];rw [if_neg hlt]
  rw [e]
  ((repeat' (conv=>whnf);first|(refine Br.mk ?_ ?_<;>intro hb<;>(try omega))|fail);all_goals try conv=>whnf)
  all_goals exact⟨fun h' hs=>⟨rfl,hs.grows⟩⟩
end Go.Ex
namespace Go.Ex
open Go.Proofs
attribute [local irreducible] CH A4 J2 H7 cA G2
abbrev sM:ByteArray:=⟨#[]⟩
theorem Sb{s:ByteArray}(h:¬ s=sM):0<s.size:=by
 rcases Nat.eq_zero_or_pos s.size with h0|h0
 ·exact absurd (ByteArray.ext (Array.eq_empty_of_size_eq_zero h0)) h
 ·exact h0
theorem X8(s:ByteArray)(a b:Nat):(s.extract a b).size≤s.size:=by simp only [ByteArray.size_extract];omega
theorem jX(s p:ByteArray):(G2 s p).size≤s.size:=by
 unfold G2
 split
 ·simp only [ByteArray.size_extract];omega
 ·exact Nat.le_refl _
abbrev M9:ByteArray:=⟨#[95]⟩
def R3(s:ByteArray)(base:Int):Int:=if ¬ G2 s M9=sM∧J2 (G2 s M9) base=(G2 s M9).size then 3 else 0
def kG(s:ByteArray):Int:=if 1<s.size∧(A4 s 1=43∨A4 s 1=45) then 1+1 else 1
def cD(s letters:ByteArray):Int:=if s=sM then 0 else if H7 letters (A4 s 0)<0 then 0 else if 0<J2 (sub s (kG s) s.size) 10 then kG s+J2 (sub s (kG s) s.size) 10 else 0
theorem Pl(s:ByteArray)(base:Int)(h:A3)(hs:s.size≤140737488355328):CH Tryz.prog 125 #[.string s,.int .i64 base] h fun v h'=>v = .int .u8 (R3 s base)∧A5 h h':=by
 refine Q0 5 [16] [] [.val (.string s),.val (.int .i64 base)] Tryz.func125 rfl ?_
 have hz:=jX s M9
 ((repeat' (conv=>whnf);first|(refine Br.mk ?_ ?_<;>intro hb)|(refine A7 ?_ fun h1 hs=>vM _ _ h1)|(refine A7 ?_ fun h1 hs=>qI _ _ h1 (by exact Nat.le_trans (jX _ _) (by omega)))|fail);all_goals try conv=>whnf)
 all_goals exact⟨fun h' hs=>⟨P9 (by simp only [R3];(repeat' split)<;>first|rfl|(exfalso;simp_all;done)|omega),hs.grows⟩⟩
theorem Vn(s letters:ByteArray)(h:A3)(hs:s.size≤140737488355328):CH Tryz.prog 163 #[.string s,.string letters] h fun v h'=>v = .int .i64 (cD s letters)∧A5 h h':=by
 refine Q0 7 [15,31,39] [] [.val (.string s),.val (.string letters)] Tryz.func163 rfl ?_
 by_cases he:s=sM
 ·subst he
  ((repeat' (conv=>whnf);first|(refine Br.mk ?_ ?_<;>intro hb<;>(try (exact absurd rfl hb)))|fail);all_goals try conv=>whnf)
  all_goals exact⟨fun h' hs=>⟨P9 rfl,hs.grows⟩⟩
 have hp:=Sb he
 by_cases hl:H7 letters (A4 s 0)<0
 ·((repeat' (conv=>whnf);first|(refine VC.mk (by omega) ?_)|(refine Br.mk ?_ ?_<;>intro hb<;>(try (first|omega|contradiction)))|(refine A7 ?_ fun h1 hs=>aZ _ _ h1)|fail);all_goals try conv=>whnf)
  all_goals exact⟨fun h' hs=>⟨P9 (by rw [cD,if_neg he,if_pos hl]),hs.grows⟩⟩
 ·have e:cD s letters=if 0<J2 (sub s (kG s) s.size) 10 then kG s+J2 (sub s (kG s) s.size) 10 else 0:=by rw [cD,if_neg he,if_neg hl]
  rw [e]
  have r1:=lT (sub s 1 s.size) 10
  have r2:=lT (sub s (1+1) s.size) 10
  by_cases hn:1<s.size∧(A4 s 1=43∨A4 s 1=45)
  ·have en:kG s=1+1:=by rw [kG,if_pos hn]
   rw [en]
   have z2:=K1 s (1+1) s.size (by omega) (by omega) (by omega)
   dsimp only [sub] at *
   ((repeat' (conv=>whnf);first|(refine Ar.fit (by omega) ?_)|(refine VC.mk (by omega) ?_)|(refine Br.mk ?_ ?_<;>intro hb<;>(try (first|omega|contradiction)))|(refine A7 ?_ fun h1 hs=>aZ _ _ h1)|(refine A7 ?_ fun h1 hs=>qI _ _ h1 (by omega))|fail);all_goals try conv=>whnf)
   all_goals exact⟨fun h' hs=>⟨P9 (by split<;>first|rfl|omega),hs.grows⟩⟩
  ·have en:kG s=1:=by rw [kG,if_neg hn]
   rw [en]
   have z1:=K1 s 1 s.size (by omega) (by omega) (by omega)
   dsimp only [sub] at *
   ((repeat' (conv=>whnf);first|(refine Ar.fit (by omega) ?_)|(refine VC.mk (by omega) ?_)|(refine Br.mk ?_ ?_<;>intro hb<;>(try (first|omega|contradiction)))|(refine A7 ?_ fun h1 hs=>aZ _ _ h1)|(refine A7 ?_ fun h1 hs=>qI _ _ h1 (by omega))|fail);all_goals try conv=>whnf)
   all_goals exact⟨fun h' hs=>⟨P9 (by split<;>first|rfl|omega),hs.grows⟩⟩
theorem bR{s:ByteArray}{base r:Int}(hr:J2 s base=r)(h:A3)(hs:s.size≤140737488355328):CH Tryz.prog 77 #[.string s,.int .i64 base] h fun v h'=>v = .int .i64 r∧A5 h h':=by subst hr;exact qI s base h hs
theorem nP{s l:ByteArray}{r:Int}(hr:cD s l=r)(h:A3)(hs:s.size≤140737488355328):CH Tryz.prog 163 #[.string s,.string l] h fun v h'=>v = .int .i64 r∧A5 h h':=by subst hr;exact Vn s l h hs
theorem Z1{s:ByteArray}{base r:Int}(hr:R3 s base=r)(h:A3)(hs:s.size≤140737488355328):CH Tryz.prog 125 #[.string s,.int .i64 base] h fun v h'=>v = .int .u8 r∧A5 h h':=by subst hr;exact Pl s base h hs
theorem qH{s:ByteArray}{base r:Int}(hr:J2 s base=r):0≤r∧r≤s.size:=by subst hr;exact lT s base
theorem Ls(s l:ByteArray):0≤cD s l∧cD s l≤s.size:=by
 unfold cD
 split
 ·omega
 ·rename_i he
  have hp:=Sb he
  split
  ·omega
  ·have hpn:1≤kG s∧kG s≤s.size:=by unfold kG;split<;>omega
   have r:=lT (sub s (kG s) s.size) 10
   have z:=K1 s (kG s) s.size (by omega) hpn.2 (by omega)
   split<;>omega
theorem qK{s l:ByteArray}{r:Int}(hr:cD s l=r):0≤r∧r≤s.size:=by subst hr;exact Ls s l
end Go.Ex
namespace Go.Ex
open Go.Proofs
attribute [local irreducible] CH A4 J2 H7 cA G2 cD R3
def jP(c:Int):Int:=if c=40 then 41 else if c=91 then 93 else if c=123 then 125 else 0
theorem Jc(c:Int)(h:A3):CH Tryz.prog 41 #[.int .u8 c] h fun v h'=>v = .int .u8 (jP c)∧A5 h h':=by
 refine Q0 9 [] [] [.val (.int .u8 c)] Tryz.func41 rfl ?_
 simp only [jP]
 ((repeat' (conv=>whnf);first|(refine Br.mk ?_ ?_<;>intro hb)|fail);all_goals try conv=>whnf)
 all_goals exact⟨fun h' hs=>⟨P9 (by (repeat' split)<;>first|rfl|omega),hs.grows⟩⟩
def O3(r:Int):Prop:=r=32∨r=9∨r=10∨r=13
instance (r:Int):Decidable (O3 r):=by unfold O3;exact inferInstance
theorem xL(r:Int)(h:A3):CH Tryz.prog 61 #[.int .i32 r] h fun v h'=>v=A0 (.prop (O3 r))∧A5 h h':=by
 refine Q0 3 [] [] [.val (.int .i32 r)] Tryz.func61 rfl ?_
 ((repeat' (conv=>whnf);first|(refine Br.mk ?_ ?_<;>intro hb)|fail);all_goals try conv=>whnf)
 all_goals first
  |exact⟨fun h' hs=>⟨C0 (by simp only [O3];omega),hs.grows⟩⟩
  |exact⟨fun h' hs=>⟨B8 (by simp only [O3];omega),hs.grows⟩⟩
  |exact⟨fun h' hs=>⟨C3 (by simp only [O3];omega),hs.grows⟩⟩
def aT(r:Int):Int:=if 48≤r∧r≤57 then r-48 else if 97≤r∧r≤102 then r-97+10 else if 65≤r∧r≤70 then r-65+10 else -1
theorem Ue(r:Int)(h:A3)(hr:0≤r∧r<1114112):CH Tryz.prog 215 #[.int .i32 r] h fun v h'=>v = .int .i64 (aT r)∧A5 h h':=by
 refine Q0 3 [3,13,24] [] [.val (.int .i32 r)] Tryz.func215 rfl ?_
 obtain⟨n0,n1⟩:=hr
 simp only [aT]
 ((repeat' (conv=>whnf);first|(refine Ar.fit (by omega) ?_)|(refine Br.mk ?_ ?_<;>intro hb<;>(try omega))|fail);all_goals try conv=>whnf)
 all_goals exact⟨fun h' hs=>⟨P9 (by (repeat' split)<;>first|omega|omega),hs.grows⟩⟩
def Nj:List ByteArray:=[⟨#[98,114,101,97,107]⟩,⟨#[99,97,115,101]⟩,⟨#[99,104,97,110]⟩,⟨#[99,111,110,115,116]⟩,⟨#[99,111,110,116,105,110,117,101]⟩,⟨#[100,101,102,97,117,108,116]⟩,⟨#[100,101,102,101,114]⟩,⟨#[101,108,115,101]⟩,⟨#[102,97,108,108,116,104,114,111,117,103,104]⟩,⟨#[102,111,114]⟩,⟨#[102,117,110,99]⟩,⟨#[103,111]⟩,⟨#[103,111,116,111]⟩,⟨#[105,102]⟩,⟨#[105,109,112,111,114,116]⟩,⟨#[105,110,116,101,114,102,97,99,101]⟩,⟨#[109,97,112]⟩,⟨#[112,97,99,107,97,103,101]⟩,⟨#[114,97,110,103,101]⟩,⟨#[114,101,116,117,114,110]⟩,⟨#[115,101,108,101,99,116]⟩,⟨#[115,116,114,117,99,116]⟩,⟨#[115,119,105,116,99,104]⟩,⟨#[116,121,112,101]⟩,⟨#[118,97,114]⟩]
def dC(s:ByteArray):Prop:=s∈Nj
instance (s:ByteArray):Decidable (dC s):=decidable_of_iff (Nj.any (fun w=>decide (s=w))=true) (by simp [dC])
theorem oG(s:ByteArray)(h:A3):CH Tryz.prog 72 #[.string s] h fun v h'=>v=A0 (.prop (dC s))∧A5 h h':=by
 refine Q0 5 [] [] [.val (.string s)] Tryz.func72 rfl ?_
 by_cases hw:dC s
 ·have hw0:=hw
  simp only [dC,Nj,List.mem_cons,List.not_mem_nil,or_false] at hw
  rcases hw with rfl|rfl|rfl|rfl|rfl|rfl|rfl|rfl|rfl|rfl|rfl|rfl|rfl|rfl|rfl|rfl|rfl|rfl|rfl|rfl|rfl|rfl|rfl|rfl|rfl
  all_goals
   ((repeat' (conv=>whnf);first|(refine Br.mk ?_ ?_<;>intro hb<;>(try (first|exact absurd rfl hb|contradiction)))|fail);all_goals try conv=>whnf)
   all_goals exact⟨fun h' hs=>⟨B8 hw0,hs.grows⟩⟩
 ·have hw':=hw
  simp only [dC,Nj,List.mem_cons,List.not_mem_nil,or_false,not_or] at hw'
  obtain⟨w0,w1,w2,w3,w4,w5,w6,w7,w8,w9,w10,w11,w12,w13,w14,w15,w16,w17,w18,w19,w20,w21,w22,w23,w24⟩:=hw'
  ((repeat' (conv=>whnf);first|(refine Br.mk ?_ ?_<;>intro hb<;>(try (contradiction)))|fail);all_goals try conv=>whnf)
  all_goals exact⟨fun h' hs=>⟨C0 hw,hs.grows⟩⟩
end Go.Ex
namespace Go.Ex
open Go.Proofs
attribute [local irreducible] CH
structure QS where
 at_:Int
 bad:Bool
 o:Option (Nat×Nat)
 out:List Int
def uR(x:QS):KV:=match x.o with
 |none=>.val (.slice none 0 0)
 |some (b,c)=>.osl 21 b x.out.length c
def Ih(x:QS):L8:=match x.o with
 |none=>[]
 |some (b,c)=>[(21,b,.arr 5 (E9 .u8) x.out c)]
abbrev qB(s:ByteArray)(mk a:Int)(V:KV)(bad:Bool):D8:=.box 161 [.val (.string s),.val (.int .i64 a),.val (.int .u8 mk),V,.val (.bool bad)]
def qC(bq:Nat)(s:ByteArray)(mk:Int)(x:QS):L8:=(20,bq,qB s mk x.at_ (uR x) x.bad)::Ih x
def M5(s:ByteArray)(base:Int):Nat→Int→Int→Int×Int×Bool
 |0,a,n=>(n,a,false)
 |c+1,a,n=>if a<s.size∧0≤aT (A4 s a)∧aT (A4 s a)<base then M5 s base c (a+1) (n*base+aT (A4 s a)) else (0,a,true)
theorem Ic:∀ (i:Nat),i≤7→0<(16:Int) ^ i∧(16:Int) ^ i≤268435456:=fun i h=>by
 have:i=0∨i=1∨i=2∨i=3∨i=4∨i=5∨i=6∨i=7:=by omega
 rcases this with rfl|rfl|rfl|rfl|rfl|rfl|rfl|rfl<;>decide
theorem oJ(r:Int):aT r = -1∨0≤aT r∧aT r<16:=by
 unfold aT
 split
 ·omega
 ·split
  ·omega
  ·split<;>omega
theorem Ec(bq:Nat)(s:ByteArray)(mk a base:Int)(cnt:Nat)(V:Value)(bad:Bool)(h:A3)(hs:HS ⟨h,[bq],[(20,bq,qB s mk a (.val V) bad)]⟩ h)(hb:base=16∨base=8)(hc:cnt≤8)(ha:0≤a∧a≤s.size)(hz:s.size≤1048576) :
 CH Tryz.prog 185 #[.pointer (some ⟨bq,0,none⟩),.int .i64 cnt,.int .i64 base] h fun v h'=>v = .int .i64 (M5 s base cnt a 0).1∧HS ⟨h,[bq],[(20,bq,qB s mk (M5 s base cnt a 0).2.1 (.val V) (bad || (M5 s base cnt a 0).2.2))]⟩ h':=by
 obtain⟨R,hR⟩:∃ R,M5 s base cnt a 0=R:=⟨_,rfl⟩
 rw [hR]
 refine hX 1 [0,1,2,6,7,8,9,10,11,21,39] [] [.own 20 bq 0,.val (.int .i64 cnt),.val (.int .i64 base)] Tryz.func185 rfl hs ?_
 rcases hb with rfl|rfl
 ·(try (conv=>whnf))
  refine N1 tO [7,10] (fun x:Int×Int×Int=>[(7,.val (.int .i64 x.2.1)),(10,.val (.int .i64 x.2.2))]) (fun x=>[(20,bq,qB s mk x.1 (.val V) bad)]) (fun μ x=>M5 s 16 μ x.1 x.2.1=R∧(x.2.2+μ=cnt∧0≤x.2.2)∧(0≤x.1∧x.1≤s.size)∧0≤x.2.1∧x.2.1<(16:Int) ^ (cnt - μ)) cnt (a,0,0) ?_
  conv=>whnf
  refine⟨by ((repeat (refine⟨rfl,?_⟩));trivial),⟨rfl,rfl,trivial⟩,⟨hR,⟨by simp,Int.le_refl _⟩,ha,Int.le_refl _,by simp⟩,?_⟩
  rintro μ ⟨a',n',i⟩ ⟨t1,⟨t2,t6⟩,t3,t4,t5⟩
  dsimp only at t1 t2 t3 t4 t5 t6 ⊢
  have hq:=L0 s a'
  have hw:=oJ (A4 s a')
  rcases μ with _|μ
  ·have hi:i=cnt:=by omega
   subst hi
   clear hq hw hR
   simp only [M5] at t1
   subst t1
   ((repeat' (conv=>whnf);first|(refine Br.mk ?_ ?_<;>intro hb<;>(try omega))|fail);all_goals try conv=>whnf)
   all_goals exact⟨fun h' hs=>⟨rfl,by simpa using hs⟩⟩
  ·have hi:i<cnt:=by omega
   obtain⟨p0,p1⟩:=Ic (cnt-(μ+1)) (by omega)
   have hp:(16:Int) ^ (cnt - μ)=16*16 ^ (cnt-(μ+1)):=by rw [show cnt - μ=cnt-(μ+1)+1 by omega,Int.pow_succ,Int.mul_comm]
   generalize (16:Int) ^ (cnt-(μ+1))=p at t5 p0 p1 hp
   simp only [M5] at t1
   have hbi:=fun h1=>Ue (A4 s a') h1 (by omega)
   generalize hv:aT (A4 s a')=v at t1 hw hbi
   ((repeat' (conv=>whnf);first|(refine Ar.fit (by omega) ?_)|(refine VC.mk (by omega) ?_)|(refine Br.mk ?_ ?_<;>intro hb<;>(try omega))|(refine drawn tO mixed (by kernel_rfl) ?_)|(apply V9.pure;case hh=>intro h1 hs;exact hbi h1)|fail);all_goals try conv=>whnf)
   all_goals first
    |(rw [if_pos ⟨by omega,by omega,by omega⟩] at t1;refine⟨μ,(a'+1,n'*16+v,i+1),⟨t1,⟨by dsimp only;omega,by dsimp only;omega⟩,⟨by dsimp only;omega,by dsimp only;omega⟩,by dsimp only;omega,by dsimp only;rw [hp];omega⟩,by omega,by ((repeat (refine⟨rfl,?_⟩));trivial),rfl,rfl,⟨rfl,rfl,trivial⟩⟩)
    |(rw [if_neg (fun e=>by omega)] at t1;subst t1;exact⟨fun h' hs=>⟨rfl,by simpa using hs⟩⟩)
    |skip
 ·(try (conv=>whnf))
  refine N1 tO [7,10] (fun x:Int×Int×Int=>[(7,.val (.int .i64 x.2.1)),(10,.val (.int .i64 x.2.2))]) (fun x=>[(20,bq,qB s mk x.1 (.val V) bad)]) (fun μ x=>M5 s 8 μ x.1 x.2.1=R∧(x.2.2+μ=cnt∧0≤x.2.2)∧(0≤x.1∧x.1≤s.size)∧0≤x.2.1∧x.2.1<(16:Int) ^ (cnt - μ)) cnt (a,0,0) ?_
  conv=>whnf
  refine⟨by ((repeat (refine⟨rfl,?_⟩));trivial),⟨rfl,rfl,trivial⟩,⟨hR,⟨by simp,Int.le_refl _⟩,ha,Int.le_refl _,by simp⟩,?_⟩
  rintro μ ⟨a',n',i⟩ ⟨t1,⟨t2,t6⟩,t3,t4,t5⟩
  dsimp only at t1 t2 t3 t4 t5 t6 ⊢
  have hq:=L0 s a'
  have hw:=oJ (A4 s a')
  rcases μ with _|μ
  ·have hi:i=cnt:=by omega
   subst hi
   clear hq hw hR
   simp only [M5] at t1
   subst t1
   ((repeat' (conv=>whnf);first|(refine Br.mk ?_ ?_<;>intro hb<;>(try omega))|fail);all_goals try conv=>whnf)
   all_goals exact⟨fun h' hs=>⟨rfl,by simpa using hs⟩⟩
  ·have hi:i<cnt:=by omega
   obtain⟨p0,p1⟩:=Ic (cnt-(μ+1)) (by omega)
   have hp:(16:Int) ^ (cnt - μ)=16*16 ^ (cnt-(μ+1)):=by rw [show cnt - μ=cnt-(μ+1)+1 by omega,Int.pow_succ,Int.mul_comm]
   generalize (16:Int) ^ (cnt-(μ+1))=p at t5 p0 p1 hp
   simp only [M5] at t1
   have hbi:=fun h1=>Ue (A4 s a') h1 (by omega)
   generalize hv:aT (A4 s a')=v at t1 hw hbi
   ((repeat' (conv=>whnf);first|(refine Ar.fit (by omega) ?_)|(refine VC.mk (by omega) ?_)|(refine Br.mk ?_ ?_<;>intro hb<;>(try omega))|(refine drawn tO mixed (by kernel_rfl) ?_)|(apply V9.pure;case hh=>intro h1 hs;exact hbi h1)|fail);all_goals try conv=>whnf)
   all_goals first
    |(rw [if_pos ⟨by omega,by omega,by omega⟩] at t1;refine⟨μ,(a'+1,n'*8+v,i+1),⟨t1,⟨by dsimp only;omega,by dsimp only;omega⟩,⟨by dsimp only;omega,by dsimp only;omega⟩,by dsimp only;omega,by dsimp only;rw [hp];omega⟩,by omega,by ((repeat (refine⟨rfl,?_⟩));trivial),rfl,rfl,⟨rfl,rfl,trivial⟩⟩)
    |(rw [if_neg (fun e=>by omega)] at t1;subst t1;exact⟨fun h' hs=>⟨rfl,by simpa using hs⟩⟩)
    |skip
end Go.Ex
namespace Go.Ex
open Go.Proofs
theorem dR{P:Program}{f:Nat}{args:Array Value}{h:A3}{v:Value}(hr:iR P f)(hc:∀ w:World,w.heap=h→Calls P f args w fun e w'=>e = .returned v∧w'=w):CH P f args h fun u h'=>u=v∧A5 h h':=
 ⟨hr,fun w hw=>(hc w hw).mono fun e w' ⟨h1,h2⟩=>by subst h2;exact⟨⟨rfl,rfl,rfl⟩,v,h1,rfl,by rw [hw];exact A5.refl _⟩⟩
theorem gN{P:Program}{f:Nat}{args:Array Value}{h:A3}{v:Value}(hr:iR P f)(hc:∀ w:World,w.heap=h→Calls P f args w fun e w'=>e = .returned v∧Go.RowKit.Below w.heap.size w w'):CH P f args h fun u h'=>u=v∧A5 h h':=
 ⟨hr,fun w hw=>(hc w hw).mono fun e w' ⟨h1,h2⟩=>⟨⟨h2.os,h2.tape,h2.output⟩,v,h1,rfl,by subst hw;exact⟨h2.size,h2.block⟩⟩⟩
attribute [local irreducible] CH
structure D2(h:A3):Prop where
 len:∃ m,K5 h 0 0=some (.int .i64 m)
 first:∀ c,c<256→K5 h 1 c=some (.int .u8 (Lib.firstT c))
 acc:∀ i,i<16→K5 h 2 (2*i)=some (.int .u8 (Lib.accLo i))∧K5 h 2 (2*i+1)=some (.int .u8 (Lib.accHi i))
theorem Vt{h:A3}{b o:Nat}{v:Value}(e:K5 h b o=some v):b<h.size:=by
 unfold K5 at e
 split at e
 ·rename_i he;exact (Array.getElem?_eq_some_iff.1 he).1
 ·cases e
theorem dP{h h':A3}{b:Nat}(e:h'[b]?=h[b]?)(o:Nat):K5 h' b o=K5 h b o:=by unfold K5;rw [e]
theorem D2.size{h:A3}(ht:D2 h):3≤h.size:=Vt (ht.acc 0 (by omega)).1
theorem D2.congr{h h':A3}(ht:D2 h)(e:∀ b,b<3→h'[b]?=h[b]?):D2 h':=
 ⟨by obtain⟨m,hm⟩:=ht.len;exact⟨m,by rw [dP (e 0 (by omega))];exact hm⟩,
  fun c hc=>by rw [dP (e 1 (by omega))];exact ht.first c hc,
  fun i hi=>by rw [dP (e 2 (by omega)),dP (e 2 (by omega))];exact ht.acc i hi⟩
theorem D2.hs{S:St}{h:A3}(ht:D2 S.h0)(hc:∀ c∈S.cap,3≤c)(hs:HS S h):D2 h:=
 ht.congr fun b hb=>hs.frame b (Nat.lt_of_lt_of_le hb ht.size) fun hm=>by have:=hc b hm;omega
theorem D2.at{h0 h:A3}{ch:L8}(ht:D2 h0)(hs:HS ⟨h0,[],ch⟩ h):D2 h:=D2.hs (S:=⟨h0,[],ch⟩) ht (fun c hc=>by cases hc) hs
theorem D2.tabs{w:World}(ht:D2 w.heap):Lib.Utf8Tabs 1 2 w:=
 ⟨fun c hc=>by rw [S0];exact ht.first c hc,fun i hi=>by rw [S0,S0];exact ht.acc i hi⟩
theorem Pi(s:ByteArray)(h:A3)(ht:D2 h):CH Tryz.prog 110 #[.string s] h fun v h'=>v = .tuple #[.int .i32 (Lib.decodeGo s).1,.int .i64 (Lib.decodeGo s).2]∧A5 h h':=
 gN (Q9 Tryz.func110 (by decide) rfl) fun w hw=>Tryz.utf8_DecodeRuneInString s w (by subst hw;exact ht.tabs)
theorem Xo(s sub:ByteArray)(h:A3)(ht:D2 h)(hs:s.size<4294967281):CH Tryz.prog 44 #[.string s,.string sub] h fun v h'=>v = .int .i64 (Lib.index s.data.toList sub.data.toList)∧A5 h h':=
 dR (Q9 Tryz.func44 (by decide) rfl) fun w hw=>by
  obtain⟨m,hm⟩:=ht.len
  exact Tryz.strings_Index s sub m w hs (by rw [S0,hw];exact hm)
theorem uU(s:ByteArray)(c:UInt8)(h:A3):CH Tryz.prog 34 #[.string s,.string ⟨#[c]⟩] h fun v h'=>v = .bool (decide (0≤Lib.indexByte s.data.toList c))∧A5 h h':=
 dR (Q9 Tryz.func34 (by decide) rfl) fun w hw=>Tryz.strings_Contains_one s c w
theorem vK(r:Int)(h:A3):CH Tryz.prog 209 #[.int .i32 r] h fun v h'=>v = .bool (Lib.validRune r)∧A5 h h':=
 dR (Q9 Tryz.func209 (by decide) rfl) fun w hw=>Tryz.utf8_ValidRune r w
theorem Bc(s old new:ByteArray)(h:A3)(ht:D2 h)(hs:s.size<4294967281)(h1:1≤old.size)(hlen:s.size+Lib.countB s old*new.size≤140737488355328) :
 CH Tryz.prog 123 #[.string s,.string old,.string new] h fun v h'=>v = .string ⟨(Lib.replaceAll s.data.toList old.data.toList new.data.toList).toArray⟩∧A5 h h':=
 gN (Q9 Tryz.func123 (by decide) rfl) fun w hw=>by
  obtain⟨m,hm⟩:=ht.len
  exact Tryz.strings_ReplaceAll s old new m w hs (by rw [S0,hw];exact hm) h1 hlen
theorem kU(s:ByteArray)(p:Nat)(hp:p<s.size):Lib.decodeGo (s.extract p s.size)=Utf8.decode s p:=by
 have hsz:(s.extract p s.size).size=s.size-p:=by rw [ByteArray.size_extract];omega
 have hg:∀ j,(s.extract p s.size).get! j=s.get! (p+j):=fun j=>by
  simp only [ByteArray.get!,getElem!_def]
  have e:(s.extract p s.size).data[j]?=s.data[p+j]?:=by
   simp only [ByteArray.data_extract,Array.getElem?_extract]
   split
   ·rfl
   ·rename_i hh
    have:s.size=s.data.size:=rfl
    rw [Array.getElem?_eq_none]
    omega
  rw [e]
 unfold Lib.decodeGo
 rw [if_neg (by omega),Lib.decode_at,Lib.decode_at,hsz,hg,hg,hg,hg]
 rfl
def C9(s:ByteArray)(i:Int):Int×Int:=
 if i<0∨s.size≤i then (0,0) else if (Utf8.decode s i.toNat).1=65533∧(Utf8.decode s i.toNat).2<2 then (0,0) else ((Utf8.decode s i.toNat).1,(Utf8.decode s i.toNat).2)
theorem sB(s:ByteArray)(i:Int)(h:A3)(ht:D2 h)(hs0:s.size≤140737488355328):CH Tryz.prog 60 #[.string s,.int .i64 i] h fun v h'=>v = .tuple #[.int .i32 (C9 s i).1,.int .i64 (C9 s i).2]∧A5 h h':=by
 refine Q0 6 [6,7,15,28] [] [.val (.string s),.val (.int .i64 i)] Tryz.func60 rfl ?_
 by_cases hi:i<0∨s.size≤i
 ·have e:C9 s i=(0,0):=by unfold C9;rw [if_pos hi]
  rw [e]
  ((repeat' (conv=>whnf);first|(refine Br.mk ?_ ?_<;>intro hb<;>(try omega))|fail);all_goals try conv=>whnf)
  all_goals exact⟨fun h' hs=>⟨rfl,hs.grows⟩⟩
 ·have hd:Lib.decodeGo (s.extract i.toNat s.size)=Utf8.decode s i.toNat:=kU s _ (by omega)
  have e:C9 s i=if (Utf8.decode s i.toNat).1=65533∧(Utf8.decode s i.toNat).2<2 then ((0:Int),(0:Int)) else (((Utf8.decode s i.toNat).1:Int),((Utf8.decode s i.toNat).2:Int)):=by unfold C9;rw [if_neg hi]
  rw [e]
  obtain⟨⟨r,n⟩,hrn⟩:∃ x,Utf8.decode s i.toNat=x:=⟨_,rfl⟩
  rw [hrn] at hd ⊢
  have hD:∀ h1,D2 h1→CH Tryz.prog 110 #[.string (s.extract i.toNat (s.size:Int).toNat)] h1 fun v h'=>v = .tuple #[.int .i32 (r:Int),.int .i64 (n:Int)]∧A5 h1 h':=fun h1 ht1=>by
   have:=Pi (s.extract i.toNat s.size) h1 ht1
   rw [hd] at this
   exact this
  dsimp only
  ((repeat' (conv=>whnf);first|(refine VC.mk (by omega) ?_)|(refine Br.mk ?_ ?_<;>intro hb<;>(try omega))|(refine A7 ?_ fun h1 hs=>hD h1 (ht.at hs))|fail);all_goals try conv=>whnf)
  all_goals first
   |exact⟨fun h' hs=>⟨by rw [if_pos (by omega)];rfl,hs.grows⟩⟩
   |exact⟨fun h' hs=>⟨by rw [if_neg (by omega)];rfl,hs.grows⟩⟩
end Go.Ex
namespace Go.Ex
open Go.Proofs
attribute [local irreducible] CH
def tD(r:Int):ByteArray:=if Lib.validRune r=true then Utf8.encode r else ⟨#[]⟩
theorem pL(r:Int):1≤(Utf8.encode r).size∧(Utf8.encode r).size≤4:=by
 unfold Utf8.encode
 dsimp only
 generalize (if Utf8.valid r=true then r.toNat else Utf8.runeError)=c
 refine⟨?_,?_⟩
 all_goals
  split
  ·simp [ByteArray.size]
  ·split
   ·simp [ByteArray.size]
   ·split<;>simp [ByteArray.size]
theorem Ii(r:Int):(tD r).size≤4:=by
 unfold tD
 split
 ·exact (pL r).2
 ·exact Nat.zero_le _
theorem Du(r:Int):tD r=⟨#[]⟩↔Lib.validRune r=false:=by
 unfold tD
 split
 ·rename_i h
  rw [h]
  refine⟨fun e=>?_,fun e=>by cases e⟩
  have:=(pL r).1
  rw [e] at this
  exact absurd this (by show ¬ 1≤0;omega)
 ·rename_i h
  simp [h]
theorem Cu(r:Int)(h:A3):CH Tryz.prog 214 #[.int .i32 r] h fun v h'=>v = .string (tD r)∧A5 h h':=by
 refine Q0 1 [0,2,5] [] [.val (.int .i32 r)] Tryz.func214 rfl ?_
 unfold tD
 by_cases hv:Lib.validRune r=true
 ·rw [if_pos hv]
  ((repeat' (conv=>whnf);first|(refine Br.mk ?_ ?_<;>intro hb<;>(try (exact absurd rfl hb)))|(refine A7 ?_ fun h1 hs=>(vK r h1).mono (fun v h' ⟨e1,e2⟩=>⟨e1.trans (congrArg Value.bool hv),e2⟩))|fail);all_goals try conv=>whnf)
  all_goals exact⟨fun h' hs=>⟨rfl,hs.grows⟩⟩
 ·rw [if_neg hv]
  ((repeat' (conv=>whnf);first|(refine Br.mk ?_ ?_<;>intro hb<;>(try (contradiction)))|(refine A7 ?_ fun h1 hs=>(vK r h1).mono (fun v h' ⟨e1,e2⟩=>⟨e1.trans (congrArg Value.bool (Bool.not_eq_true _▸hv)),e2⟩))|fail);all_goals try conv=>whnf)
  all_goals exact⟨fun h' hs=>⟨rfl,hs.grows⟩⟩
def gL(mk n:Int)(ch:Bool):Bool:=!(!ch && decide (mk=34)) && (decide (1114111<n) || !Lib.validRune n)
theorem SC.arr8{τ:Type}{T:Nat}{R:Y7 τ}{xs ys:List τ}{c:Nat}(h:xs=ys):SC (.arr T R xs c) (.arr T R ys c):=by subst h;exact SC.rfl
def I6(bq:Nat)(s:ByteArray)(mk a:Int)(bad:Bool)(x:QS)(k:Nat)(h:A3)(v:Value)(h':A3):Prop:=
 ∃ x':QS,v = .tuple #[]∧x'.at_=a∧x'.bad=bad∧x'.out.length≤x.out.length+k∧(x'.o=none→x'.out=[])∧HS ⟨h,blks (qC bq s mk x),qC bq s mk x'⟩ h'
theorem I6.own{bq:Nat}{s:ByteArray}{mk a:Int}{B:Bool}{x:QS}{k:Nat}{h h':A3}{ch:L8}(hs:HS ⟨h,blks (qC bq s mk x),ch⟩ h')(kk:Nat){Bv:KV}{b c kz:Nat}{L:List Int}{n:Int}
 (h1:B3 ch 20=some (bq,.box 161 [.val (.string s),.val (.int .i64 a),.val (.int .u8 mk),.osl kz b n c,Bv])) (h2:B3 ch kk=some (b,.arr 5 (E9 .u8) L c)) (hk:Nat.beq 20 kk=false) (hn:n=L.length) (hB:A0 Bv = .bool B) (hl:L.length≤x.out.length+k) :
 I6 bq s mk a B x k h (.tuple #[]) h':=
 ⟨⟨a,B,some (b,c),L⟩,rfl,rfl,rfl,hl,fun e=>(by cases e),hs.ren [20,kk] (L:=qC bq s mk ⟨a,B,some (b,c),L⟩) ⟨⟨_,h1,SC.box (by subst hn;simp only [List.map_cons,List.map_nil,hB,uR];rfl)⟩,by simp [kL,hk],⟨_,h2,SC.rfl⟩,rfl,trivial⟩⟩
theorem I6.none{bq:Nat}{s:ByteArray}{mk a:Int}{B:Bool}{x:QS}{k:Nat}{h h':A3}{ch:L8}(hs:HS ⟨h,blks (qC bq s mk x),ch⟩ h'){V Bv:KV}
 (h1:B3 ch 20=some (bq,.box 161 [.val (.string s),.val (.int .i64 a),.val (.int .u8 mk),V,Bv])) (hV:A0 V = .slice none 0 0) (hB:A0 Bv = .bool B) :
 I6 bq s mk a B x k h (.tuple #[]) h':=
 ⟨⟨a,B,Option.none,[]⟩,rfl,rfl,rfl,Nat.zero_le _,fun _=>rfl,hs.ren [20] (L:=qC bq s mk ⟨a,B,Option.none,[]⟩) ⟨⟨_,h1,SC.box (by simp only [List.map_cons,List.map_nil,hB,hV,uR];rfl)⟩,rfl,trivial⟩⟩
theorem jA(bq:Nat)(s:ByteArray)(mk:Int)(x:QS)(n:Int)(ch:Bool)(h:A3)(hs:HS ⟨h,blks (qC bq s mk x),qC bq s mk x⟩ h)(hx:x.o=none→x.out=[])(hn:0≤n∧n≤4294967296)(hc:ch=false→n≤255)(ho:x.out.length≤8000000) :
 CH Tryz.prog 184 #[.pointer (some ⟨bq,0,none⟩),.int .i64 n,.bool ch] h (I6 bq s mk x.at_ (x.bad || gL mk n ch) x 4 h):=by
 obtain⟨a,bad,o,out⟩:=x
 have hfs:=Ii n
 have hf:=fun h1=>Cu n h1
 have hfe:=Du n
 obtain⟨B,hB⟩:∃ B,(bad || gL mk n ch)=B:=⟨_,rfl⟩
 dsimp only at hx ho ⊢
 rw [hB]
 unfold gL at hB
 generalize tD n=fn at hfs hf hfe
 generalize Lib.validRune n=vr at hfe hB
 rcases o with _|⟨b,c⟩
 ·have hx:=hx rfl
  subst hx
  refine hX 1 [0,1,2,14,33] [] [.own 20 bq 0,.val (.int .i64 n),.val (.bool ch)] Tryz.func184 rfl hs ?_
  cases ch
  ·have hc':=hc rfl
   ((repeat' (conv=>whnf);first|(refine C2 (id:=4) (.pl [0,1,2,3,5,6] (.bp 4 7 (.on [8] (.pl [9,10] (.on [11] .e))))) (by kernel_rfl) ?_)|(refine Ar.fit (by omega) ?_)|(refine VC.mk (by (first|omega|(and_intros<;>first|omega|rfl|(simp only [maxLen];omega)|(simp only [lL];omega)))) ?_)|(refine Br.mk ?_ ?_<;>intro hb<;>(try (first|omega|contradiction)))|(refine E5.mk ?_;intro b hb)|(refine aH.mk ?_;intro b c hb hbc)|(refine SR.same ?_)|(refine dD.mk ?_ ?_)|(refine A7 ?_ fun h1 hs=>hf h1)|fail);all_goals try conv=>whnf)
   all_goals first
    |(refine⟨fun h' hs=>I6.none hs rfl rfl ?_⟩;(first|rfl|(simp [A0,←hB, *];done)|(simp_all [A0];done)))
    |(refine⟨fun h' hs=>I6.own hs 23 rfl rfl rfl ?_ ?_ ?_⟩<;>first|rfl|(simp [H1];done)|(simp [H1];omega)|(simp [A0,←hB, *];done)|(simp_all [A0];done))
    |(refine⟨fun h' hs=>I6.own hs 45 rfl rfl rfl ?_ ?_ ?_⟩<;>first|rfl|(simp [H1];done)|(simp [H1];omega)|(simp [A0,←hB, *];done)|(simp_all [A0];done))
  ·clear hc
   ((repeat' (conv=>whnf);first|(refine C2 (id:=4) (.pl [0,1,2,3,5,6] (.bp 4 7 (.on [8] (.pl [9,10] (.on [11] .e))))) (by kernel_rfl) ?_)|(refine Ar.fit (by omega) ?_)|(refine VC.mk (by omega) ?_)|(refine Br.mk ?_ ?_<;>intro hb)|(refine aH.mk ?_;intro b c hb hbc)|(refine dD.mk ?_ ?_)|(refine A7 ?_ fun h1 hs=>hf h1)|fail);all_goals try conv=>whnf)
   all_goals first
    |(refine⟨fun h' hs=>I6.none hs rfl rfl ?_⟩;(first|rfl|(simp [A0,←hB, *];done)|(simp_all [A0];done)))
    |(refine⟨fun h' hs=>I6.own hs 23 rfl rfl rfl ?_ ?_ ?_⟩<;>first|rfl|(simp [H1];done)|(simp [H1];omega)|(simp [A0,←hB, *];done)|(simp_all [A0];done))
    |(refine⟨fun h' hs=>I6.own hs 45 rfl rfl rfl ?_ ?_ ?_⟩<;>first|rfl|(simp [H1];done)|(simp [H1];omega)|(simp [A0,←hB, *];done)|(simp_all [A0];done))
 ·have hcap:out.length≤c:=by
   obtain⟨_,_,_,h1,_⟩:=(hs.chunk (21,b,.arr 5 (E9 .u8) out c) (by simp [qC,Ih])).2.2
   exact h1
  refine hX 1 [0,1,2,14,33] [] [.own 20 bq 0,.val (.int .i64 n),.val (.bool ch)] Tryz.func184 rfl hs ?_
  cases ch
  ·have hc':=hc rfl
   ((repeat' (conv=>whnf);first|(refine C2 (id:=4) (.pl [0,1,2,3,5,6] (.bp 4 7 (.on [8] (.pl [9,10] (.on [11] .e))))) (by kernel_rfl) ?_)|(refine Ar.fit (by omega) ?_)|(refine VC.mk (by (first|omega|(and_intros<;>first|omega|rfl|(simp only [maxLen];omega)|(simp only [lL];omega)))) ?_)|(refine Br.mk ?_ ?_<;>intro hb<;>(try omega))|(refine E5.mk ?_;intro b hb)|(refine X0.mk ?_;intro b c hb hbc)|(refine SR.same ?_)|(refine dD.mk ?_ ?_)|(refine A7 ?_ fun h1 hs=>hf h1)|fail);all_goals try conv=>whnf)
   all_goals first
    |(refine⟨fun h' hs=>I6.own hs 21 rfl rfl rfl (by first|rfl|simp) ?_ (by simp)⟩;(first|rfl|(simp [A0,←hB, *];done)|(simp_all [A0];done)))
    |(refine⟨fun h' hs=>I6.own hs 23 rfl rfl rfl ?_ ?_ ?_⟩<;>first|rfl|(simp [H1];done)|(simp [H1];omega)|(simp [A0,←hB, *];done)|(simp_all [A0];done))
    |(refine⟨fun h' hs=>I6.own hs 45 rfl rfl rfl ?_ ?_ ?_⟩<;>first|rfl|(simp [H1];done)|(simp [H1];omega)|(simp [A0,←hB, *];done)|(simp_all [A0];done))
  ·clear hc
   ((repeat' (conv=>whnf);first|(refine C2 (id:=4) (.pl [0,1,2,3,5,6] (.bp 4 7 (.on [8] (.pl [9,10] (.on [11] .e))))) (by kernel_rfl) ?_)|(refine Ar.fit (by omega) ?_)|(refine VC.mk (by (first|omega|(and_intros<;>first|omega|(simp only [maxLen];omega)))) ?_)|(refine Br.mk ?_ ?_<;>intro hb)|(refine X0.mk ?_;intro b c hb hbc)|(refine SR.same ?_)|(refine dD.mk ?_ ?_)|(refine A7 ?_ fun h1 hs=>hf h1)|fail);all_goals try conv=>whnf)
   all_goals first
    |(refine⟨fun h' hs=>I6.own hs 21 rfl rfl rfl (by first|rfl|simp) ?_ (by simp)⟩;(first|rfl|(simp [A0,←hB, *];done)|(simp_all [A0];done)))
    |(refine⟨fun h' hs=>I6.own hs 23 rfl rfl rfl ?_ ?_ ?_⟩<;>first|rfl|(simp [H1];done)|(simp [H1];omega)|(simp [A0,←hB, *];done)|(simp_all [A0];done))
    |(refine⟨fun h' hs=>I6.own hs 45 rfl rfl rfl ?_ ?_ ?_⟩<;>first|rfl|(simp [H1];done)|(simp [H1];omega)|(simp [A0,←hB, *];done)|(simp_all [A0];done))
end Go.Ex
