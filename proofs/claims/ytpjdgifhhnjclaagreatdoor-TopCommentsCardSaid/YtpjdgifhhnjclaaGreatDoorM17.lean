/-
  Top: TopComments: whatever the input, the law answers true (part 17)
-/
import Derived.Lib.TrimU
import Derived.Test.YtpjdgifhhnjclaaGreatDoorM16
set_option linter.unusedVariables false
set_option linter.unusedSimpArgs false
set_option maxHeartbeats 4000000
set_option maxRecDepth 10000
namespace Go.Ex
open Go.Proofs
attribute [local irreducible] CH
abbrev aX:ByteArray:=⟨#[39,34,96]⟩
def J7(s:ByteArray)(a:Int):Int×Int×Int:=
 if a<0∨s.size≤a∨H7 aX (A4 s a)<0 then (0,0,15) else
 if A4 s a=96 then (if H7 (sub s (a+1) s.size) 96<0 then (0,0,4) else (7,a+H7 (sub s (a+1) s.size) 96+2,0)) else
 match bE s a with
 |none=>(0,0,4)
 |some e=>if A4 s a=34 then (7,e,0) else (6,e,0)
theorem vR(s old:ByteArray)(h:A3)(ht:D2 h)(hs:s.size≤1048576)(h1:1≤old.size):CH Tryz.prog 123 #[.string s,.string old,.string ⟨#[]⟩] h fun v h'=>v = .string ⟨(Lib.replaceAll s.data.toList old.data.toList []).toArray⟩∧A5 h h':=by
 have hz:(⟨#[]⟩:ByteArray).size=0:=rfl
 exact Bc s old ⟨#[]⟩ h ht (by omega) h1 (by rw [hz,Nat.mul_zero];omega)
section
variable {E:Value→A3→Prop}{S:St}{κ:KV→St→Prop}{bq:Nat}{s:ByteArray}
theorem CK.qread(k0:Nat)(hk0:Nat.beq k0 21=false){a:Int}{R:Option Int}(hR:bE s a=R)(ht:D2 S.h0)(hcap:S.cap=[])(hc:X1 S.ch [(k0,bq,qB s 0 a (.val (.slice none 0 0)) false)])(ha:0≤a∧a<s.size)(hz:s.size≤1048576)
 {args:List KV} (he:args.map A1=[.pointer (some ⟨bq,0,none⟩)])
 (hk:∀ x:QS,(∀ e,R=some e→x.at_=e)→(x.o=none→x.out=[])→κ (.val (.bool R.isSome)) ⟨S.h0,S.cap,(k0,bq,qB s (A4 s a) x.at_ (uR x) x.bad)::Ih x⟩):CK Tryz.prog E 124 args [] S κ:=by
 refine CK.mut [(k0,bq,qB s 0 a (.val (.slice none 0 0)) false)] [] (fun kv q'=>∃ x:QS,kv = .val (.bool R.isSome)∧q'=(k0,bq,qB s (A4 s a) x.at_ (uR x) x.bad)::Ih x∧(∀ e,R=some e→x.at_=e)∧(x.o=none→x.out=[])) (by rw [List.append_nil];exact hc) (fun h hS hs=>?_) ?_
 ·rw [show args.map A1++([]:List KV).map A0=args.map A1 by simp,he]
  have h3:3≤bq:=by
   have:=(hS.chunk _ (hc.mem _ List.mem_cons_self)).2.1
   have hz:=ht.size
   rw [hcap] at this
   rcases this with h1|h1
   ·exact Nat.le_trans hz h1
   ·cases h1
  have ht':D2 h:=ht.hs (fun c hc=>by rw [hcap] at hc;cases hc) hS
  have hs':HS ⟨h,[bq],[(20,bq,qB s 0 a (.val (.slice none 0 0)) false)]⟩ h:=hs.ren [k0] ⟨⟨_,by simp [B3],SC.rfl⟩,rfl,trivial⟩
  refine (Un bq s a h ht' h3 hs' ha hz).mono fun u h' ⟨x,a1,a2,a3,a4,a5⟩=>?_
  rw [hR] at a1 a2
  refine⟨.val (.bool R.isSome),_,a1.symm,?_,x,rfl,rfl,a2,a4⟩
  obtain⟨p,bad,o,out⟩:=x
  rcases o with _|⟨b,c⟩
  ·exact a5.ren [20] (B4 rfl rfl E8)
  ·exact a5.ren [20,21] (B4 rfl rfl (B4 rfl rfl E8))
 ·rintro kv q' ⟨x,rfl,rfl,h1,h2⟩
  rw [List.append_nil]
  exact hk x h1 h2
end
theorem Jq(s:ByteArray)(a:Int)(h:A3)(ht:D2 h)(hz:s.size≤1048576) :
 CH Tryz.prog 74 #[.string s,.int .i64 a] h fun v h'=>∃ t,v = .tuple #[.int .u8 (J7 s a).1,.int .i64 (J7 s a).2.1,.string t,.int .i64 (J7 s a).2.2]∧A5 h h':=by
 refine Q0 10 [0,1,4,5,6,7,8,9,24,28,35,55,60] [] [.val (.string s),.val (.int .i64 a)] Tryz.func74 rfl ?_
 obtain⟨R,hR⟩:∃ R,J7 s a=R:=⟨_,rfl⟩
 rw [hR]
 unfold J7 at hR
 have hib:=fun h1=>aZ aX (A4 s a) h1
 have hir:=eZ aX (A4 s a)
 generalize H7 aX (A4 s a)=ix at hib hir hR
 have hmj:((⟨#[39,34,96]⟩:ByteArray).size:Int)=3:=rfl
 have hib2:=fun h1=>aZ (sub s (a+1) s.size) 96 h1
 have hir2:=eZ (sub s (a+1) s.size) 96
 generalize H7 (sub s (a+1) s.size) 96=i2 at hib2 hir2 hR
 obtain⟨Q,hQ⟩:∃ Q,bE s a=Q:=⟨_,rfl⟩
 rw [hQ] at hR
 have hsz:a<0∨s.size≤a∨((sub s (a+1) s.size).size:Int)=s.size-(a+1):=by
  by_cases h1:a<0
  ·exact .inl h1
  ·by_cases h2:s.size≤a
   ·exact .inr (.inl h2)
   ·exact .inr (.inr (K1 s (a+1) s.size (by omega) (by omega) (by omega)))
 rcases Q with _|e<;>dsimp only at hR
 ·((repeat' (conv=>whnf);first|(refine Ar.fit (by omega) ?_)|(refine VC.mk (by omega) ?_)|(refine Br.mk ?_ ?_<;>intro hb)|(refine E5.mk ?_;intro b hb)|(refine A7 ?_ fun h1 hs=>hib h1)|(refine A7 ?_ fun h1 hs=>hib2 h1)|(refine A7 ?_ fun h1 hs=>vR _ _ h1 (ht.at hs) (Nat.le_trans (X8 _ _ _) hz) (by decide))|(refine CK.qread 52 rfl hQ ht rfl ⟨rfl,rfl,trivial⟩ (by omega) hz rfl ?_;rintro⟨p,bad,o,out⟩ g1 g2)|fail);all_goals try conv=>whnf)
  all_goals first
   | (first|rw [if_pos (.inl (by assumption))] at hR|rw [if_pos (.inr (.inl (by assumption)))] at hR|rw [if_pos (.inr (.inr (by assumption)))] at hR|(rw [if_neg (by omega)] at hR;repeat (first|rw [if_pos (by assumption)] at hR|rw [if_neg (by assumption)] at hR))
      subst hR
      exact⟨fun h' hs=>⟨_,rfl,hs.grows⟩⟩)
 ·((repeat' (conv=>whnf);first|(refine Ar.fit (by omega) ?_)|(refine VC.mk (by omega) ?_)|(refine Br.mk ?_ ?_<;>intro hb)|(refine E5.mk ?_;intro b hb)|(refine SR.same ?_)|(refine A7 ?_ fun h1 hs=>hib h1)|(refine A7 ?_ fun h1 hs=>hib2 h1)|(refine A7 ?_ fun h1 hs=>vR _ _ h1 (ht.at hs) (Nat.le_trans (X8 _ _ _) hz) (by decide))|(refine CK.qread 52 rfl hQ ht rfl ⟨rfl,rfl,trivial⟩ (by omega) hz rfl ?_;rintro⟨p,bad,o,out⟩ g1 g2;have g1:=g1 _ rfl;dsimp only at g1;subst g1;rcases o with _|⟨b,c⟩)|(refine drawn (tO) mixed (by kernel_rfl) ?_)|fail);all_goals try conv=>whnf)
  all_goals first
   | (first|rw [if_pos (.inl (by assumption))] at hR|rw [if_pos (.inr (.inl (by assumption)))] at hR|rw [if_pos (.inr (.inr (by assumption)))] at hR|(rw [if_neg (by omega)] at hR;repeat (first|rw [if_pos (by assumption)] at hR|rw [if_neg (by assumption)] at hR))
      subst hR
      exact⟨fun h' hs=>⟨_,rfl,hs.grows⟩⟩)
end Go.Ex
namespace Go.Ex
open Go.Proofs
theorem CK.sumy{P:Program}{E:Value→A3→Prop}{S:St}{f:Nat}{args caps:List KV}{κ:KV→St→Prop}(Post:KV→Prop)(hh:∀ h,HS S h→CH P f (args.map A1++caps.map A0).toArray h fun u h'=>(∃ kv,B0 kv=u∧Post kv)∧A5 h h')
 (hk:∀ kv,Post kv→κ kv S):CK P E f args caps S κ:=
 ⟨fun h hs=>.inl (by
  refine⟨(hh h hs).1,fun w hw=>((hh h hs).2 w hw).mono fun e w' ⟨he,u,h1,⟨kv,h2,h3⟩,h4⟩=>⟨he,u,h1,kv,S,h2,hs.later h4,hk kv h3⟩⟩)⟩
attribute [local irreducible] CH
theorem CK.beg{E:Value→A3→Prop}{S:St}{κ:KV→St→Prop}{s:ByteArray}{a:Int}(ht:D2 S.h0)(hcap:∀ c∈S.cap,3≤c)(hz:s.size≤1048576){args:List KV}(he:args.map A1=[.string s,.int .i64 a])
 (hk:∀ t,κ (.tup [.val (.int .u8 (J7 s a).1),.val (.int .i64 (J7 s a).2.1),.val (.string t),.val (.int .i64 (J7 s a).2.2)]) S):CK Tryz.prog E 74 args [] S κ:=by
 refine CK.sumy (fun kv=>∃ t,kv = .tup [.val (.int .u8 (J7 s a).1),.val (.int .i64 (J7 s a).2.1),.val (.string t),.val (.int .i64 (J7 s a).2.2)]) (fun h hs=>?_) ?_
 ·rw [show args.map A1++([]:List KV).map A0=args.map A1 by simp,he]
  exact (Jq s a h (ht.hs hcap hs) hz).mono fun u h' ⟨t,h1,h2⟩=>⟨⟨.tup [.val (.int .u8 (J7 s a).1),.val (.int .i64 (J7 s a).2.1),.val (.string t),.val (.int .i64 (J7 s a).2.2)],h1.symm,t,rfl⟩,h2⟩
 ·rintro kv ⟨t,rfl⟩
  exact hk t
theorem Sn(s:ByteArray)(a:Int)(h:A3)(ht:D2 h)(hz:s.size≤1048576) :
 CH Tryz.prog 68 #[.string s,.int .i64 a] h fun v h'=>v = .tuple #[.int .u8 (J7 s a).1,.int .i64 (J7 s a).2.1,.int .i64 (J7 s a).2.2]∧A5 h h':=by
 refine Q0 7 [0,1,4,5,6,7,8,10] [] [.val (.string s),.val (.int .i64 a)] Tryz.func68 rfl ?_
 ((repeat' (conv=>whnf);first|(refine CK.beg ht (fun c hc=>by cases hc) hz rfl ?_;intro t)|fail);all_goals try conv=>whnf)
 all_goals exact⟨fun h' hs=>⟨rfl,hs.grows⟩⟩
def Bj(s:ByteArray):Prop:=(J7 s 0).2.2=0∧(J7 s 0).2.1=s.size
instance (s:ByteArray):Decidable (Bj s):=by unfold Bj;exact inferInstance
theorem sH(s:ByteArray)(h:A3)(ht:D2 h)(hz:s.size≤1048576) :
 CH Tryz.prog 47 #[.string s] h fun v h'=>∃ t,v = .tuple #[.string t,.int .i64 (if Bj s then 0 else 4)]∧A5 h h':=by
 refine Q0 5 [0,2,3,5,6,7,22] [] [.val (.string s)] Tryz.func47 rfl ?_
 ((repeat' (conv=>whnf);first|(refine Br.mk ?_ ?_<;>intro hb)|(refine CK.beg ht (fun c hc=>by cases hc) hz rfl ?_;intro t)|fail);all_goals try conv=>whnf)
 all_goals first
  |(rw [if_neg (fun e=>by have e1:=e.1;have e2:=e.2;omega)];exact⟨fun h' hs=>⟨_,rfl,hs.grows⟩⟩)
  |(rw [if_pos ⟨by omega,by omega⟩];exact⟨fun h' hs=>⟨_,rfl,hs.grows⟩⟩)
end Go.Ex
namespace Go.Ex
open Go.Proofs
attribute [local irreducible] CH C9
def R0(r:Int):Prop:=(48≤r∧r≤57)∨(1632≤r∧r≤1641)∨(2406≤r∧r≤2415)∨(3664≤r∧r≤3673)∨(65296≤r∧r≤65305)
instance (r:Int):Decidable (R0 r):=by unfold R0;exact inferInstance
theorem oD(r:Int)(h:A3):CH Tryz.prog 73 #[.int .i32 r] h fun v h'=>v=A0 (.prop (R0 r))∧A5 h h':=by
 refine Q0 1 [2,4,5,6,7,17] [] [.val (.int .i32 r)] Tryz.func73 rfl ?_
 (try (conv=>whnf))
 refine N1 tO [6] (fun x:Nat=>[(6,.val (.int .i64 (x:Int)))]) (fun _=>[]) (fun μ x=>x≤5∧5-x≤μ∧(1≤x→¬ (48≤r∧r≤57))∧(2≤x→¬ (1632≤r∧r≤1641))∧(3≤x→¬ (2406≤r∧r≤2415))∧(4≤x→¬ (3664≤r∧r≤3673))∧(5≤x→¬ (65296≤r∧r≤65305))) 5 0 ?_
 conv=>whnf
 refine⟨by ((repeat (refine⟨rfl,?_⟩));trivial),trivial,⟨by omega,by omega,by omega,by omega,by omega,by omega,by omega⟩,?_⟩
 rintro μ x ⟨a0,a1,a2,a3,a4,a5,a6⟩
 have hx:x=0∨x=1∨x=2∨x=3∨x=4∨x=5:=by omega
 rcases hx with rfl|rfl|rfl|rfl|rfl|rfl
 all_goals
  ((repeat' (conv=>whnf);first|(refine Ar.fit (by omega) ?_)|(refine Br.mk ?_ ?_<;>intro hb<;>(try omega))|fail);all_goals try conv=>whnf)
  all_goals first
   |exact⟨fun h' hs=>⟨B8 (by simp only [R0];omega),hs.grows⟩⟩
   |exact⟨fun h' hs=>⟨C0 (by simp only [R0];omega),hs.grows⟩⟩
   |exact⟨μ-1,1,⟨by omega,by omega,by omega,by omega,by omega,by omega,by omega⟩,by omega,by ((repeat (refine⟨rfl,?_⟩));trivial),rfl,rfl,trivial⟩
   |exact⟨μ-1,2,⟨by omega,by omega,by omega,by omega,by omega,by omega,by omega⟩,by omega,by ((repeat (refine⟨rfl,?_⟩));trivial),rfl,rfl,trivial⟩
   |exact⟨μ-1,3,⟨by omega,by omega,by omega,by omega,by omega,by omega,by omega⟩,by omega,by ((repeat (refine⟨rfl,?_⟩));trivial),rfl,rfl,trivial⟩
   |exact⟨μ-1,4,⟨by omega,by omega,by omega,by omega,by omega,by omega,by omega⟩,by omega,by ((repeat (refine⟨rfl,?_⟩));trivial),rfl,rfl,trivial⟩
   |exact⟨μ-1,5,⟨by omega,by omega,by omega,by omega,by omega,by omega,by omega⟩,by omega,by ((repeat (refine⟨rfl,?_⟩));trivial),rfl,rfl,trivial⟩
def bY(s:ByteArray):Nat→Nat→Int
 |0,_=>-1
 |f+1,p=>if p<s.size then (if ((Utf8.decode s p).1:Int)=65533∧(C9 s p).2=0 then (p:Int) else bY s f (p+(Utf8.decode s p).2)) else -1
def hY(s:ByteArray):Int:=bY s s.size 0
theorem xP(s:ByteArray):∀ f p,-1≤bY s f p∧bY s f p<s.size
 |0,p=>by simp only [bY];omega
 |f+1,p=>by
  simp only [bY]
  have:=xP s f (p+(Utf8.decode s p).2)
  (repeat' split)<;>omega
theorem Xe(s:ByteArray) : -1≤hY s∧hY s<s.size:=xP s _ _
theorem width_pos(s:ByteArray)(p:Nat):1≤(Utf8.decode s p).2:=Lib.width_pos s p
theorem El(s:ByteArray)(h:A3)(ht:D2 h)(hs0:s.size≤140737488355328):CH Tryz.prog 42 #[.string s] h fun v h'=>v = .int .i64 (hY s)∧A5 h h':=by
 refine Q0 1 [2,3,4,6,8,9,10,14,22] [] [.val (.string s)] Tryz.func42 rfl ?_
 ((repeat' (conv=>whnf);first|(refine E5.mk ?_;intro b hb)|fail);all_goals try conv=>whnf)
 refine N1 tO [] (fun p:Nat=>[]) (fun p=>[(8,b,.iter s p)]) (fun μ p=>s.size≤p+μ∧bY s μ p=hY s) s.size 0 ?_
 conv=>whnf
 refine⟨by ((repeat (refine⟨rfl,?_⟩));trivial),⟨rfl,rfl,trivial⟩,⟨by omega,rfl⟩,?_⟩
 rintro μ p ⟨a0,a1⟩
 have hw:=width_pos s p
 dsimp only
 by_cases hp:p<s.size
 ·obtain⟨f,rfl⟩:∃ f,μ=f+1:=⟨μ-1,by omega⟩
  simp only [bY] at a1
  rw [if_pos hp] at a1
  obtain⟨⟨r0,r1⟩,hr⟩:∃ x,C9 s p=x:=⟨_,rfl⟩
  have hR:∀ h1,D2 h1→CH Tryz.prog 60 #[.string s,.int .i64 p] h1 fun v h'=>v = .tuple #[.int .i32 r0,.int .i64 r1]∧A5 h1 h':=fun h1 ht1=>by
   have:=sB s p h1 ht1 hs0
   rw [hr] at this
   exact this
  rw [hr] at a1
  ((repeat' (conv=>whnf);first|(refine VC.mk (by omega) ?_)|(refine Br.mk ?_ ?_<;>intro hb<;>(try omega))|(refine A7 ?_ fun h1 hs=>hR h1 (ht.at hs))|fail);all_goals try conv=>whnf)
  all_goals first
   |exact⟨f,p+(Utf8.decode s p).2,⟨by omega,by rw [←a1,if_neg (by omega)]⟩,by omega,by ((repeat (refine⟨rfl,?_⟩));trivial),rfl,rfl,⟨rfl,rfl,trivial⟩⟩
   |exact⟨fun h' hs=>⟨P9 (by rw [←a1,if_pos (by omega)]),hs.grows⟩⟩
 ·have e:hY s = -1:=by
   rw [←a1]
   cases μ with
   |zero=>rfl
   |succ f=>simp only [bY];rw [if_neg hp]
  rw [e]
  ((repeat' (conv=>whnf);first|(refine VC.mk (by omega) ?_)|(refine Br.mk ?_ ?_<;>intro hb<;>(try omega))|fail);all_goals try conv=>whnf)
  all_goals exact⟨fun h' hs=>⟨rfl,hs.grows⟩⟩
end Go.Ex
namespace Go.Ex
open Go.Proofs
attribute [local irreducible] CH C9 hY E7 R0 dC
theorem AX{s:ByteArray}{r:Int}(hr:hY s=r)(h:A3)(ht:D2 h)(hs0:s.size≤140737488355328):CH Tryz.prog 42 #[.string s] h fun v h'=>v = .int .i64 r∧A5 h h':=by subst hr;exact El s h ht hs0
def M6(s:ByteArray):Nat→Nat→Int
 |0,_=>-1
 |f+1,p=>if p<s.size then (if ((Utf8.decode s p).1:Int)=0∨(((Utf8.decode s p).1:Int)=65279∧0<p) then (p:Int) else M6 s f (p+(Utf8.decode s p).2)) else -1
def mX(s:ByteArray):Int:=if hY s<0 then s.size else hY s
def W1(s:ByteArray):Int:=if 0≤M6 (s.extract 0 (mX s).toNat) (s.extract 0 (mX s).toNat).size 0 then M6 (s.extract 0 (mX s).toNat) (s.extract 0 (mX s).toNat).size 0 else if mX s<s.size then mX s else -1
theorem tN(s:ByteArray):∀ f p,-1≤M6 s f p∧M6 s f p<s.size
 |0,p=>by simp only [M6];omega
 |f+1,p=>by
  simp only [M6]
  have:=tN s f (p+(Utf8.decode s p).2)
  (repeat' split)<;>omega
theorem Dq(s:ByteArray)(h:A3)(ht:D2 h)(hs0:s.size≤140737488355328):CH Tryz.prog 26 #[.string s] h fun v h'=>v = .int .i64 (W1 s)∧A5 h h':=by
 refine Q0 1 [2,3,4,5,9,15,16,17,29,34] [4] [.val (.string s)] Tryz.func26 rfl ?_
 obtain⟨q,hq⟩:∃ q,hY s=q:=⟨_,rfl⟩
 have r0:=Xe s
 rw [hq] at r0
 obtain⟨e,he⟩:∃ e,mX s=e:=⟨_,rfl⟩
 have he':e=if q<0 then (s.size:Int) else q:=by rw [←he,mX,hq]
 have e0:0≤e∧e≤s.size:=by rw [he'];split<;>omega
 have hc:W1 s=if 0≤M6 (s.extract 0 e.toNat) (s.extract 0 e.toNat).size 0 then M6 (s.extract 0 e.toNat) (s.extract 0 e.toNat).size 0 else if e<s.size then e else -1:=by unfold W1;rw [he]
 rw [hc]
 ((repeat' (conv=>whnf);first|(refine A7 ?_ fun h1 hs=>AX hq h1 (ht.at hs) hs0)|fail);all_goals try conv=>whnf)
 refine wT tO [3] (fun x:Int=>[(3,.val (.int .i64 x))]) (fun _=>[]) (fun x=>x=e) ?_
 conv=>whnf
 refine⟨?_,?_⟩
 ·by_cases hq0:q<0
  ·rw [if_pos hq0] at he'
   ((repeat' (conv=>whnf);first|(refine Br.mk ?_ ?_<;>intro hb<;>(try omega))|fail);all_goals try conv=>whnf)
   all_goals exact⟨_,he'.symm,by ((repeat (refine⟨rfl,?_⟩));trivial),rfl,rfl,trivial⟩
  ·rw [if_neg hq0] at he'
   ((repeat' (conv=>whnf);first|(refine Br.mk ?_ ?_<;>intro hb<;>(try omega))|fail);all_goals try conv=>whnf)
   all_goals exact⟨_,he'.symm,by ((repeat (refine⟨rfl,?_⟩));trivial),rfl,rfl,trivial⟩
 rintro x rfl
 have hz:(s.extract 0 x.toNat).size=x.toNat:=by rw [ByteArray.size_extract];omega
 ((repeat' (conv=>whnf);first|(refine VC.mk (by omega) ?_)|(refine E5.mk ?_;intro b hb)|fail);all_goals try conv=>whnf)
 dsimp only [Int.toNat_zero]
 generalize s.extract 0 x.toNat=t at *
 obtain⟨r,hr⟩:∃ r,M6 t t.size 0=r:=⟨_,rfl⟩
 rw [hr]
 have r2:=tN t t.size 0
 rw [hr] at r2
 refine N1 tO [] (fun p:Nat=>[]) (fun p=>[(15,b,.iter t p)]) (fun μ p=>t.size≤p+μ∧M6 t μ p=r) t.size 0 ?_
 conv=>whnf
 refine⟨by ((repeat (refine⟨rfl,?_⟩));trivial),⟨rfl,rfl,trivial⟩,⟨by omega,hr⟩,?_⟩
 rintro μ p ⟨a0,a1⟩
 have hw:=width_pos t p
 dsimp only
 by_cases hp:p<t.size
 ·obtain⟨f,rfl⟩:∃ f,μ=f+1:=⟨μ-1,by omega⟩
  simp only [M6] at a1
  rw [if_pos hp] at a1
  ((repeat' (conv=>whnf);first|(refine VC.mk (by omega) ?_)|(refine Br.mk ?_ ?_<;>intro hb<;>(try omega))|fail);all_goals try conv=>whnf)
  all_goals first
   |exact⟨f,p+(Utf8.decode t p).2,⟨by omega,by rw [←a1,if_neg (by omega)]⟩,by omega,by ((repeat (refine⟨rfl,?_⟩));trivial),rfl,rfl,⟨rfl,rfl,trivial⟩⟩
   |exact⟨fun h' hs=>⟨P9 (by rw [if_pos (by omega)] at a1;rw [←a1,if_pos (by omega)]),hs.grows⟩⟩
 ·have e:r = -1:=by
   rw [←a1]
   cases μ with
   |zero=>rfl
   |succ f=>simp only [M6];rw [if_neg hp]
  subst e
  rw [if_neg (by omega)]
  by_cases hxs:x<s.size
  ·rw [if_pos hxs]
   ((repeat' (conv=>whnf);first|(refine VC.mk (by omega) ?_)|(refine Br.mk ?_ ?_<;>intro hb<;>(try omega))|fail);all_goals try conv=>whnf)
   all_goals exact⟨fun h' hs=>⟨rfl,hs.grows⟩⟩
  ·rw [if_neg hxs]
   ((repeat' (conv=>whnf);first|(refine VC.mk (by omega) ?_)|(refine Br.mk ?_ ?_<;>intro hb<;>(try omega))|fail);all_goals try conv=>whnf)
   all_goals exact⟨fun h' hs=>⟨rfl,hs.grows⟩⟩
end Go.Ex
namespace Go.Ex
open Go.Proofs
attribute [local irreducible] CH C9 hY E7 R0 dC
def J9(s:ByteArray):Nat→Nat→Int
 |0,_=>-1
 |f+1,p=>if p<s.size then (if E7 (Utf8.decode s p).1=false∧¬ R0 (Utf8.decode s p).1 then (p:Int) else J9 s f (p+(Utf8.decode s p).2)) else -1
def P0(s:ByteArray)(at_:Int):Int:=if 0≤J9 (sub s at_ s.size) (sub s at_ s.size).size 0 then at_+J9 (sub s at_ s.size) (sub s at_ s.size).size 0 else s.size
def aO(s:ByteArray)(at_:Int):Int×Int:=if dC (sub s at_ (P0 s at_)) then (2,P0 s at_) else (1,P0 s at_)
theorem T8(s:ByteArray):∀ f p,(J9 s f p = -1∨(p:Int)≤J9 s f p)∧J9 s f p<s.size
 |0,p=>⟨.inl rfl,by simp only [J9];omega⟩
 |f+1,p=>by
  simp only [J9]
  have:=T8 s f (p+(Utf8.decode s p).2)
  (repeat' split)<;>omega
theorem aY{r:Int}{b:Bool}(hb:E7 r=b)(h:A3):CH Tryz.prog 65 #[.int .i32 r] h fun v h'=>v = .bool b∧A5 h h':=by subst hb;exact Uh r h
theorem Nm(s:ByteArray)(at_:Int)(h:A3)(hs0:s.size≤140737488355328)(ha:0≤at_∧at_≤s.size):CH Tryz.prog 66 #[.string s,.int .i64 at_] h fun v h'=>v = .tuple #[.int .u8 (aO s at_).1,.int .i64 (aO s at_).2]∧A5 h h':=by
 refine Q0 6 [6,7,8,14,15,16,26,34] [] [.val (.string s),.val (.int .i64 at_)] Tryz.func66 rfl ?_
 obtain⟨a0,a1⟩:=ha
 have hz:(sub s at_ s.size).size=s.size-at_.toNat:=by unfold sub;rw [ByteArray.size_extract];omega
 obtain⟨g,hg⟩:∃ g,J9 (sub s at_ s.size) (sub s at_ s.size).size 0=g:=⟨_,rfl⟩
 obtain⟨T,hT⟩:∃ T,P0 s at_=T:=⟨_,rfl⟩
 have hT':T=if 0≤g then at_+g else s.size:=by rw [←hT,P0,hg]
 have g1:=(T8 (sub s at_ s.size) (sub s at_ s.size).size 0).2
 rw [hg] at g1
 have hT2:at_≤T∧T≤s.size:=by rw [hT'];split<;>omega
 unfold aO
 rw [hT]
 ((repeat' (conv=>whnf);first|(refine VC.mk (by omega) ?_)|(refine E5.mk ?_;intro b hb)|fail);all_goals try conv=>whnf)
 dsimp only [sub] at *
 generalize s.extract at_.toNat (s.size:Int).toNat=t at *
 refine Ad tO [6] (fun p:Nat=>[(6,.val (.int .i64 s.size))]) (fun p=>[(14,b,.iter t p)]) (fun μ p=>t.size≤p+μ∧J9 t μ p=g) t.size 0 (fun _:Unit=>[(6,.val (.int .i64 T))]) (fun _=>[]) (fun _=>True) ?_
 conv=>whnf
 refine⟨by ((repeat (refine⟨rfl,?_⟩));trivial),⟨rfl,rfl,trivial⟩,⟨by omega,hg⟩,?_,?_⟩
 ·rintro μ p ⟨b0,b1⟩
  have hw:=width_pos t p
  dsimp only
  by_cases hp:p<t.size
  ·obtain⟨f,rfl⟩:∃ f,μ=f+1:=⟨μ-1,by omega⟩
   simp only [J9] at b1
   rw [if_pos hp] at b1
   obtain⟨lb,hl⟩:∃ lb,E7 ((Utf8.decode t p).1:Int)=lb:=⟨_,rfl⟩
   rw [hl] at b1
   have w1:=T8 t f (p+(Utf8.decode t p).2)
   rcases lb with _|_
   ·by_cases hd:R0 ((Utf8.decode t p).1:Int)
    ·rw [if_neg (fun e=>e.2 hd)] at b1
     ((repeat' (conv=>whnf);first|(refine VC.mk (by omega) ?_)|(refine Br.mk ?_ ?_<;>intro hb<;>(try (first|omega|exact absurd rfl hb|contradiction)))|(refine A7 ?_ fun h1 hs=>aY hl h1)|(refine A7 ?_ fun h1 hs=>(oD _ h1).mono (fun v h' ⟨e1,e2⟩=>⟨e1.trans (D0 hd),e2⟩))|fail);all_goals try conv=>whnf)
     all_goals exact⟨f,p+(Utf8.decode t p).2,⟨by omega,b1⟩,by omega,by ((repeat (refine⟨rfl,?_⟩));trivial),rfl,rfl,⟨rfl,rfl,trivial⟩⟩
    ·rw [if_pos ⟨rfl,hd⟩] at b1
     have hTp:at_+(p:Int)=T:=by rw [hT',if_pos (by omega),b1]
     ((repeat' (conv=>whnf);first|(refine Ar.fit (by omega) ?_)|(refine VC.mk (by omega) ?_)|(refine Br.mk ?_ ?_<;>intro hb<;>(try (first|omega|contradiction)))|(refine A7 ?_ fun h1 hs=>aY hl h1)|(refine A7 ?_ fun h1 hs=>(oD _ h1).mono (fun v h' ⟨e1,e2⟩=>⟨e1.trans (K8 hd),e2⟩))|fail);all_goals try conv=>whnf)
     all_goals exact⟨(),trivial,⟨by simp only [←hTp];rfl,by ((repeat (refine⟨rfl,?_⟩));trivial)⟩,rfl,rfl,trivial⟩
   ·rw [if_neg (fun e=>Bool.noConfusion e.1)] at b1
    ((repeat' (conv=>whnf);first|(refine VC.mk (by omega) ?_)|(refine Br.mk ?_ ?_<;>intro hb<;>(try (first|omega|exact absurd rfl hb)))|(refine A7 ?_ fun h1 hs=>aY hl h1)|fail);all_goals try conv=>whnf)
    all_goals exact⟨f,p+(Utf8.decode t p).2,⟨by omega,b1⟩,by omega,by ((repeat (refine⟨rfl,?_⟩));trivial),rfl,rfl,⟨rfl,rfl,trivial⟩⟩
  ·have e:g = -1:=by
    rw [←b1]
    cases μ with
    |zero=>rfl
    |succ f=>simp only [J9];rw [if_neg hp]
   have hTp:(s.size:Int)=T:=by rw [hT',if_neg (by omega)]
   ((repeat' (conv=>whnf);first|(refine VC.mk (by omega) ?_)|(refine Br.mk ?_ ?_<;>intro hb<;>(try omega))|fail);all_goals try conv=>whnf)
   all_goals exact⟨(),trivial,⟨by simp only [←hTp];rfl,by ((repeat (refine⟨rfl,?_⟩));trivial)⟩,rfl,rfl,trivial⟩
 rintro _ _
 by_cases hw:dC (s.extract at_.toNat T.toNat)
 ·rw [if_pos hw]
  ((repeat' (conv=>whnf);first|(refine VC.mk (by omega) ?_)|(refine Br.mk ?_ ?_<;>intro hb<;>(try (exact absurd rfl hb)))|(refine A7 ?_ fun h1 hs=>(oG _ h1).mono (fun v h' ⟨e1,e2⟩=>⟨e1.trans (D0 hw),e2⟩))|fail);all_goals try conv=>whnf)
  all_goals exact⟨fun h' hs=>⟨rfl,hs.grows⟩⟩
 ·rw [if_neg hw]
  ((repeat' (conv=>whnf);first|(refine VC.mk (by omega) ?_)|(refine Br.mk ?_ ?_<;>intro hb<;>(try (exact Bool.noConfusion hb)))|(refine A7 ?_ fun h1 hs=>(oG _ h1).mono (fun v h' ⟨e1,e2⟩=>⟨e1.trans (K8 hw),e2⟩))|fail);all_goals try conv=>whnf)
  all_goals exact⟨fun h' hs=>⟨rfl,hs.grows⟩⟩
def rQ:List ByteArray:=[⟨#[60,60,61]⟩,⟨#[62,62,61]⟩,⟨#[38,94,61]⟩,⟨#[46,46,46]⟩,⟨#[60,60]⟩,⟨#[62,62]⟩,⟨#[38,94]⟩,⟨#[43,61]⟩,⟨#[45,61]⟩,⟨#[42,61]⟩,⟨#[47,61]⟩,⟨#[37,61]⟩,⟨#[38,61]⟩,⟨#[124,61]⟩,⟨#[94,61]⟩,⟨#[38,38]⟩,⟨#[124,124]⟩,⟨#[60,45]⟩,⟨#[43,43]⟩,⟨#[45,45]⟩,⟨#[61,61]⟩,⟨#[33,61]⟩,⟨#[60,61]⟩,⟨#[62,61]⟩,⟨#[58,61]⟩,⟨#[43]⟩,⟨#[45]⟩,⟨#[42]⟩,⟨#[47]⟩,⟨#[37]⟩,⟨#[38]⟩,⟨#[124]⟩,⟨#[94]⟩,⟨#[60]⟩,⟨#[62]⟩,⟨#[61]⟩,⟨#[33]⟩,⟨#[126]⟩,⟨#[40]⟩,⟨#[41]⟩,⟨#[91]⟩,⟨#[93]⟩,⟨#[123]⟩,⟨#[125]⟩,⟨#[44]⟩,⟨#[46]⟩,⟨#[58]⟩]
def iQ(s:ByteArray):Prop:=s∈rQ
instance (s:ByteArray):Decidable (iQ s):=decidable_of_iff (rQ.any (fun w=>decide (s=w))=true) (by simp [iQ])
def T2(s:ByteArray):Nat→Int
 |0=>0
 |n+1=>if iQ (s.extract 0 (n+1)) then (n:Int)+1 else T2 s n
def Y2(s:ByteArray):Int:=T2 s (min 3 s.size)
theorem rS(s:ByteArray):∀ n,0≤T2 s n∧T2 s n≤n
 |0=>by simp [T2]
 |n+1=>by
  simp only [T2]
  have:=rS s n
  split<;>omega
theorem vZ(s:ByteArray):0≤Y2 s∧Y2 s≤s.size:=by
 have:=rS s (min 3 s.size)
 unfold Y2
 omega
end Go.Ex
namespace Go.Ex
open Go.Proofs
attribute [local irreducible] CH
set_option maxHeartbeats 8000000 in
theorem Tr(s:ByteArray)(h:A3)(hs0:s.size≤140737488355328):CH Tryz.prog 69 #[.string s] h fun v h'=>v = .int .i64 (Y2 s)∧A5 h h':=by
 refine Q0 1 [2,3,8,13,14] [5] [.val (.string s)] Tryz.func69 rfl ?_
 obtain⟨g,hg⟩:∃ g,Y2 s=g:=⟨_,rfl⟩
 rw [hg]
 (try (conv=>whnf))
 refine Ad tO [3] (fun n:Nat=>[(3,.val (.int .i64 (n:Int)))]) (fun _=>[]) (fun μ n=>n=μ∧n≤3∧n≤s.size∧T2 s n=g) (min 3 s.size) (min 3 s.size) (fun _:Unit=>[(3,.val (.int .i64 g))]) (fun _=>[]) (fun _=>True) ?_
 conv=>whnf
 refine⟨⟨by simp only [lk];congr 3;omega,by ((repeat (refine⟨rfl,?_⟩));trivial)⟩,trivial,⟨rfl,by omega,by omega,hg⟩,?_,?_⟩
 ·rintro μ n ⟨rfl,b0,b1,b2⟩
  rcases n with _|n
  ·have e:g=0:=by rw [←b2];rfl
   subst e
   ((repeat' (conv=>whnf);first|(refine Br.mk ?_ ?_<;>intro hb<;>(try omega))|fail);all_goals try conv=>whnf)
   all_goals exact⟨(),trivial,⟨rfl,by ((repeat (refine⟨rfl,?_⟩));trivial)⟩,rfl,rfl,trivial⟩
  ·simp only [T2] at b2
   have hx:s.extract (0:Int).toNat ((n+1:Nat):Int).toNat=s.extract 0 (n+1):=rfl
   generalize s.extract 0 (n+1)=u at *
   ((repeat' (conv=>whnf);first|(refine Br.mk ?_ ?_<;>intro hb<;>(try omega))|fail);all_goals try conv=>whnf)
   refine wT tO [13] (fun x:ByteArray=>[(13,.val (.string x))]) (fun _=>[]) (fun x=>x=u) ?_
   conv=>whnf
   refine⟨?_,?_⟩
   ·((repeat' (conv=>whnf);first|(refine VC.mk (by omega) ?_)|fail);all_goals try conv=>whnf)
    all_goals exact⟨_,hx,by ((repeat (refine⟨rfl,?_⟩));trivial),rfl,rfl,trivial⟩
   rintro x rfl
   dsimp only
   by_cases hw:iQ x
   ·rw [if_pos hw] at b2
    subst b2
    ((repeat' (conv=>whnf);first|(refine Br.mk ?_ ?_<;>intro hb<;>(try (exact absurd (by assumption) hb)))|(refine Ar.fit (by omega) ?_)|fail);all_goals try conv=>whnf)
    all_goals first
     |exact⟨(),trivial,⟨rfl,by ((repeat (refine⟨rfl,?_⟩));trivial)⟩,rfl,rfl,trivial⟩
     |(exfalso;simp only [iQ,rQ,List.mem_cons,List.not_mem_nil,or_false] at hw;simp only [*,or_self] at hw;done)
   ·rw [if_neg hw] at b2
    simp only [iQ,rQ,List.mem_cons,List.not_mem_nil,or_false,not_or] at hw
    obtain⟨w0,w1,w2,w3,w4,w5,w6,w7,w8,w9,w10,w11,w12,w13,w14,w15,w16,w17,w18,w19,w20,w21,w22,w23,w24,w25,w26,w27,w28,w29,w30,w31,w32,w33,w34,w35,w36,w37,w38,w39,w40,w41,w42,w43,w44,w45,w46⟩:=hw
    ((repeat' (conv=>whnf);first|(refine Br.mk (fun hb=>absurd hb (by assumption)) (fun hb=>?_))|(refine Ar.fit (by omega) ?_)|fail);all_goals try conv=>whnf)
    all_goals exact⟨n,n,⟨rfl,by omega,by omega,b2⟩,by omega,⟨by simp only [W2,lk];congr 3;omega,by ((repeat (refine⟨rfl,?_⟩));trivial)⟩,rfl,rfl,trivial⟩
 rintro _ _
 (try (conv=>whnf))
 all_goals exact⟨fun h' hs=>⟨rfl,hs.grows⟩⟩
end Go.Ex
namespace Go.Ex
open Go.Proofs
attribute [local irreducible] CH A4 J2 H7 cA G2 cD R3
abbrev eE:ByteArray:=⟨#[101,69]⟩
abbrev pP:ByteArray:=⟨#[112,80]⟩
def Up(s:ByteArray)(n k:Int)(l:ByteArray):Int:=if 0<n+k∧0<k+cD (sub s (n+k) s.size) l∧n+k+cD (sub s (n+k) s.size) l=s.size then 4 else 0
def nG(s:ByteArray):Int:=
 if J2 s 10=s.size∧0<J2 s 10 then (if ¬ A4 s 0=48∨J2 s 10=1 then 3 else R3 (sub s 1 s.size) 8)
 else if J2 s 10<s.size∧A4 s (J2 s 10)=46 then (if J2 s 10+J2 (sub s (J2 s 10+1) s.size) 10=0 then 0 else Up s (J2 s 10) (J2 (sub s (J2 s 10+1) s.size) 10+1) eE)
 else Up s (J2 s 10) 0 eE
theorem Dw(s:ByteArray)(h:A3)(hs:s.size≤140737488355328):CH Tryz.prog 127 #[.string s] h fun v h'=>v = .int .u8 (nG s)∧A5 h h':=by
 refine Q0 6 [15,22,35,44,72] [] [.val (.string s)] Tryz.func127 rfl ?_
 obtain⟨n,hn⟩:∃ n,J2 s 10=n:=⟨_,rfl⟩
 have r0:=qH hn
 simp only [nG,Up,hn]
 dsimp only [sub]
 by_cases h1c:n=s.size∧0<n
 ·obtain⟨w,hw⟩:∃ w,R3 (s.extract (1:Int).toNat (s.size:Int).toNat) 8=w:=⟨_,rfl⟩
  rw [hw,if_pos h1c]
  ((repeat' (conv=>whnf);first|(refine VC.mk (by omega) ?_)|(refine Br.mk ?_ ?_<;>intro hb<;>(try omega))|(refine A7 ?_ fun h1 hs=>Z1 hw h1 (by exact Nat.le_trans (X8 _ _ _) (by omega)))|(refine A7 ?_ fun h1 hs=>bR hn h1 (by omega))|fail);all_goals try conv=>whnf)
  all_goals exact⟨fun h' hs=>⟨P9 (by split<;>first|rfl|omega),hs.grows⟩⟩
 rw [if_neg h1c]
 by_cases h2c:n<s.size∧A4 s n=46
 ·have z1:=K1 s (n+1) s.size (by omega) (by omega) (by omega)
  obtain⟨k,hk⟩:∃ k,J2 (s.extract (n+1).toNat (s.size:Int).toNat) 10=k:=⟨_,rfl⟩
  have r1:=qH hk
  dsimp only [sub] at z1
  have z2:=K1 s (n+(k+1)) s.size (by omega) (by omega) (by omega)
  obtain⟨p,hp⟩:∃ p,cD (s.extract (n+(k+1)).toNat (s.size:Int).toNat) eE=p:=⟨_,rfl⟩
  have r2:=qK hp
  dsimp only [sub] at z2
  rw [if_pos h2c,hk,hp]
  ((repeat' (conv=>whnf);first|(refine Ar.fit (by omega) ?_)|(refine VC.mk (by omega) ?_)|(refine Br.mk ?_ ?_<;>intro hb<;>(try omega))|(refine A7 ?_ fun h1 hs=>bR hn h1 (by omega))|(refine A7 ?_ fun h1 hs=>bR hk h1 (by omega))|(refine A7 ?_ fun h1 hs=>nP hp h1 (by omega))|fail);all_goals try conv=>whnf)
  all_goals exact⟨fun h' hs=>⟨P9 (by (repeat' split)<;>first|rfl|omega),hs.grows⟩⟩
 ·have z2:=K1 s (n+0) s.size (by omega) (by omega) (by omega)
  obtain⟨p,hp⟩:∃ p,cD (s.extract (n+0).toNat (s.size:Int).toNat) eE=p:=⟨_,rfl⟩
  have r2:=qK hp
  dsimp only [sub] at z2
  rw [if_neg h2c,hp]
  ((repeat' (conv=>whnf);first|(refine Ar.fit (by omega) ?_)|(refine VC.mk (by omega) ?_)|(refine Br.mk ?_ ?_<;>intro hb<;>(try omega))|(refine A7 ?_ fun h1 hs=>bR hn h1 (by omega))|(refine A7 ?_ fun h1 hs=>nP hp h1 (by omega))|fail);all_goals try conv=>whnf)
  all_goals exact⟨fun h' hs=>⟨P9 (by (repeat' split)<;>first|rfl|omega),hs.grows⟩⟩
end Go.Ex
namespace Go.Ex
open Go.Proofs
attribute [local irreducible] CH A4 J2 H7 cA G2 cD R3 nG O2 vD
theorem Oz{s:ByteArray}{r:Int}(hr:nG s=r)(h:A3)(hs:s.size≤140737488355328):CH Tryz.prog 127 #[.string s] h fun v h'=>v = .int .u8 r∧A5 h h':=by subst hr;exact Dw s h hs
theorem lH{s p t:ByteArray}(hr:G2 s p=t)(h:A3):CH Tryz.prog 162 #[.string s,.string p] h fun v h'=>v = .string t∧A5 h h':=by subst hr;exact vM s p h
def U0(s:ByteArray):Int:=
 if ¬ R3 s 16=0 then 3
 else if J2 (G2 s M9) 16=0∧O2 s M9 then 0
 else if J2 (G2 s M9) 16<(G2 s M9).size∧A4 (G2 s M9) (J2 (G2 s M9) 16)=46 then
  (if J2 (G2 s M9) 16+J2 (sub (G2 s M9) (J2 (G2 s M9) 16+1) (G2 s M9).size) 16=0 then 0
   else if 0<cD (sub (G2 s M9) (J2 (G2 s M9) 16+(J2 (sub (G2 s M9) (J2 (G2 s M9) 16+1) (G2 s M9).size) 16+1)) (G2 s M9).size) pP ∧
    J2 (G2 s M9) 16+(J2 (sub (G2 s M9) (J2 (G2 s M9) 16+1) (G2 s M9).size) 16+1)+cD (sub (G2 s M9) (J2 (G2 s M9) 16+(J2 (sub (G2 s M9) (J2 (G2 s M9) 16+1) (G2 s M9).size) 16+1)) (G2 s M9).size) pP=(G2 s M9).size then 4 else 0)
 else if J2 (G2 s M9) 16=0 then 0
 else if 0<cD (sub (G2 s M9) (J2 (G2 s M9) 16+0) (G2 s M9).size) pP∧J2 (G2 s M9) 16+0+cD (sub (G2 s M9) (J2 (G2 s M9) 16+0) (G2 s M9).size) pP=(G2 s M9).size then 4 else 0
theorem Tb(s:ByteArray)(h:A3)(hs:s.size≤140737488355328):CH Tryz.prog 126 #[.string s] h fun v h'=>v = .int .u8 (U0 s)∧A5 h h':=by
 refine Q0 7 [9,20,30,39,43,61] [] [.val (.string s)] Tryz.func126 rfl ?_
 have hts:=jX s M9
 simp only [U0]
 obtain⟨w,hw⟩:∃ w,R3 s 16=w:=⟨_,rfl⟩
 rw [hw]
 by_cases hw0:¬ w=0
 ·rw [if_pos hw0]
  ((repeat' (conv=>whnf);first|(refine Br.mk ?_ ?_<;>intro hb<;>(try omega))|(refine A7 ?_ fun h1 hs=>Z1 hw h1 (by omega))|fail);all_goals try conv=>whnf)
  all_goals exact⟨fun h' hs=>⟨rfl,hs.grows⟩⟩
 rw [if_neg hw0]
 obtain⟨t,ht⟩:∃ t,G2 s M9=t:=⟨_,rfl⟩
 rw [ht] at hts ⊢
 obtain⟨n,hn⟩:∃ n,J2 t 16=n:=⟨_,rfl⟩
 have r0:=qH hn
 rw [hn]
 dsimp only [sub]
 have hU:∀ h1:A3,CH Tryz.prog 63 #[.string s,.string M9] h1 fun v h'=>v=A0 (.prop (O2 s M9))∧A5 h1 h':=fun h1=>bJ s M9 h1
 by_cases h1c:n=0∧O2 s M9
 ·rw [if_pos h1c]
  obtain⟨h1a,h1b⟩:=h1c
  ((repeat' (conv=>whnf);first|(refine Br.mk ?_ ?_<;>intro hb<;>(try (first|omega|exact absurd rfl hb)))|(refine A7 ?_ fun h1 hs=>Z1 hw h1 (by omega))|(refine A7 ?_ fun h1 hs=>(hU h1).mono (fun v h' ⟨e1,e2⟩=>⟨e1.trans (D0 h1b),e2⟩))|(refine A7 ?_ fun h1 hs=>lH ht h1)|(refine A7 ?_ fun h1 hs=>bR hn h1 (by omega))|fail);all_goals try conv=>whnf)
  all_goals exact⟨fun h' hs=>⟨rfl,hs.grows⟩⟩
 rw [if_neg h1c]
 have hU2:∃ b:Bool,(∀ h1:A3,CH Tryz.prog 63 #[.string s,.string M9] h1 fun v h'=>v = .bool b∧A5 h1 h')∧(b=true→¬ n=0):=by
  by_cases hu:O2 s M9
  ·exact⟨true,fun h1=>(hU h1).mono (fun v h' ⟨e1,e2⟩=>⟨e1.trans (D0 hu),e2⟩),fun _ h0=>h1c ⟨h0,hu⟩⟩
  ·exact⟨false,fun h1=>(hU h1).mono (fun v h' ⟨e1,e2⟩=>⟨e1.trans (K8 hu),e2⟩),fun e=>by cases e⟩
 obtain⟨b,hb1,hb2⟩:=hU2
 by_cases h2c:n<t.size∧A4 t n=46
 ·have z1:=K1 t (n+1) t.size (by omega) (by omega) (by omega)
  obtain⟨k,hk⟩:∃ k,J2 (t.extract (n+1).toNat (t.size:Int).toNat) 16=k:=⟨_,rfl⟩
  have r1:=qH hk
  dsimp only [sub] at z1
  have z2:=K1 t (n+(k+1)) t.size (by omega) (by omega) (by omega)
  obtain⟨p,hp⟩:∃ p,cD (t.extract (n+(k+1)).toNat (t.size:Int).toNat) pP=p:=⟨_,rfl⟩
  have r2:=qK hp
  dsimp only [sub] at z2
  rw [if_pos h2c,hk,hp]
  rcases b with _|_
  ·((repeat' (conv=>whnf);first|(refine Ar.fit (by omega) ?_)|(refine VC.mk (by omega) ?_)|(refine Br.mk ?_ ?_<;>intro hb<;>(try (first|omega|exact Bool.noConfusion hb)))|(refine A7 ?_ fun h1 hs=>Z1 hw h1 (by omega))|(refine A7 ?_ fun h1 hs=>hb1 h1)|(refine A7 ?_ fun h1 hs=>lH ht h1)|(refine A7 ?_ fun h1 hs=>bR hn h1 (by omega))|(refine A7 ?_ fun h1 hs=>bR hk h1 (by omega))|(refine A7 ?_ fun h1 hs=>nP hp h1 (by omega))|fail);all_goals try conv=>whnf)
   all_goals exact⟨fun h' hs=>⟨P9 (by (repeat' split)<;>first|rfl|omega),hs.grows⟩⟩
  ·have hn0:=hb2 rfl
   ((repeat' (conv=>whnf);first|(refine Ar.fit (by omega) ?_)|(refine VC.mk (by omega) ?_)|(refine Br.mk ?_ ?_<;>intro hb<;>(try omega))|(refine A7 ?_ fun h1 hs=>Z1 hw h1 (by omega))|(refine A7 ?_ fun h1 hs=>hb1 h1)|(refine A7 ?_ fun h1 hs=>lH ht h1)|(refine A7 ?_ fun h1 hs=>bR hn h1 (by omega))|(refine A7 ?_ fun h1 hs=>bR hk h1 (by omega))|(refine A7 ?_ fun h1 hs=>nP hp h1 (by omega))|fail);all_goals try conv=>whnf)
   all_goals exact⟨fun h' hs=>⟨P9 (by (repeat' split)<;>first|rfl|omega),hs.grows⟩⟩
 ·have z2:=K1 t (n+0) t.size (by omega) (by omega) (by omega)
  obtain⟨p,hp⟩:∃ p,cD (t.extract (n+0).toNat (t.size:Int).toNat) pP=p:=⟨_,rfl⟩
  have r2:=qK hp
  dsimp only [sub] at z2
  rw [if_neg h2c,hp]
  rcases b with _|_
  ·((repeat' (conv=>whnf);first|(refine Ar.fit (by omega) ?_)|(refine VC.mk (by omega) ?_)|(refine Br.mk ?_ ?_<;>intro hb<;>(try (first|omega|exact Bool.noConfusion hb)))|(refine A7 ?_ fun h1 hs=>Z1 hw h1 (by omega))|(refine A7 ?_ fun h1 hs=>hb1 h1)|(refine A7 ?_ fun h1 hs=>lH ht h1)|(refine A7 ?_ fun h1 hs=>bR hn h1 (by omega))|(refine A7 ?_ fun h1 hs=>nP hp h1 (by omega))|fail);all_goals try conv=>whnf)
   all_goals exact⟨fun h' hs=>⟨P9 (by (repeat' split)<;>first|rfl|omega),hs.grows⟩⟩
  ·have hn0:=hb2 rfl
   ((repeat' (conv=>whnf);first|(refine Ar.fit (by omega) ?_)|(refine VC.mk (by omega) ?_)|(refine Br.mk ?_ ?_<;>intro hb<;>(try omega))|(refine A7 ?_ fun h1 hs=>Z1 hw h1 (by omega))|(refine A7 ?_ fun h1 hs=>hb1 h1)|(refine A7 ?_ fun h1 hs=>lH ht h1)|(refine A7 ?_ fun h1 hs=>bR hn h1 (by omega))|(refine A7 ?_ fun h1 hs=>nP hp h1 (by omega))|fail);all_goals try conv=>whnf)
   all_goals exact⟨fun h' hs=>⟨P9 (by (repeat' split)<;>first|rfl|omega),hs.grows⟩⟩
end Go.Ex
