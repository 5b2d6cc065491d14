/-
  Top: TopComments: whatever the input, the law answers true (part 16)
-/
import Derived.Test.YtpjdgifhhnjclaaGreatDoorM15
set_option linter.unusedVariables false
set_option linter.unusedSimpArgs false
set_option maxHeartbeats 4000000
set_option maxRecDepth 10000
namespace Go.Ex
open Go.Proofs
attribute [local irreducible] CH
theorem gC(bq:Nat)(s:ByteArray)(mk:Int)(x:QS):X1 (qC bq s mk x) (qC bq s mk x):=by
 obtain⟨a,bad,o,out⟩:=x
 rcases o with _|⟨b,c⟩
 ·exact⟨rfl,rfl,trivial⟩
 ·exact⟨rfl,rfl,rfl,rfl,trivial⟩
section
variable {E:Value→A3→Prop}{S:St}{κ:KV→St→Prop}{bq:Nat}{s:ByteArray}{mk:Int}
theorem CK.qturn(x:QS)(hc:X1 S.ch (qC bq s mk x)){f:Nat}{args:List KV}(a':Int)(bad':Bool)(k:Nat)(hh:∀ h,HS ⟨h,blks (qC bq s mk x),qC bq s mk x⟩ h→CH Tryz.prog f (args.map A1).toArray h (I6 bq s mk a' bad' x k h))
 (hk:∀ x':QS,x'.at_=a'→x'.bad=bad'→x'.out.length≤x.out.length+k→(x'.o=none→x'.out=[])→κ (.tup []) ⟨S.h0,S.cap,qC bq s mk x'⟩):CK Tryz.prog E f args [] S κ:=by
 refine CK.mut (qC bq s mk x) [] (fun kv q'=>∃ x':QS,kv = .tup []∧q'=qC bq s mk x'∧x'.at_=a'∧x'.bad=bad'∧x'.out.length≤x.out.length+k∧(x'.o=none→x'.out=[])) (by rw [List.append_nil];exact hc) (fun h _ hs=>?_) ?_
 ·rw [show args.map A1++([]:List KV).map A0=args.map A1 by simp]
  refine (hh h hs).mono fun u h' ⟨x',a1,a2,a3,a4,a5,a6⟩=>⟨.tup [],_,a1.symm,a6,x',rfl,rfl,a2,a3,a4,a5⟩
 ·rintro kv q' ⟨x',rfl,rfl,h1,h2,h3,h4⟩
  rw [List.append_nil]
  exact hk x' h1 h2 h3 h4
theorem CK.qnum(x:QS)(hc:X1 S.ch (qC bq s mk x))(cnt:Nat)(base:Int)(hb:base=16∨base=8)(hn:cnt≤8)(ha:0≤x.at_∧x.at_≤s.size)(hz:s.size≤1048576){args:List KV}(he:args.map A1=[.pointer (some ⟨bq,0,none⟩),.int .i64 cnt,.int .i64 base])
 {v a':Int} {f:Bool} (hr:M5 s base cnt x.at_ 0=(v,a',f)) (hk:κ (.val (.int .i64 v)) ⟨S.h0,S.cap,qC bq s mk ⟨a',x.bad || f,x.o,x.out⟩⟩):CK Tryz.prog E 185 args [] S κ:=by
 obtain⟨a,bad,o,out⟩:=x
 refine CK.mut [(20,bq,qB s mk a (uR ⟨a,bad,o,out⟩) bad)] (Ih ⟨a,bad,o,out⟩) (fun kv q'=>kv = .val (.int .i64 v)∧q'=[(20,bq,qB s mk a' (uR ⟨a,bad,o,out⟩) (bad || f))]) hc (fun h _ hs=>?_) ?_
 ·rw [show args.map A1++([]:List KV).map A0=args.map A1 by simp,he]
  have h1:HS ⟨h,[bq],[(20,bq,qB s mk a (.val (A0 (uR ⟨a,bad,o,out⟩))) bad)]⟩ h:=hs.ren [20] (F9 rfl (SC.box rfl) rfl E8)
  refine (Ec bq s mk a base cnt _ bad h h1 hb hn ha hz).mono fun u h' ⟨a1,a2⟩=>⟨.val (.int .i64 v),_,?_,?_,rfl,rfl⟩
  ·rw [a1];dsimp only at hr;rw [hr];rfl
  ·dsimp only at hr;rw [hr] at a2;exact a2.ren [20] (F9 rfl (SC.box rfl) rfl E8)
 ·rintro kv q' ⟨rfl,rfl⟩
  exact hk
theorem CK.ren{P:Program}{f:Nat}{args caps:List KV}(ks:List Nat)(L:L8)(hL:F3 S.ch ks L)(hk:CK P E f args caps ⟨S.h0,S.cap,L⟩ κ):CK P E f args caps S κ:=⟨fun h hs=>hk.go h (hs.ren ks hL)⟩
end
theorem Z9(s:ByteArray)(base:Int)(hb:base=16∨base=8):∀ (c:Nat) (a n p:Int),0≤a∧a≤s.size→0≤n→n<p→(a≤(M5 s base c a n).2.1∧(M5 s base c a n).2.1≤s.size)∧0≤(M5 s base c a n).1∧(M5 s base c a n).1<p*base ^ c
 |0,a,n,p,h,h0,h1=>by simp only [M5];exact⟨by omega,h0,by simpa using h1⟩
 |c+1,a,n,p,h,h0,h1=>by
  simp only [M5]
  have hw:=oJ (A4 s a)
  split
  ·rename_i hc
   have:=Z9 s base hb c (a+1) (n*base+aT (A4 s a)) (p*base) (by omega) (by rcases hb with rfl|rfl<;>omega) (by rcases hb with rfl|rfl<;>omega)
   refine⟨by omega,this.2.1,?_⟩
   rw [Int.pow_succ,Int.mul_comm (base ^ c) base,←Int.mul_assoc]
   exact this.2.2
  ·refine⟨by dsimp only;omega,Int.le_refl _,?_⟩
   have hp:0<p:=by omega
   have hq:0<base ^ (c+1):=Int.pow_pos (by rcases hb with rfl|rfl<;>decide)
   exact Int.mul_pos hp hq
theorem AY:∀ n:Int,0≤n→n<512→0≤bX .and .i64 n 255∧bX .and .i64 n 255≤255:=fun n h0 h1=>by
 have key:∀ i : _root_.Fin 512,0≤bX .and .i64 (i.val:Int) 255∧bX .and .i64 (i.val:Int) 255≤255:=by decide +kernel
 have:=key ⟨n.toNat,by omega⟩
 rw [show (((⟨n.toNat,by omega⟩ : _root_.Fin 512).val:Nat):Int)=n from Int.toNat_of_nonneg h0] at this
 exact this
abbrev Qp:ByteArray:=⟨#[97,98,102,110,114,116,118,92]⟩
def gK(s:ByteArray)(mk a:Int):Int×Bool:=
 if s.size≤a then (a,true) else
 if 0≤H7 Qp (A4 s a) then (a+1,false) else
 if A4 s a=mk then (a+1,false) else
 if A4 s a=120 then ((M5 s 16 2 (a+1) 0).2.1,(M5 s 16 2 (a+1) 0).2.2 || gL mk (M5 s 16 2 (a+1) 0).1 false) else
 if A4 s a=85 then ((M5 s 16 8 (a+1) 0).2.1,(M5 s 16 8 (a+1) 0).2.2 || gL mk (M5 s 16 8 (a+1) 0).1 true) else
 if A4 s a=117 then ((M5 s 16 4 (a+1) 0).2.1,(M5 s 16 4 (a+1) 0).2.2 || gL mk (M5 s 16 4 (a+1) 0).1 true) else
 ((M5 s 8 3 a 0).2.1,(M5 s 8 3 a 0).2.2 || decide (255<(M5 s 8 3 a 0).1) || gL mk (bX .and .i64 (M5 s 8 3 a 0).1 255) false)
theorem Js(bq:Nat)(s:ByteArray)(mk:Int)(x:QS)(h:A3)(hs:HS ⟨h,blks (qC bq s mk x),qC bq s mk x⟩ h)(hx:x.o=none→x.out=[])(hbad:x.bad=false)(ha:0≤x.at_∧x.at_≤s.size)(hz:s.size≤1048576)(ho:x.out.length≤8000000) :
 CH Tryz.prog 160 #[.pointer (some ⟨bq,0,none⟩)] h (I6 bq s mk (gK s mk x.at_).1 (gK s mk x.at_).2 x 4 h):=by
 obtain⟨a,bad,o,out⟩:=x
 dsimp only at hx hbad ha ho ⊢
 subst hbad
 obtain⟨R,hR⟩:∃ R,gK s mk a=R:=⟨_,rfl⟩
 rw [hR]
 rw [gK] at hR
 have hq:=L0 s a
 have hib:=fun h1=>aZ Qp (A4 s a) h1
 have hir:=eZ Qp (A4 s a)
 generalize H7 Qp (A4 s a)=ix at hib hir hR
 have hir : -1≤ix∧ix<8:=hir
 have hj:((⟨#[7,8,12,10,13,9,11,92]⟩:ByteArray).size:Int)=8:=rfl
 have n2:=Z9 s 16 (.inl rfl) 2 (a+1) 0 1
 have n8:=Z9 s 16 (.inl rfl) 8 (a+1) 0 1
 have n4:=Z9 s 16 (.inl rfl) 4 (a+1) 0 1
 have n3:=Z9 s 8 (.inr rfl) 3 a 0 1 ha (Int.le_refl _) (by decide)
 obtain⟨v2,a2,f2,e2⟩:∃ v a' f,M5 s 16 2 (a+1) 0=(v,a',f):=⟨_,_,_,rfl⟩
 obtain⟨v8,a8,f8,e8⟩:∃ v a' f,M5 s 16 8 (a+1) 0=(v,a',f):=⟨_,_,_,rfl⟩
 obtain⟨v4,a4,f4,e4⟩:∃ v a' f,M5 s 16 4 (a+1) 0=(v,a',f):=⟨_,_,_,rfl⟩
 obtain⟨v3,a3,f3,e3⟩:∃ v a' f,M5 s 8 3 a 0=(v,a',f):=⟨_,_,_,rfl⟩
 rw [e2] at n2 hR
 rw [e8] at n8 hR
 rw [e4] at n4 hR
 rw [e3] at n3 hR
 dsimp only at n2 n8 n4 n3 hR
 have m2:s.size≤a∨(0≤v2∧v2≤255):=by
  by_cases h:s.size≤a
  ·exact .inl h
  ·have:=n2 (by omega) (by omega) (by omega)
   exact .inr (by omega)
 have m8:s.size≤a∨(0≤v8∧v8≤4294967295):=by
  by_cases h:s.size≤a
  ·exact .inl h
  ·have:=n8 (by omega) (by omega) (by omega)
   exact .inr (by omega)
 have m4:s.size≤a∨(0≤v4∧v4≤4294967295):=by
  by_cases h:s.size≤a
  ·exact .inl h
  ·have:=n4 (by omega) (by omega) (by omega)
   exact .inr (by omega)
 have m3:0≤v3∧v3<512:=by omega
 have m5:=AY v3 m3.1 m3.2
 clear n2 n8 n4 n3
 rcases o with _|⟨b,c⟩
 ·have hx:=hx rfl
  subst hx
  have hx:(none:Option (Nat×Nat))=none→([]:List Int)=[]:=fun _=>rfl
  have hs:HS ⟨h,blks (qC bq s mk ⟨a,false,none,[]⟩),[(20,bq,.box 161 [.val (.string s),.val (.int .i64 a),.val (.int .u8 mk),.val (.slice none 0 0),.val (.bool false)])]⟩ h:=hs
  rcases f3 with _|_
  ·refine hX 1 [0,2,3,4,5,15,31,50,51,57,59,61] [] [.own 20 bq 0] Tryz.func160 rfl hs ?_
   ((repeat' (conv=>whnf);first|(refine C2 (id:=0) (.pl [0,1,2,4,5,6,7,8,3,9] .e) (by kernel_rfl) ?_)|(refine C2 (id:=2) (.pl [0,1,2,4,5,6,3,7,8,9] .e) (by kernel_rfl) ?_)|(refine C2 (id:=6) (.pl [0,1,2,3,5,6] (.bp 4 7 (.on [8] (.pl [9,10] (.on [11] .e))))) (by kernel_rfl) ?_)|(refine Ar.fit (by omega) ?_)|(refine VC.mk (by (first|omega|(and_intros<;>first|omega|rfl|(simp only [maxLen];omega)|(simp only [lL];omega)))) ?_)|(refine Br.mk ?_ ?_<;>intro hb<;>(try (contradiction)))|(refine E5.mk ?_;intro b hb)|(refine aH.mk ?_;intro b c hb hbc)|(refine SR.same ?_)|(refine dD.mk ?_ ?_)|(refine A7 ?_ fun h1 hs=>hib h1)|(refine CK.qnum ⟨a+1,false,none,[]⟩ ⟨rfl,rfl,trivial⟩ 2 16 (.inl rfl) (by decide) ⟨by dsimp only;omega,by dsimp only;omega⟩ hz rfl e2 ?_)|(refine CK.qnum ⟨a+1,false,none,[]⟩ ⟨rfl,rfl,trivial⟩ 8 16 (.inl rfl) (by decide) ⟨by dsimp only;omega,by dsimp only;omega⟩ hz rfl e8 ?_)|(refine CK.qnum ⟨a+1,false,none,[]⟩ ⟨rfl,rfl,trivial⟩ 4 16 (.inl rfl) (by decide) ⟨by dsimp only;omega,by dsimp only;omega⟩ hz rfl e4 ?_)|(refine CK.qnum ⟨a,false,none,[]⟩ ⟨rfl,rfl,trivial⟩ 3 8 (.inr rfl) (by decide) ⟨by dsimp only;omega,by dsimp only;omega⟩ hz rfl e3 ?_)|(refine CK.qturn _ (gC _ _ _ _) _ _ 4 (fun h hs=>jA bq s mk _ _ _ h hs hx (by omega) (fun e=>by first|omega|exact Bool.noConfusion e) ho) ?_;intro x' g1 g2 g3 g4)|(refine CK.ren [20] (qC bq s mk ⟨a3,decide (255<v3),none,[]⟩) (F9 rfl (SC.box (by first|rfl|simp [A0,uR])) rfl E8) ?_)|fail);all_goals try conv=>whnf)
   all_goals (repeat (first|rw [if_pos (by assumption)] at hR|rw [if_neg (by assumption)] at hR));subst hR;first
    |(refine⟨fun h' hs=>I6.none hs rfl rfl ?_⟩;first|rfl|(simp [A0];done))
    |(refine⟨fun h' hs=>I6.own hs 47 rfl rfl rfl ?_ ?_ ?_⟩<;>first|rfl|(simp;done)|(simp;omega)|(simp [A0];done))
    |(refine⟨fun h' hs=>I6.own hs 77 rfl rfl rfl ?_ ?_ ?_⟩<;>first|rfl|(simp;done)|(simp;omega)|(simp [A0];done))
    |(refine⟨fun h' hs=>⟨x',rfl,g1,?_,g3,g4,hs⟩⟩;rw [g2];first|rfl|(simp;done))
  ·refine hX 1 [0,2,3,4,5,15,31,50,51,57,59,61] [] [.own 20 bq 0] Tryz.func160 rfl hs ?_
   ((repeat' (conv=>whnf);first|(refine C2 (id:=0) (.pl [0,1,2,4,5,6,7,8,3,9] .e) (by kernel_rfl) ?_)|(refine C2 (id:=2) (.pl [0,1,2,4,5,6,3,7,8,9] .e) (by kernel_rfl) ?_)|(refine C2 (id:=6) (.pl [0,1,2,3,5,6] (.bp 4 7 (.on [8] (.pl [9,10] (.on [11] .e))))) (by kernel_rfl) ?_)|(refine Ar.fit (by omega) ?_)|(refine VC.mk (by (first|omega|(and_intros<;>first|omega|rfl|(simp only [maxLen];omega)|(simp only [lL];omega)))) ?_)|(refine Br.mk ?_ ?_<;>intro hb<;>(try (contradiction)))|(refine E5.mk ?_;intro b hb)|(refine aH.mk ?_;intro b c hb hbc)|(refine SR.same ?_)|(refine dD.mk ?_ ?_)|(refine A7 ?_ fun h1 hs=>hib h1)|(refine CK.qnum ⟨a+1,false,none,[]⟩ ⟨rfl,rfl,trivial⟩ 2 16 (.inl rfl) (by decide) ⟨by dsimp only;omega,by dsimp only;omega⟩ hz rfl e2 ?_)|(refine CK.qnum ⟨a+1,false,none,[]⟩ ⟨rfl,rfl,trivial⟩ 8 16 (.inl rfl) (by decide) ⟨by dsimp only;omega,by dsimp only;omega⟩ hz rfl e8 ?_)|(refine CK.qnum ⟨a+1,false,none,[]⟩ ⟨rfl,rfl,trivial⟩ 4 16 (.inl rfl) (by decide) ⟨by dsimp only;omega,by dsimp only;omega⟩ hz rfl e4 ?_)|(refine CK.qnum ⟨a,false,none,[]⟩ ⟨rfl,rfl,trivial⟩ 3 8 (.inr rfl) (by decide) ⟨by dsimp only;omega,by dsimp only;omega⟩ hz rfl e3 ?_)|(refine CK.qturn _ (gC _ _ _ _) _ _ 4 (fun h hs=>jA bq s mk _ _ _ h hs hx (by omega) (fun e=>by first|omega|exact Bool.noConfusion e) ho) ?_;intro x' g1 g2 g3 g4)|fail);all_goals try conv=>whnf)
   all_goals (repeat (first|rw [if_pos (by assumption)] at hR|rw [if_neg (by assumption)] at hR));subst hR;first
    |(refine⟨fun h' hs=>I6.none hs rfl rfl ?_⟩;first|rfl|(simp [A0];done))
    |(refine⟨fun h' hs=>I6.own hs 47 rfl rfl rfl ?_ ?_ ?_⟩<;>first|rfl|(simp;done)|(simp;omega)|(simp [A0];done))
    |(refine⟨fun h' hs=>I6.own hs 77 rfl rfl rfl ?_ ?_ ?_⟩<;>first|rfl|(simp;done)|(simp;omega)|(simp [A0];done))
    |(refine⟨fun h' hs=>⟨x',rfl,g1,?_,g3,g4,hs⟩⟩;rw [g2];first|rfl|(simp;done))
 ·have hcap:out.length≤c:=by
   obtain⟨_,_,_,h1,_⟩:=(hs.chunk (21,b,.arr 5 (E9 .u8) out c) (by simp [qC,Ih])).2.2
   exact h1
  have hs:HS ⟨h,blks (qC bq s mk ⟨a,false,some (b,c),out⟩),[(20,bq,.box 161 [.val (.string s),.val (.int .i64 a),.val (.int .u8 mk),.osl 21 b out.length c,.val (.bool false)]),(21,b,.arr 5 (E9 .u8) out c)]⟩ h:=hs
  rcases f3 with _|_
  ·refine hX 1 [0,2,3,4,5,15,31,50,51,57,59,61] [] [.own 20 bq 0] Tryz.func160 rfl hs ?_
   ((repeat' (conv=>whnf);first|(refine C2 (id:=0) (.pl [0,1,2,4,5,6,7,8,3,9] .e) (by kernel_rfl) ?_)|(refine C2 (id:=2) (.pl [0,1,2,4,5,6,3,7,8,9] .e) (by kernel_rfl) ?_)|(refine C2 (id:=6) (.pl [0,1,2,3,5,6] (.bp 4 7 (.on [8] (.pl [9,10] (.on [11] .e))))) (by kernel_rfl) ?_)|(refine Ar.fit (by omega) ?_)|(refine VC.mk (by (first|omega|(and_intros<;>first|omega|rfl|(simp only [maxLen];omega)|(simp only [lL];omega)))) ?_)|(refine Br.mk ?_ ?_<;>intro hb)|(refine E5.mk ?_;intro b hb)|(refine X0.mk ?_;intro b c hb hbc)|(refine SR.same ?_)|(refine dD.mk ?_ ?_)|(refine A7 ?_ fun h1 hs=>hib h1)|(refine CK.qnum ⟨a+1,false,some (b,c),out⟩ ⟨rfl,rfl,rfl,rfl,trivial⟩ 2 16 (.inl rfl) (by decide) ⟨by dsimp only;omega,by dsimp only;omega⟩ hz rfl e2 ?_)|(refine CK.qnum ⟨a+1,false,some (b,c),out⟩ ⟨rfl,rfl,rfl,rfl,trivial⟩ 8 16 (.inl rfl) (by decide) ⟨by dsimp only;omega,by dsimp only;omega⟩ hz rfl e8 ?_)|(refine CK.qnum ⟨a+1,false,some (b,c),out⟩ ⟨rfl,rfl,rfl,rfl,trivial⟩ 4 16 (.inl rfl) (by decide) ⟨by dsimp only;omega,by dsimp only;omega⟩ hz rfl e4 ?_)|(refine CK.qnum ⟨a,false,some (b,c),out⟩ ⟨rfl,rfl,rfl,rfl,trivial⟩ 3 8 (.inr rfl) (by decide) ⟨by dsimp only;omega,by dsimp only;omega⟩ hz rfl e3 ?_)|(refine CK.qturn _ (gC _ _ _ _) _ _ 4 (fun h hs=>jA bq s mk _ _ _ h hs hx (by omega) (fun e=>by first|omega|exact Bool.noConfusion e) ho) ?_;intro x' g1 g2 g3 g4)|(refine CK.ren [20,21] (qC bq s mk ⟨a3,decide (255<v3),some (b,c),out⟩) (F9 rfl (SC.box (by first|rfl|simp [A0,uR])) rfl (B4 rfl rfl E8)) ?_)|fail);all_goals try conv=>whnf)
   all_goals (repeat (first|rw [if_pos (by assumption)] at hR|rw [if_neg (by assumption)] at hR));subst hR;first
    |(refine⟨fun h' hs=>I6.own hs 21 rfl rfl rfl (by first|rfl|simp) ?_ (by simp)⟩;first|rfl|(simp [A0];done))
    |(refine⟨fun h' hs=>I6.own hs 47 rfl rfl rfl ?_ ?_ ?_⟩<;>first|rfl|(simp;done)|(simp;omega)|(simp [A0];done))
    |(refine⟨fun h' hs=>I6.own hs 77 rfl rfl rfl ?_ ?_ ?_⟩<;>first|rfl|(simp;done)|(simp;omega)|(simp [A0];done))
    |(refine⟨fun h' hs=>⟨x',rfl,g1,?_,g3,g4,hs⟩⟩;rw [g2];first|rfl|(simp;done))
  ·refine hX 1 [0,2,3,4,5,15,31,50,51,57,59,61] [] [.own 20 bq 0] Tryz.func160 rfl hs ?_
   ((repeat' (conv=>whnf);first|(refine C2 (id:=0) (.pl [0,1,2,4,5,6,7,8,3,9] .e) (by kernel_rfl) ?_)|(refine C2 (id:=2) (.pl [0,1,2,4,5,6,3,7,8,9] .e) (by kernel_rfl) ?_)|(refine C2 (id:=6) (.pl [0,1,2,3,5,6] (.bp 4 7 (.on [8] (.pl [9,10] (.on [11] .e))))) (by kernel_rfl) ?_)|(refine Ar.fit (by omega) ?_)|(refine VC.mk (by (first|omega|(and_intros<;>first|omega|rfl|(simp only [maxLen];omega)|(simp only [lL];omega)))) ?_)|(refine Br.mk ?_ ?_<;>intro hb)|(refine E5.mk ?_;intro b hb)|(refine X0.mk ?_;intro b c hb hbc)|(refine SR.same ?_)|(refine dD.mk ?_ ?_)|(refine A7 ?_ fun h1 hs=>hib h1)|(refine CK.qnum ⟨a+1,false,some (b,c),out⟩ ⟨rfl,rfl,rfl,rfl,trivial⟩ 2 16 (.inl rfl) (by decide) ⟨by dsimp only;omega,by dsimp only;omega⟩ hz rfl e2 ?_)|(refine CK.qnum ⟨a+1,false,some (b,c),out⟩ ⟨rfl,rfl,rfl,rfl,trivial⟩ 8 16 (.inl rfl) (by decide) ⟨by dsimp only;omega,by dsimp only;omega⟩ hz rfl e8 ?_)|(refine CK.qnum ⟨a+1,false,some (b,c),out⟩ ⟨rfl,rfl,rfl,rfl,trivial⟩ 4 16 (.inl rfl) (by decide) ⟨by dsimp only;omega,by dsimp only;omega⟩ hz rfl e4 ?_)|(refine CK.qnum ⟨a,false,some (b,c),out⟩ ⟨rfl,rfl,rfl,rfl,trivial⟩ 3 8 (.inr rfl) (by decide) ⟨by dsimp only;omega,by dsimp only;omega⟩ hz rfl e3 ?_)|(refine CK.qturn _ (gC _ _ _ _) _ _ 4 (fun h hs=>jA bq s mk _ _ _ h hs hx (by omega) (fun e=>by first|omega|exact Bool.noConfusion e) ho) ?_;intro x' g1 g2 g3 g4)|fail);all_goals try conv=>whnf)
   all_goals (repeat (first|rw [if_pos (by assumption)] at hR|rw [if_neg (by assumption)] at hR));subst hR;first
    |(refine⟨fun h' hs=>I6.own hs 21 rfl rfl rfl (by first|rfl|simp) ?_ (by simp)⟩;first|rfl|(simp [A0];done))
    |(refine⟨fun h' hs=>I6.own hs 47 rfl rfl rfl ?_ ?_ ?_⟩<;>first|rfl|(simp;done)|(simp;omega)|(simp [A0];done))
    |(refine⟨fun h' hs=>I6.own hs 77 rfl rfl rfl ?_ ?_ ?_⟩<;>first|rfl|(simp;done)|(simp;omega)|(simp [A0];done))
    |(refine⟨fun h' hs=>⟨x',rfl,g1,?_,g3,g4,hs⟩⟩;rw [g2];first|rfl|(simp;done))
end Go.Ex
namespace Go.Ex
open Go.Proofs
attribute [local irreducible] CH
theorem Zp(s:ByteArray)(p:Nat)(hp:p<s.size):p+(Utf8.decode s p).2≤s.size:=by
 unfold Utf8.decode
 dsimp only
 repeat' split
 all_goals simp_all
 all_goals omega
theorem sG(s:ByteArray)(a:Int)(ha:0≤a∧a≤s.size):0≤(C9 s a).2∧a+(C9 s a).2≤s.size:=by
 unfold C9
 split
 ·exact⟨Int.le_refl _,by dsimp only;omega⟩
 ·split
  ·exact⟨Int.le_refl _,by dsimp only;omega⟩
  ·have:=Zp s a.toNat (by omega)
   refine⟨by dsimp only;omega,by dsimp only;omega⟩
def X5(s:ByteArray)(mk a:Int):Int:=if mk=39 then (C9 s a).2 else 1
def gE(s:ByteArray)(mk a:Int):Int×Bool:=(a+X5 s mk a,decide (X5 s mk a=0∨A4 s a=10))
theorem kI(s:ByteArray)(mk a:Int)(ha:0≤a∧a<s.size):0≤X5 s mk a∧a+X5 s mk a≤s.size:=by
 unfold X5
 split
 ·exact sG s a (by omega)
 ·omega
theorem Dh(bq:Nat)(s:ByteArray)(mk:Int)(x:QS)(h:A3)(ht:D2 h)(hcp:∀ c∈blks (qC bq s mk x),3≤c)(hs:HS ⟨h,blks (qC bq s mk x),qC bq s mk x⟩ h)(hx:x.o=none→x.out=[])(hbad:x.bad=false)(ha:0≤x.at_∧x.at_<s.size)(hz:s.size≤1048576)(ho:x.out.length≤8000000) :
 CH Tryz.prog 161 #[.pointer (some ⟨bq,0,none⟩)] h (I6 bq s mk (gE s mk x.at_).1 (gE s mk x.at_).2 x (X5 s mk x.at_).toNat h):=by
 obtain⟨a,bad,o,out⟩:=x
 dsimp only at hx hbad ha ho ⊢
 subst hbad
 have hw:=kI s mk a ha
 obtain⟨n,hn⟩:∃ n,X5 s mk a=n:=⟨_,rfl⟩
 unfold gE
 rw [hn] at hw ⊢
 unfold X5 at hn
 have hrd:=fun h1 (ht:D2 h1)=>sB s a h1 ht (by omega)
 generalize C9 s a=rd at hn hrd
 obtain⟨r1,r2⟩:=rd
 dsimp only at hn hrd
 rcases o with _|⟨b,c⟩
 ·have hx:=hx rfl
  subst hx
  have hs:HS ⟨h,blks (qC bq s mk ⟨a,false,none,[]⟩),[(20,bq,.box 161 [.val (.string s),.val (.int .i64 a),.val (.int .u8 mk),.val (.slice none 0 0),.val (.bool false)])]⟩ h:=hs
  by_cases hm:mk=39
  ·subst hm
   rw [if_pos rfl] at hn
   subst hn
   refine hX 1 [0,2,7] [] [.own 20 bq 0] Tryz.func161 rfl hs ?_
   ((repeat' (conv=>whnf);first|(refine C2 (id:=3) (.pl [0,1,2,3,4,5,6,7,8,9,10,11,12,14,15,16,13,17,18,19,20,21,22] (.on [23] .e)) (by kernel_rfl) ?_)|(refine C2 (id:=4) (.pl [0,1,2,3,5,6,7,9,10,11,13,14,15,17,16,18,4,8,12,19] (.on [20] (.pl [21,22] (.on [23] .e)))) (by kernel_rfl) ?_)|(refine Ar.fit (by omega) ?_)|(refine VC.mk (by (first|omega|(and_intros<;>first|(simp only [ByteArray.size_extract,ByteArray.size_append];omega)))) ?_)|(refine Br.mk ?_ ?_<;>intro hb<;>(try omega))|(refine aH.mk ?_;intro b c hb hbc)|(apply V9.pure;case hh=>intro h1 hs;exact hrd h1 (ht.hs hcp hs))|(refine (drawn tO mixed (by kernel_rfl) ?_))|fail);all_goals try conv=>whnf)
   all_goals first
    |(refine⟨fun h' hs=>I6.none hs rfl rfl ?_⟩;(first|rfl|(simp [A0, *];done)|(simp_all [A0];done)))
    |(refine⟨fun h' hs=>I6.own hs 63 rfl rfl rfl ?_ ?_ ?_⟩<;>first|rfl|(simp [H1];done)|(simp only [List.length_append,List.length_take,H1,ByteArray.size_extract];omega)|(simp [A0, *];done)|(simp_all [A0];done))
  ·rw [if_neg hm] at hn
   subst hn
   refine hX 1 [0,2,7] [] [.own 20 bq 0] Tryz.func161 rfl hs ?_
   ((repeat' (conv=>whnf);first|(refine C2 (id:=3) (.pl [0,1,2,3,4,5,6,7,8,9,10,11,12,14,15,16,13,17,18,19,20,21,22] (.on [23] .e)) (by kernel_rfl) ?_)|(refine C2 (id:=4) (.pl [0,1,2,3,5,6,7,9,10,11,13,14,15,17,16,18,4,8,12,19] (.on [20] (.pl [21,22] (.on [23] .e)))) (by kernel_rfl) ?_)|(refine Ar.fit (by omega) ?_)|(refine VC.mk (by (first|omega|(and_intros<;>first|(simp only [ByteArray.size_extract,ByteArray.size_append];omega)))) ?_)|(refine Br.mk ?_ ?_<;>intro hb<;>(try omega))|(refine aH.mk ?_;intro b c hb hbc)|fail);all_goals try conv=>whnf)
   all_goals first
    |(refine⟨fun h' hs=>I6.none hs rfl rfl ?_⟩;(first|rfl|(simp [A0, *];done)|(simp_all [A0];done)))
    |(refine⟨fun h' hs=>I6.own hs 63 rfl rfl rfl ?_ ?_ ?_⟩<;>first|rfl|(simp [H1];done)|(simp only [List.length_append,List.length_take,H1,ByteArray.size_extract];omega)|(simp [A0, *];done)|(simp_all [A0];done))
 ·have hcap:out.length≤c:=by
   obtain⟨_,_,_,h1,_⟩:=(hs.chunk (21,b,.arr 5 (E9 .u8) out c) (by simp [qC,Ih])).2.2
   exact h1
  have hs:HS ⟨h,blks (qC bq s mk ⟨a,false,some (b,c),out⟩),[(20,bq,.box 161 [.val (.string s),.val (.int .i64 a),.val (.int .u8 mk),.osl 21 b out.length c,.val (.bool false)]),(21,b,.arr 5 (E9 .u8) out c)]⟩ h:=hs
  by_cases hm:mk=39
  ·subst hm
   rw [if_pos rfl] at hn
   subst hn
   refine hX 1 [0,2,7] [] [.own 20 bq 0] Tryz.func161 rfl hs ?_
   ((repeat' (conv=>whnf);first|(refine C2 (id:=3) (.pl [0,1,2,3,4,5,6,7,8,9,10,11,12,14,15,16,13,17,18,19,20,21,22] (.on [23] .e)) (by kernel_rfl) ?_)|(refine C2 (id:=4) (.pl [0,1,2,3,5,6,7,9,10,11,13,14,15,17,16,18,4,8,12,19] (.on [20] (.pl [21,22] (.on [23] .e)))) (by kernel_rfl) ?_)|(refine Ar.fit (by omega) ?_)|(refine VC.mk (by (first|omega|(and_intros<;>first|omega|(simp only [ByteArray.size_extract,ByteArray.size_append];omega)))) ?_)|(refine Br.mk ?_ ?_<;>intro hb<;>(try omega))|(refine X0.mk ?_;intro b c hb hbc)|(refine SR.same ?_)|(apply V9.pure;case hh=>intro h1 hs;exact hrd h1 (ht.hs hcp hs))|(refine (drawn tO mixed (by kernel_rfl) ?_))|fail);all_goals try conv=>whnf)
   all_goals first
    |(refine⟨fun h' hs=>I6.own hs 21 rfl rfl rfl (by first|rfl|simp) ?_ (by simp)⟩;(first|rfl|(simp [A0, *];done)|(simp_all [A0];done)))
    |(refine⟨fun h' hs=>I6.own hs 63 rfl rfl rfl ?_ ?_ ?_⟩<;>first|rfl|(simp [H1];done)|(simp only [List.length_append,List.length_take,H1,ByteArray.size_extract];omega)|(simp [A0, *];done)|(simp_all [A0];done))
  ·rw [if_neg hm] at hn
   subst hn
   refine hX 1 [0,2,7] [] [.own 20 bq 0] Tryz.func161 rfl hs ?_
   ((repeat' (conv=>whnf);first|(refine C2 (id:=3) (.pl [0,1,2,3,4,5,6,7,8,9,10,11,12,14,15,16,13,17,18,19,20,21,22] (.on [23] .e)) (by kernel_rfl) ?_)|(refine C2 (id:=4) (.pl [0,1,2,3,5,6,7,9,10,11,13,14,15,17,16,18,4,8,12,19] (.on [20] (.pl [21,22] (.on [23] .e)))) (by kernel_rfl) ?_)|(refine Ar.fit (by omega) ?_)|(refine VC.mk (by (first|omega|(and_intros<;>first|omega|(simp only [ByteArray.size_extract,ByteArray.size_append];omega)))) ?_)|(refine Br.mk ?_ ?_<;>intro hb<;>(try omega))|(refine X0.mk ?_;intro b c hb hbc)|(refine SR.same ?_)|fail);all_goals try conv=>whnf)
   all_goals first
    |(refine⟨fun h' hs=>I6.own hs 21 rfl rfl rfl (by first|rfl|simp) ?_ (by simp)⟩;(first|rfl|(simp [A0, *];done)|(simp_all [A0];done)))
    |(refine⟨fun h' hs=>I6.own hs 63 rfl rfl rfl ?_ ?_ ?_⟩<;>first|rfl|(simp [H1];done)|(simp only [List.length_append,List.length_take,H1,ByteArray.size_extract];omega)|(simp [A0, *];done)|(simp_all [A0];done))
end Go.Ex
namespace Go.Ex
open Go.Proofs
attribute [local irreducible] CH
section
variable {E:Value→A3→Prop}{S:St}{κ:KV→St→Prop}{bq:Nat}{s:ByteArray}{mk:Int}
theorem CK.qturn2(x:QS)(hc:X1 S.ch (qC bq s mk x)){f:Nat}{args:List KV}(a':Int)(bad':Bool)(k:Nat)(hh:∀ h,HS S h→HS ⟨h,blks (qC bq s mk x),qC bq s mk x⟩ h→CH Tryz.prog f (args.map A1).toArray h (I6 bq s mk a' bad' x k h))
 (hk:∀ x':QS,x'.at_=a'→x'.bad=bad'→x'.out.length≤x.out.length+k→(x'.o=none→x'.out=[])→κ (.tup []) ⟨S.h0,S.cap,qC bq s mk x'⟩):CK Tryz.prog E f args [] S κ:=by
 refine CK.mut (qC bq s mk x) [] (fun kv q'=>∃ x':QS,kv = .tup []∧q'=qC bq s mk x'∧x'.at_=a'∧x'.bad=bad'∧x'.out.length≤x.out.length+k∧(x'.o=none→x'.out=[])) (by rw [List.append_nil];exact hc) (fun h hS hs=>?_) ?_
 ·rw [show args.map A1++([]:List KV).map A0=args.map A1 by simp]
  refine (hh h hS hs).mono fun u h' ⟨x',a1,a2,a3,a4,a5,a6⟩=>⟨.tup [],_,a1.symm,a6,x',rfl,rfl,a2,a3,a4,a5⟩
 ·rintro kv q' ⟨x',rfl,rfl,h1,h2,h3,h4⟩
  rw [List.append_nil]
  exact hk x' h1 h2 h3 h4
theorem D2.hcp{h:A3}(ht:D2 S.h0)(hcap:∀ c∈S.cap,3≤c){x:QS}(hc:X1 S.ch (qC bq s mk x))(hS:HS S h):∀ c∈blks (qC bq s mk x),3≤c:=fun c hm=>by
 obtain⟨e,he,rfl⟩:=oH hm
 have:=(hS.chunk e (hc.mem e he)).2.1
 have hz:=ht.size
 rcases this with h1|h1
 ·omega
 ·exact hcap _ h1
end
theorem Be(s:ByteArray)(mk a:Int)(ha:0≤a∧a≤s.size):a≤(gK s mk a).1∧(gK s mk a).1≤s.size:=by
 unfold gK
 have n2:=Z9 s 16 (.inl rfl) 2 (a+1) 0 1
 have n8:=Z9 s 16 (.inl rfl) 8 (a+1) 0 1
 have n4:=Z9 s 16 (.inl rfl) 4 (a+1) 0 1
 have n3:=Z9 s 8 (.inr rfl) 3 a 0 1 ha (Int.le_refl _) (by decide)
 repeat' split
 all_goals first
  |(dsimp only;omega)
  |(have n:=n2 (by omega) (by omega) (by omega);dsimp only;omega)
  |(have n:=n8 (by omega) (by omega) (by omega);dsimp only;omega)
  |(have n:=n4 (by omega) (by omega) (by omega);dsimp only;omega)
def L5(s:ByteArray)(mk a:Int):Int×Bool:=if A4 s a=92 then gK s mk (a+1) else gE s mk a
theorem V0(s:ByteArray)(mk a:Int)(ha:0≤a∧a<s.size):(a≤(L5 s mk a).1∧(L5 s mk a).1≤s.size)∧((L5 s mk a).2=false→a+1≤(L5 s mk a).1):=by
 unfold L5
 split
 ·have:=Be s mk (a+1) (by omega)
  exact⟨by omega,fun _=>by omega⟩
 ·have:=kI s mk a ha
  unfold gE
  refine⟨by dsimp only;omega,fun h=>?_⟩
  simp only [decide_eq_false_iff_not,not_or] at h
  dsimp only
  omega
def N6(s:ByteArray)(mk:Int):Nat→Int→Int→Option Int
 |0,_,_=>none
 |f+1,it,a=>if s.size≤a then none else if A4 s a=mk then (if mk=34∨it=1 then some (a+1) else none) else if mk=39∧it=1 then none else
  if (L5 s mk a).2=true then none else N6 s mk f (it+1) (L5 s mk a).1
def bE(s:ByteArray)(a:Int):Option Int:=N6 s (A4 s a) (s.size+2) 0 (a+1)
structure LQ where
 x:QS
 it:Int
theorem Un(bq:Nat)(s:ByteArray)(a:Int)(h:A3)(ht:D2 h)(h3:3≤bq)(hs:HS ⟨h,[bq],[(20,bq,qB s 0 a (.val (.slice none 0 0)) false)]⟩ h)(ha:0≤a∧a<s.size)(hz:s.size≤1048576) :
 CH Tryz.prog 124 #[.pointer (some ⟨bq,0,none⟩)] h fun v h'=>∃ x:QS,v = .bool (bE s a).isSome∧(∀ e,bE s a=some e→x.at_=e)∧x.out.length≤4*1048576∧(x.o=none→x.out=[])∧HS ⟨h,[bq],qC bq s (A4 s a) x⟩ h':=by
 obtain⟨mk,hmk⟩:∃ mk,A4 s a=mk:=⟨_,rfl⟩
 obtain⟨R,hR⟩:∃ R,bE s a=R:=⟨_,rfl⟩
 rw [hR]
 unfold bE at hR
 rw [hmk] at hR ⊢
 refine hX 1 [0,2,3,4,40,57,82,84] [] [.own 20 bq 0] Tryz.func124 rfl hs ?_
 ((repeat' (conv=>whnf);first|(refine C2 (id:=1) (.pl [0,1,2,3,5,6,7,4,8,9,10,11] (.on [12] .e)) (by kernel_rfl) ?_)|(refine Ar.fit (by omega) ?_)|(refine VC.mk (by omega) ?_)|fail);all_goals try conv=>whnf)
 rw [hmk]
 refine N1 tO [3] (fun x:LQ=>[(3,.val (.int .i64 x.it))]) (fun x=>qC bq s mk x.x) (fun μ x=>(x.x.bad=false→N6 s mk μ x.it x.x.at_=R∧s.size+1≤x.x.at_+μ )∧(x.x.bad=true→R=none)∧(0≤x.x.at_∧x.x.at_≤s.size)∧x.x.out.length≤4*x.x.at_∧(x.x.o=none→x.x.out=[])∧(0≤x.it∧x.it+μ≤s.size+2)) (s.size+2) ⟨⟨a+1,false,none,[]⟩,0⟩ ?_
 conv=>whnf
 refine⟨by ((repeat (refine⟨rfl,?_⟩));trivial),⟨rfl,rfl,trivial⟩,⟨fun _=>⟨hR,by dsimp only;omega⟩,(fun e=>by cases e),⟨by dsimp only;omega,by dsimp only;omega⟩,(by dsimp only [List.length_nil];omega),(fun _=>rfl),by dsimp only;omega⟩,?_⟩
 clear hR
 rintro μ ⟨⟨p,bad,o,out⟩,it⟩ ⟨t1,t2,t3,t4,t5,t6⟩
 dsimp only at t1 t2 t3 t4 t5 t6 ⊢
 have hrt:=V0 s mk p
 rcases bad with _|_
 ·obtain⟨t1,t7⟩:=t1 rfl
  clear t2
  obtain⟨f,rfl⟩:∃ f,μ=f+1:=⟨μ-1,by omega⟩
  simp only [N6] at t1
  have hcap:∀ c∈(⟨h,[bq],qC bq s mk ⟨p,false,o,out⟩⟩:St).cap,3≤c:=fun c hc=>by rw [List.mem_singleton.1 hc];exact h3
  have hcap':∀ c∈[bq],3≤c:=hcap
  by_cases hp:p<s.size
  ·rw [if_neg (by omega)] at t1
   replace hrt:=hrt ⟨t3.1,hp⟩
   by_cases h92:A4 s p=92
   ·have hi:L5 s mk p=gK s mk (p+1):=by rw [L5,if_pos h92]
    rw [hi] at hrt t1
    have hes:=Be s mk (p+1) (by omega)
    ((repeat' (conv=>whnf);first|(refine C2 (id:=4) (.pl [0,1,2,4,5,6,7,8,3,9,10,11,12,13,14,15,16] .e) (by kernel_rfl) ?_)|(refine C2 (id:=6) (.pl [0,1,2,4,5,6,3,7,8,9] .e) (by kernel_rfl) ?_)|(refine Ar.fit (by first|omega|(simp only [lo,hi];omega)) ?_)|(refine VC.mk (by (first|omega|(and_intros<;>first|omega|(simp only [maxLen];omega)))) ?_)|(refine Br.mk ?_ ?_<;>intro hb<;>(try (contradiction)))|(refine CK.qturn2 ⟨p+1,false,o,out⟩ (gC bq s mk ⟨p+1,false,o,out⟩) _ _ 4 (fun h hS hs=>Js bq s mk _ h hs t5 rfl ⟨by dsimp only;omega,by dsimp only;omega⟩ hz (by dsimp only;omega)) ?_;intro x' g1 g2 g3 g4)|fail);all_goals try conv=>whnf)
    all_goals first
     | (repeat (first|rw [if_pos (by assumption)] at t1|rw [if_neg (by assumption)] at t1)
        subst t1
        refine⟨fun h' hs=>⟨⟨p+1,false,o,out⟩,?_,?_,by dsimp only;omega,t5,hs⟩⟩
        ·first|rfl|(simp [B0,A1,A0, *];done)|(split<;>simp_all [B0,A1,A0])
        ·intro e he;first|(cases he;rfl)|cases he|(split at he<;>first|(cases he;rfl)|cases he))
     | (repeat (first|rw [if_pos (by assumption)] at t1|rw [if_neg (by assumption)] at t1)
        rw [if_pos ⟨by assumption,by assumption⟩] at t1
        subst t1
        refine⟨fun h' hs=>⟨⟨p,false,o,out⟩,rfl,?_,by dsimp only;omega,t5,hs⟩⟩
        intro e he;cases he)
     | (dsimp only at g1 g2 g3 g4
        rw [if_neg (by assumption),if_neg (by omega)] at t1
        refine⟨f,⟨x',it+1⟩,⟨fun e=>?_,fun e=>?_,⟨?_,?_⟩,?_,g4,?_⟩,Nat.lt_succ_self f,by ((repeat (refine⟨rfl,?_⟩));trivial),rfl,rfl,gC _ _ _ _⟩
        ·have e:x'.bad=false:=e
         rw [e] at g2
         rw [if_neg (by rw [←g2];decide)] at t1
         have:=hrt.2 g2.symm
         dsimp only
         refine⟨by rw [g1];exact t1,by rw [g1];omega⟩
        ·have e:x'.bad=true:=e
         rw [e] at g2
         rw [if_pos g2.symm] at t1
         exact t1.symm
        ·dsimp only;rw [g1];omega
        ·dsimp only;rw [g1];omega
        ·dsimp only;rw [g1];omega
        ·dsimp only;omega)
   ·have hi:L5 s mk p=gE s mk p:=by rw [L5,if_neg h92]
    rw [hi] at hrt t1
    have hpw:=kI s mk p ⟨t3.1,hp⟩
    have hpe:(gE s mk p).1=p+X5 s mk p:=rfl
    ((repeat' (conv=>whnf);first|(refine C2 (id:=4) (.pl [0,1,2,4,5,6,7,8,3,9,10,11,12,13,14,15,16] .e) (by kernel_rfl) ?_)|(refine C2 (id:=6) (.pl [0,1,2,4,5,6,3,7,8,9] .e) (by kernel_rfl) ?_)|(refine Ar.fit (by first|omega|(simp only [lo,hi];omega)) ?_)|(refine VC.mk (by (first|omega|(and_intros<;>first|omega|(simp only [maxLen];omega)))) ?_)|(refine Br.mk ?_ ?_<;>intro hb<;>(try (contradiction)))|(refine CK.qturn2 ⟨p,false,o,out⟩ (gC bq s mk ⟨p,false,o,out⟩) _ _ _ (fun h hS hs=>Dh bq s mk _ h (ht.hs hcap' hS) (D2.hcp ht hcap' (gC bq s mk ⟨p,false,o,out⟩) hS) hs t5 rfl ⟨by dsimp only;omega,by dsimp only;omega⟩ hz (by dsimp only;omega)) ?_;intro x' g1 g2 g3 g4)|fail);all_goals try conv=>whnf)
    all_goals first
     | (repeat (first|rw [if_pos (by assumption)] at t1|rw [if_neg (by assumption)] at t1)
        subst t1
        refine⟨fun h' hs=>⟨⟨p+1,false,o,out⟩,?_,?_,by dsimp only;omega,t5,hs⟩⟩
        ·first|rfl|(simp [B0,A1,A0, *];done)|(split<;>simp_all [B0,A1,A0])
        ·intro e he;first|(cases he;rfl)|cases he|(split at he<;>first|(cases he;rfl)|cases he))
     | (repeat (first|rw [if_pos (by assumption)] at t1|rw [if_neg (by assumption)] at t1)
        rw [if_pos ⟨by assumption,by assumption⟩] at t1
        subst t1
        refine⟨fun h' hs=>⟨⟨p,false,o,out⟩,rfl,?_,by dsimp only;omega,t5,hs⟩⟩
        intro e he;cases he)
     | (dsimp only at g1 g2 g3 g4
        rw [if_neg (by assumption),if_neg (by omega)] at t1
        refine⟨f,⟨x',it+1⟩,⟨fun e=>?_,fun e=>?_,⟨?_,?_⟩,?_,g4,?_⟩,Nat.lt_succ_self f,by ((repeat (refine⟨rfl,?_⟩));trivial),rfl,rfl,gC _ _ _ _⟩
        ·have e:x'.bad=false:=e
         rw [e] at g2
         rw [if_neg (by rw [←g2];decide)] at t1
         have:=hrt.2 g2.symm
         dsimp only
         refine⟨by rw [g1];exact t1,by rw [g1];omega⟩
        ·have e:x'.bad=true:=e
         rw [e] at g2
         rw [if_pos g2.symm] at t1
         exact t1.symm
        ·dsimp only;rw [g1];omega
        ·dsimp only;rw [g1];omega
        ·dsimp only;rw [g1];omega
        ·dsimp only;omega)
  ·rw [if_pos (by omega)] at t1
   subst t1
   ((repeat' (conv=>whnf);first|(refine C2 (id:=4) (.pl [0,1,2,4,5,6,7,8,3,9,10,11,12,13,14,15,16] .e) (by kernel_rfl) ?_)|(refine VC.mk (by omega) ?_)|(refine Br.mk ?_ ?_<;>intro hb<;>(try (contradiction)))|fail);all_goals try conv=>whnf)
   all_goals exact⟨fun h' hs=>⟨⟨p,false,o,out⟩,rfl,fun e he=>(by cases he),by dsimp only;omega,t5,hs⟩⟩
 ·have t2:=t2 rfl
  subst t2
  ((repeat' (conv=>whnf);first|(refine C2 (id:=4) (.pl [0,1,2,4,5,6,7,8,3,9,10,11,12,13,14,15,16] .e) (by kernel_rfl) ?_)|(refine VC.mk (by omega) ?_)|(refine Br.mk ?_ ?_<;>intro hb)|fail);all_goals try conv=>whnf)
  all_goals exact⟨fun h' hs=>⟨⟨p,true,o,out⟩,rfl,fun e he=>(by cases he),by dsimp only;omega,t5,hs⟩⟩
end Go.Ex
