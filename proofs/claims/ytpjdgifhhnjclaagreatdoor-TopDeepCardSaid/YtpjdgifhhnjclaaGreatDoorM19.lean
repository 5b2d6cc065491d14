/-
  Top: TopDeep: whatever the input, the law answers true (part 19)
-/
import Derived.Test.YtpjdgifhhnjclaaGreatDoorM18
set_option linter.unusedVariables false
set_option linter.unusedSimpArgs false
set_option maxHeartbeats 4000000
set_option maxRecDepth 10000
namespace Go.Ex
open Go.Proofs
attribute [local irreducible] CH
theorem decode_le(s:ByteArray)(p:Nat)(hp:p<s.size):p+(Utf8.decode s p).2≤s.size:=by
 unfold Utf8.decode
 dsimp only
 repeat' split
 all_goals simp_all
 all_goals omega
theorem readF_le(s:ByteArray)(a:Int)(ha:0≤a∧a≤s.size):0≤(readF s a).2∧a+(readF s a).2≤s.size:=by
 unfold readF
 split
 ·exact⟨Int.le_refl _,by dsimp only;omega⟩
 ·split
  ·exact⟨Int.le_refl _,by dsimp only;omega⟩
  ·have:=decode_le s a.toNat (by omega)
   refine⟨by dsimp only;omega,by dsimp only;omega⟩
def plainW(s:ByteArray)(mk a:Int):Int:=if mk=39 then (readF s a).2 else 1
def plainS(s:ByteArray)(mk a:Int):Int×Bool:=(a+plainW s mk a,decide (plainW s mk a=0∨byteI s a=10))
theorem plainW_rng(s:ByteArray)(mk a:Int)(ha:0≤a∧a<s.size):0≤plainW s mk a∧a+plainW s mk a≤s.size:=by
 unfold plainW
 split
 ·exact readF_le s a (by omega)
 ·omega
theorem qplain_any(bq:Nat)(s:ByteArray)(mk:Int)(x:QS)(h:Heap)(ht:TabsH h)(hcp:∀ c∈blks (qC bq s mk x),3≤c)(hs:HS ⟨h,blks (qC bq s mk x),qC bq s mk x⟩ h)(hx:x.o=none→x.out=[])(hbad:x.bad=false)(ha:0≤x.at_∧x.at_<s.size)(hz:s.size≤1048576)(ho:x.out.length≤8000000) :
 CH Tryz.prog 161 #[.pointer (some ⟨bq,0,none⟩)] h (QPost bq s mk (plainS s mk x.at_).1 (plainS s mk x.at_).2 x (plainW s mk x.at_).toNat h):=by
 obtain⟨a,bad,o,out⟩:=x
 dsimp only at hx hbad ha ho ⊢
 subst hbad
 have hw:=plainW_rng s mk a ha
 obtain⟨n,hn⟩:∃ n,plainW s mk a=n:=⟨_,rfl⟩
 unfold plainS
 rw [hn] at hw ⊢
 unfold plainW at hn
 have hrd:=fun h1 (ht:TabsH h1)=>read_any s a h1 ht (by omega)
 generalize readF s a=rd at hn hrd
 obtain⟨r1,r2⟩:=rd
 dsimp only at hn hrd
 rcases o with _|⟨b,c⟩
 ·have hx:=hx rfl
  subst hx
  have hs:HS ⟨h,blks (qC bq s mk ⟨a,false,none,[]⟩),[(20,bq,.box 161 [.val (.string s),.val (.int .i64 a),.val (.int .u8 mk),.val (.slice none 0 0),.val (.bool false)])]⟩ h:=hs
  by_cases hm:mk=39
  ·subst hm
   rw [if_pos rfl] at hn
   subst hn
   refine eIn (rep:=rep) (m:=1) (ex:=[0,2,7]) (cu:=[]) (args:=[.own 20 bq 0]) tO Tryz.func161 rfl (by decide) (rs:=[]) rfl rfl rfl hs ?_
   ((repeat' ((conv=>whnf);(first|(refine dW (id:=3) tO mixed (.pull 0 [21,22,23] (.pull 1 [2,3,4,5,6,7,8,9,10,11,12,13,14,15,16,17,18,19,20,21,22,23] (.pull 2 [3,4,5,6,7,8,9,10,11,12,13,14,15,16,17,18,19,20,21,22,23] (.pull 3 [4,5,6,7,8,9,10,11,12,13,14,15,16,17,18,19,20,21,22,23] (.pull 4 [5,6,7,8,9,10,11,12,13,14,15,16,17,18,19,20,21,22,23] (.pull 5 [6,7,8,9,10,11,12,13,14,15,16,17,18,19,20,21,22,23] (.pull 6 [7,8,9,10,11,12,13,14,15,16,17,18,19,20,21,22,23] (.pull 7 [8,9,10,11,12,13,14,15,16,17,18,19,20,21,22,23] (.pull 8 [9,10,11,12,13,14,15,16,17,18,19,20,21,22,23] (.pull 9 [10,11,12,13,14,15,16,17,18,19,20,21,22,23] (.pull 10 [11,12,13,18,19,20,21,22,23] (.pull 11 [12,13,18,19,20,21,22,23] (.pull 12 [13,18,19,20,21,22,23] (.pull 14 [15,16,17,18,19,20,21,22,23] (.pull 15 [16,17,18,19,20,21,22,23] (.pull 16 [17,18,19,20,21,22,23] (.pull 13 [18,19,20,21,22,23] (.pull 17 [18,19,20,21,22,23] (.pull 18 [19,20,21,22,23] (.pull 19 [20,21,22,23] (.pull 20 [21,22,23] (.pull 21 [22,23] (.pull 22 [23] (.one 23 .done)))))))))))))))))))))))) (by kernel_rfl) (by kernel_rfl) ?_)|(refine dW (id:=4) tO mixed (.pull 0 [21,22,23] (.pull 1 [2,3,4,20,21,22,23] (.pull 2 [3,4,20,21,22,23] (.pull 3 [4,20,21,22,23] (.pull 5 [6,7,8,19,20,21,22,23] (.pull 6 [7,8,19,20,21,22,23] (.pull 7 [8,19,20,21,22,23] (.pull 9 [10,11,12,19,20,21,22,23] (.pull 10 [11,12,19,20,21,22,23] (.pull 11 [12,19,20,21,22,23] (.pull 13 [14,15,16,18,19,20,21,22,23] (.pull 14 [15,16,18,19,20,21,22,23] (.pull 15 [16,18,19,20,21,22,23] (.pull 17 [18,19,20,21,22,23] (.pull 16 [18,19,20,21,22,23] (.pull 18 [19,20,21,22,23] (.pull 4 [20,21,22,23] (.pull 8 [19,20,21,22,23] (.pull 12 [19,20,21,22,23] (.pull 19 [20,21,22,23] (.one 20 (.pull 21 [22,23] (.pull 22 [23] (.one 23 .done)))))))))))))))))))))))) (by kernel_rfl) (by kernel_rfl) ?_)|(refine Ar.fit (by omega) ?_)|(refine VC.mk (by (first|omega|(and_intros<;>first|(simp only [ByteArray.size_extract,ByteArray.size_append];omega)))) ?_)|(refine Br.mk ?_ ?_<;>intro hb<;>(try (exfalso;omega)))|(refine New2.mk ?_;intro b c hb hbc)|(apply CallQ.pure;(case hh=>(intro h1 hs;exact hrd h1 (ht.hs hcp hs))))|(refine (drawn tO mixed (by kernel_rfl) ?_))|fail)));all_goals (try (conv=>whnf)))
   all_goals first
    |(refine⟨fun h' hs=>QPost.none hs rfl rfl ?_⟩;(first|rfl|(simp [denC, *];done)|(simp_all [denC];done)))
    |(refine⟨fun h' hs=>QPost.own hs 63 rfl rfl rfl ?_ ?_ ?_⟩<;>first|rfl|(simp [byl_len];done)|(simp only [List.length_append,List.length_take,byl_len,ByteArray.size_extract];omega)|(simp [denC, *];done)|(simp_all [denC];done))
  ·rw [if_neg hm] at hn
   subst hn
   refine eIn (rep:=rep) (m:=1) (ex:=[0,2,7]) (cu:=[]) (args:=[.own 20 bq 0]) tO Tryz.func161 rfl (by decide) (rs:=[]) rfl rfl rfl hs ?_
   ((repeat' ((conv=>whnf);(first|(refine dW (id:=3) tO mixed (.pull 0 [21,22,23] (.pull 1 [2,3,4,5,6,7,8,9,10,11,12,13,14,15,16,17,18,19,20,21,22,23] (.pull 2 [3,4,5,6,7,8,9,10,11,12,13,14,15,16,17,18,19,20,21,22,23] (.pull 3 [4,5,6,7,8,9,10,11,12,13,14,15,16,17,18,19,20,21,22,23] (.pull 4 [5,6,7,8,9,10,11,12,13,14,15,16,17,18,19,20,21,22,23] (.pull 5 [6,7,8,9,10,11,12,13,14,15,16,17,18,19,20,21,22,23] (.pull 6 [7,8,9,10,11,12,13,14,15,16,17,18,19,20,21,22,23] (.pull 7 [8,9,10,11,12,13,14,15,16,17,18,19,20,21,22,23] (.pull 8 [9,10,11,12,13,14,15,16,17,18,19,20,21,22,23] (.pull 9 [10,11,12,13,14,15,16,17,18,19,20,21,22,23] (.pull 10 [11,12,13,18,19,20,21,22,23] (.pull 11 [12,13,18,19,20,21,22,23] (.pull 12 [13,18,19,20,21,22,23] (.pull 14 [15,16,17,18,19,20,21,22,23] (.pull 15 [16,17,18,19,20,21,22,23] (.pull 16 [17,18,19,20,21,22,23] (.pull 13 [18,19,20,21,22,23] (.pull 17 [18,19,20,21,22,23] (.pull 18 [19,20,21,22,23] (.pull 19 [20,21,22,23] (.pull 20 [21,22,23] (.pull 21 [22,23] (.pull 22 [23] (.one 23 .done)))))))))))))))))))))))) (by kernel_rfl) (by kernel_rfl) ?_)|(refine dW (id:=4) tO mixed (.pull 0 [21,22,23] (.pull 1 [2,3,4,20,21,22,23] (.pull 2 [3,4,20,21,22,23] (.pull 3 [4,20,21,22,23] (.pull 5 [6,7,8,19,20,21,22,23] (.pull 6 [7,8,19,20,21,22,23] (.pull 7 [8,19,20,21,22,23] (.pull 9 [10,11,12,19,20,21,22,23] (.pull 10 [11,12,19,20,21,22,23] (.pull 11 [12,19,20,21,22,23] (.pull 13 [14,15,16,18,19,20,21,22,23] (.pull 14 [15,16,18,19,20,21,22,23] (.pull 15 [16,18,19,20,21,22,23] (.pull 17 [18,19,20,21,22,23] (.pull 16 [18,19,20,21,22,23] (.pull 18 [19,20,21,22,23] (.pull 4 [20,21,22,23] (.pull 8 [19,20,21,22,23] (.pull 12 [19,20,21,22,23] (.pull 19 [20,21,22,23] (.one 20 (.pull 21 [22,23] (.pull 22 [23] (.one 23 .done)))))))))))))))))))))))) (by kernel_rfl) (by kernel_rfl) ?_)|(refine Ar.fit (by omega) ?_)|(refine VC.mk (by (first|omega|(and_intros<;>first|(simp only [ByteArray.size_extract,ByteArray.size_append];omega)))) ?_)|(refine Br.mk ?_ ?_<;>intro hb<;>(try (exfalso;omega)))|(refine New2.mk ?_;intro b c hb hbc)|fail)));all_goals (try (conv=>whnf)))
   all_goals first
    |(refine⟨fun h' hs=>QPost.none hs rfl rfl ?_⟩;(first|rfl|(simp [denC, *];done)|(simp_all [denC];done)))
    |(refine⟨fun h' hs=>QPost.own hs 63 rfl rfl rfl ?_ ?_ ?_⟩<;>first|rfl|(simp [byl_len];done)|(simp only [List.length_append,List.length_take,byl_len,ByteArray.size_extract];omega)|(simp [denC, *];done)|(simp_all [denC];done))
 ·have hcap:out.length≤c:=by
   obtain⟨_,_,_,h1,_⟩:=(hs.chunk (21,b,.arr 5 (intR .u8) out c) (by simp [qC,outC])).2.2
   exact h1
  have hs:HS ⟨h,blks (qC bq s mk ⟨a,false,some (b,c),out⟩),[(20,bq,.box 161 [.val (.string s),.val (.int .i64 a),.val (.int .u8 mk),.osl 21 b out.length c,.val (.bool false)]),(21,b,.arr 5 (intR .u8) out c)]⟩ h:=hs
  by_cases hm:mk=39
  ·subst hm
   rw [if_pos rfl] at hn
   subst hn
   refine eIn (rep:=rep) (m:=1) (ex:=[0,2,7]) (cu:=[]) (args:=[.own 20 bq 0]) tO Tryz.func161 rfl (by decide) (rs:=[]) rfl rfl rfl hs ?_
   ((repeat' ((conv=>whnf);(first|(refine dW (id:=3) tO mixed (.pull 0 [21,22,23] (.pull 1 [2,3,4,5,6,7,8,9,10,11,12,13,14,15,16,17,18,19,20,21,22,23] (.pull 2 [3,4,5,6,7,8,9,10,11,12,13,14,15,16,17,18,19,20,21,22,23] (.pull 3 [4,5,6,7,8,9,10,11,12,13,14,15,16,17,18,19,20,21,22,23] (.pull 4 [5,6,7,8,9,10,11,12,13,14,15,16,17,18,19,20,21,22,23] (.pull 5 [6,7,8,9,10,11,12,13,14,15,16,17,18,19,20,21,22,23] (.pull 6 [7,8,9,10,11,12,13,14,15,16,17,18,19,20,21,22,23] (.pull 7 [8,9,10,11,12,13,14,15,16,17,18,19,20,21,22,23] (.pull 8 [9,10,11,12,13,14,15,16,17,18,19,20,21,22,23] (.pull 9 [10,11,12,13,14,15,16,17,18,19,20,21,22,23] (.pull 10 [11,12,13,18,19,20,21,22,23] (.pull 11 [12,13,18,19,20,21,22,23] (.pull 12 [13,18,19,20,21,22,23] (.pull 14 [15,16,17,18,19,20,21,22,23] (.pull 15 [16,17,18,19,20,21,22,23] (.pull 16 [17,18,19,20,21,22,23] (.pull 13 [18,19,20,21,22,23] (.pull 17 [18,19,20,21,22,23] (.pull 18 [19,20,21,22,23] (.pull 19 [20,21,22,23] (.pull 20 [21,22,23] (.pull 21 [22,23] (.pull 22 [23] (.one 23 .done)))))))))))))))))))))))) (by kernel_rfl) (by kernel_rfl) ?_)|(refine dW (id:=4) tO mixed (.pull 0 [21,22,23] (.pull 1 [2,3,4,20,21,22,23] (.pull 2 [3,4,20,21,22,23] (.pull 3 [4,20,21,22,23] (.pull 5 [6,7,8,19,20,21,22,23] (.pull 6 [7,8,19,20,21,22,23] (.pull 7 [8,19,20,21,22,23] (.pull 9 [10,11,12,19,20,21,22,23] (.pull 10 [11,12,19,20,21,22,23] (.pull 11 [12,19,20,21,22,23] (.pull 13 [14,15,16,18,19,20,21,22,23] (.pull 14 [15,16,18,19,20,21,22,23] (.pull 15 [16,18,19,20,21,22,23] (.pull 17 [18,19,20,21,22,23] (.pull 16 [18,19,20,21,22,23] (.pull 18 [19,20,21,22,23] (.pull 4 [20,21,22,23] (.pull 8 [19,20,21,22,23] (.pull 12 [19,20,21,22,23] (.pull 19 [20,21,22,23] (.one 20 (.pull 21 [22,23] (.pull 22 [23] (.one 23 .done)))))))))))))))))))))))) (by kernel_rfl) (by kernel_rfl) ?_)|(refine Ar.fit (by omega) ?_)|(refine VC.mk (by (first|omega|(and_intros<;>first|omega|(simp only [ByteArray.size_extract,ByteArray.size_append];omega)))) ?_)|(refine Br.mk ?_ ?_<;>intro hb<;>(try (exfalso;omega)))|(refine NewO.mk ?_;intro b c hb hbc)|(refine SR.same ?_)|(apply CallQ.pure;(case hh=>(intro h1 hs;exact hrd h1 (ht.hs hcp hs))))|(refine (drawn tO mixed (by kernel_rfl) ?_))|fail)));all_goals (try (conv=>whnf)))
   all_goals first
    |(refine⟨fun h' hs=>QPost.own hs 21 rfl rfl rfl (by first|rfl|simp) ?_ (by simp)⟩;(first|rfl|(simp [denC, *];done)|(simp_all [denC];done)))
    |(refine⟨fun h' hs=>QPost.own hs 63 rfl rfl rfl ?_ ?_ ?_⟩<;>first|rfl|(simp [byl_len];done)|(simp only [List.length_append,List.length_take,byl_len,ByteArray.size_extract];omega)|(simp [denC, *];done)|(simp_all [denC];done))
  ·rw [if_neg hm] at hn
   subst hn
   refine eIn (rep:=rep) (m:=1) (ex:=[0,2,7]) (cu:=[]) (args:=[.own 20 bq 0]) tO Tryz.func161 rfl (by decide) (rs:=[]) rfl rfl rfl hs ?_
   ((repeat' ((conv=>whnf);(first|(refine dW (id:=3) tO mixed (.pull 0 [21,22,23] (.pull 1 [2,3,4,5,6,7,8,9,10,11,12,13,14,15,16,17,18,19,20,21,22,23] (.pull 2 [3,4,5,6,7,8,9,10,11,12,13,14,15,16,17,18,19,20,21,22,23] (.pull 3 [4,5,6,7,8,9,10,11,12,13,14,15,16,17,18,19,20,21,22,23] (.pull 4 [5,6,7,8,9,10,11,12,13,14,15,16,17,18,19,20,21,22,23] (.pull 5 [6,7,8,9,10,11,12,13,14,15,16,17,18,19,20,21,22,23] (.pull 6 [7,8,9,10,11,12,13,14,15,16,17,18,19,20,21,22,23] (.pull 7 [8,9,10,11,12,13,14,15,16,17,18,19,20,21,22,23] (.pull 8 [9,10,11,12,13,14,15,16,17,18,19,20,21,22,23] (.pull 9 [10,11,12,13,14,15,16,17,18,19,20,21,22,23] (.pull 10 [11,12,13,18,19,20,21,22,23] (.pull 11 [12,13,18,19,20,21,22,23] (.pull 12 [13,18,19,20,21,22,23] (.pull 14 [15,16,17,18,19,20,21,22,23] (.pull 15 [16,17,18,19,20,21,22,23] (.pull 16 [17,18,19,20,21,22,23] (.pull 13 [18,19,20,21,22,23] (.pull 17 [18,19,20,21,22,23] (.pull 18 [19,20,21,22,23] (.pull 19 [20,21,22,23] (.pull 20 [21,22,23] (.pull 21 [22,23] (.pull 22 [23] (.one 23 .done)))))))))))))))))))))))) (by kernel_rfl) (by kernel_rfl) ?_)|(refine dW (id:=4) tO mixed (.pull 0 [21,22,23] (.pull 1 [2,3,4,20,21,22,23] (.pull 2 [3,4,20,21,22,23] (.pull 3 [4,20,21,22,23] (.pull 5 [6,7,8,19,20,21,22,23] (.pull 6 [7,8,19,20,21,22,23] (.pull 7 [8,19,20,21,22,23] (.pull 9 [10,11,12,19,20,21,22,23] (.pull 10 [11,12,19,20,21,22,23] (.pull 11 [12,19,20,21,22,23] (.pull 13 [14,15,16,18,19,20,21,22,23] (.pull 14 [15,16,18,19,20,21,22,23] (.pull 15 [16,18,19,20,21,22,23] (.pull 17 [18,19,20,21,22,23] (.pull 16 [18,19,20,21,22,23] (.pull 18 [19,20,21,22,23] (.pull 4 [20,21,22,23] (.pull 8 [19,20,21,22,23] (.pull 12 [19,20,21,22,23] (.pull 19 [20,21,22,23] (.one 20 (.pull 21 [22,23] (.pull 22 [23] (.one 23 .done)))))))))))))))))))))))) (by kernel_rfl) (by kernel_rfl) ?_)|(refine Ar.fit (by omega) ?_)|(refine VC.mk (by (first|omega|(and_intros<;>first|omega|(simp only [ByteArray.size_extract,ByteArray.size_append];omega)))) ?_)|(refine Br.mk ?_ ?_<;>intro hb<;>(try (exfalso;omega)))|(refine NewO.mk ?_;intro b c hb hbc)|(refine SR.same ?_)|fail)));all_goals (try (conv=>whnf)))
   all_goals first
    |(refine⟨fun h' hs=>QPost.own hs 21 rfl rfl rfl (by first|rfl|simp) ?_ (by simp)⟩;(first|rfl|(simp [denC, *];done)|(simp_all [denC];done)))
    |(refine⟨fun h' hs=>QPost.own hs 63 rfl rfl rfl ?_ ?_ ?_⟩<;>first|rfl|(simp [byl_len];done)|(simp only [List.length_append,List.length_take,byl_len,ByteArray.size_extract];omega)|(simp [denC, *];done)|(simp_all [denC];done))
end Go.Ex
namespace Go.Ex
open Go.Proofs
attribute [local irreducible] CH
section
variable {E:Value→Heap→Prop}{S:St}{κ:KV→St→Prop}{bq:Nat}{s:ByteArray}{mk:Int}
theorem CK.qturn2(x:QS)(hc:HasC S.ch (qC bq s mk x)){f:Nat}{args:List KV}(a':Int)(bad':Bool)(k:Nat)(hh:∀ h,HS S h→HS ⟨h,blks (qC bq s mk x),qC bq s mk x⟩ h→CH Tryz.prog f (args.map den1).toArray h (QPost bq s mk a' bad' x k h))
 (hk:∀ x':QS,x'.at_=a'→x'.bad=bad'→x'.out.length≤x.out.length+k→(x'.o=none→x'.out=[])→κ (.tup []) ⟨S.h0,S.cap,qC bq s mk x'⟩):CK Tryz.prog E f args [] S κ:=by
 refine CK.mut (qC bq s mk x) [] (fun kv q'=>∃ x':QS,kv = .tup []∧q'=qC bq s mk x'∧x'.at_=a'∧x'.bad=bad'∧x'.out.length≤x.out.length+k∧(x'.o=none→x'.out=[])) (by rw [List.append_nil];exact hc) (fun h hS hs=>?_) ?_
 ·rw [show args.map den1++([]:List KV).map denC=args.map den1 by simp]
  refine (hh h hS hs).mono fun u h' ⟨x',a1,a2,a3,a4,a5,a6⟩=>⟨.tup [],_,a1.symm,a6,x',rfl,rfl,a2,a3,a4,a5⟩
 ·rintro kv q' ⟨x',rfl,rfl,h1,h2,h3,h4⟩
  rw [List.append_nil]
  exact hk x' h1 h2 h3 h4
theorem TabsH.hcp{h:Heap}(ht:TabsH S.h0)(hcap:∀ c∈S.cap,3≤c){x:QS}(hc:HasC S.ch (qC bq s mk x))(hS:HS S h):∀ c∈blks (qC bq s mk x),3≤c:=fun c hm=>by
 obtain⟨e,he,rfl⟩:=bsp hm
 have:=(hS.chunk e (hc.mem e he)).2.1
 have hz:=ht.size
 rcases this with h1|h1
 ·omega
 ·exact hcap _ h1
end
theorem escS_rng(s:ByteArray)(mk a:Int)(ha:0≤a∧a≤s.size):a≤(escS s mk a).1∧(escS s mk a).1≤s.size:=by
 unfold escS
 have n2:=numS_rng s 16 (.inl rfl) 2 (a+1) 0 1
 have n8:=numS_rng s 16 (.inl rfl) 8 (a+1) 0 1
 have n4:=numS_rng s 16 (.inl rfl) 4 (a+1) 0 1
 have n3:=numS_rng s 8 (.inr rfl) 3 a 0 1 ha (Int.le_refl _) (by decide)
 repeat' split
 all_goals first
  |(dsimp only;omega)
  |(have n:=n2 (by omega) (by omega) (by omega);dsimp only;omega)
  |(have n:=n8 (by omega) (by omega) (by omega);dsimp only;omega)
  |(have n:=n4 (by omega) (by omega) (by omega);dsimp only;omega)
def itemS(s:ByteArray)(mk a:Int):Int×Bool:=if byteI s a=92 then escS s mk (a+1) else plainS s mk a
theorem itemS_rng(s:ByteArray)(mk a:Int)(ha:0≤a∧a<s.size):(a≤(itemS s mk a).1∧(itemS s mk a).1≤s.size)∧((itemS s mk a).2=false→a+1≤(itemS s mk a).1):=by
 unfold itemS
 split
 ·have:=escS_rng s mk (a+1) (by omega)
  exact⟨by omega,fun _=>by omega⟩
 ·have:=plainW_rng s mk a ha
  unfold plainS
  refine⟨by dsimp only;omega,fun h=>?_⟩
  simp only [decide_eq_false_iff_not,not_or] at h
  dsimp only
  omega
def readGo(s:ByteArray)(mk:Int):Nat→Int→Int→Option Int
 |0,_,_=>none
 |f+1,it,a=>if s.size≤a then none else if byteI s a=mk then (if mk=34∨it=1 then some (a+1) else none) else if mk=39∧it=1 then none else
  if (itemS s mk a).2=true then none else readGo s mk f (it+1) (itemS s mk a).1
def readS(s:ByteArray)(a:Int):Option Int:=readGo s (byteI s a) (s.size+2) 0 (a+1)
structure LQ where
 x:QS
 it:Int
theorem qread_any(bq:Nat)(s:ByteArray)(a:Int)(h:Heap)(ht:TabsH h)(h3:3≤bq)(hs:HS ⟨h,[bq],[(20,bq,qB s 0 a (.val (.slice none 0 0)) false)]⟩ h)(ha:0≤a∧a<s.size)(hz:s.size≤1048576) :
 CH Tryz.prog 124 #[.pointer (some ⟨bq,0,none⟩)] h fun v h'=>∃ x:QS,v = .bool (readS s a).isSome∧(∀ e,readS s a=some e→x.at_=e)∧x.out.length≤4*1048576∧(x.o=none→x.out=[])∧HS ⟨h,[bq],qC bq s (byteI s a) x⟩ h':=by
 obtain⟨mk,hmk⟩:∃ mk,byteI s a=mk:=⟨_,rfl⟩
 obtain⟨R,hR⟩:∃ R,readS s a=R:=⟨_,rfl⟩
 rw [hR]
 unfold readS at hR
 rw [hmk] at hR ⊢
 refine eIn (rep:=rep) (m:=1) (ex:=[0,2,3,4,40,57,82,84]) (cu:=[]) (args:=[.own 20 bq 0]) tO Tryz.func124 rfl (by decide) (rs:=[.tmp 2]) rfl rfl rfl hs ?_
 ((repeat' ((conv=>whnf);(first|(refine dW (id:=1) tO mixed (.pull 0 [10,11,12] (.pull 1 [2,3,4,9,10,11,12] (.pull 2 [3,4,9,10,11,12] (.pull 3 [4,9,10,11,12] (.pull 5 [6,7,8,9,10,11,12] (.pull 6 [7,8,9,10,11,12] (.pull 7 [8,9,10,11,12] (.pull 4 [9,10,11,12] (.pull 8 [9,10,11,12] (.pull 9 [10,11,12] (.pull 10 [11,12] (.pull 11 [12] (.one 12 .done))))))))))))) (by kernel_rfl) (by kernel_rfl) ?_)|(refine Ar.fit (by omega) ?_)|(refine VC.mk (by omega) ?_)|fail)));all_goals (try (conv=>whnf)))
 rw [hmk]
 refine loop_rule tO [3] (fun x:LQ=>[(3,.val (.int .i64 x.it))]) (fun x=>qC bq s mk x.x) (fun μ x=>(x.x.bad=false→readGo s mk μ x.it x.x.at_=R∧s.size+1≤x.x.at_+μ )∧(x.x.bad=true→R=none)∧(0≤x.x.at_∧x.x.at_≤s.size)∧x.x.out.length≤4*x.x.at_∧(x.x.o=none→x.x.out=[])∧(0≤x.it∧x.it+μ≤s.size+2)) (s.size+2) ⟨⟨a+1,false,none,[]⟩,0⟩ ?_
 conv=>whnf
 refine⟨by ((repeat (refine⟨rfl,?_⟩));trivial),⟨rfl,rfl,trivial⟩,⟨fun _=>⟨hR,by dsimp only;omega⟩,(fun e=>by cases e),⟨by dsimp only;omega,by dsimp only;omega⟩,(by dsimp only [List.length_nil];omega),(fun _=>rfl),by dsimp only;omega⟩,?_⟩
 clear hR
 rintro μ ⟨⟨p,bad,o,out⟩,it⟩ ⟨t1,t2,t3,t4,t5,t6⟩
 dsimp only at t1 t2 t3 t4 t5 t6 ⊢
 have hrt:=itemS_rng s mk p
 rcases bad with _|_
 ·obtain⟨t1,t7⟩:=t1 rfl
  clear t2
  obtain⟨f,rfl⟩:∃ f,μ=f+1:=⟨μ-1,by omega⟩
  simp only [readGo] at t1
  have hcap:∀ c∈(⟨h,[bq],qC bq s mk ⟨p,false,o,out⟩⟩:St).cap,3≤c:=fun c hc=>by rw [List.mem_singleton.1 hc];exact h3
  have hcap':∀ c∈[bq],3≤c:=hcap
  by_cases hp:p<s.size
  ·rw [if_neg (by omega)] at t1
   replace hrt:=hrt ⟨t3.1,hp⟩
   by_cases h92:byteI s p=92
   ·have hi:itemS s mk p=escS s mk (p+1):=by rw [itemS,if_pos h92]
    rw [hi] at hrt t1
    have hes:=escS_rng s mk (p+1) (by omega)
    ((repeat' ((conv=>whnf);(first|(refine dW (id:=4) tO mixed (.pull 0 [1,2,3,9,10,11,12,13,14,15,16] (.pull 1 [2,3,9,10,11,12,13,14,15,16] (.pull 2 [3,9,10,11,12,13,14,15,16] (.pull 4 [5,6,7,8,9,10,11,12,13,14,15,16] (.pull 5 [6,7,8,9,10,11,12,13,14,15,16] (.pull 6 [7,8,9,10,11,12,13,14,15,16] (.pull 7 [8,9,10,11,12,13,14,15,16] (.pull 8 [9,10,11,12,13,14,15,16] (.pull 3 [9,10,11,12,13,14,15,16] (.pull 9 [10,11,12,13,14,15,16] (.pull 10 [11,12,13,14,15,16] (.pull 11 [12,13,14,15,16] (.pull 12 [13,14,15,16] (.pull 13 [14,15,16] (.pull 14 [15,16] (.pull 15 [16] (.pull 16 [] .done))))))))))))))))) (by kernel_rfl) (by kernel_rfl) ?_)|(refine dW (id:=6) tO mixed (.pull 0 [1,2,3,8,9] (.pull 1 [2,3,8,9] (.pull 2 [3,8,9] (.pull 4 [5,6,7,8,9] (.pull 5 [6,7,8,9] (.pull 6 [7,8,9] (.pull 3 [8,9] (.pull 7 [8,9] (.pull 8 [9] (.pull 9 [] .done)))))))))) (by kernel_rfl) (by kernel_rfl) ?_)|(refine Ar.fit (by first|omega|(simp only [lo,hi];omega)) ?_)|(refine VC.mk (by (first|omega|(and_intros<;>first|omega|(simp only [maxLen];omega)))) ?_)|(refine Br.mk ?_ ?_<;>intro hb<;>(try (contradiction)))|(refine CK.qturn2 ⟨p+1,false,o,out⟩ (qC_has bq s mk ⟨p+1,false,o,out⟩) _ _ 4 (fun h hS hs=>qesc_any bq s mk _ h hs t5 rfl ⟨by dsimp only;omega,by dsimp only;omega⟩ hz (by dsimp only;omega)) ?_;intro x' g1 g2 g3 g4)|fail)));all_goals (try (conv=>whnf)))
    all_goals first
     | (repeat (first|rw [if_pos (by assumption)] at t1|rw [if_neg (by assumption)] at t1)
        subst t1
        refine⟨fun h' hs=>⟨⟨p+1,false,o,out⟩,?_,?_,by dsimp only;omega,t5,hs⟩⟩
        ·first|rfl|(simp [den,den1,denC, *];done)|(split<;>simp_all [den,den1,denC])
        ·intro e he;first|(cases he;rfl)|cases he|(split at he<;>first|(cases he;rfl)|cases he))
     | (repeat (first|rw [if_pos (by assumption)] at t1|rw [if_neg (by assumption)] at t1)
        rw [if_pos ⟨by assumption,by assumption⟩] at t1
        subst t1
        refine⟨fun h' hs=>⟨⟨p,false,o,out⟩,rfl,?_,by dsimp only;omega,t5,hs⟩⟩
        intro e he;cases he)
     | (dsimp only at g1 g2 g3 g4
        rw [if_neg (by assumption),if_neg (by omega)] at t1
        refine⟨f,⟨x',it+1⟩,⟨fun e=>?_,fun e=>?_,⟨?_,?_⟩,?_,g4,?_⟩,Nat.lt_succ_self f,by ((repeat (refine⟨rfl,?_⟩));trivial),rfl,rfl,qC_has _ _ _ _⟩
        ·have e:x'.bad=false:=e
         rw [e] at g2
         rw [if_neg (by rw [←g2];decide)] at t1
         have:=hrt.2 g2.symm
         dsimp only
         refine⟨by rw [g1];exact t1,by rw [g1];omega⟩
        ·have e:x'.bad=true:=e
         rw [e] at g2
         rw [if_pos g2.symm] at t1
         exact t1.symm
        ·dsimp only;rw [g1];omega
        ·dsimp only;rw [g1];omega
        ·dsimp only;rw [g1];omega
        ·dsimp only;omega)
   ·have hi:itemS s mk p=plainS s mk p:=by rw [itemS,if_neg h92]
    rw [hi] at hrt t1
    have hpw:=plainW_rng s mk p ⟨t3.1,hp⟩
    have hpe:(plainS s mk p).1=p+plainW s mk p:=rfl
    ((repeat' ((conv=>whnf);(first|(refine dW (id:=4) tO mixed (.pull 0 [1,2,3,9,10,11,12,13,14,15,16] (.pull 1 [2,3,9,10,11,12,13,14,15,16] (.pull 2 [3,9,10,11,12,13,14,15,16] (.pull 4 [5,6,7,8,9,10,11,12,13,14,15,16] (.pull 5 [6,7,8,9,10,11,12,13,14,15,16] (.pull 6 [7,8,9,10,11,12,13,14,15,16] (.pull 7 [8,9,10,11,12,13,14,15,16] (.pull 8 [9,10,11,12,13,14,15,16] (.pull 3 [9,10,11,12,13,14,15,16] (.pull 9 [10,11,12,13,14,15,16] (.pull 10 [11,12,13,14,15,16] (.pull 11 [12,13,14,15,16] (.pull 12 [13,14,15,16] (.pull 13 [14,15,16] (.pull 14 [15,16] (.pull 15 [16] (.pull 16 [] .done))))))))))))))))) (by kernel_rfl) (by kernel_rfl) ?_)|(refine dW (id:=6) tO mixed (.pull 0 [1,2,3,8,9] (.pull 1 [2,3,8,9] (.pull 2 [3,8,9] (.pull 4 [5,6,7,8,9] (.pull 5 [6,7,8,9] (.pull 6 [7,8,9] (.pull 3 [8,9] (.pull 7 [8,9] (.pull 8 [9] (.pull 9 [] .done)))))))))) (by kernel_rfl) (by kernel_rfl) ?_)|(refine Ar.fit (by first|omega|(simp only [lo,hi];omega)) ?_)|(refine VC.mk (by (first|omega|(and_intros<;>first|omega|(simp only [maxLen];omega)))) ?_)|(refine Br.mk ?_ ?_<;>intro hb<;>(try (contradiction)))|(refine CK.qturn2 ⟨p,false,o,out⟩ (qC_has bq s mk ⟨p,false,o,out⟩) _ _ _ (fun h hS hs=>qplain_any bq s mk _ h (ht.hs hcap' hS) (TabsH.hcp ht hcap' (qC_has bq s mk ⟨p,false,o,out⟩) hS) hs t5 rfl ⟨by dsimp only;omega,by dsimp only;omega⟩ hz (by dsimp only;omega)) ?_;intro x' g1 g2 g3 g4)|fail)));all_goals (try (conv=>whnf)))
    all_goals first
     | (repeat (first|rw [if_pos (by assumption)] at t1|rw [if_neg (by assumption)] at t1)
        subst t1
        refine⟨fun h' hs=>⟨⟨p+1,false,o,out⟩,?_,?_,by dsimp only;omega,t5,hs⟩⟩
        ·first|rfl|(simp [den,den1,denC, *];done)|(split<;>simp_all [den,den1,denC])
        ·intro e he;first|(cases he;rfl)|cases he|(split at he<;>first|(cases he;rfl)|cases he))
     | (repeat (first|rw [if_pos (by assumption)] at t1|rw [if_neg (by assumption)] at t1)
        rw [if_pos ⟨by assumption,by assumption⟩] at t1
        subst t1
        refine⟨fun h' hs=>⟨⟨p,false,o,out⟩,rfl,?_,by dsimp only;omega,t5,hs⟩⟩
        intro e he;cases he)
     | (dsimp only at g1 g2 g3 g4
        rw [if_neg (by assumption),if_neg (by omega)] at t1
        refine⟨f,⟨x',it+1⟩,⟨fun e=>?_,fun e=>?_,⟨?_,?_⟩,?_,g4,?_⟩,Nat.lt_succ_self f,by ((repeat (refine⟨rfl,?_⟩));trivial),rfl,rfl,qC_has _ _ _ _⟩
        ·have e:x'.bad=false:=e
         rw [e] at g2
         rw [if_neg (by rw [←g2];decide)] at t1
         have:=hrt.2 g2.symm
         dsimp only
         refine⟨by rw [g1];exact t1,by rw [g1];omega⟩
        ·have e:x'.bad=true:=e
         rw [e] at g2
         rw [if_pos g2.symm] at t1
         exact t1.symm
        ·dsimp only;rw [g1];omega
        ·dsimp only;rw [g1];omega
        ·dsimp only;rw [g1];omega
        ·dsimp only;omega)
  ·rw [if_pos (by omega)] at t1
   subst t1
   ((repeat' ((conv=>whnf);(first|(refine dW (id:=4) tO mixed (.pull 0 [1,2,3,9,10,11,12,13,14,15,16] (.pull 1 [2,3,9,10,11,12,13,14,15,16] (.pull 2 [3,9,10,11,12,13,14,15,16] (.pull 4 [5,6,7,8,9,10,11,12,13,14,15,16] (.pull 5 [6,7,8,9,10,11,12,13,14,15,16] (.pull 6 [7,8,9,10,11,12,13,14,15,16] (.pull 7 [8,9,10,11,12,13,14,15,16] (.pull 8 [9,10,11,12,13,14,15,16] (.pull 3 [9,10,11,12,13,14,15,16] (.pull 9 [10,11,12,13,14,15,16] (.pull 10 [11,12,13,14,15,16] (.pull 11 [12,13,14,15,16] (.pull 12 [13,14,15,16] (.pull 13 [14,15,16] (.pull 14 [15,16] (.pull 15 [16] (.pull 16 [] .done))))))))))))))))) (by kernel_rfl) (by kernel_rfl) ?_)|(refine VC.mk (by omega) ?_)|(refine Br.mk ?_ ?_<;>intro hb<;>(try (contradiction)))|fail)));all_goals (try (conv=>whnf)))
   all_goals exact⟨fun h' hs=>⟨⟨p,false,o,out⟩,rfl,fun e he=>(by cases he),by dsimp only;omega,t5,hs⟩⟩
 ·have t2:=t2 rfl
  subst t2
  ((repeat' ((conv=>whnf);(first|(refine dW (id:=4) tO mixed (.pull 0 [1,2,3,9,10,11,12,13,14,15,16] (.pull 1 [2,3,9,10,11,12,13,14,15,16] (.pull 2 [3,9,10,11,12,13,14,15,16] (.pull 4 [5,6,7,8,9,10,11,12,13,14,15,16] (.pull 5 [6,7,8,9,10,11,12,13,14,15,16] (.pull 6 [7,8,9,10,11,12,13,14,15,16] (.pull 7 [8,9,10,11,12,13,14,15,16] (.pull 8 [9,10,11,12,13,14,15,16] (.pull 3 [9,10,11,12,13,14,15,16] (.pull 9 [10,11,12,13,14,15,16] (.pull 10 [11,12,13,14,15,16] (.pull 11 [12,13,14,15,16] (.pull 12 [13,14,15,16] (.pull 13 [14,15,16] (.pull 14 [15,16] (.pull 15 [16] (.pull 16 [] .done))))))))))))))))) (by kernel_rfl) (by kernel_rfl) ?_)|(refine VC.mk (by omega) ?_)|(refine Br.mk ?_ ?_<;>intro hb)|fail)));all_goals (try (conv=>whnf)))
  all_goals exact⟨fun h' hs=>⟨⟨p,true,o,out⟩,rfl,fun e he=>(by cases he),by dsimp only;omega,t5,hs⟩⟩
end Go.Ex
namespace Go.Ex
open Go.Proofs
attribute [local irreducible] CH
abbrev marksT:ByteArray:=⟨#[39,34,96]⟩
def begF(s:ByteArray)(a:Int):Int×Int×Int:=
 if a<0∨s.size≤a∨idxB marksT (byteI s a)<0 then (0,0,15) else
 if byteI s a=96 then (if idxB (sub s (a+1) s.size) 96<0 then (0,0,4) else (7,a+idxB (sub s (a+1) s.size) 96+2,0)) else
 match readS s a with
 |none=>(0,0,4)
 |some e=>if byteI s a=34 then (7,e,0) else (6,e,0)
theorem strip_any(s old:ByteArray)(h:Heap)(ht:TabsH h)(hs:s.size≤1048576)(h1:1≤old.size):CH Tryz.prog 123 #[.string s,.string old,.string ⟨#[]⟩] h fun v h'=>v = .string ⟨(Lib.replaceAll s.data.toList old.data.toList []).toArray⟩∧Grows h h':=by
 have hz:(⟨#[]⟩:ByteArray).size=0:=rfl
 exact replace_any s old ⟨#[]⟩ h ht (by omega) h1 (by rw [hz,Nat.mul_zero];omega)
section
variable {E:Value→Heap→Prop}{S:St}{κ:KV→St→Prop}{bq:Nat}{s:ByteArray}
theorem CK.qread(k0:Nat)(hk0:Nat.beq k0 21=false){a:Int}{R:Option Int}(hR:readS s a=R)(ht:TabsH S.h0)(hcap:S.cap=[])(hc:HasC S.ch [(k0,bq,qB s 0 a (.val (.slice none 0 0)) false)])(ha:0≤a∧a<s.size)(hz:s.size≤1048576)
 {args:List KV} (he:args.map den1=[.pointer (some ⟨bq,0,none⟩)])
 (hk:∀ x:QS,(∀ e,R=some e→x.at_=e)→(x.o=none→x.out=[])→κ (.val (.bool R.isSome)) ⟨S.h0,S.cap,(k0,bq,qB s (byteI s a) x.at_ (outK x) x.bad)::outC x⟩):CK Tryz.prog E 124 args [] S κ:=by
 refine CK.mut [(k0,bq,qB s 0 a (.val (.slice none 0 0)) false)] [] (fun kv q'=>∃ x:QS,kv = .val (.bool R.isSome)∧q'=(k0,bq,qB s (byteI s a) x.at_ (outK x) x.bad)::outC x∧(∀ e,R=some e→x.at_=e)∧(x.o=none→x.out=[])) (by rw [List.append_nil];exact hc) (fun h hS hs=>?_) ?_
 ·rw [show args.map den1++([]:List KV).map denC=args.map den1 by simp,he]
  have h3:3≤bq:=by
   have:=(hS.chunk _ (hc.mem _ List.mem_cons_self)).2.1
   have hz:=ht.size
   rw [hcap] at this
   rcases this with h1|h1
   ·exact Nat.le_trans hz h1
   ·cases h1
  have ht':TabsH h:=ht.hs (fun c hc=>by rw [hcap] at hc;cases hc) hS
  have hs':HS ⟨h,[bq],[(20,bq,qB s 0 a (.val (.slice none 0 0)) false)]⟩ h:=hs.ren [k0] ⟨⟨_,by simp [findC],SC.rfl⟩,rfl,trivial⟩
  refine (qread_any bq s a h ht' h3 hs' ha hz).mono fun u h' ⟨x,a1,a2,a3,a4,a5⟩=>?_
  rw [hR] at a1 a2
  refine⟨.val (.bool R.isSome),_,a1.symm,?_,x,rfl,rfl,a2,a4⟩
  obtain⟨p,bad,o,out⟩:=x
  rcases o with _|⟨b,c⟩
  ·exact a5.ren [20] ⟨⟨_,rfl,SC.rfl⟩,rfl,trivial⟩
  ·exact a5.ren [20,21] ⟨⟨_,rfl,SC.rfl⟩,rfl,⟨_,rfl,SC.rfl⟩,rfl,trivial⟩
 ·rintro kv q' ⟨x,rfl,rfl,h1,h2⟩
  rw [List.append_nil]
  exact hk x h1 h2
end
theorem begun_any(s:ByteArray)(a:Int)(h:Heap)(ht:TabsH h)(hz:s.size≤1048576) :
 CH Tryz.prog 74 #[.string s,.int .i64 a] h fun v h'=>∃ t,v = .tuple #[.int .u8 (begF s a).1,.int .i64 (begF s a).2.1,.string t,.int .i64 (begF s a).2.2]∧Grows h h':=by
 refine enter (rep:=rep) (m:=10) (ex:=[0,1,4,5,6,7,8,9,24,28,35,55,60]) (cu:=[]) tO Tryz.func74 rfl (by decide) (rs:=[.tmp 4,.tmp 5,.tmp 6,.tmp 7]) rfl rfl [.val (.string s),.val (.int .i64 a)] rfl ?_
 obtain⟨R,hR⟩:∃ R,begF s a=R:=⟨_,rfl⟩
 rw [hR]
 unfold begF at hR
 have hib:=fun h1=>ibyte_any marksT (byteI s a) h1
 have hir:=idxB_rng marksT (byteI s a)
 generalize idxB marksT (byteI s a)=ix at hib hir hR
 have hmj:((⟨#[39,34,96]⟩:ByteArray).size:Int)=3:=rfl
 have hib2:=fun h1=>ibyte_any (sub s (a+1) s.size) 96 h1
 have hir2:=idxB_rng (sub s (a+1) s.size) 96
 generalize idxB (sub s (a+1) s.size) 96=i2 at hib2 hir2 hR
 obtain⟨Q,hQ⟩:∃ Q,readS s a=Q:=⟨_,rfl⟩
 rw [hQ] at hR
 have hsz:a<0∨s.size≤a∨((sub s (a+1) s.size).size:Int)=s.size-(a+1):=by
  by_cases h1:a<0
  ·exact .inl h1
  ·by_cases h2:s.size≤a
   ·exact .inr (.inl h2)
   ·exact .inr (.inr (sub_size s (a+1) s.size (by omega) (by omega) (by omega)))
 rcases Q with _|e<;>dsimp only at hR
 ·((repeat' ((conv=>whnf);(first|(refine Ar.fit (by omega) ?_)|(refine VC.mk (by omega) ?_)|(refine Br.mk ?_ ?_<;>intro hb)|(refine New.mk ?_;intro b hb)|(apply CK.pure;(case hh=>(intro h1 hs;exact hib h1)))|(apply CK.pure;(case hh=>(intro h1 hs;exact hib2 h1)))|(apply CK.pure;(case hh=>(intro h1 hs;exact strip_any _ _ h1 (ht.at hs) (Nat.le_trans (ext_le _ _ _) hz) (by decide))))|(refine CK.qread 52 rfl hQ ht rfl ⟨rfl,rfl,trivial⟩ ⟨by omega,by omega⟩ hz rfl ?_;rintro⟨p,bad,o,out⟩ g1 g2)|fail)));all_goals (try (conv=>whnf)))
  all_goals first
   | (first|rw [if_pos (.inl (by assumption))] at hR|rw [if_pos (.inr (.inl (by assumption)))] at hR|rw [if_pos (.inr (.inr (by assumption)))] at hR|(rw [if_neg (by omega)] at hR;repeat (first|rw [if_pos (by assumption)] at hR|rw [if_neg (by assumption)] at hR))
      subst hR
      exact⟨fun h' hs=>⟨_,rfl,hs.grows⟩⟩)
 ·((repeat' ((conv=>whnf);(first|(refine Ar.fit (by omega) ?_)|(refine VC.mk (by omega) ?_)|(refine Br.mk ?_ ?_<;>intro hb)|(refine New.mk ?_;intro b hb)|(refine SR.same ?_)|(apply CK.pure;(case hh=>(intro h1 hs;exact hib h1)))|(apply CK.pure;(case hh=>(intro h1 hs;exact hib2 h1)))|(apply CK.pure;(case hh=>(intro h1 hs;exact strip_any _ _ h1 (ht.at hs) (Nat.le_trans (ext_le _ _ _) hz) (by decide))))|(refine CK.qread 52 rfl hQ ht rfl ⟨rfl,rfl,trivial⟩ ⟨by omega,by omega⟩ hz rfl ?_;rintro⟨p,bad,o,out⟩ g1 g2;have g1:=g1 _ rfl;dsimp only at g1;subst g1;rcases o with _|⟨b,c⟩)|(refine drawn (tO) mixed (by kernel_rfl) ?_)|fail)));all_goals (try (conv=>whnf)))
  all_goals first
   | (first|rw [if_pos (.inl (by assumption))] at hR|rw [if_pos (.inr (.inl (by assumption)))] at hR|rw [if_pos (.inr (.inr (by assumption)))] at hR|(rw [if_neg (by omega)] at hR;repeat (first|rw [if_pos (by assumption)] at hR|rw [if_neg (by assumption)] at hR))
      subst hR
      exact⟨fun h' hs=>⟨_,rfl,hs.grows⟩⟩)
end Go.Ex
