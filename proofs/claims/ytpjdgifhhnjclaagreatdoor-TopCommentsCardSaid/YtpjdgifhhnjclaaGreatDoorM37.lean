/-
  Top: TopComments: whatever the input, the law answers true (part 37)
-/
import Derived.Test.YtpjdgifhhnjclaaGreatDoorM36
set_option linter.unusedVariables false
set_option linter.unusedSimpArgs false
set_option maxHeartbeats 4000000
set_option maxRecDepth 10000
namespace Go.Ex
open Go.Proofs
theorem J1(s:ByteArray)(a b:Int)(h:0≤a∧a≤b∧b≤s.size):((sub s a b).size:Int)=b-a:=by
 show ((s.extract a.toNat b.toNat).size:Int) = _
 rw [ByteArray.size_extract]
 omega
theorem eW(s:ByteArray)(a b base:Int)(h:0≤a∧a≤b∧b≤s.size):∀ (c:Nat) (p n:Int),0≤p→(M5 s base c (a+p) n).2.2=false→(M5 s base c (a+p) n).2.1=a+p+c∧(a+p+c≤b→M5 (sub s a b) base c p n=((M5 s base c (a+p) n).1,p+c,false))
 |0,p,n,h0,h1=>⟨by simp [M5],fun _=>by simp [M5]⟩
 |c+1,p,n,h0,h1=>by
  have hz:=J1 s a b h
  simp only [M5] at h1 ⊢
  by_cases hc:a+p<s.size∧0≤aT (A4 s (a+p))∧aT (A4 s (a+p))<base
  ·rw [if_pos hc] at h1 ⊢
   rw [show a+p+1=a+(p+1) by omega] at h1 ⊢
   obtain⟨i1,i2⟩:=eW s a b base h c (p+1) (n*base+aT (A4 s (a+p))) (by omega) h1
   refine⟨by rw [i1];omega,fun hb=>?_⟩
   have e:=C8 s a b p h.1 h.2.1 h.2.2 h0 (by omega)
   rw [e,if_pos ⟨by omega,hc.2⟩,i2 (by omega)]
   congr 2
   omega
  ·rw [if_neg hc] at h1
   cases h1
theorem Rp(s:ByteArray)(mk a b:Int)(h:0≤a∧a≤b∧b≤s.size)(p:Int)(h0:0≤p)(h1:(gK s mk (a+p)).2=false)(h2:(gK s mk (a+p)).1≤b) :
 gK (sub s a b) mk p=((gK s mk (a+p)).1-a,false):=by
 have hz:=J1 s a b h
 have n2:=eW s a b 16 h 2 (p+1) 0 (by omega)
 have n8:=eW s a b 16 h 8 (p+1) 0 (by omega)
 have n4:=eW s a b 16 h 4 (p+1) 0 (by omega)
 have n3:=eW s a b 8 h 3 p 0 (by omega)
 rw [show a+(p+1)=a+p+1 by omega] at n2 n8 n4
 have hb:=C8 s a b p h.1 h.2.1 h.2.2 h0
 unfold gK at h1 h2 ⊢
 by_cases c1:(s.size:Int)≤a+p
 ·rw [if_pos c1] at h1;cases h1
 rw [if_neg c1] at h1 h2 ⊢
 by_cases c2:0≤H7 Qp (A4 s (a+p))
 ·rw [if_pos c2] at h1 h2 ⊢
  rw [if_neg (by dsimp only at h2;omega),hb (by dsimp only at h2;omega),if_pos c2]
  congr 1
  dsimp only;omega
 rw [if_neg c2] at h1 h2 ⊢
 by_cases c3:A4 s (a+p)=mk
 ·rw [if_pos c3] at h1 h2 ⊢
  rw [if_neg (by dsimp only at h2;omega),hb (by dsimp only at h2;omega),if_neg c2,if_pos c3]
  congr 1
  dsimp only;omega
 rw [if_neg c3] at h1 h2 ⊢
 by_cases c4:A4 s (a+p)=120
 ·rw [if_pos c4] at h1 h2 ⊢
  dsimp only at h1 h2 ⊢
  obtain⟨q1,q2⟩:=Bool.or_eq_false_iff.1 h1
  obtain⟨e1,e2⟩:=n2 q1
  rw [e1] at h2
  rw [if_neg (by omega),hb (by omega),if_neg c2,if_neg c3,if_pos c4,e2 h2,e1]
  simp only [q2]
  congr 1
  omega
 rw [if_neg c4] at h1 h2 ⊢
 by_cases c5:A4 s (a+p)=85
 ·rw [if_pos c5] at h1 h2 ⊢
  dsimp only at h1 h2 ⊢
  obtain⟨q1,q2⟩:=Bool.or_eq_false_iff.1 h1
  obtain⟨e1,e2⟩:=n8 q1
  rw [e1] at h2
  rw [if_neg (by omega),hb (by omega),if_neg c2,if_neg c3,if_neg c4,if_pos c5,e2 h2,e1]
  simp only [q2]
  congr 1
  omega
 rw [if_neg c5] at h1 h2 ⊢
 by_cases c6:A4 s (a+p)=117
 ·rw [if_pos c6] at h1 h2 ⊢
  dsimp only at h1 h2 ⊢
  obtain⟨q1,q2⟩:=Bool.or_eq_false_iff.1 h1
  obtain⟨e1,e2⟩:=n4 q1
  rw [e1] at h2
  rw [if_neg (by omega),hb (by omega),if_neg c2,if_neg c3,if_neg c4,if_neg c5,if_pos c6,e2 h2,e1]
  simp only [q2]
  congr 1
  omega
 rw [if_neg c6] at h1 h2 ⊢
 dsimp only at h1 h2 ⊢
 obtain⟨q1,q2⟩:=Bool.or_eq_false_iff.1 h1
 obtain⟨q3,q4⟩:=Bool.or_eq_false_iff.1 q1
 obtain⟨e1,e2⟩:=n3 q3
 rw [e1] at h2
 rw [if_neg (by omega),hb (by omega),if_neg c2,if_neg c3,if_neg c4,if_neg c5,if_neg c6,e2 h2,e1]
 simp only [q2,q4]
 congr 1
 omega
theorem Bh(s:ByteArray)(a b p:Int)(h:0≤a∧a≤b∧b≤s.size)(h0:0≤p)(h1:¬ (C9 s (a+p)).2=0)(h2:a+p+(C9 s (a+p)).2≤b):C9 (sub s a b) p=C9 s (a+p):=by
 have hz:=J1 s a b h
 unfold C9 at h1 h2 ⊢
 by_cases c1:a+p<0∨(s.size:Int)≤a+p
 ·rw [if_pos c1] at h1;exact absurd rfl h1
 rw [if_neg c1] at h1 h2 ⊢
 by_cases c2:(Utf8.decode s (a+p).toNat).1=65533∧(Utf8.decode s (a+p).toNat).2<2
 ·rw [if_pos c2] at h1;exact absurd rfl h1
 rw [if_neg c2] at h1 h2 ⊢
 rw [show (a+p).toNat=a.toNat+p.toNat by omega] at *
 have hp:=width_pos s (a.toNat+p.toNat)
 have e:Utf8.decode (sub s a b) p.toNat=Utf8.decode s (a.toNat+p.toNat):=pM s a.toNat b.toNat p.toNat (by omega) c2 (by dsimp only at h2;omega)
 rw [if_neg (by dsimp only at h2;omega),e,if_neg c2]
theorem Yh(s:ByteArray)(mk a b:Int)(h:0≤a∧a≤b∧b≤s.size)(p:Int)(h0:0≤p)(hp:a+p<s.size)(h1:(L5 s mk (a+p)).2=false)(h2:(L5 s mk (a+p)).1≤b) :
 L5 (sub s a b) mk p=((L5 s mk (a+p)).1-a,false):=by
 have hr:=V0 s mk (a+p) ⟨by omega,hp⟩
 have hg:=hr.2 h1
 have hb:=C8 s a b p h.1 h.2.1 h.2.2 h0 (by omega)
 unfold L5 at h1 h2 ⊢
 rw [hb]
 by_cases c1:A4 s (a+p)=92
 ·rw [if_pos c1] at h1 h2 ⊢
  rw [if_pos c1]
  rw [show a+p+1=a+(p+1) by omega] at h1 h2 ⊢
  exact Rp s mk a b h (p+1) (by omega) h1 h2
 ·rw [if_neg c1] at h1 h2 ⊢
  rw [if_neg c1]
  unfold gE at h1 h2 ⊢
  dsimp only at h1 h2 ⊢
  have hw:X5 (sub s a b) mk p=X5 s mk (a+p):=by
   simp only [decide_eq_false_iff_not,not_or] at h1
   unfold X5 at h1 h2 ⊢
   by_cases c2:mk=39
   ·rw [if_pos c2] at h1 h2 ⊢
    rw [if_pos c2,Bh s a b p h h0 h1.1 h2]
   ·rw [if_neg c2,if_neg c2]
  rw [hw,hb,h1]
  congr 1
  omega
theorem oW(s:ByteArray)(mk a b:Int)(h:0≤a∧a≤b∧b≤s.size):∀ (f:Nat) (it p:Int) (f':Nat),0≤p→b-a<p+f'→N6 s mk f it (a+p)=some b→N6 (sub s a b) mk f' it p=some (b-a)
 |0,it,p,f',h0,hf,h1=>by cases h1
 |f+1,it,p,f',h0,hf,h1=>by
  have hz:=J1 s a b h
  simp only [N6] at h1
  by_cases c1:(s.size:Int)≤a+p
  ·rw [if_pos c1] at h1;cases h1
  rw [if_neg c1] at h1
  by_cases c2:A4 s (a+p)=mk
  ·rw [if_pos c2] at h1
   by_cases c3:mk=34∨it=1
   ·rw [if_pos c3] at h1
    injection h1 with h1
    match f',hf with
    |0,hf=>omega
    |f'+1,hf=>
     simp only [N6]
     rw [if_neg (by omega),C8 s a b p h.1 h.2.1 h.2.2 h0 (by omega),if_pos c2,if_pos c3]
     congr 1
     omega
   ·rw [if_neg c3] at h1;cases h1
  rw [if_neg c2] at h1
  by_cases c3:mk=39∧it=1
  ·rw [if_pos c3] at h1;cases h1
  rw [if_neg c3] at h1
  by_cases c4:(L5 s mk (a+p)).2=true
  ·rw [if_pos c4] at h1;cases h1
  rw [if_neg c4] at h1
  have c4:(L5 s mk (a+p)).2=false:=by simpa using c4
  obtain⟨g1,g2⟩:=V0 s mk (a+p) (by omega)
  have g2:=g2 c4
  have hle : (L5 s mk (a+p)).1≤b:=by
   have key:∀ (f:Nat) (it q:Int),N6 s mk f it q=some b→0≤q→q≤b:=by
    intro f
    induction f with
    |zero=>intro it q e _;cases e
    |succ f ih=>
     intro it q e hq
     simp only [N6] at e
     split at e
     ·cases e
     ·rename_i d1
      split at e
      ·split at e
       ·injection e with e;omega
       ·cases e
      ·split at e
       ·cases e
       ·split at e
        ·cases e
        ·have:=(V0 s mk q ⟨hq,by omega⟩).1
         have:=ih _ _ e (by omega)
         omega
   exact key f (it+1) _ h1 (by omega)
  have hi:=Yh s mk a b h p h0 (by omega) c4 hle
  match f',hf with
  |0,hf=>omega
  |f'+1,hf=>
   simp only [N6]
   rw [if_neg (by omega),C8 s a b p h.1 h.2.1 h.2.2 h0 (by omega),if_neg c2,if_neg c3,hi,if_neg (fun q=>by cases q)]
   have e:a+((L5 s mk (a+p)).1-a)=(L5 s mk (a+p)).1:=by omega
   exact oW s mk a b h f (it+1) ((L5 s mk (a+p)).1-a) f' (by omega) (by omega) (by rw [e];exact h1)
end Go.Ex
namespace Go.Ex
open Go.Proofs
theorem sY(c:UInt8):∀ (l:List UInt8) (n:Nat),0≤Go.Lib.indexByte l c→Go.Lib.indexByte l c<n→Go.Lib.indexByte (l.take n) c=Go.Lib.indexByte l c
 |[],n,h0,h1=>by rw [List.take_nil]
 |b::l,0,h0,h1=>by omega
 |b::l,n+1,h0,h1=>by
  rw [List.take_succ_cons]
  unfold Go.Lib.indexByte at h0 h1 ⊢
  split
  ·rfl
  ·rename_i hb
   rw [if_neg hb] at h0 h1
   have hge:=Go.Lib.indexByte_ge l c
   by_cases hn:(Go.Lib.indexByte l c == -1)=true
   ·rw [if_pos hn] at h0;omega
   ·rw [if_neg hn] at h0 h1 ⊢
    rw [beq_iff_eq] at hn
    have:=sY c l n (by omega) (by omega)
    rw [this]
    rw [if_neg (by rw [beq_iff_eq];exact hn)]
theorem wY(s:ByteArray)(a b c:Int)(h:0≤a∧a≤b∧b≤s.size)(h0:0≤H7 (sub s a s.size) c)(h1:H7 (sub s a s.size) c<b-a):H7 (sub s a b) c=H7 (sub s a s.size) c:=by
 have e:(sub s a b).data.toList=(sub s a s.size).data.toList.take (b.toNat-a.toNat):=by
  show (s.extract a.toNat b.toNat).data.toList=(s.extract a.toNat (s.size:Int).toNat).data.toList.take _
  rw [ByteArray.data_extract,ByteArray.data_extract,Array.toList_extract,Array.toList_extract]
  simp only [List.extract,List.take_take]
  congr 1
  omega
 unfold H7 at h0 h1 ⊢
 rw [e]
 exact sY _ _ _ h0 (by omega)
theorem Hw(s:ByteArray)(a b c:Int)(h:0≤a∧a≤b∧b≤s.size)(h0:0≤c∧c≤b-a):sub (sub s a b) c (b-a)=sub s (a+c) b:=by
 show (s.extract a.toNat b.toNat).extract c.toNat (b-a).toNat=s.extract (a+c).toNat b.toNat
 rw [ByteArray.extract_extract]
 congr 1
 ·omega
 ·omega
theorem Er(s:ByteArray)(a:Int)(ha:0≤a∧a<s.size)(h:(J7 s a).2.2=0)(he:a<(J7 s a).2.1∧(J7 s a).2.1≤s.size):Bj (sub s a (J7 s a).2.1):=by
 obtain⟨e,hE⟩:∃ e,(J7 s a).2.1=e:=⟨_,rfl⟩
 rw [hE] at he ⊢
 have hr:0≤a∧a≤e∧e≤s.size:=by omega
 have hz:=J1 s a e hr
 have hb:=C8 s a e 0 hr.1 hr.2.1 hr.2.2 (Int.le_refl _) (by omega)
 rw [Int.add_zero] at hb
 have key:(J7 (sub s a e) 0).2.2=0∧(J7 (sub s a e) 0).2.1=e-a:=by
  unfold J7 at h hE ⊢
  rw [hb]
  by_cases c1:a<0∨(s.size:Int)≤a∨H7 aX (A4 s a)<0
  ·rw [if_pos c1] at h;cases h
  rw [if_neg c1] at h hE
  rw [if_neg (by omega)]
  by_cases c2:A4 s a=96
  ·rw [if_pos c2] at h hE ⊢
   by_cases c3:H7 (sub s (a+1) s.size) 96<0
   ·rw [if_pos c3] at h;cases h
   rw [if_neg c3] at h hE
   dsimp only at hE
   have e1:sub (sub s a e) (0+1) (sub s a e).size=sub s (a+1) e:=by
    rw [hz]
    exact Hw s a e (0+1) hr (by omega)
   have e2:=wY s (a+1) e 96 (by omega) (by omega) (by omega)
   rw [e1,e2,if_neg c3]
   exact⟨rfl,by dsimp only;omega⟩
  ·rw [if_neg c2] at h hE ⊢
   cases hS:bE s a with
   |none=>rw [hS] at h;cases h
   |some q=>
    rw [hS] at h hE
    have hq:q=e:=by
     revert hE
     dsimp only
     split<;>exact fun x=>x
    subst hq
    have hG:bE (sub s a q) 0=some (q-a):=by
     unfold bE at hS ⊢
     rw [hb]
     exact oW s (A4 s a) a q hr _ 0 (0+1) _ (by omega) (by omega) hS
    rw [hG]
    dsimp only
    split<;>exact⟨rfl,rfl⟩
 exact⟨key.1,by rw [key.2,hz]⟩
end Go.Ex
namespace Go.Ex
open Go.Proofs
attribute [local irreducible] CH aS
def Qq(w:ByteArray):Prop:=Bj w∨¬ aS w=0
def qV(k:Int)(w:ByteArray):Prop:=
 if k=26 then Kf w else if k=27 then Qq w else if k=5 then w=⟨#[]⟩∨w=(⟨#[46]⟩:ByteArray) else if k=7 then w=⟨#[]⟩∨w=(⟨#[61]⟩:ByteArray) else
 if k=15∨k=34 then w=⟨#[]⟩∨w=(⟨#[46,46,46]⟩:ByteArray) else if k=66 then w=⟨#[]⟩∨w=(⟨#[61]⟩:ByteArray)∨w=(⟨#[58,61]⟩:ByteArray) else
 if bO k=⟨#[]⟩ then w=⟨#[]⟩ else ¬ w=⟨#[]⟩∧Lib.contains w.data.toList [32]=false∧Lib.contains (bO k).data.toList ((⟨#[32]⟩:ByteArray)++w++(⟨#[32]⟩:ByteArray)).data.toList=true
theorem Mq(w:ByteArray):((⟨#[32]⟩:ByteArray)++w++(⟨#[32]⟩:ByteArray)).size=w.size+2:=by simp only [ByteArray.size_append];show 1+w.size+1 = _;omega
theorem Um(k:Int)(w:ByteArray)(h:A3)(ht:D2 h)(hk:0≤k∧k<256)(hz:w.size≤1000000)(hS:qV k w):CH Tryz.prog 38 #[.int .u8 k,.string w] h fun v h'=>v = .bool true∧A5 h h':=by
 refine Q0 2 [0,1,4,6,7,8,9,13,27,35,43,52,67] [] [.val (.int .u8 k),.val (.string w)] Tryz.func38 rfl ?_
 unfold qV at hS
 by_cases h26:k=26
 ·rw [if_pos h26] at hS
  have cn:=fun h1 ht=>Aq w h1 ht (by omega) hS
  ((repeat' (conv=>whnf);first|(refine Br.mk ?_ ?_<;>intro hb<;>(try omega))|(refine A7 ?_ fun h1 hs=>cn h1 (ht.at hs))|fail);all_goals try conv=>whnf)
  all_goals first
   |exact⟨fun h' hs=>⟨D0 rfl,hs.grows⟩⟩
   |exact⟨fun h' hs=>⟨rfl,hs.grows⟩⟩
 rw [if_neg h26] at hS
 by_cases h27:k=27
 ·rw [if_pos h27] at hS
  have ck:=fun h1=>Fd w h1 (by omega)
  by_cases hv:Bj w
  ·have cv:∀ h1,D2 h1→CH Tryz.prog 47 #[.string w] h1 fun v h'=>(∃ kv,B0 kv=v∧∃ t,kv = .tup [.val (.string t),.val (.int .i64 0)])∧A5 h1 h':=fun h1 ht=>(sH w h1 ht (by omega)).mono fun v h' ⟨t,e1,e2⟩=>⟨⟨.tup [.val (.string t),.val (.int .i64 0)],by rw [e1,if_pos hv];rfl,t,rfl⟩,e2⟩
   ((repeat' (conv=>whnf);first|(refine Br.mk ?_ ?_<;>intro hb<;>(try omega))|(refine CK.sumy (fun kv=>∃ t,kv = .tup [.val (.string t),.val (.int .i64 0)]) (fun h1 hs=>cv h1 (ht.at hs)) ?_;rintro _ ⟨t,rfl⟩)|fail);all_goals try conv=>whnf)
   all_goals first
    |exact⟨fun h' hs=>⟨D0 rfl,hs.grows⟩⟩
    |exact⟨fun h' hs=>⟨rfl,hs.grows⟩⟩
    |omega
  ·have hn:¬ aS w=0:=hS.resolve_left hv
   generalize aS w=kf at hn ck
   have cv:∀ h1,D2 h1→CH Tryz.prog 47 #[.string w] h1 fun v h'=>(∃ kv,B0 kv=v∧∃ t,kv = .tup [.val (.string t),.val (.int .i64 4)])∧A5 h1 h':=fun h1 ht=>(sH w h1 ht (by omega)).mono fun v h' ⟨t,e1,e2⟩=>⟨⟨.tup [.val (.string t),.val (.int .i64 4)],by rw [e1,if_neg hv];rfl,t,rfl⟩,e2⟩
   ((repeat' (conv=>whnf);first|(refine Br.mk ?_ ?_<;>intro hb<;>(try omega))|(refine CK.sumy (fun kv=>∃ t,kv = .tup [.val (.string t),.val (.int .i64 4)]) (fun h1 hs=>cv h1 (ht.at hs)) ?_;rintro _ ⟨t,rfl⟩)|(refine A7 ?_ fun h1 hs=>ck h1)|fail);all_goals try conv=>whnf)
   all_goals first
    |exact⟨fun h' hs=>⟨D0 (by simpa using hn),hs.grows⟩⟩
    |omega
 rw [if_neg h27] at hS
 by_cases h5:k=5
 ·rw [if_pos h5] at hS
  rcases hS with rfl|rfl
  all_goals ((repeat' (conv=>whnf);first|(refine Br.mk ?_ ?_<;>intro hb<;>(try (first|omega|exact absurd rfl hb|contradiction)))|fail);all_goals try conv=>whnf)
  all_goals first
   |exact⟨fun h' hs=>⟨D0 rfl,hs.grows⟩⟩
   |exact⟨fun h' hs=>⟨rfl,hs.grows⟩⟩
   |exact⟨fun h' hs=>⟨D0 (by simp),hs.grows⟩⟩
   |omega
 rw [if_neg h5] at hS
 by_cases h7:k=7
 ·rw [if_pos h7] at hS
  rcases hS with rfl|rfl
  all_goals ((repeat' (conv=>whnf);first|(refine Br.mk ?_ ?_<;>intro hb<;>(try (first|omega|exact absurd rfl hb|contradiction)))|fail);all_goals try conv=>whnf)
  all_goals first
   |exact⟨fun h' hs=>⟨D0 rfl,hs.grows⟩⟩
   |exact⟨fun h' hs=>⟨rfl,hs.grows⟩⟩
   |exact⟨fun h' hs=>⟨D0 (by simp),hs.grows⟩⟩
   |omega
 rw [if_neg h7] at hS
 by_cases h15:k=15∨k=34
 ·rw [if_pos h15] at hS
  rcases hS with rfl|rfl
  all_goals ((repeat' (conv=>whnf);first|(refine Br.mk ?_ ?_<;>intro hb<;>(try (first|omega|exact absurd rfl hb|contradiction)))|fail);all_goals try conv=>whnf)
  all_goals first
   |exact⟨fun h' hs=>⟨D0 rfl,hs.grows⟩⟩
   |exact⟨fun h' hs=>⟨rfl,hs.grows⟩⟩
   |exact⟨fun h' hs=>⟨D0 (by simp),hs.grows⟩⟩
   |omega
 rw [if_neg h15] at hS
 by_cases h66:k=66
 ·rw [if_pos h66] at hS
  rcases hS with rfl|rfl|rfl
  all_goals ((repeat' (conv=>whnf);first|(refine Br.mk ?_ ?_<;>intro hb<;>(try (first|omega|exact absurd rfl hb|contradiction)))|fail);all_goals try conv=>whnf)
  all_goals first
   |exact⟨fun h' hs=>⟨D0 rfl,hs.grows⟩⟩
   |exact⟨fun h' hs=>⟨rfl,hs.grows⟩⟩
   |exact⟨fun h' hs=>⟨D0 (by simp),hs.grows⟩⟩
   |omega
 rw [if_neg h66] at hS
 have cw:=fun h1=>Ml k h1 hk
 have hwz:(bO k).size≤100:=by unfold bO;(repeat' split)<;>decide
 by_cases he:bO k=⟨#[]⟩
 ·rw [if_pos he] at hS
  subst hS
  rw [he] at cw
  ((repeat' (conv=>whnf);first|(refine Br.mk ?_ ?_<;>intro hb<;>(try (first|omega|exact absurd rfl hb)))|(refine A7 ?_ fun h1 hs=>cw h1)|fail);all_goals try conv=>whnf)
  all_goals first
   |exact⟨fun h' hs=>⟨D0 rfl,hs.grows⟩⟩
   |exact⟨fun h' hs=>⟨rfl,hs.grows⟩⟩
   |exact⟨fun h' hs=>⟨D0 (by simp),hs.grows⟩⟩
   |omega
 ·rw [if_neg he] at hS
  obtain⟨s1,s2,s3⟩:=hS
  generalize bO k=W at *
  have c1:=fun h1 ht=>mU w (⟨#[32]⟩:ByteArray) h1 ht (by omega)
  rw [show ((⟨#[32]⟩:ByteArray)).data.toList=[32] from rfl,s2] at c1
  have c2:=fun h1 ht=>mU W ((⟨#[32]⟩:ByteArray)++w++(⟨#[32]⟩:ByteArray)) h1 ht (by omega)
  rw [s3] at c2
  have hzz:=Mq w
  have h32:((⟨#[32]⟩:ByteArray)).size=1:=rfl
  have hz1:((⟨#[32]⟩:ByteArray)++w).size=w.size+1:=by simp only [ByteArray.size_append];show 1+w.size = _;omega
  ((repeat' (conv=>whnf);first|(refine VC.mk (by omega) ?_)|(refine Br.mk ?_ ?_<;>intro hb<;>(try (first|omega|contradiction)))|(refine A7 ?_ fun h1 hs=>cw h1)|(refine A7 ?_ fun h1 hs=>c1 h1 (ht.at hs))|(refine A7 ?_ fun h1 hs=>c2 h1 (ht.at hs))|fail);all_goals try conv=>whnf)
  all_goals (try (exact absurd ‹W = _› he))
  all_goals (try (exact absurd ‹w = _› s1))
  all_goals first
   |exact⟨fun h' hs=>⟨D0 rfl,hs.grows⟩⟩
   |exact⟨fun h' hs=>⟨rfl,hs.grows⟩⟩
   |exact⟨fun h' hs=>⟨D0 (by simp),hs.grows⟩⟩
   |omega
end Go.Ex
namespace Go.Ex
open Go.Proofs
theorem zE:¬ E7 0=true:=by decide
theorem lE(s:ByteArray)(a:Int):(aO s a).2=P0 s a∧((aO s a).1=1∨(aO s a).1=2):=by
 unfold aO
 split
 ·exact⟨rfl,.inr rfl⟩
 ·exact⟨rfl,.inl rfl⟩
theorem Rs(s:ByteArray)(a:Int)(h:¬ (S4 s a).1=0):Qq (sub s a (S4 s a).2.1):=by
 unfold S4 at h ⊢
 by_cases c1:¬ eD s a
 ·rw [if_pos c1] at h;exact absurd rfl h
 rw [if_neg c1] at h ⊢
 by_cases c2:¬ aS (sub s a (aR s a))=0
 ·rw [if_pos c2];exact .inr c2
 ·rw [if_neg c2] at h;exact absurd rfl h
theorem By(s:ByteArray)(a:Int)(h:¬ (J7 s a).1=0):(J7 s a).2.2=0:=by
 revert h
 unfold J7
 by_cases c1:a<0∨(s.size:Int)≤a∨H7 aX (A4 s a)<0
 ·rw [if_pos c1];exact fun h=>absurd rfl h
 rw [if_neg c1]
 by_cases c2:A4 s a=96
 ·rw [if_pos c2]
  by_cases c3:H7 (sub s (a+1) s.size) 96<0
  ·rw [if_pos c3];exact fun h=>absurd rfl h
  ·rw [if_neg c3];exact fun _=>rfl
 ·rw [if_neg c2]
  cases bE s a with
  |none=>exact fun h=>absurd rfl h
  |some e=>
   dsimp only
   by_cases c3:A4 s a=34
   ·rw [if_pos c3];exact fun _=>rfl
   ·rw [if_neg c3];exact fun _=>rfl
theorem Dt(s:ByteArray)(a:Int)(ha:0≤a∧a<s.size):((H0 s a).1=1→Kf (sub s a (H0 s a).2))∧(3≤(H0 s a).1→(H0 s a).1≤7→Qq (sub s a (H0 s a).2)):=by
 obtain⟨K,hK⟩:∃ K,H0 s a=K:=⟨_,rfl⟩
 rw [hK]
 unfold H0 at hK
 by_cases c1:(C9 s a).1=65279
 ·rw [if_pos c1] at hK;subst hK
  exact⟨fun h=>(by cases h),fun _ h=>(by dsimp only at h;omega)⟩
 rw [if_neg c1] at hK
 by_cases c2:O3 (C9 s a).1
 ·rw [if_pos c2] at hK;subst hK
  exact⟨fun h=>(by cases h),fun _ h=>(by dsimp only at h;omega)⟩
 rw [if_neg c2] at hK
 by_cases c3:O2 (sub s a s.size) sP
 ·rw [if_pos c3] at hK
  by_cases c4:0≤H7 (sub s a s.size) 10
  ·rw [if_pos c4] at hK;subst hK
   exact⟨fun h=>(by cases h),fun _ h=>(by dsimp only at h;omega)⟩
  ·rw [if_neg c4] at hK;subst hK
   exact⟨fun h=>(by cases h),fun _ h=>(by dsimp only at h;omega)⟩
 rw [if_neg c3] at hK
 by_cases c5:O2 (sub s a s.size) gO
 ·rw [if_pos c5] at hK
  split at hK
  ·subst hK
   exact⟨fun h=>(by cases h),fun _ h=>(by dsimp only at h;omega)⟩
  ·subst hK
   exact⟨fun h=>(by cases h),fun h _=>(by dsimp only at h;omega)⟩
 rw [if_neg c5] at hK
 by_cases c6:E7 (C9 s a).1=true
 ·rw [if_pos c6] at hK
  subst hK
  obtain⟨w1,w2⟩:=lE s a
  refine⟨fun h=>?_,fun h _=>(by omega)⟩
  rw [w1]
  exact Fo s a ha (fun q=>zE (by rw [q] at c6;exact c6)) c6 h
 rw [if_neg c6] at hK
 by_cases c7:(C9 s a).1=59
 ·rw [if_pos c7] at hK;subst hK
  exact⟨fun h=>(by cases h),fun _ h=>(by dsimp only at h;omega)⟩
 rw [if_neg c7] at hK
 by_cases c8:¬ (S4 s a).2.2=15
 ·rw [if_pos c8] at hK
  subst hK
  have hr:=Qc s a
  exact⟨fun h=>(by dsimp only at h;omega),fun h _=>Rs s a (by dsimp only at h;omega)⟩
 rw [if_neg c8] at hK
 by_cases c9:¬ (J7 s a).2.2=15
 ·rw [if_pos c9] at hK
  subst hK
  have hr:=Te s a
  exact⟨fun h=>(by dsimp only at h;omega),fun h _=>.inl (Er s a ha (By s a (by dsimp only at h;omega)) (by dsimp only at h;omega))⟩
 rw [if_neg c9] at hK
 split at hK
 ·subst hK
  exact⟨fun h=>(by cases h),fun _ h=>(by dsimp only at h;omega)⟩
 ·subst hK
  exact⟨fun h=>(by cases h),fun h _=>(by dsimp only at h;omega)⟩
end Go.Ex
namespace Go.Ex
open Go.Proofs
theorem jF{u v:ByteArray}(hz:u.size=v.size)(h:∀ i:Int,0≤i→i<u.size→A4 u i=A4 v i):u=v:=by
 refine ByteArray.ext (Array.ext hz fun i h1 h2=>?_)
 have:=h i (by omega) (by
  have:u.data.size=u.size:=rfl
  omega)
 unfold A4 at this
 rw [Int.toNat_natCast,List.getD_eq_getElem?_getD,List.getD_eq_getElem?_getD,List.getElem?_eq_getElem (by simpa using h1),List.getElem?_eq_getElem (by simpa using h2)] at this
 simp only [Option.getD_some,Array.getElem_toList] at this
 exact UInt8.toNat_inj.1 (by omega)
theorem Ll.sub{s u:ByteArray}{a b c:Int}(h:Ll s a b u c):Go.Ex.sub u c (c+(b-a))=Go.Ex.sub s a b:=by
 obtain⟨h1,h2,h3⟩:=h.lo
 obtain⟨h4,h5⟩:=h.up
 have z1:=J1 u c (c+(b-a)) ⟨h4,by omega,h5⟩
 have z2:=J1 s a b ⟨h1,h2,h3⟩
 refine jF (by omega) fun i i0 i1=>?_
 rw [C8 u c _ i h4 (by omega) h5 i0 (by omega),C8 s a b i h1 h2 h3 i0 (by omega)]
 exact h.eq i i0 (by omega)
theorem Jd(s:ByteArray)(a:Int)(x y:UInt8)(ha:0≤a∧a≤s.size):O2 (Go.Ex.sub s a s.size) ⟨#[x,y]⟩↔a+2≤s.size∧A4 s a=x.toNat∧A4 s (a+1)=y.toNat:=by
 have z1:=J1 s a s.size ⟨ha.1,ha.2,Int.le_refl _⟩
 have e2:(⟨#[x,y]⟩:ByteArray).size=2:=rfl
 unfold O2
 rw [e2]
 constructor
 ·rintro⟨h1,h2⟩
  have q0:=C8 (Go.Ex.sub s a s.size) 0 2 0 (Int.le_refl _) (by omega) (by omega) (Int.le_refl _) (by omega)
  have q1:=C8 (Go.Ex.sub s a s.size) 0 2 1 (Int.le_refl _) (by omega) (by omega) (by omega) (by omega)
  have r0:=C8 s a s.size 0 ha.1 ha.2 (Int.le_refl _) (Int.le_refl _) (by omega)
  have r1:=C8 s a s.size 1 ha.1 ha.2 (Int.le_refl _) (by omega) (by omega)
  rw [show ((2:Nat):Int)=2 from rfl] at h2
  rw [h2] at q0 q1
  rw [show (0:Int)+0=0 from rfl,r0,Int.add_zero] at q0
  rw [show (0:Int)+1=1 from rfl,r1] at q1
  exact⟨by omega,q0.symm,q1.symm⟩
 ·rintro⟨h1,h2,h3⟩
  refine⟨by omega,?_⟩
  show Go.Ex.sub (Go.Ex.sub s a s.size) 0 2 = _
  have z2:=J1 (Go.Ex.sub s a s.size) 0 2 ⟨Int.le_refl _,by omega,by omega⟩
  refine jF (by rw [e2];omega) fun i i0 i1=>?_
  rw [C8 (Go.Ex.sub s a s.size) 0 2 i (Int.le_refl _) (by omega) (by omega) i0 (by omega),C8 s a s.size (0+i) ha.1 ha.2 (Int.le_refl _) (by omega) (by omega)]
  have:i=0∨i=1:=by omega
  rcases this with rfl|rfl
  ·rw [show a+(0+0)=a by omega,h2];rfl
  ·rw [show a+(0+1)=a+1 by omega,h3];rfl
theorem Jt:¬ E7 32=true:=by decide
theorem Vx:¬ R0 32:=by decide
section
variable {s u:ByteArray}{a b c:Int}
structure Kj(s:ByteArray)(a b:Int)(u:ByteArray)(c:Int):Prop where
 ag:Ll s a b u c
 lt:a<b
 sz:c+(b-a)<u.size
 bl:A4 u (c+(b-a))=32
theorem Kj.first(h:Kj s a b u c):A4 u c=A4 s a:=by
 have:=h.ag.eq 0 (Int.le_refl _) (by have:=h.lt;omega)
 rwa [Int.add_zero,Int.add_zero] at this
theorem Kj.no2(h:Kj s a b u c){x y:UInt8}(hy:y≠32)(hn:¬ O2 (Go.Ex.sub s a s.size) ⟨#[x,y]⟩):¬ O2 (Go.Ex.sub u c u.size) ⟨#[x,y]⟩:=by
 have l:=h.ag.lo
 have p:=h.ag.up
 have lt:=h.lt
 rw [Jd u c x y ⟨p.1,by omega⟩]
 rw [Jd s a x y ⟨l.1,by omega⟩] at hn
 rintro⟨h1,h2,h3⟩
 by_cases h4:b=a+1
 ·have h5:=h.bl
  rw [h4,show c+(a+1-a)=c+1 by omega,h3] at h5
  exact hy (UInt8.toNat_inj.1 (by rw [show (32:UInt8).toNat=32 from rfl];omega))
 ·have h5:=h.ag.eq 1 (by omega) (by omega)
  rw [h5] at h3
  rw [h.first] at h2
  exact hn ⟨by omega,h2,h3⟩
theorem Xu(h:Kj s a b u c):Utf8.decode u (c+(b-a)).toNat=(32,1):=by
 have p:=h.ag.up
 have l:=h.ag.lo
 have h1:=N7 u (c+(b-a)) ⟨by omega,h.sz⟩ (by rw [h.bl];decide)
 rw [h.bl] at h1
 have h2:=Y4 u (c+(b-a)) (by rw [h1];decide)
 rw [h1] at h2
 have h3:=(Prod.mk.inj h2.2)
 exact Prod.ext (by show _=32;omega) (by show _=1;omega)
theorem Na(h:Kj s a b u c)(ha:0≤a)(g:Int)(hg:b-a=if 0≤g then g else (s.size:Int)-a) :
 ∀ (f p f':Nat),(s.size:Int)-a≤p+f'→b-a<p+f→p≤b-a→J9 (s.extract a.toNat s.size) f' p=g→J9 (u.extract c.toNat u.size) f p=b-a
 |0,p,f',h1,h2,h3,h4=>by omega
 |f+1,p,f',h1,h2,h3,h4=>by
  have l:=h.ag.lo
  have hp:=h.ag.up
  have hz:=h.sz
  have hus:(s.extract a.toNat s.size).size=s.size-a.toNat:=by rw [ByteArray.size_extract];omega
  have huu:(u.extract c.toNat u.size).size=u.size-c.toNat:=by rw [ByteArray.size_extract];omega
  have hdu:Utf8.decode (u.extract c.toNat u.size) p=Utf8.decode u (c.toNat+p):=Lib.tail_decode u c.toNat p
  simp only [J9,huu]
  rw [if_pos (by omega),hdu]
  by_cases hpe:(p:Int)=b-a
  ·have e:c.toNat+p=(c+(b-a)).toNat:=by omega
   rw [e,Xu h]
   rw [if_pos ⟨by have:=Jt;revert this;show ¬ E7 ((32:Nat):Int)=true→_;cases E7 ((32:Nat):Int)<;>simp,Vx⟩]
   omega
  ·match f',h1,h4 with
   |0,h1,h4=>omega
   |f'+1,h1,h4=>
    have hds:Utf8.decode (s.extract a.toNat s.size) p=Utf8.decode s (a.toNat+p):=Lib.tail_decode s a.toNat p
    simp only [J9,hus] at h4
    rw [if_pos (by omega),hds] at h4
    have hle:=fF s (a.toNat+p) (by omega)
    have hw1:=width_pos s (a.toNat+p)
    by_cases hc:E7 ((Utf8.decode s (a.toNat+p)).1:Int)=false∧¬ R0 ((Utf8.decode s (a.toNat+p)).1:Int)
    ·rw [if_pos hc] at h4
     rw [if_pos (by omega)] at hg
     omega
    ·rw [if_neg hc] at h4
     have hr:=T8 (s.extract a.toNat s.size) f' (p+(Utf8.decode s (a.toNat+p)).2)
     rw [h4,hus] at hr
     have hpw:(p:Int)+(Utf8.decode s (a.toNat+p)).2≤b-a:=by
      split at hg<;>omega
     have hne:¬ (Utf8.decode s (a.toNat+p)).1=65533:=fun e=>by
      rw [e] at hc
      refine hc ⟨?_,Uu⟩
      have:=Vk
      revert this
      cases E7 ((65533:Nat):Int)<;>simp
     have ea:a.toNat+p=(a+p).toNat:=by omega
     have ec:c.toNat+p=(c+p).toNat:=by omega
     have hd:Utf8.decode u (c.toNat+p)=Utf8.decode s (a.toNat+p):=by
      rw [ec,ea]
      exact kV h.ag p (by omega) (fun q=>hne (by rw [ea];exact q.1)) (by rw [←ea];omega)
     rw [hd,if_neg hc]
     exact Na h ha g hg f _ f' (by omega) (by omega) hpw h4
theorem vH(h:Kj s a b u c)(hb:P0 s a=b):P0 u c=c+(b-a):=by
 have l:=h.ag.lo
 have hp:=h.ag.up
 have hz:=h.sz
 have e1:Go.Ex.sub s a s.size=s.extract a.toNat s.size:=by show s.extract a.toNat (s.size:Int).toNat = _;rw [Int.toNat_natCast]
 have e2:Go.Ex.sub u c u.size=u.extract c.toNat u.size:=by show u.extract c.toNat (u.size:Int).toNat = _;rw [Int.toNat_natCast]
 have hus:(s.extract a.toNat s.size).size=s.size-a.toNat:=by rw [ByteArray.size_extract];omega
 have huu:(u.extract c.toNat u.size).size=u.size-c.toNat:=by rw [ByteArray.size_extract];omega
 unfold P0 at hb ⊢
 rw [e1] at hb
 rw [e2]
 obtain⟨g,hg⟩:∃ g,J9 (s.extract a.toNat s.size) (s.extract a.toNat s.size).size 0=g:=⟨_,rfl⟩
 rw [hg] at hb
 have key:=Na h l.1 g (by rw [←hb];split<;>omega) (u.extract c.toNat u.size).size 0 (s.extract a.toNat s.size).size (by omega) (by omega) (by omega) hg
 rw [key,if_pos (by omega)]
theorem wJ(h:Kj s a b u c)(hex:Bool):∀ (f f':Nat) (to:Int),a≤to→to≤b→b-to<f'→bP s a hex f to=b→bP u c hex f' (c+(to-a))=c+(b-a)
 |f,0,to,h1,h2,h3,h4=>by omega
 |0,f'+1,to,h1,h2,h3,h4=>by
  have:to=b:=h4
  subst this
  simp only [bP]
  rw [if_neg]
  rintro⟨q1,q2⟩
  rw [h.bl] at q2
  unfold qD Dz at q2
  revert q2
  have:¬ cA 32<10:=by decide
  omega
 |f+1,f'+1,to,h1,h2,h3,h4=>by
  have l:=h.ag.lo
  have hp:=h.ag.up
  by_cases he:to=b
  ·subst he
   simp only [bP]
   rw [if_neg]
   rintro⟨q1,q2⟩
   rw [h.bl] at q2
   unfold qD Dz at q2
   revert q2
   have:¬ cA 32<10:=by decide
   omega
  ·simp only [bP] at h4 ⊢
   by_cases hm:fI s a hex to
   ·rw [if_pos hm] at h4
    have e0:=h.ag.eq (to-a) (by omega) (by omega)
    rw [show a+(to-a)=to by omega] at e0
    have el:aA u c (c+(to-a))=aA s a to:=by
     unfold aA
     by_cases c1:a<to
     ·rw [if_pos c1,if_pos (by omega)]
      have e1:=h.ag.eq (to-1-a) (by omega) (by omega)
      rw [show c+(to-a)-1=c+(to-1-a) by omega,e1,show a+(to-1-a)=to-1 by omega]
     ·rw [if_neg c1,if_neg (by omega)]
    have hm2:fI u c hex (c+(to-a)):=by
     unfold fI at hm ⊢
     rw [e0,el]
     exact⟨by omega,hm.2⟩
    rw [if_pos hm2,show c+(to-a)+1=c+(to+1-a) by omega]
    exact wJ h hex f f' (to+1) (by omega) (by omega) (by omega) h4
   ·rw [if_neg hm] at h4
    omega
theorem Jz:¬ cA 32<10:=by decide
theorem Tt(h:Kj s a b u c)(hnt:aR s a=b)(hb0:eD s a):jL u c↔jL s a:=by
 have l:=h.ag.lo
 have p:=h.ag.up
 have lt:=h.lt
 unfold jL Ap Ut
 rw [Jd u c 48 120 ⟨p.1,by omega⟩,Jd u c 48 88 ⟨p.1,by omega⟩,Jd s a 48 120 ⟨l.1,by omega⟩,Jd s a 48 88 ⟨l.1,by omega⟩,h.first]
 by_cases h4:b=a+1
 ·have h5:=h.bl
  rw [h4,show c+(a+1-a)=c+1 by omega] at h5
  have hz:∀ x:Int,(x=120∨x=88)→¬ (a+2≤s.size∧A4 s a=48∧A4 s (a+1)=x):=by
   rintro x hx ⟨q1,q2,q3⟩
   unfold aR at hnt
   have m1:∀ hex,fI s a hex a:=fun hex=>⟨by omega,.inl (by unfold qD;rw [q2];exact .inr (.inr (.inl (by decide))))⟩
   have m2:∀ hex,fI s a hex (a+1):=fun hex=>⟨by omega,.inl (by unfold qD;rw [q3];omega)⟩
   obtain⟨f,hf⟩:∃ f,s.size=f+2:=⟨s.size-2,by omega⟩
   rw [hf] at hnt
   simp only [bP] at hnt
   rw [if_pos (m1 _),if_pos (m2 _)] at hnt
   have:=iD s a (decide (jL s a)) f (a+1+1) (by omega)
   omega
  constructor
  ·rintro (⟨_,_,q⟩|⟨_,_,q⟩)
   ·rw [h5] at q;exact absurd q (by decide)
   ·rw [h5] at q;exact absurd q (by decide)
  ·rintro (q|q)
   ·exact absurd q (hz 120 (.inl rfl))
   ·exact absurd q (hz 88 (.inr rfl))
 ·have h5:=h.ag.eq 1 (by omega) (by omega)
  rw [h5]
  have hz:=h.sz
  constructor
  ·rintro (⟨q1,q2,q3⟩|⟨q1,q2,q3⟩)
   ·exact .inl ⟨by omega,q2,q3⟩
   ·exact .inr ⟨by omega,q2,q3⟩
  ·rintro (⟨q1,q2,q3⟩|⟨q1,q2,q3⟩)
   ·exact .inl ⟨by omega,q2,q3⟩
   ·exact .inr ⟨by omega,q2,q3⟩
theorem Se(h:Kj s a b u c)(ha:a<s.size)(hnt:eD s a→aR s a=b):eD u c↔eD s a:=by
 have l:=h.ag.lo
 have p:=h.ag.up
 have lt:=h.lt
 have hz:=h.sz
 unfold eD at *
 rw [h.first]
 by_cases h4:b=a+1
 ·have h5:=h.bl
  rw [h4,show c+(a+1-a)=c+1 by omega] at h5
  rw [h5]
  have:=Jz
  constructor
  ·rintro⟨_,_,q⟩
   refine⟨l.1,ha,?_⟩
   omega
  ·rintro⟨q1,q2,q⟩
   refine⟨p.1,by omega,?_⟩
   rcases q with q|⟨q3,q4,q5⟩
   ·exact .inl q
   ·exfalso
    have hn:=hnt ⟨q1,q2,.inr ⟨q3,q4,q5⟩⟩
    unfold aR at hn
    obtain⟨f,hf⟩:∃ f,s.size=f+2:=⟨s.size-2,by omega⟩
    have m1:∀ hex,fI s a hex a:=fun hex=>⟨by omega,.inl (by unfold qD;omega)⟩
    have m2:∀ hex,fI s a hex (a+1):=fun hex=>⟨by omega,.inl (by unfold qD;omega)⟩
    rw [hf] at hn
    simp only [bP] at hn
    rw [if_pos (m1 _),if_pos (m2 _)] at hn
    have:=iD s a (decide (jL s a)) f (a+1+1) (by omega)
    omega
 ·have h5:=h.ag.eq 1 (by omega) (by omega)
  rw [h5]
  constructor
  ·rintro⟨_,_,q⟩
   refine⟨l.1,ha,?_⟩
   rcases q with q|⟨q3,q4,q5⟩
   ·exact .inl q
   ·exact .inr ⟨q3,by omega,q5⟩
  ·rintro⟨_,_,q⟩
   refine⟨p.1,by omega,?_⟩
   rcases q with q|⟨q3,q4,q5⟩
   ·exact .inl q
   ·exact .inr ⟨q3,by omega,q5⟩
theorem Ss(h:Kj s a b u c)(ha:a<s.size)(hk:¬ (S4 s a).1=0)(hb:(S4 s a).2.1=b):S4 u c=((S4 s a).1,c+(b-a),(S4 s a).2.2):=by
 have l:=h.ag.lo
 have p:=h.ag.up
 have hz:=h.sz
 unfold S4 at hk hb ⊢
 by_cases c1:eD s a
 ·rw [if_neg (not_not_intro c1)] at hk hb ⊢
  by_cases c2:aS (Go.Ex.sub s a (aR s a))=0
  ·rw [if_neg (not_not_intro c2)] at hk;exact absurd rfl hk
  ·rw [if_pos c2] at hk hb ⊢
   dsimp only at hb
   have h1:=(Se h ha fun _=>hb).2 c1
   have h2:=Tt h hb c1
   have h3:aR u c=c+(b-a):=by
    have e:decide (jL u c)=decide (jL s a):=by
     by_cases q:jL s a
     ·rw [decide_eq_true q,decide_eq_true (h2.2 q)]
     ·rw [decide_eq_false q,decide_eq_false (fun w=>q (h2.1 w))]
    unfold aR at hb ⊢
    rw [e]
    have:=wJ h (decide (jL s a)) s.size u.size a (Int.le_refl _) (by omega) (by omega) hb
    rwa [Int.sub_self,Int.add_zero] at this
   rw [if_neg (not_not_intro h1),h3,h.ag.sub,←hb,if_pos c2]
 ·rw [if_pos c1] at hk;exact absurd rfl hk
end
end Go.Ex
