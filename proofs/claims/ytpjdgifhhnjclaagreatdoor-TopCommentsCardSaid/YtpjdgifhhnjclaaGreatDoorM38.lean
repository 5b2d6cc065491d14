/-
  Top: TopComments: whatever the input, the law answers true (part 38)
-/
import Derived.Test.YtpjdgifhhnjclaaGreatDoorM37
set_option linter.unusedVariables false
set_option linter.unusedSimpArgs false
set_option maxHeartbeats 4000000
set_option maxRecDepth 10000
namespace Go.Ex
open Go.Proofs
theorem sZ(x:UInt8):∀ (l:List UInt8) (n:Nat),0≤Go.Lib.indexByte (l.take n) x→Go.Lib.indexByte l x=Go.Lib.indexByte (l.take n) x
 |[],n,h0=>by rw [List.take_nil]
 |b::l,0,h0=>by
  rw [List.take_zero] at h0
  exact absurd h0 (by simp [Go.Lib.indexByte])
 |b::l,n+1,h0=>by
  rw [List.take_succ_cons] at h0 ⊢
  unfold Go.Lib.indexByte at h0 ⊢
  split
  ·rfl
  ·rename_i hb
   rw [if_neg hb] at h0
   have hge:=Go.Lib.indexByte_ge (l.take n) x
   by_cases hn:(Go.Lib.indexByte (l.take n) x == -1)=true
   ·rw [if_pos hn] at h0;omega
   ·rw [if_neg hn] at h0
    rw [if_neg hn]
    rw [beq_iff_eq] at hn
    have:=sZ x l n (by omega)
    rw [this,if_neg (by rw [beq_iff_eq];exact hn)]
theorem Yo(u:ByteArray)(p q x:Int)(h:0≤p∧p≤q∧q≤u.size)(h0:0≤H7 (sub u p q) x):H7 (sub u p u.size) x=H7 (sub u p q) x:=by
 have e:(sub u p q).data.toList=(sub u p u.size).data.toList.take (q.toNat-p.toNat):=by
  show (u.extract p.toNat q.toNat).data.toList=(u.extract p.toNat (u.size:Int).toNat).data.toList.take _
  rw [ByteArray.data_extract,ByteArray.data_extract,Array.toList_extract,Array.toList_extract]
  simp only [List.extract,List.take_take]
  congr 1
  omega
 unfold H7 at h0 ⊢
 rw [e] at h0 ⊢
 exact sZ _ _ _ h0
theorem Ll.tail{s u:ByteArray}{a b c:Int}(h:Ll s a b u c)(k:Int)(hk:0≤k)(hb:a+k≤b):Ll s (a+k) b u (c+k):=by
 have l:=h.lo
 have p:=h.up
 refine⟨by omega,by omega,fun i i0 i1=>?_⟩
 have:=h.eq (k+i) (by omega) (by omega)
 rw [show c+k+i=c+(k+i) by omega,this,show a+(k+i)=a+k+i by omega]
theorem Mg:∀ w∈rQ,∀ x∈w.data.toList,x≠32:=by decide
theorem vY(v:ByteArray)(n:Nat)(hn:0<n)(hs:iQ (v.extract 0 n)):∀ m,n≤m→(∀ i,n<i→i≤m→¬ iQ (v.extract 0 i))→T2 v m=n
 |0,h,_=>by omega
 |m+1,h,hno=>by
  simp only [T2]
  by_cases e:n=m+1
  ·subst e
   rw [if_pos hs]
   omega
  ·rw [if_neg (hno (m+1) (by omega) (Nat.le_refl _))]
   exact vY v n hn hs m (by omega) fun i h1 h2=>hno i h1 (by omega)
theorem iX(v:ByteArray):∀ m,0<T2 v m→iQ (v.extract 0 (T2 v m).toNat)∧(T2 v m).toNat≤m
 |0,h=>by simp [T2] at h
 |m+1,h=>by
  simp only [T2] at h ⊢
  by_cases c:iQ (v.extract 0 (m+1))
  ·rw [if_pos c]
   rw [show ((m:Int)+1).toNat=m+1 by omega]
   exact⟨c,Nat.le_refl _⟩
  ·rw [if_neg c] at h ⊢
   obtain⟨h1,h2⟩:=iX v m h
   exact⟨h1,by omega⟩
section
variable {s u:ByteArray}{a b c:Int}
theorem Wm(h:Kj s a b u c)(hn:0<Y2 (sub s a s.size))(hb:a+Y2 (sub s a s.size)=b):Y2 (sub u c u.size)=b-a:=by
 have l:=h.ag.lo
 have p:=h.ag.up
 have hz:=h.sz
 have z1:=J1 s a s.size ⟨l.1,by omega,Int.le_refl _⟩
 have z2:=J1 u c u.size ⟨p.1,by omega,Int.le_refl _⟩
 unfold Y2 at hn hb ⊢
 obtain⟨h1,h2⟩:=iX _ _ hn
 have e1:(T2 (sub s a s.size) (min 3 (sub s a s.size).size)).toNat=(b-a).toNat:=by omega
 rw [e1] at h1 h2
 have hv:(sub u c u.size).extract 0 (b-a).toNat=(sub s a s.size).extract 0 (b-a).toNat:=by
  have q1:sub (sub u c u.size) 0 (b-a)=sub u c (c+(b-a)):=by
   refine jF ?_ fun i i0 i1=>?_
   ·have w1:=J1 (sub u c u.size) 0 (b-a) ⟨Int.le_refl _,by omega,by omega⟩
    have w2:=J1 u c (c+(b-a)) ⟨p.1,by omega,by omega⟩
    omega
   ·have w1:=J1 (sub u c u.size) 0 (b-a) ⟨Int.le_refl _,by omega,by omega⟩
    rw [C8 (sub u c u.size) 0 (b-a) i (Int.le_refl _) (by omega) (by omega) i0 (by omega),C8 u c u.size (0+i) p.1 (by omega) (Int.le_refl _) (by omega) (by omega),C8 u c (c+(b-a)) i p.1 (by omega) (by omega) i0 (by omega),Int.zero_add]
  have q2:sub (sub s a s.size) 0 (b-a)=sub s a b:=by
   refine jF ?_ fun i i0 i1=>?_
   ·have w1:=J1 (sub s a s.size) 0 (b-a) ⟨Int.le_refl _,by omega,by omega⟩
    have w2:=J1 s a b l
    omega
   ·have w1:=J1 (sub s a s.size) 0 (b-a) ⟨Int.le_refl _,by omega,by omega⟩
    rw [C8 (sub s a s.size) 0 (b-a) i (Int.le_refl _) (by omega) (by omega) i0 (by omega),C8 s a s.size (0+i) l.1 (by omega) (Int.le_refl _) (by omega) (by omega),C8 s a b i l.1 (by omega) (by omega) i0 (by omega),Int.zero_add]
  show sub (sub u c u.size) 0 (b-a)=sub (sub s a s.size) 0 (b-a)
  rw [q1,q2,h.ag.sub]
 have key:=vY (sub u c u.size) (b-a).toNat (by omega) (by rw [hv];exact h1) (min 3 (sub u c u.size).size) (by omega) fun i i1 i2 hp=>?_
 ·rw [key];omega
 ·have hm:(32:UInt8)∈((sub u c u.size).extract 0 i).data.toList:=by
   have w:=J1 (sub u c u.size) 0 (i:Int) ⟨Int.le_refl _,by omega,by omega⟩
   have e2:sub (sub u c u.size) 0 (i:Int)=(sub u c u.size).extract 0 i:=by show (sub u c u.size).extract 0 ((i:Int).toNat) = _;rw [Int.toNat_natCast]
   rw [e2] at w
   have q:=C8 (sub u c u.size) 0 (i:Int) (b-a) (Int.le_refl _) (by omega) (by omega) (by omega) (by omega)
   rw [e2,C8 u c u.size (0+(b-a)) p.1 (by omega) (Int.le_refl _) (by omega) (by omega),Int.zero_add,h.bl] at q
   obtain⟨x,hx1,hx2⟩:=fG ((sub u c u.size).extract 0 i) (b-a) (by omega)
   rw [q] at hx2
   have:x=32:=UInt8.toNat_inj.1 (by rw [show (32:UInt8).toNat=32 from rfl];omega)
   subst this
   exact List.mem_of_getElem? hx1
  exact Mg _ hp _ hm rfl
theorem Ev(h:Kj s a b u c)(ha:a<s.size)(hk:¬ (J7 s a).1=0)(hb:(J7 s a).2.1=b):J7 u c=((J7 s a).1,c+(b-a),(J7 s a).2.2):=by
 have l:=h.ag.lo
 have p:=h.ag.up
 have hz:=h.sz
 have lt:=h.lt
 unfold J7 at hk hb ⊢
 rw [h.first]
 by_cases c1:a<0∨(s.size:Int)≤a∨H7 aX (A4 s a)<0
 ·rw [if_pos c1] at hk;exact absurd rfl hk
 rw [if_neg c1] at hk hb ⊢
 rw [if_neg (by omega)]
 by_cases c2:A4 s a=96
 ·rw [if_pos c2] at hk hb ⊢
  by_cases c3:H7 (sub s (a+1) s.size) 96<0
  ·rw [if_pos c3] at hk;exact absurd rfl hk
  rw [if_neg c3] at hk hb ⊢
  dsimp only at hb
  have t:=h.ag.tail 1 (by omega) (by omega)
  have e1:=wY s (a+1) b 96 ⟨by omega,by omega,by omega⟩ (by omega) (by omega)
  have e2:=t.sub
  rw [show c+1+(b-(a+1))=c+(b-a) by omega] at e2
  have e3:=Yo u (c+1) (c+(b-a)) 96 ⟨by omega,by omega,by omega⟩ (by rw [e2,e1];omega)
  rw [e2,e1] at e3
  rw [if_pos c2,e3,if_neg c3]
  refine Prod.ext rfl (Prod.ext ?_ rfl)
  dsimp only
  omega
 ·rw [if_neg c2] at hk hb ⊢
  rw [if_neg c2]
  cases hr:bE s a with
  |none=>rw [hr] at hk;exact absurd rfl hk
  |some e=>
   rw [hr] at hk hb
   have hbe:e=b:=by
    dsimp only at hb
    split at hb<;>exact hb
   have hr2:bE u c=some (c+(b-a)):=by
    unfold bE at hr ⊢
    rw [h.first]
    rw [hbe] at hr
    rw [sF (A4 s a) h.ag (s.size+2) 0 1 (u.size+2) (by omega) (by omega) hr]
    congr 1
    omega
   rw [hr2]
   dsimp only
   by_cases c3:A4 s a=34
   ·rw [if_pos c3,if_pos c3]
   ·rw [if_neg c3,if_neg c3]
set_option maxRecDepth 100000 in
theorem Jo:∀ n:Nat,n<256→128≤n→H7 aX (n:Int)<0:=by decide
theorem Xc(x:Int)(hx:128≤x∧x<256):H7 aX x<0:=by
 have:=Jo x.toNat (by omega) (by omega)
 rwa [show (x.toNat:Int)=x by omega] at this
theorem vX:∀ w∈rQ,∀ x∈w.data.toList,x.toNat<128:=by decide
theorem Tv(s:ByteArray)(a:Int)(h1:0≤a)(h2:a<s.size)(h0:¬ (C9 s a).1=0)(hl:E7 (C9 s a).1=true):a+(C9 s a).2≤P0 s a:=by
 obtain⟨d1,d2⟩:=Y4 s a h0
 have hds:=tJ s a ⟨h1,h2⟩
 have hle:=fF s a.toNat (by omega)
 have z1:=J1 s a s.size ⟨h1,by omega,Int.le_refl _⟩
 obtain⟨f,hf⟩:∃ f,(sub s a s.size).size=f+1:=⟨(sub s a s.size).size-1,by omega⟩
 have e:J9 (sub s a s.size) (sub s a s.size).size 0=J9 (sub s a s.size) f (0+(Utf8.decode s a.toNat).2):=by
  rw [hf]
  simp only [J9]
  rw [if_pos (by omega),hds]
  rw [d2] at hl
  rw [if_neg]
  rintro⟨q,_⟩
  rw [q] at hl
  cases hl
 have hr:=T8 (sub s a s.size) f (0+(Utf8.decode s a.toNat).2)
 unfold P0
 rw [e,d2]
 dsimp only
 split<;>omega
theorem Et{k:Int}(h:Kj s a b u c)(ha:a<s.size)(hl:H0 s a=(k,b))(hk:1≤k∧k≤9):H0 u c=(k,c+(b-a)):=by
 have l:=h.ag.lo
 have p:=h.ag.up
 have hz:=h.sz
 have lt:=h.lt
 have kb:(H0 s a).1=k∧(H0 s a).2=b:=by rw [hl];exact⟨rfl,rfl⟩
 by_cases hasc:A4 s a<128
 ·have hrs:=N7 s a ⟨l.1,ha⟩ hasc
  have hru:=N7 u c ⟨p.1,by omega⟩ (by rw [h.first];exact hasc)
  rw [h.first] at hru
  unfold H0 at kb ⊢
  rw [hrs] at kb
  rw [hru]
  dsimp only at kb ⊢
  by_cases c1:A4 s a=65279
  ·omega
  rw [if_neg c1] at kb ⊢
  by_cases c2:O3 (A4 s a)
  ·rw [if_pos c2] at kb;dsimp only at kb;omega
  rw [if_neg c2] at kb ⊢
  by_cases c3:O2 (sub s a s.size) sP
  ·rw [if_pos c3] at kb
   split at kb<;>(dsimp only at kb;omega)
  rw [if_neg c3] at kb
  rw [if_neg (h.no2 (by decide) c3)]
  by_cases c4:O2 (sub s a s.size) gO
  ·rw [if_pos c4] at kb
   split at kb<;>(dsimp only at kb;omega)
  rw [if_neg c4] at kb
  rw [if_neg (h.no2 (by decide) c4)]
  by_cases c5:E7 (A4 s a)=true
  ·rw [if_pos c5] at kb ⊢
   obtain⟨w1,w2⟩:=lE s a
   rw [w1] at kb
   have e:=vH h kb.2
   unfold aO at kb ⊢
   rw [e,h.ag.sub]
   have e3:=kb.2
   rw [e3] at kb
   by_cases c6:dC (sub s a b)
   ·rw [if_pos c6] at kb ⊢
    rw [←kb.1]
   ·rw [if_neg c6] at kb ⊢
    rw [←kb.1]
  rw [if_neg c5] at kb ⊢
  by_cases c6:A4 s a=59
  ·rw [if_pos c6] at kb ⊢
   dsimp only at kb
   rw [←kb.1]
   refine Prod.ext rfl ?_
   dsimp only
   omega
  rw [if_neg c6] at kb ⊢
  by_cases c7:(S4 s a).2.2=15
  ·rw [if_neg (not_not_intro c7)] at kb
   have hnb:¬ eD s a:=fun q=>by
    unfold S4 at c7
    rw [if_neg (not_not_intro q)] at c7
    split at c7<;>(dsimp only at c7;omega)
   have hnu:(S4 u c).2.2=15:=by
    have:=(Se h ha fun q=>absurd q hnb)
    unfold S4
    rw [if_pos (fun q=>hnb (this.1 q))]
   rw [if_neg (not_not_intro hnu)]
   by_cases c8:(J7 s a).2.2=15
   ·rw [if_neg (not_not_intro c8)] at kb
    have hbu:(J7 u c).2.2=15:=by
     have hm:H7 aX (A4 s a)<0:=by
      by_cases q:H7 aX (A4 s a)<0
      ·exact q
      ·exfalso
       unfold J7 at c8
       rw [if_neg (by omega)] at c8
       split at c8
       ·split at c8<;>(dsimp only at c8;omega)
       ·cases hr:bE s a with
        |none=>rw [hr] at c8;dsimp only at c8;omega
        |some e=>
         rw [hr] at c8
         dsimp only at c8
         split at c8<;>(dsimp only at c8;omega)
     unfold J7
     rw [h.first,if_pos (.inr (.inr hm))]
    rw [if_neg (not_not_intro hbu)]
    by_cases c9:0<Y2 (sub s a s.size)
    ·rw [if_pos c9] at kb
     dsimp only at kb
     have:=Wm h c9 kb.2
     rw [this,if_pos (by omega),←kb.1]
    ·rw [if_neg c9] at kb;dsimp only at kb;omega
   ·rw [if_pos c8] at kb
    dsimp only at kb
    have:=Ev h ha (by omega) kb.2
    rw [this]
    dsimp only
    rw [if_pos c8,kb.1]
  ·rw [if_pos c7] at kb
   dsimp only at kb
   have:=Ss h ha (by omega) kb.2
   rw [this]
   dsimp only
   rw [if_pos c7,kb.1]
 ·have hrg:=L0 s a
  have hnb:¬ eD s a:=fun q=>by
   have q2:=q.2.2
   have:¬ cA (A4 s a)<10:=by
    unfold cA
    rw [if_neg (by omega),if_neg (by omega),if_neg (by omega)]
    omega
   omega
  have hnum:(S4 s a).2.2=15:=by
   unfold S4
   rw [if_pos hnb]
  have hbeg:(J7 s a).2.2=15:=by
   unfold J7
   rw [if_pos (.inr (.inr (Xc _ ⟨by omega,hrg.2⟩)))]
  have hsgn:¬ 0<Y2 (sub s a s.size):=fun q=>by
   unfold Y2 at q
   obtain⟨h1,h2⟩:=iX _ _ q
   have z1:=J1 s a s.size ⟨l.1,by omega,Int.le_refl _⟩
   generalize T2 (sub s a s.size) (min 3 (sub s a s.size).size)=g at *
   have w:=J1 (sub s a s.size) 0 (g.toNat:Int) ⟨Int.le_refl _,by omega,by omega⟩
   have e2:sub (sub s a s.size) 0 (g.toNat:Int)=(sub s a s.size).extract 0 g.toNat:=by show (sub s a s.size).extract 0 ((g.toNat:Int).toNat) = _;rw [Int.toNat_natCast]
   rw [e2] at w
   have q:=C8 (sub s a s.size) 0 (g.toNat:Int) 0 (Int.le_refl _) (by omega) (by omega) (by omega) (by omega)
   rw [e2,C8 s a s.size (0+0) l.1 (by omega) (Int.le_refl _) (by omega) (by omega),show a+(0+0)=a by omega] at q
   obtain⟨x,hx1,hx2⟩:=fG ((sub s a s.size).extract 0 g.toNat) 0 (by omega)
   rw [q] at hx2
   have:=vX _ h1 _ (List.mem_of_getElem? hx1)
   omega
  by_cases c5:E7 (C9 s a).1=true
  ·have h0:¬ (C9 s a).1=0:=fun e=>by rw [e] at c5;exact zE c5
   obtain⟨d1,d2⟩:=Y4 s a h0
   have hw:=Ak s a h0
   unfold H0 at kb ⊢
   by_cases c1:(C9 s a).1=65279
   ·rw [if_pos c1] at kb;dsimp only at kb;omega
   rw [if_neg c1] at kb
   by_cases c2:O3 (C9 s a).1
   ·rw [if_pos c2] at kb;dsimp only at kb;omega
   rw [if_neg c2] at kb
   by_cases c3:O2 (sub s a s.size) sP
   ·rw [if_pos c3] at kb
    split at kb<;>(dsimp only at kb;omega)
   rw [if_neg c3] at kb
   by_cases c4:O2 (sub s a s.size) gO
   ·rw [if_pos c4] at kb
    split at kb<;>(dsimp only at kb;omega)
   rw [if_neg c4,if_pos c5] at kb
   obtain⟨w1,w2⟩:=lE s a
   rw [w1] at kb
   have hwt:=Tv s a l.1 ha h0 c5
   have hr:=wF 0 h.ag (Int.le_refl _) (by rw [Int.add_zero];omega) (by rw [Int.add_zero];omega)
   rw [Int.add_zero,Int.add_zero] at hr
   rw [hr,if_neg c1,if_neg c2,if_neg (h.no2 (by decide) c3),if_neg (h.no2 (by decide) c4),if_pos c5]
   have e:=vH h kb.2
   unfold aO at kb ⊢
   rw [e,h.ag.sub]
   have e3:=kb.2
   rw [e3] at kb
   by_cases c6:dC (sub s a b)
   ·rw [if_pos c6] at kb ⊢
    rw [←kb.1]
   ·rw [if_neg c6] at kb ⊢
    rw [←kb.1]
  ·exfalso
   unfold H0 at kb
   by_cases c1:(C9 s a).1=65279
   ·rw [if_pos c1] at kb;dsimp only at kb;omega
   rw [if_neg c1] at kb
   by_cases c2:O3 (C9 s a).1
   ·rw [if_pos c2] at kb;dsimp only at kb;omega
   rw [if_neg c2] at kb
   by_cases c3:O2 (sub s a s.size) sP
   ·rw [if_pos c3] at kb
    split at kb<;>(dsimp only at kb;omega)
   rw [if_neg c3] at kb
   by_cases c4:O2 (sub s a s.size) gO
   ·rw [if_pos c4] at kb
    split at kb<;>(dsimp only at kb;omega)
   rw [if_neg c4,if_neg c5] at kb
   by_cases c6:(C9 s a).1=59
   ·have:=(oX s a (by omega) (by omega)).1
    omega
   rw [if_neg c6,if_neg (not_not_intro hnum),if_neg (not_not_intro hbeg),if_neg hsgn] at kb
   dsimp only at kb
   omega
end
end Go.Ex
namespace Go.Ex
open Go.Proofs
structure Lx(s:ByteArray)(a:Int)(u:List UInt8):Prop where
 lo:0≤a
 eq:s.data.toList.drop a.toNat=u
 hi:a≤s.size
theorem Lx.len{s:ByteArray}{a:Int}{u:List UInt8}(h:Lx s a u):(s.size:Int)=a+u.length:=by
 have h1:s.data.toList.length=s.size:=(Lib.size_eq s).symm
 have h2:=congrArg List.length h.eq
 rw [List.length_drop,h1] at h2
 have:=h.lo
 have:=h.hi
 omega
theorem Lx.skip{s:ByteArray}{a:Int}(w:List UInt8){u:List UInt8}(h:Lx s a (w++u)):Lx s (a+w.length) u:=by
 have hl:=h.len
 have h0:=h.lo
 rw [List.length_append] at hl
 refine⟨by omega,?_,by omega⟩
 rw [show (a+(w.length:Int)).toNat=a.toNat+w.length by omega,←List.drop_drop,h.eq,List.drop_left]
theorem Lx.tl{s:ByteArray}{a:Int}{c:UInt8}{r:List UInt8}(h:Lx s a (c::r)):Lx s (a+1) r:=Lx.skip [c] h
theorem Lx.lt{s:ByteArray}{a:Int}{c:UInt8}{r:List UInt8}(h:Lx s a (c::r)):0≤a∧a<s.size:=by
 have h1:=h.len
 have h0:=h.lo
 rw [List.length_cons] at h1
 omega
theorem Xp{l:List UInt8}{n:Nat}{c:UInt8}{r:List UInt8}(h:l.drop n=c::r):l.getD n 0=c:=by
 have h1:=congrArg (fun l=>l[0]?) h
 simp only [List.getElem?_drop,List.getElem?_cons_zero,Nat.add_zero] at h1
 rw [List.getD_eq_getElem?_getD,h1]
 rfl
theorem Lx.byte{s:ByteArray}{a:Int}{c:UInt8}{r:List UInt8}(h:Lx s a (c::r)):A4 s a=c.toNat:=by
 unfold A4
 rw [Xp h.eq]
theorem Lx.lst{s:ByteArray}{a:Int}{u:List UInt8}(h:Lx s a u):(sub s a s.size).data.toList=u:=(rF s a ⟨h.lo,h.hi⟩).trans h.eq
theorem Lx.part{s:ByteArray}{a:Int}(w:List UInt8){u:List UInt8}(h:Lx s a (w++u)):sub s a (a+w.length)=⟨w.toArray⟩:=by
 have h0:=h.lo
 refine ByteArray.ext ?_
 show (s.extract a.toNat (a+w.length).toNat).data=w.toArray
 rw [ByteArray.data_extract]
 apply Array.ext'
 rw [Array.toList_extract,List.extract_eq_take_drop,h.eq,show (a+(w.length:Int)).toNat-a.toNat=w.length by omega,List.take_left]
theorem Lx.read{s:ByteArray}{a:Int}{c:UInt8}{r:List UInt8}(h:Lx s a (c::r))(hc:c.toNat<128):C9 s a=((c.toNat:Int),1):=by
 rw [N7 s a h.lt (by rw [h.byte];omega),h.byte]
def EK(c:UInt8):Prop:=c.toNat<128∧¬ O3 c.toNat∧¬ c=47∧¬ E7 c.toNat=true∧¬ (c.toNat:Int)=59∧¬ cA c.toNat<10∧¬ (c.toNat:Int)=46∧H7 aX c.toNat<0∧iQ ⟨#[c]⟩
instance (c:UInt8):Decidable (EK c):=by unfold EK;exact inferInstance
theorem wP{s:ByteArray}{a:Int}{r:List UInt8}(h:Lx s a (32::r))(hr:∀ d l,r=d::l→eC.data.toList.contains d=false):H0 s a=(10,a+1):=by
 have hs:=h.lst
 have hz:=h.len
 unfold H0
 rw [h.read (by decide)]
 dsimp only
 rw [if_neg (by decide),if_pos (by decide)]
 have e:(jM (sub s a s.size)).size=r.length:=by
  unfold jM Lib.trimLeftS
  show (List.dropWhile _ (sub s a s.size).data.toList).toArray.size = _
  rw [hs,List.dropWhile_cons,if_pos (by decide),List.size_toArray]
  match r,hr with
  |[],hr=>rfl
  |d::l,hr=>
   rw [List.dropWhile_cons,if_neg (by rw [hr d l rfl];decide)]
 rw [e]
 rw [List.length_cons] at hz
 rw [show (s.size:Int)-(r.length:Int)=a+1 by omega]
def nA(s:ByteArray)(a:Int)(al:List M7):Prop:=∀ (f:Nat) (acc:List M7),(s.size:Int)-a<f→dB s f acc a=(acc++al,0,0)
theorem nA.end_{s:ByteArray}{a:Int}(h:(s.size:Int)≤a)(h1:a≤s.size):nA s a []:=by
 intro f acc hf
 obtain⟨f,rfl⟩:∃ g,f=g+1:=⟨f-1,by omega⟩
 rw [dB,if_pos h,List.append_nil]
theorem nA.cons{s:ByteArray}{a b k:Int}{al:List M7}(h:H0 s a=(k,b))(h0:a<s.size)(hk:¬ k=0)(hb:a<b)(hn:nA s b al):nA s a (⟨k,a,b⟩::al):=by
 intro f acc hf
 obtain⟨f,rfl⟩:∃ g,f=g+1:=⟨f-1,by omega⟩
 rw [dB,if_neg (by omega),h]
 dsimp only
 rw [if_neg hk,hn f _ (by omega),List.append_assoc]
 rfl
def vw(s:ByteArray)(t:M7):Int×ByteArray:=(t.kind,sub s t.frm t.to)
end Go.Ex
namespace Go.Ex
open Go.Proofs
def eG(note:List UInt8):List UInt8:=32::47::42::(note++[42,47,32])
theorem Xk{s:ByteArray}{a:Int}{x y:UInt8}{r:List UInt8}(h:Lx s a (x::y::r)):O2 (sub s a s.size) ⟨#[x,y]⟩:=by
 rw [Jd s a x y ⟨h.lo,h.hi⟩]
 have h2:=h.tl
 have:=h2.lt
 exact⟨by omega,h.byte,h2.byte⟩
theorem Oo{s:ByteArray}{a:Int}{note r:List UInt8}(h:Lx s a (47::42::(note++42::47::r)))(hn:∀ x∈note,x≠42):H0 s a=(12,a+note.length+4):=by
 have hr:=h.read (by decide)
 have hlt:=h.lt
 have hnl:¬ O2 (sub s a s.size) sP:=by
  rw [Jd s a 47 47 ⟨h.lo,h.hi⟩]
  rintro⟨_,_,q⟩
  rw [h.tl.byte] at q
  exact absurd q (by decide)
 have hl:=h.len
 simp only [List.length_cons,List.length_append] at hl
 have z1:=J1 s a s.size ⟨h.lo,h.hi,Int.le_refl _⟩
 have e2:(sub (sub s a s.size) 2 (sub s a s.size).size).data.toList=note++42::47::r:=by
  rw [rF (sub s a s.size) 2 (by omega),h.lst]
  rfl
 have e3:jI (sub (sub s a s.size) 2 (sub s a s.size).size)=note.length:=by
  unfold jI
  rw [e2]
  refine Lib.index_first (by simp) ?_ fun j hj=>?_
  ·unfold Lib.occAt
   rw [List.drop_left]
   rfl
  ·unfold Lib.occAt
   have:(note++42::47::r).drop j=note[j]::((note++42::47::r).drop (j+1)):=by
    rw [List.drop_eq_getElem_cons (by simp;omega),List.getElem_append_left hj]
   rw [this]
   show (42 == note[j] && _)=false
   rw [show ((42:UInt8) == note[j])=false by
    rw [beq_eq_false_iff_ne]
    exact Ne.symm (hn _ (List.getElem_mem hj))]
   rfl
 unfold H0
 rw [hr,e3]
 dsimp only
 rw [if_neg (by decide),if_neg (by decide),if_neg hnl,if_pos (Xk h),if_pos (by omega)]
theorem cZ(x:UInt8):∀ l:List UInt8,(∀ y∈l,y≠x)→Go.Lib.indexByte l x = -1
 |[],h=>rfl
 |b::l,h=>by
  unfold Go.Lib.indexByte
  rw [if_neg (by simpa using h b List.mem_cons_self),cZ x l fun y hy=>h y (List.mem_cons_of_mem _ hy)]
  rfl
theorem Jk{s:ByteArray}{a:Int}{w u:List UInt8}(h:Lx s a (w++u))(hw:∀ y∈w,y≠10):¬ 0≤H7 (sub s a (a+w.length)) 10:=by
 rw [h.part]
 unfold H7
 rw [show ((10:Int).toNat.toUInt8)=10 from rfl,cZ 10 _ (by simpa using hw)]
 decide
theorem Ct{s:ByteArray}{a:Int}{r:List UInt8}(h:Lx s a (47::47::r))(hn:∀ y∈r,y≠10):H0 s a=(11,(s.size:Int)):=by
 have hr:=h.read (by decide)
 have hlt:=h.lt
 have e:¬ 0≤H7 (sub s a s.size) 10:=by
  unfold H7
  rw [h.lst,show ((10:Int).toNat.toUInt8)=10 from rfl,cZ 10 _ (by
   intro y hy
   rcases List.mem_cons.1 hy with rfl|hy
   ·decide
   ·rcases List.mem_cons.1 hy with rfl|hy
    ·decide
    ·exact hn y hy)]
  decide
 unfold H0
 rw [hr]
 dsimp only
 rw [if_neg (by decide),if_neg (by decide),if_pos (Xk h),if_neg e]
def Ny(s:ByteArray)(t:M7):Int×ByteArray:=(t.kind,N5 s t)
def lD(s:ByteArray)(a:Int)(V:List (Int×ByteArray)):Prop:=
 ∃ al T:List M7,nA s a al∧(∀ acc e0,al.foldl (D4 s) (acc,e0)=(acc++T,if V=[] then e0 else -1))∧T.map (vw s)=V
theorem lD.end_{s:ByteArray}{a:Int}(h:Lx s a []):lD s a []:=by
 have hl:=h.len
 rw [List.length_nil] at hl
 exact⟨[],[],nA.end_ (by omega) h.hi,fun acc e0=>by simp,rfl⟩
theorem lD.sil{s:ByteArray}{a b k:Int}{V:List (Int×ByteArray)}(h0:a<s.size)(hl:H0 s a=(k,b))(hk:gT k)(hb:a<b)(hn:¬ 0≤H7 (sub s a b) 10)(hr:lD s b V):lD s a V:=by
 obtain⟨al,T,h1,h2,h3⟩:=hr
 refine⟨⟨k,a,b⟩::al,T,nA.cons hl h0 (by unfold gT at hk;omega) hb h1,fun acc e0=>?_,h3⟩
 rw [List.foldl_cons]
 have:D4 s (acc,e0) ⟨k,a,b⟩=(acc,e0):=by
  unfold D4
  rw [if_pos hk]
  dsimp only
  rw [if_neg hn]
 rw [this,h2]
theorem lD.cons{s:ByteArray}{a k:Int}{w u:List UInt8}{V:List (Int×ByteArray)}(h:Lx s a (w++u))(hl:H0 s a=(k,a+w.length))(hw:0<w.length)(hk:¬ k=0)(hs:¬ gT k)(he:V≠[]∨¬ aU k ⟨w.toArray⟩)(hr:lD s (a+w.length) V):lD s a ((k,⟨w.toArray⟩)::V):=by
 obtain⟨al,T,h1,h2,h3⟩:=hr
 have hz:=h.len
 have h0:=h.lo
 rw [List.length_append] at hz
 refine⟨⟨k,a,a+w.length⟩::al,⟨k,a,a+w.length⟩::T,nA.cons hl (by omega) hk (by omega) h1,?_,?_⟩
 ·intro acc e0
  rw [List.foldl_cons]
  have:D4 s (acc,e0) ⟨k,a,a+w.length⟩=(acc++[⟨k,a,a+w.length⟩],if aU k (sub s a (a+w.length)) then a+w.length else -1):=by
   unfold D4
   rw [if_neg hs]
  rw [this,h2,List.append_assoc,h.part]
  rw [if_neg (List.cons_ne_nil _ _)]
  by_cases hv:V=[]
  ·rw [if_pos hv]
   rw [if_neg (he.resolve_left (fun q=>q hv))]
   rfl
  ·rw [if_neg hv]
   rfl
 ·rw [List.map_cons,h3]
  unfold vw
  dsimp only
  rw [h.part]
theorem lD.cc{s:ByteArray}{a:Int}{note r:List UInt8}{V:List (Int×ByteArray)}(h:Lx s a (eG note++r))(hn:∀ x∈note,x≠42∧x≠10)(hr0:∀ d l,r=d::l→eC.data.toList.contains d=false)(hr:lD s (a+(eG note).length) V):lD s a V:=by
 have e0:eG note++r=32::(47::42::(note++42::47::(32::r))):=by unfold eG;simp
 rw [e0] at h
 have h1:=h.tl
 have e1:(47::42::(note++42::47::(32::r)):List UInt8)=(47::42::(note++[42,47]))++(32::r):=by simp
 have hb:=Oo h1 fun x hx=>(hn x hx).1
 have h1':=h1
 rw [e1] at h1'
 have h2:=h1'.skip (47::42::(note++[42,47]))
 have el:((47::42::(note++[42,47]):List UInt8).length:Int)=note.length+4:=by simp;omega
 rw [el] at h2
 have l0:=h.lt
 have l1:=h1.lt
 have l2:=h2.lt
 have ec:((eG note).length:Int)=note.length+6:=by unfold eG;simp;omega
 rw [ec] at hr
 refine lD.sil l0.2 (wP h fun d l e=>by cases e;decide) (.inl rfl) (by omega) ?_ ?_
 ·exact Jk (w:=[32]) h (by decide)
 refine lD.sil l1.2 hb (by unfold gT;omega) (by omega) ?_ ?_
 ·have:=Jk h1' (by
   intro y hy
   rcases List.mem_cons.1 hy with rfl|hy
   ·decide
   rcases List.mem_cons.1 hy with rfl|hy
   ·decide
   rcases List.mem_append.1 hy with hy|hy
   ·exact (hn y hy).2
   ·rcases List.mem_cons.1 hy with rfl|hy
    ·decide
    ·rw [List.mem_singleton.1 hy];decide)
  rw [el] at this
  rwa [show a+1+((note.length:Int)+4)=a+1+note.length+4 by omega] at this
 rw [show a+1+((note.length:Int)+4)=a+1+note.length+4 by omega] at h2 l2
 refine lD.sil l2.2 (wP h2 hr0) (.inl rfl) (by omega) ?_ ?_
 ·exact Jk (w:=[32]) h2 (by decide)
 ·rwa [show a+1+(note.length:Int)+4+1=a+(note.length+6) by omega]
def tB(s:ByteArray)(cc e:List UInt8):List M7→List UInt8
 |[]=>e
 |x::r=>(N5 s x).data.toList++(cc++tB s cc e r)
def DP(s:ByteArray)(t:M7):Prop:=((0≤t.frm∧t.frm<s.size)∧H0 s t.frm=(t.kind,t.to)∧(1≤t.kind∧t.kind≤9)∧t.frm<t.to∧t.to≤s.size)∨∃ e,t=⟨9,e,e⟩
theorem Ei{s:ByteArray}{a k b:Int}(ha:0≤a∧a<s.size)(h:H0 s a=(k,b))(hk:k≤9)(x:UInt8)(hx:A4 s a=x.toNat):eC.data.toList.contains x=false:=by
 have hn:¬ O3 (A4 s a):=by
  intro hb
  have h1:=N7 s a ha (by unfold O3 at hb;omega)
  have hkk:(H0 s a).1=k:=by rw [h]
  unfold H0 at hkk
  rw [h1] at hkk
  dsimp only at hkk
  rw [if_neg (by unfold O3 at hb;omega),if_pos hb] at hkk
  dsimp only at hkk
  omega
 rw [hx] at hn
 unfold O3 at hn
 have hx':x≠32∧x≠9∧x≠13∧x≠10:=by
  refine⟨?_,?_,?_,?_⟩<;>(intro e;subst e;apply hn;decide)
 show ([32,9,13,10]:List UInt8).contains x=false
 simp [List.contains_cons,hx'.1,hx'.2.1,hx'.2.2.1,hx'.2.2.2]
theorem kA(s:ByteArray){t:M7}(h:t.kind=9):N5 s t=⟨#[59]⟩:=by unfold N5;rw [if_pos h]
theorem lD.all{s u:ByteArray}{note e:List UInt8}(hn:∀ x∈note,x≠42∧x≠10)(he:∀ a,Lx u a e→lD u a [])(hb:∀ d l,e=d::l→eC.data.toList.contains d=false) :
 ∀ (R:List M7) (a:Int),(∀ x∈R,DP s x)→(∀ x,R.getLast?=some x→¬ aU x.kind (N5 s x))→Lx u a (tB s (eG note) e R)→lD u a (R.map (Ny s))∧∀ d l,tB s (eG note) e R=d::l→eC.data.toList.contains d=false
 |[],a,hR,hl,h=>⟨he a h,hb⟩
 |x::r,a,hR,hl,h=>by
  have hx:=hR x List.mem_cons_self
  obtain⟨w,hw⟩:∃ w,(N5 s x).data.toList=w:=⟨_,rfl⟩
  have hw':N5 s x=⟨w.toArray⟩:=ByteArray.ext (by rw [←hw])
  simp only [tB] at h ⊢
  rw [hw] at h ⊢
  have h1:=h.skip w
  obtain⟨rest,hrest⟩:∃ rest,eG note++tB s (eG note) e r=32::rest:=⟨_,rfl⟩
  have h2:=(h1.skip (eG note))
  have ih:=lD.all hn he hb r _ (fun y hy=>hR y (List.mem_cons_of_mem _ hy)) (fun y hy=>hl y (by
   cases r with
   |nil=>cases hy
   |cons z r=>rw [List.getLast?_cons_cons];exact hy)) h2
  have hcc:=lD.cc h1 hn ih.2 ih.1
  have hend:r.map (Ny s)≠[]∨¬ aU x.kind ⟨w.toArray⟩:=by
   cases r with
   |nil=>rw [←hw'];exact .inr (hl x rfl)
   |cons z r=>exact .inl (List.cons_ne_nil _ _)
  have key:0<w.length∧H0 u a=(x.kind,a+w.length)∧(1≤x.kind∧x.kind≤9)∧(∀ d l,w=d::l→eC.data.toList.contains d=false):=by
   by_cases hk:x.kind=9
   ·rw [kA s hk] at hw
    have hw2:w=[59]:=hw.symm
    subst hw2
    have hlt:=(show Lx u a (59::_) from h).lt
    have hby:=(show Lx u a (59::_) from h).byte
    refine⟨by decide,?_,by omega,fun d l e=>by cases e;decide⟩
    rw [Po u a hlt hby,hk]
    rfl
   ·rcases hx with ⟨⟨f0,f1⟩,hlx,hkr,hft,hto⟩|⟨e,rfl⟩
    ·have et:N5 s x=sub s x.frm x.to:=by unfold N5;rw [if_neg hk]
     have z:=J1 s x.frm x.to ⟨f0,by omega,hto⟩
     have hwl:(w.length:Int)=x.to-x.frm:=by
      rw [←hw,et,←z]
      exact congrArg Int.ofNat (Lib.size_eq _).symm
     have hlen:=h.len
     rw [List.length_append] at hlen
     have hblk:Kj s x.frm x.to u a:=by
      rw [hrest] at h1
      refine⟨⟨⟨f0,by omega,hto⟩,⟨h.lo,by omega⟩,fun p p0 p1=>?_⟩,hft,?_,?_⟩
      ·have q1:=C8 s x.frm x.to p f0 (by omega) hto p0 p1
       have q2:=h.part w
       have q3:=C8 u a (a+w.length) p h.lo (by omega) (by omega) p0 (by omega)
       rw [q2,←hw',et,q1] at q3
       exact q3.symm
      ·have:=h1.lt
       omega
      ·have:=h1.byte
       rw [hwl] at this
       exact this
     have:=Et hblk f1 hlx hkr
     refine⟨by omega,by rw [this,hwl],hkr,fun d l e=>?_⟩
     have hd:A4 s x.frm=d.toNat:=by
      have:=hblk.first
      rw [←this]
      rw [e] at h
      exact (show Lx u a (d::_) from h).byte
     exact Ei ⟨f0,f1⟩ hlx hkr.2 d hd
    ·exact absurd rfl hk
  obtain⟨k1,k2,k3,k4⟩:=key
  refine⟨?_,fun d l e=>?_⟩
  ·have:=lD.cons h k2 k1 (by omega) (by unfold gT;omega) hend hcc
   rw [List.map_cons]
   show lD u a ((x.kind,N5 s x)::_)
   rw [hw']
   exact this
  ·cases w with
   |nil=>exact absurd k1 (by decide)
   |cons y w=>
    cases e
    exact k4 _ _ rfl
theorem Ng{u:ByteArray}{V:List (Int×ByteArray)}(hc:¬ 0≤W1 u)(hz:u.size≤65536)(h:lD u 0 V):∃ T,P2 u=(T,0,0)∧T.map (vw u)=V:=by
 obtain⟨al,T,h1,h2,h3⟩:=h
 have e1:V5 u=(al,0,0):=by
  unfold V5
  rw [if_neg (by omega),if_neg hc,h1 _ _ (by omega)]
  rfl
 refine⟨T,?_,h3⟩
 unfold P2
 rw [e1]
 dsimp only
 rw [if_pos ⟨rfl,rfl⟩]
 unfold uP
 rw [h2,fE (by split<;>decide)]
 rfl
end Go.Ex
namespace Go.Ex
open Go.Proofs
structure O0(I J:In):Prop where
 w:word I=word J
 k:B9 I=B9 J
 l:I.L=J.L
 p:I.pair=J.pair
section
variable {I J:In}
theorem F7(h:O0 I J):want I=want J:=by
 funext
 simp only [want,h.w]
theorem N0(h:O0 I J):Q7 I=Q7 J:=by
 funext
 simp only [Q7,h.k]
theorem rG(h:O0 I J):rH I=rH J:=by
 funext
 simp only [rH,h.k]
theorem rT(h:O0 I J)(w:ByteArray)(one:Int→G3 Nd):∀ f:Nat,P1 I w one f=P1 J w one f
 |0=>rfl
 |f+1=>by
  have ih:=rT h w one f
  funext
  simp only [P1,ih,h.w]
theorem wA(h:O0 I J):P1 I=P1 J:=by
 funext w one f
 exact rT h w one f
theorem aB(h:O0 I J):F6 I=F6 J:=by
 funext
 simp only [F6,h.l]
theorem iE(h:O0 I J):jG I=jG J:=by
 funext
 simp only [jG,wA h,aB h]
theorem oS(h:O0 I J)(mark shut:ByteArray)(one:Int→Int→G3 (Nd×Int)):∀ f:Nat,T3 I mark shut one f=T3 J mark shut one f
 |0=>rfl
 |f+1=>by
  have ih:=oS h mark shut one f
  funext
  simp only [T3,ih,h.w,F7 h]
theorem rX(h:O0 I J):T3 I=T3 J:=by
 funext mark shut one f
 exact oS h mark shut one f
theorem Y3(h:O0 I J):T5 I=T5 J:=by
 funext
 simp only [T5,F7 h,aB h,rX h]
theorem Ni(h:O0 I J)(g:Gt):eB I g=eB J g:=by
 funext
 simp only [eB,iE h]
theorem tQ(h:O0 I J)(g:Gt)(t:Bool)(least frm:Int):∀ f:Nat,hI I g t least frm f=hI J g t least frm f
 |0=>rfl
 |f+1=>by
  have ih:=tQ h g t least frm f
  funext
  simp only [hI,ih,h.w]
theorem xM(h:O0 I J)(g:Gt):hI I g=hI J g:=by
 funext t least frm f
 exact tQ h g t least frm f
theorem Qe(h:O0 I J)(g:Gt):bD I g=bD J g:=by
 funext
 simp only [bD,aB h,xM h]
theorem Sf(h:O0 I J)(g:Gt):fQ I g=fQ J g:=by
 funext
 simp only [fQ,h.w]
theorem Jl(h:O0 I J):La I=La J:=by
 funext
 simp only [La,h.k]
theorem yZ(h:O0 I J)(g:Gt):Z8 I g=Z8 J g:=by
 funext
 simp only [Z8,h.w,F7 h,N0 h,Jl h]
theorem Ge(h:O0 I J)(g:Gt):zU I g=zU J g:=by
 funext
 simp only [zU,h.w,F7 h,N0 h]
theorem Ze(h:O0 I J)(g:Gt):jJ I g=jJ J g:=by
 funext
 simp only [jJ,h.w]
theorem xK(h:O0 I J)(g:Gt):mW I g=mW J g:=by
 funext
 simp only [mW,F7 h,Y3 h,Ze h]
theorem rP(h:O0 I J)(g:Gt):fS I g=fS J g:=by
 funext
 simp only [fS,h.w,F7 h]
theorem sX(h:O0 I J)(g:Gt) :∀ f:Nat,gZ I g  f=gZ J g  f
 |0=>rfl
 |f+1=>by
  have ih:=sX h g  f
  funext
  simp only [gZ,ih,h.w]
theorem wW(h:O0 I J)(g:Gt):gZ I g=gZ J g:=by
 funext  f
 exact sX h g  f
theorem jD(h:O0 I J):maybe I=maybe J:=by
 funext
 simp only [maybe,h.w]
theorem sR(h:O0 I J)(g:Gt):cY I g=cY J g:=by
 funext
 simp only [cY,h.w,F7 h,aB h,rP h,wW h,jD h]
theorem oY(h:O0 I J)(g:Gt)(t:Bool)(frm:Int):∀ f:Nat,X4 I g t frm f=X4 J g t frm f
 |0=>rfl
 |f+1=>by
  have ih:=oY h g t frm f
  funext
  simp only [X4,ih,h.w,Ge h,xK h,sR h]
theorem sJ(h:O0 I J)(g:Gt):X4 I g=X4 J g:=by
 funext t frm f
 exact oY h g t frm f
theorem yX(h:O0 I J)(g:Gt):W3 I g=W3 J g:=by
 funext
 simp only [W3,aB h,sJ h]
theorem uT(h:O0 I J)(g:Gt):V2 I g=V2 J g:=by
 funext
 simp only [V2,F7 h,Y3 h]
theorem zT(h:O0 I J)(g:Gt):aE I g=aE J g:=by
 funext
 simp only [aE,h.w]
theorem Pf(h:O0 I J)(g:Gt):fO I g=fO J g:=by
 funext
 simp only [fO,h.w]
theorem Zb(h:O0 I J)(g:Gt):aJ I g=aJ J g:=by
 funext
 simp only [aJ,h.w,F7 h]
theorem lZ(h:O0 I J):F1 I=F1 J:=by
 funext
 simp only [F1,F7 h,Y3 h]
theorem Fa(h:O0 I J)(g:Gt):fK I g=fK J g:=by
 funext
 simp only [fK,h.w,h.k,F7 h,jD h,Zb h,lZ h]
theorem iL(h:O0 I J)(g:Gt):S2 I g=S2 J g:=by
 funext
 simp only [S2,h.w,F7 h,Y3 h]
theorem uL(h:O0 I J)(g:Gt):U7 I g=U7 J g:=by
 funext
 simp only [U7,h.w,N0 h,iL h]
theorem iO(h:O0 I J):V6 I=V6 J:=by
 funext
 simp only [V6,h.w,h.p]
theorem iP(h:O0 I J):aG I=aG J:=by
 funext
 simp only [aG,h.p]
theorem Wa(h:O0 I J):rB I=rB J:=by
 funext
 simp only [rB,h.k,rG h]
theorem rI(h:O0 I J):cS I=cS J:=by
 funext
 simp only [cS,h.w,h.k]
theorem Ce(h:O0 I J):mN I=mN J:=by
 funext
 simp only [mN,h.w,h.k,iO h,iP h,rI h]
theorem Li(h:O0 I J)(g:Gt):gJ I g=gJ J g:=by
 funext
 simp only [gJ,h.w,h.k,Wa h,Ce h]
theorem Vp(h:O0 I J)(g:Gt):mP I g=mP J g:=by
 funext
 simp only [mP,h.w,h.k,N0 h]
theorem lG(h:O0 I J)(g:Gt):D5 I g=D5 J g:=by
 funext
 simp only [D5,h.w]
theorem Rf(h:O0 I J)(g:Gt):fP I g=fP J g:=by
 funext
 simp only [fP,iE h,lG h]
theorem Nh(h:O0 I J):dX I=dX J:=by
 funext
 simp only [dX,N0 h,iE h]
theorem rR(h:O0 I J)(g:Gt):R5 I g=R5 J g:=by
 funext
 simp only [R5,h.w,h.k]
theorem Kc(h:O0 I J)(g:Gt):cG I g=cG J g:=by
 funext
 simp only [cG,F7 h,Y3 h]
theorem xO(h:O0 I J):fH I=fH J:=by
 funext
 simp only [fH,h.w,h.k,iO h,iP h]
theorem Hh(h:O0 I J)(g:Gt):gF I g=gF J g:=by
 funext
 simp only [gF,h.w,N0 h,xO h]
theorem xZ(h:O0 I J)(g:Gt):Z2 I g=Z2 J g:=by
 funext
 simp only [Z2,h.w,F7 h,Y3 h]
theorem Fi(h:O0 I J)(g:Gt):R6 I g=R6 J g:=by
 funext
 simp only [R6,h.w,F7 h,Y3 h]
theorem pX(h:O0 I J):P5 I=P5 J:=by
 funext
 simp only [P5,h.w,h.k,N0 h,rG h]
theorem iJ(h:O0 I J)(g:Gt):V1 I g=V1 J g:=by
 funext
 simp only [V1,h.w]
theorem tL(h:O0 I J)(g:Gt):R9 I g=R9 J g:=by
 funext
 simp only [R9,h.w,h.l,iJ h]
theorem qY(h:O0 I J)(g:Gt):R4 I g=R4 J g:=by
 funext
 simp only [R4,h.w,iJ h]
theorem mG(h:O0 I J):U5 I=U5 J:=by
 funext
 simp only [U5,h.w,h.k]
theorem uK(h:O0 I J)(g:Gt):U6 I g=U6 J g:=by
 funext
 simp only [U6,h.w,N0 h,mG h]
theorem Kx(h:O0 I J)(g:Gt):Mx I g=Mx J g:=by
 funext
 simp only [Mx,h.w,F7 h,N0 h]
theorem sU(h:O0 I J)(g:Gt)(t:Bool):∀ f:Nat,gY I g t f=gY J g t f
 |0=>rfl
 |f+1=>by
  have ih:=sU h g t f
  funext
  simp only [gY,ih,h.w,F7 h]
theorem wU(h:O0 I J)(g:Gt):gY I g=gY J g:=by
 funext t f
 exact sU h g t f
theorem pN(h:O0 I J)(g:Gt)(t:Bool):∀ f:Nat,R8 I g t f=R8 J g t f
 |0=>rfl
 |f+1=>by
  have ih:=pN h g t f
  funext
  simp only [R8,ih,h.w,F7 h]
theorem tK(h:O0 I J)(g:Gt):R8 I g=R8 J g:=by
 funext t f
 exact pN h g t f
theorem Jp(h:O0 I J)(g:Gt):jQ I g=jQ J g:=by
 funext
 simp only [jQ,F7 h,N0 h,aB h,wU h,tK h]
theorem vU(h:O0 I J)(g:Gt)(t:Bool):∀ f:Nat,lP I g t f=lP J g t f
 |0=>rfl
 |f+1=>by
  have ih:=vU h g t f
  funext
  simp only [lP,ih,h.w,h.l,F7 h]
theorem Ob(h:O0 I J)(g:Gt):lP I g=lP J g:=by
 funext t f
 exact vU h g t f
theorem vC(h:O0 I J)(g:Gt):V4 I g=V4 J g:=by
 funext
 simp only [V4,aB h,Ob h]
theorem Vi(h:O0 I J)(g:Gt):gP I g=gP J g:=by
 funext
 simp only [gP,F7 h]
theorem kF(h:O0 I J):bS I=bS J:=by
 funext
 simp only [bS,h.w,h.l]
theorem Qm(h:O0 I J)(g:Gt):F8 I g=F8 J g:=by
 funext
 simp only [F8,h.w,h.k,N0 h,kF h]
theorem yQ(h:O0 I J)(g:Gt):Z3 I g=Z3 J g:=by
 funext
 simp only [Z3,h.w]
theorem uQ(h:O0 I J)(g:Gt):U9 I g=U9 J g:=by
 funext
 simp only [U9,kF h]
theorem Pe(h:O0 I J):cJ I=cJ J:=by
 funext
 simp only [cJ,h.w,h.k,N0 h]
theorem nM(h:O0 I J)(g:Gt):U3 I g=U3 J g:=by
 funext
 simp only [U3,h.w]
theorem Ub(h:O0 I J)(g:Gt):Z4 I g=Z4 J g:=by
 funext
 simp only [Z4,nM h]
theorem xI(h:O0 I J)(g:Gt):mV I g=mV J g:=by
 funext
 simp only [mV,F7 h]
theorem sW(h:O0 I J)(g:Gt):iI I g=iI J g:=by
 funext
 simp only [iI,h.w,xI h]
theorem Qt(h:O0 I J)(g:Gt):zH I g=zH J g:=by
 funext
 simp only [zH,h.w,sW h]
theorem xJ(h:O0 I J)(g:Gt)(kind:Int)(one:Int→G3 Nd):∀ f:Nat,pZ I g kind one f=pZ J g kind one f
 |0=>rfl
 |f+1=>by
  have ih:=xJ h g kind one f
  funext
  simp only [pZ,ih,h.w,F7 h]
theorem Me(h:O0 I J)(g:Gt):pZ I g=pZ J g:=by
 funext kind one f
 exact xJ h g kind one f
theorem gM(h:O0 I J)(g:Gt):P7 I g=P7 J g:=by
 funext
 simp only [P7,F7 h,aB h,Me h]
theorem Ye(h:O0 I J):aL I=aL J:=by
 funext
 simp only [aL,h.w]
theorem nH(h:O0 I J)(g:Gt):bU I g=bU J g:=by
 funext
 simp only [bU,gM h,Ye h]
theorem vO(h:O0 I J)(g:Gt):eM I g=eM J g:=by
 funext
 simp only [eM,h.w,nH h]
theorem uM(h:O0 I J)(g:Gt):J6 I g=J6 J g:=by
 funext
 simp only [J6,h.w,nH h,vO h]
theorem Tf(h:O0 I J)(g:Gt):dT I g=dT J g:=by
 funext
 simp only [dT,iE h]
theorem yS(h:O0 I J)(g:Gt):Z5 I g=Z5 J g:=by
 funext
 simp only [Z5,gM h]
theorem lX(h:O0 I J)(g:Gt):N8 I g=N8 J g:=by
 funext
 simp only [N8,F7 h]
theorem pJ(h:O0 I J)(g:Gt):T6 I g=T6 J g:=by
 funext
 simp only [T6,h.w]
theorem pH(h:O0 I J)(g:Gt):Q1 I g=Q1 J g:=by
 funext
 simp only [Q1,h.w,F7 h,pJ h]
theorem Gp(h:O0 I J)(g:Gt):W9 I g=W9 J g:=by
 funext
 simp only [W9,h.w,nM h,lX h,pH h]
theorem Pr(h:O0 I J)(g:Gt):step I g=step J g:=by
 funext f
 cases f<;>simp only [step,F7 h,N0 h,rG h,wA h,aB h,iE h,rX h,Y3 h,Ni h,xM h,Qe h,Sf h,Jl h,yZ h,Ge h,Ze h,xK h,rP h,wW h,jD h,sR h,sJ h,yX h,uT h,zT h,Pf h,Zb h,lZ h,Fa h,iL h,uL h,iO h,iP h,Wa h,rI h,Ce h,Li h,Vp h,lG h,Rf h,Nh h,rR h,Kc h,xO h,Hh h,xZ h,Fi h,pX h,iJ h,tL h,qY h,mG h,uK h,Kx h,wU h,tK h,Jp h,Ob h,vC h,Vi h,kF h,Qm h,yQ h,uQ h,Pe h,nM h,Ub h,xI h,sW h,Qt h,Me h,gM h,Ye h,nH h,vO h,uM h,Tf h,yS h,lX h,pJ h,pH h,Gp h]
theorem Fz(h:O0 I J):∀ f:Nat,G I f=G J f
 |0=>rfl
 |f+1=>by
  show step I (G I f)=step J (G J f)
  rw [Fz h f,Pr h]
theorem Hm(h:O0 I J)(goal:Int):aP I goal=aP J goal:=by
 unfold aP fT endS
 simp only [Fz h,h.l,jD h]
end
end Go.Ex
