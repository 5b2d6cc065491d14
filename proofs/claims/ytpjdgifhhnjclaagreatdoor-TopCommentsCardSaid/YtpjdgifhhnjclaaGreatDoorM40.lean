/-
  Top: TopComments: whatever the input, the law answers true (part 40)
-/
import Derived.Lib.IndexLaws
import Derived.Test.YtpjdgifhhnjclaaGreatDoorM38
import Derived.Test.YtpjdgifhhnjclaaGreatDoorM39
set_option linter.unusedVariables false
set_option linter.unusedSimpArgs false
set_option maxHeartbeats 4000000
set_option maxRecDepth 10000
namespace Go.Ex
open Go.Proofs
structure Vw(s:ByteArray)(T:List M7)(u:ByteArray)(U:List M7):Prop where
 len:U.length=T.length
 kind:∀ i:Int,0≤i→i<T.length→(B1 C4.dflt U i).kind=(B1 C4.dflt T i).kind
 txt:∀ i:Int,0≤i→i<T.length→¬ (B1 C4.dflt T i).kind=9→sub u (B1 C4.dflt U i).frm (B1 C4.dflt U i).to=sub s (B1 C4.dflt T i).frm (B1 C4.dflt T i).to
 rs:∀ i:Int,0≤i→i<T.length→0≤(B1 C4.dflt T i).frm∧(B1 C4.dflt T i).frm≤(B1 C4.dflt T i).to∧(B1 C4.dflt T i).to≤s.size
 ru:∀ i:Int,0≤i→i<T.length→0≤(B1 C4.dflt U i).frm∧(B1 C4.dflt U i).frm≤(B1 C4.dflt U i).to∧(B1 C4.dflt U i).to≤u.size
section
variable {s u:ByteArray}{T U:List M7}
theorem Vw.of(h:U.map (vw u)=T.map (Ny s))(hT:∀ t∈T,0≤t.frm∧t.frm≤t.to∧t.to≤s.size)(hU:∀ t∈U,0≤t.frm∧t.frm≤t.to∧t.to≤u.size):Vw s T u U:=by
 have hl:U.length=T.length:=by
  have:=congrArg List.length h
  rwa [List.length_map,List.length_map] at this
 have key:∀ i:Int,0≤i→i<T.length→vw u (B1 C4.dflt U i)=Ny s (B1 C4.dflt T i):=fun i h0 h1=>by
  have e:=congrArg (fun l=>l[i.toNat]?) h
  simp only [List.getElem?_map] at e
  rw [List.getElem?_eq_getElem (by omega),List.getElem?_eq_getElem (by omega)] at e
  unfold B1
  rw [List.getD_eq_getElem?_getD,List.getD_eq_getElem?_getD,List.getElem?_eq_getElem (by omega),List.getElem?_eq_getElem (by omega)]
  simpa using e
 refine⟨hl,fun i h0 h1=>congrArg Prod.fst (key i h0 h1),fun i h0 h1 hk=>?_,fun i h0 h1=>hT _ (W8 _ _ _ h0 h1),fun i h0 h1=>hU _ (W8 _ _ _ h0 (by omega))⟩
 have:=congrArg Prod.snd (key i h0 h1)
 unfold vw Ny N5 at this
 rw [if_neg hk] at this
 exact this
theorem Vw.size(h:Vw s T u U){i:Int}(h0:0≤i)(h1:i<T.length)(hk:¬ (B1 C4.dflt T i).kind=9):(B1 C4.dflt U i).to-(B1 C4.dflt U i).frm=(B1 C4.dflt T i).to-(B1 C4.dflt T i).frm:=by
 rw [←J1 u _ _ (h.ru i h0 h1),←J1 s _ _ (h.rs i h0 h1),h.txt i h0 h1 hk]
theorem Vw.byte(h:Vw s T u U){i:Int}(h0:0≤i)(h1:i<T.length)(hk:¬ (B1 C4.dflt T i).kind=9)(hz:(B1 C4.dflt T i).to-(B1 C4.dflt T i).frm=1):A4 u (B1 C4.dflt U i).frm=A4 s (B1 C4.dflt T i).frm:=by
 have z:=h.size h0 h1 hk
 have q:=h.rs i h0 h1
 have r:=h.ru i h0 h1
 have e1:=C8 s _ _ 0 q.1 q.2.1 q.2.2 (Int.le_refl _) (by omega)
 have e2:=C8 u _ _ 0 r.1 r.2.1 r.2.2 (Int.le_refl _) (by omega)
 rw [h.txt i h0 h1 hk,e1,Int.add_zero,Int.add_zero] at e2
 exact e2.symm
def DT(T:List M7)(x:Mv):Prop:=(0≤x.n∧x.n≤100)∧x.O.length=100∧∀ k:Int,0≤k→k<x.n→(0≤B1 (E9 .i64).dflt x.O k∧B1 (E9 .i64).dflt x.O k<T.length)∧(B1 C4.dflt T (B1 (E9 .i64).dflt x.O k)).kind=8∧(B1 C4.dflt T (B1 (E9 .i64).dflt x.O k)).to-(B1 C4.dflt T (B1 (E9 .i64).dflt x.O k)).frm=1
theorem Uc(h:Vw s T u U){x:Mv}{i:Int}(hx:DT T x)(h0:0≤i)(h1:i<T.length)(he:(P4 s T x i).2.1=0):P4 u U x i=P4 s T x i∧DT T (P4 s T x i).1:=by
 have hk:=h.kind i h0 h1
 unfold P4 at he ⊢
 by_cases c1:¬ (B1 C4.dflt T i).kind=8∨¬ (B1 C4.dflt T i).to-Z0 T i=1
 ·have c1':¬ (B1 C4.dflt U i).kind=8∨¬ (B1 C4.dflt U i).to-Z0 U i=1:=by
   by_cases q:(B1 C4.dflt T i).kind=8
   ·refine .inr ?_
    have:=h.size h0 h1 (by omega)
    show ¬ (B1 C4.dflt U i).to-(B1 C4.dflt U i).frm=1
    rw [this]
    exact c1.resolve_left (not_not_intro q)
   ·exact .inl (by rw [hk];exact q)
  rw [if_pos c1,if_pos c1']
  exact⟨rfl,hx⟩
 ·have q8:(B1 C4.dflt T i).kind=8:=Classical.byContradiction fun q=>c1 (.inl q)
  have q1:(B1 C4.dflt T i).to-(B1 C4.dflt T i).frm=1:=Classical.byContradiction fun q=>c1 (.inr q)
  have hz:=h.size h0 h1 (by omega)
  have hb:=h.byte h0 h1 (by omega) q1
  have c1':¬ (¬ (B1 C4.dflt U i).kind=8∨¬ (B1 C4.dflt U i).to-Z0 U i=1):=by
   rintro (q|q)
   ·exact q (by rw [hk];exact q8)
   ·apply q
    show (B1 C4.dflt U i).to-(B1 C4.dflt U i).frm=1
    omega
  rw [if_neg c1] at he ⊢
  rw [if_neg c1']
  show (if ¬ jP (A4 u (B1 C4.dflt U i).frm)=0 then _ else _) = _∧_
  rw [hb]
  by_cases c2:jP (A4 s (Z0 T i))=0
  ·rw [if_neg (not_not_intro c2)] at he ⊢
   rw [if_neg (not_not_intro c2)]
   by_cases c3:A4 s (Z0 T i)=41∨A4 s (Z0 T i)=93∨A4 s (Z0 T i)=125
   ·rw [if_pos c3] at he ⊢
    by_cases c4:x.n=0∨¬ jP (A4 s (Z0 T (B1 (E9 .i64).dflt x.O (x.n-1))))=A4 s (Z0 T i)
    ·rw [if_pos c4] at he
     exact absurd he (by dsimp only;omega)
    ·rw [if_neg c4] at he ⊢
     have hn:0<x.n:=by
      have:=hx.1
      have:¬ x.n=0:=fun q=>c4 (.inl q)
      omega
     obtain⟨⟨o0,o1⟩,o2,o3⟩:=hx.2.2 (x.n-1) (by omega) (by omega)
     have hbo:=h.byte o0 o1 (by omega) o3
     have c4':¬ (x.n=0∨¬ jP (A4 u (Z0 U (B1 (E9 .i64).dflt x.O (x.n-1))))=A4 s (B1 C4.dflt T i).frm):=by
      rintro (q|q)
      ·omega
      ·apply q
       show jP (A4 u (B1 C4.dflt U _).frm) = _
       rw [hbo]
       exact Classical.byContradiction fun q2=>c4 (.inr q2)
     rw [if_pos c3,if_neg c4']
     refine⟨rfl,⟨?_,hx.2.1,fun k k0 k1=>?_⟩⟩
     ·have:=hx.1
      dsimp only
      omega
     ·dsimp only at k1
      exact hx.2.2 k k0 (by omega)
   ·rw [if_neg c3] at he ⊢
    rw [if_neg c3]
    exact⟨rfl,hx⟩
  ·rw [if_pos c2] at he ⊢
   rw [if_pos c2]
   by_cases c3:x.n=100
   ·rw [if_pos c3] at he
    exact absurd he (by dsimp only;omega)
   ·rw [if_neg c3] at he ⊢
    rw [if_neg c3]
    refine⟨rfl,⟨?_,?_,fun k k0 k1=>?_⟩⟩
    ·have:=hx.1
     dsimp only
     omega
    ·show (x.O.set x.n.toNat i).length=100
     rw [List.length_set]
     exact hx.2.1
    ·dsimp only at k1 ⊢
     have hn:=hx.1
     rw [mE x.O _ x.n k i hn.1 k0 (by rw [hx.2.1];omega)]
     split
     ·exact⟨⟨h0,h1⟩,q8,q1⟩
     ·exact hx.2.2 k k0 (by omega)
theorem wL(h:Vw s T u U):∀ (f:Nat) (x:Mv) (i:Int),DT T x→0≤i→i+f=T.length→(W0 s T f x i).2.2.1=0→W0 u U f x i=W0 s T f x i
 |0,x,i,hx,h0,h1,he=>by
  simp only [W0] at he ⊢
  by_cases c:0<x.n
  ·rw [if_pos c] at he
   exact absurd he (by dsimp only;omega)
  ·rw [if_neg c,if_neg c]
 |f+1,x,i,hx,h0,h1,he=>by
  simp only [W0] at he ⊢
  by_cases c:(P4 s T x i).2.1=0
  ·rw [if_pos c] at he ⊢
   obtain⟨e1,e2⟩:=Uc h hx h0 (by omega) c
   rw [e1,if_pos c]
   exact wL h f _ (i+1) e2 (by omega) (by omega) he
  ·rw [if_neg c] at he
   exact absurd he c
theorem Ys(h:Vw s T u U)(he:(bG s T).2.2.1=0):bG u U=bG s T:=by
 unfold bG at he ⊢
 rw [h.len]
 exact wL h _ _ 0 ⟨⟨Int.le_refl _,by dsimp only;omega⟩,by rw [List.length_replicate],fun k k0 k1=>by dsimp only at k1;omega⟩ (Int.le_refl _) (by omega) he
end
theorem Rz{s u:ByteArray}{U:List M7}(hs:W5 s=0∧bH s=0)(hu:P2 u=(U,0,0))(h:U.map (vw u)=(F0 s).map (Ny s)):(W5 u=0∧bH u=0)∧F0 u=U∧Vw s (F0 s) u U∧O0 (gX s) (gX u):=by
 have e0:=jC hs
 have hT:=(iY s).1
 have hU:=(iY u).1
 rw [e0] at hT
 rw [hu] at hU
 have hv:=Vw.of h hT hU
 have hse:(bG s (F0 s)).2.2.1=0∧bV s=(bG s (F0 s)).1∧(bG s (F0 s)).2.2.2=0:=by
  have h2:=hs.1
  have h3:=hs.2
  have e1:F0 s=(P2 s).1:=by rw [e0]
  have c:(P2 s).2.1=0∧(P2 s).2.2=0:=by rw [e0];exact⟨rfl,rfl⟩
  unfold W5 W4 at h2
  unfold bH W4 at h3
  unfold bV W4
  rw [if_pos c,←e1] at h2 h3
  rw [if_pos c,←e1]
  by_cases c2:(bG s (F0 s)).2.2.1=0
  ·rw [if_pos c2] at h3 ⊢
   exact⟨c2,rfl,h3⟩
  ·rw [if_neg c2] at h2
   exact absurd h2 c2
 have hL:=Ys hv hse.1
 have hn:W4 u=(U,bG u U):=by
  unfold W4
  rw [hu]
  dsimp only
  rw [if_pos ⟨rfl,rfl⟩,if_pos (by rw [hL];exact hse.1)]
 have eE:W5 u=0:=by unfold W5;rw [hn];show (bG u U).2.2.1=0;rw [hL];exact hse.1
 have eA:bH u=0:=by unfold bH;rw [hn];show (bG u U).2.2.2=0;rw [hL];exact hse.2.2
 have eT:F0 u=U:=by unfold F0;rw [hn]
 have eP:bV u=bV s:=by unfold bV;rw [hn];show (bG u U).1 = _;rw [hL];exact hse.2.1.symm
 have eL:(gX s).L=(gX u).L:=by
  show ((F0 s).length:Int)=(F0 u).length
  rw [eT,hv.len]
 refine⟨⟨eE,eA⟩,eT,hv,⟨?_,?_,eL,eP.symm⟩⟩
 ·funext n
  unfold word
  rw [eL]
  by_cases c:n<0∨(gX u).L≤n
  ·rw [if_pos c,if_pos c]
  ·rw [if_neg c,if_neg c]
   have hl:(gX u).L=((F0 s).length:Int):=eL.symm
   have hk:=hv.kind n (by omega) (by omega)
   have t1:(gX s).toks=F0 s:=rfl
   have t2:(gX u).toks=U:=eT
   rw [t1,t2]
   rw [hk]
   by_cases c9:(B1 C4.dflt (F0 s) n).kind=9
   ·rw [if_pos c9,if_pos c9]
   ·rw [if_neg c9,if_neg c9]
    by_cases c8:(B1 C4.dflt (F0 s) n).kind=8∨(B1 C4.dflt (F0 s) n).kind=2
    ·rw [if_pos c8,if_pos c8]
     have:=hv.txt n (by omega) (by omega) c9
     exact this.symm
    ·rw [if_neg c8,if_neg c8]
 ·funext n
  unfold B9
  rw [eL]
  by_cases c:n<0∨(gX u).L≤n
  ·rw [if_pos c,if_pos c]
  ·rw [if_neg c,if_neg c]
   have hl:(gX u).L=((F0 s).length:Int):=eL.symm
   have hk:=hv.kind n (by omega) (by omega)
   show (B1 C4.dflt (F0 s) n).kind=(B1 C4.dflt (F0 u) n).kind
   rw [eT,hk]
end Go.Ex
namespace Go.Ex
open Go.Proofs
theorem Yq(k:Int):¬ jK k ((⟨#[59]⟩:ByteArray)):=by
 intro h
 unfold jK at h
 by_cases c0:k=3∨k=4
 ·rw [if_pos c0] at h;exact absurd h (by decide)
 rw [if_neg c0] at h
 by_cases c1:k=5
 ·rw [if_pos c1] at h;exact absurd h (by decide)
 rw [if_neg c1] at h
 by_cases c2:k=7
 ·rw [if_pos c2] at h;exact absurd h (by decide)
 rw [if_neg c2] at h
 by_cases c3:k=15∨k=34
 ·rw [if_pos c3] at h;exact absurd h (by decide)
 rw [if_neg c3] at h
 by_cases c4:k=36
 ·rw [if_pos c4] at h;exact absurd h (by decide)
 rw [if_neg c4] at h
 by_cases c5:k=37
 ·rw [if_pos c5] at h;exact absurd h (by decide)
 rw [if_neg c5] at h
 by_cases c6:k=45
 ·rw [if_pos c6] at h;exact absurd h (by decide)
 rw [if_neg c6] at h
 by_cases c7:k=52
 ·rw [if_pos c7] at h;exact absurd h (by decide)
 rw [if_neg c7] at h
 by_cases c8:k=53
 ·rw [if_pos c8] at h;exact absurd h (by decide)
 rw [if_neg c8] at h
 by_cases c9:k=57
 ·rw [if_pos c9] at h;exact absurd h (by decide)
 rw [if_neg c9] at h
 by_cases c10:k=66
 ·rw [if_pos c10] at h;exact absurd h (by decide)
 rw [if_neg c10] at h
 exact h
theorem Kz{s u:ByteArray}{U:List M7}(hv:Vw s (F0 s) u U)(hU:F0 u=U){w:Int}(h:0≤w→w<(F0 s).length∧¬ (B1 C4.dflt (F0 s) w).kind=9):eK (gX u) w=eK (gX s) w:=by
 unfold eK
 by_cases c:0≤w
 ·rw [if_pos c,if_pos c]
  have t1:(gX s).toks=F0 s:=rfl
  have t2:(gX u).toks=U:=hU
  rw [t1,t2]
  exact hv.txt w c (h c).1 (h c).2
 ·rw [if_neg c,if_neg c]
theorem Zx{s u:ByteArray}{goal:Int}{T U:List M7}{x:Nd}(hO:aK s goal = .inr (T,x))(hu:P2 u=(U,0,0))(h:U.map (vw u)=T.map (Ny s)) :
 aK u goal = .inr (U,x)∧(I5 x).map (M0 ⟨u,U,[]⟩)=(I5 x).map (M0 ⟨s,T,[]⟩):=by
 have hw:=nQ hO
 obtain⟨hne,hT,_⟩:=lW hO
 subst hT
 obtain⟨e1,e2,hv,hsim⟩:=Rz hne hu h
 constructor
 ·unfold aK at hO ⊢
  by_cases c1:goal<1∨4<goal
  ·rw [if_pos c1] at hO;cases hO
  rw [if_neg c1] at hO ⊢
  rw [if_neg (not_not_intro hne)] at hO
  rw [if_neg (not_not_intro e1),←Hm hsim goal]
  revert hO
  cases aP (gX s) goal with
  |ok y m=>intro hO;dsimp only at hO ⊢;cases hO;rw [e2]
  |err y=>intro hO;cases hO
 ·refine List.map_congr_left fun y hy=>?_
  have hn:=tI x hw.wel y hy
  have hl:(gX s).L=((F0 s).length:Int):=rfl
  have ht:eK (gX u) y.word=eK (gX s) y.word:=Kz hv e2 fun h0=>by
   obtain⟨_,⟨r1,r2,r3⟩,_,_,r5⟩:=hn
   rcases r5 with ⟨q,_⟩|⟨⟨q1,q2⟩,q3⟩
   ·omega
   ·have hlt:y.word<(F0 s).length:=by omega
    refine⟨hlt,fun h9=>?_⟩
    have hk9:B9 (gX s) y.word=9:=by
     unfold B9
     rw [if_neg (by omega)]
     exact h9
    rcases q3 with ⟨_,⟨w1,_⟩,w2⟩|⟨_,⟨w1,_⟩,w2⟩|⟨w1,_⟩
    ·rw [←w1] at w2;omega
    ·rw [←w1] at w2
     unfold La at w2
     omega
    ·have:word (gX s) y.word=(⟨#[59]⟩:ByteArray):=by
      unfold word
      rw [if_neg (by omega)]
      exact if_pos h9
     rw [this] at w1
     exact Yq _ w1
  show (⟨y.kind,y.kids,Y0 ⟨u,U,[]⟩ y.kind y.word⟩:M8)=⟨y.kind,y.kids,Y0 ⟨s,F0 s,[]⟩ y.kind y.word⟩
  have a1:Y0 ⟨u,U,[]⟩ y.kind y.word=Y0 (gX u) y.kind y.word:=by rw [←e2];rfl
  have a2:Y0 ⟨s,F0 s,[]⟩ y.kind y.word=Y0 (gX s) y.kind y.word:=rfl
  rw [a1,a2]
  unfold Y0
  rw [ht,hsim.w]
theorem wB(s:ByteArray):∀ (al acc:List M7) (e:Int),(∀ t∈al,0≤t.to)→(∀ x,acc.getLast?=some x→aU x.kind (sub s x.frm x.to)→0≤e)→∀ x,(T4 (al.foldl (D4 s) (acc,e))).1.getLast?=some x→¬ aU x.kind (sub s x.frm x.to)
 |[],acc,e,hal,h,x,hx=>by
  change (T4 (acc,e)).1.getLast?=some x at hx
  by_cases c:0≤e
  ·rw [fD c] at hx
   have hx2:(acc++[(⟨9,e,e⟩:M7)]).getLast?=some x:=hx
   rw [List.getLast?_concat] at hx2
   cases hx2
   unfold aU
   show ¬ (_∨_)
   simp
  ·rw [fE c] at hx
   exact fun q=>c (h x hx q)
 |t::al,acc,e,hal,h,x,hx=>by
  rw [List.foldl_cons] at hx
  have hal':∀ t∈al,0≤t.to:=fun t ht=>hal t (List.mem_cons_of_mem _ ht)
  have ht:=hal t List.mem_cons_self
  obtain⟨⟨acc',e'⟩,hst⟩:∃ y,D4 s (acc,e) t=y:=⟨_,rfl⟩
  rw [hst] at hx
  refine wB s al acc' e' hal' ?_ x hx
  intro y hy hE
  unfold D4 at hst
  by_cases hs:gT t.kind
  ·rw [if_pos hs] at hst
   by_cases hn:0≤H7 (sub s t.frm t.to) 10
   ·rw [if_pos hn] at hst
    by_cases c:0≤e
    ·rw [fD c] at hst
     cases hst
     rw [List.getLast?_concat] at hy
     cases hy
     unfold aU at hE
     simp at hE
    ·rw [fE c] at hst
     cases hst
     exact absurd (h y hy hE) c
   ·rw [if_neg hn] at hst
    cases hst
    exact h y hy hE
  ·rw [if_neg hs] at hst
   cases hst
   rw [List.getLast?_concat] at hy
   cases hy
   rw [if_pos hE]
   exact ht
theorem Wr{s:ByteArray}{T:List M7}(h:P2 s=(T,0,0)):(∀ t∈T,DP s t)∧∀ x,T.getLast?=some x→¬ aU x.kind (N5 s x):=by
 obtain⟨e1,e2,e3⟩:=qG s (by rw [h]) (by rw [h])
 rw [h] at e3
 have ht:=oN s e1
 have hok:=mY s
 constructor
 ·intro t htT
  rcases e3.mem t htT with ⟨q1,q2⟩|q
  ·obtain⟨m1,m2,m3⟩:=ht.mem t q1
   have r:=mA s t.frm m1 m2
   have a1:t.kind=(H0 s t.frm).1:=by rw [m3]
   have a2:t.to=(H0 s t.frm).2:=by rw [m3]
   unfold gT at q2
   exact .inl ⟨m1,Prod.ext a1.symm a2.symm,by omega,by omega,by omega⟩
  ·exact .inr q
 ·intro x hx hE
  have hT:T=uP s (V5 s).1:=by
   unfold P2 at h
   rw [if_pos ⟨e1,e2⟩] at h
   exact (congrArg Prod.fst h).symm
  rw [hT] at hx
  unfold uP at hx
  refine wB s (V5 s).1 [] (-1) (fun t ht=>by have:=hok.1 t ht;omega) (fun x hx=>by cases hx) x hx ?_
  unfold N5 at hE
  by_cases c:x.kind=9
  ·unfold aU at hE
   omega
  ·rw [if_neg c] at hE
   exact hE
def oB:List UInt8:=[47,47,32,101,110,100]
theorem lD.line{u:ByteArray}{a:Int}(h:Lx u a oB):lD u a []:=by
 have h':Lx u a (oB++[]):=by rw [List.append_nil];exact h
 have hl:=h.len
 have e6:(oB.length:Int)=6:=rfl
 have hlx:=Ct (show Lx u a (47::47::[32,101,110,100]) from h) (by decide)
 have hlt:=(show Lx u a (47::[47,32,101,110,100]) from h).lt
 refine lD.sil hlt.2 hlx (by unfold gT;omega) (by omega) ?_ ?_
 ·have:=Jk h' (by decide)
  rwa [show a+(oB.length:Int)=(u.size:Int) by omega] at this
 ·exact lD.end_ ⟨by omega,by
   rw [Int.toNat_natCast]
   exact List.drop_eq_nil_of_le (by
    have:u.data.toList.length=u.size:=(Lib.size_eq u).symm
    omega),Int.le_refl _⟩
theorem Yx{s u:ByteArray}{T:List M7}{note e:List UInt8}(h:P2 s=(T,0,0))(hn:∀ x∈note,x≠42∧x≠10)(he:e=[]∨e=oB)(hu:u.data.toList=eG note++tB s (eG note) e T)(hz:u.size≤65536)(hc:¬ 0≤W1 u) :
 ∃ U,P2 u=(U,0,0)∧U.map (vw u)=T.map (Ny s):=by
 obtain⟨h1,h2⟩:=Wr h
 have l0:Lx u 0 (eG note++tB s (eG note) e T):=⟨Int.le_refl _,hu,by omega⟩
 have l1:=l0.skip (eG note)
 have ha:=lD.all hn (e:=e) (fun a q=>by
  rcases he with rfl|rfl
  ·exact lD.end_ q
  ·exact lD.line q) (fun d l q=>by
  rcases he with rfl|rfl
  ·cases q
  ·cases q;decide) T _ h1 h2 l1
 exact Ng hc hz (lD.cc l0 hn ha.2 ha.1)
end Go.Ex
namespace Go.Ex
open Go.Proofs
def Gj(u:ByteArray)(p:Nat):Prop:=¬ ((Utf8.decode u p).1=65533∧(Utf8.decode u p).2<2)∧¬ (Utf8.decode u p).1=0∧((Utf8.decode u p).1=65279→p=0)
inductive jV (u:ByteArray):Nat→Nat→Prop
 |nil (p:Nat):jV u p p
 |step (p q:Nat) (h1:p<u.size) (h2:Gj u p) (h:jV u (p+(Utf8.decode u p).2) q):jV u p q
theorem jV.trans{u:ByteArray}{p q r:Nat}(h:jV u p q)(k:jV u q r):jV u p r:=by
 induction h with
 |nil p=>exact k
 |step p q h1 h2 h ih=>exact .step p r h1 h2 (ih k)
theorem jV.le{u:ByteArray}{p q:Nat}(h:jV u p q):p≤q:=by
 induction h with
 |nil p=>exact Nat.le_refl _
 |step p q h1 h2 h ih=>omega
theorem Sz(s:ByteArray)(p:Nat)(hp:p<s.size)(h:(Utf8.decode s p).1=65533∧(Utf8.decode s p).2<2):(C9 s p).2=0:=by
 unfold C9
 rw [if_neg (by omega),Int.toNat_natCast,if_pos h]
theorem Av(s:ByteArray):∀ (f p:Nat),s.size-p≤f→p≤s.size→bY s f p<0→M6 s f p<0→jV s p s.size
 |0,p,h1,h2,h3,h4=>by
  have:p=s.size:=by omega
  rw [this]
  exact .nil _
 |f+1,p,h1,h2,h3,h4=>by
  by_cases hp:p<s.size
  ·simp only [bY] at h3
   simp only [M6] at h4
   rw [if_pos hp] at h3 h4
   by_cases c1:((Utf8.decode s p).1:Int)=65533∧(C9 s p).2=0
   ·rw [if_pos c1] at h3;omega
   rw [if_neg c1] at h3
   by_cases c2:((Utf8.decode s p).1:Int)=0∨((Utf8.decode s p).1:Int)=65279∧0<p
   ·rw [if_pos c2] at h4;omega
   rw [if_neg c2] at h4
   have hw:=width_pos s p
   have hle:=fF s p hp
   exact .step p _ hp ⟨fun q=>c1 ⟨by omega,Sz s p hp q⟩,by omega,by omega⟩ (Av s f _ (by omega) hle h3 h4)
  ·have:p=s.size:=by omega
   rw [this]
   exact .nil _
theorem zY{s:ByteArray}(h:¬ 0≤W1 s):jV s 0 s.size:=by
 have hb:=Xe s
 unfold W1 at h
 by_cases c1:hY s<0
 ·have e:mX s=s.size:=by unfold mX;rw [if_pos c1]
  rw [e,Int.toNat_natCast,zO] at h
  by_cases c2:0≤M6 s s.size 0
  ·rw [if_pos c2] at h;exact absurd c2 h
  ·exact Av s s.size 0 (by omega) (by omega) c1 (by omega)
 ·exfalso
  have e:mX s=hY s:=by unfold mX;rw [if_neg c1]
  rw [e] at h
  split at h
  ·exact h (by assumption)
  ·rw [if_pos hb.2] at h
   omega
theorem zZ{u:ByteArray}(h:jV u 0 u.size):¬ 0≤W1 u:=by
 have k1:∀ p q,jV u p q→q=u.size→∀ f,bY u f p = -1∧M6 u f p = -1:=by
  intro p q hc
  induction hc with
  |nil p=>
   intro e f
   cases f with
   |zero=>exact⟨rfl,rfl⟩
   |succ f=>
    simp only [bY,M6]
    rw [if_neg (by omega),if_neg (by omega)]
    exact⟨rfl,rfl⟩
  |step p q h1 h2 h ih=>
   intro e f
   cases f with
   |zero=>exact⟨rfl,rfl⟩
   |succ f=>
    simp only [bY,M6]
    have hw:=width_pos u p
    obtain⟨g1,g2,g3⟩:=h2
    rw [if_pos h1,if_pos h1,if_neg,if_neg]
    ·exact ih e f
    ·rintro (q|⟨q1,q2⟩)
     ·exact g2 (by omega)
     ·have:=g3 (by omega)
      omega
    ·rintro⟨q1,q2⟩
     unfold C9 at q2
     rw [if_neg (by omega),Int.toNat_natCast,if_neg g1] at q2
     dsimp only at q2
     omega
 obtain⟨b1,b2⟩:=k1 0 _ h rfl u.size
 have e1:mX u=u.size:=by unfold mX hY;rw [b1,if_pos (by decide)]
 unfold W1
 rw [e1,Int.toNat_natCast,zO,b2,if_neg (by decide),if_neg (by omega)]
 decide
theorem oF(u:ByteArray)(p:Nat)(hp:p<u.size)(h:A4 u p<128):Utf8.decode u p=((A4 u p).toNat,1):=by
 have h1:=N7 u p (by omega) h
 have hr:=L0 u p
 by_cases c:A4 u p=0
 ·rw [Lib.decode_at]
  have:=fB u p
  have h5:(u.get! p).toNat=0:=by omega
  rw [h5,c]
  unfold Lib.decodeN
  rw [if_pos (by decide)]
  rfl
 ·have h2:=Y4 u p (by rw [h1];exact c)
  rw [h1] at h2
  have h3:=Prod.mk.inj h2.2
  rw [Int.toNat_natCast] at h3
  exact Prod.ext (by show _=(A4 u p).toNat;omega) (by show _=1;omega)
theorem jV.asc{u:ByteArray}:∀ (n p:Nat),p+n≤u.size→(∀ i,i<n→0<A4 u ((p+i:Nat):Int)∧A4 u ((p+i:Nat):Int)<128)→jV u p (p+n)
 |0,p,h,h0=>.nil p
 |n+1,p,h,h0=>by
  have h1:=h0 0 (by omega)
  rw [Nat.add_zero] at h1
  have hd:=oF u p (by omega) h1.2
  refine .step p _ (by omega) ?_ ?_
  ·unfold Gj
   rw [hd]
   dsimp only
   omega
  ·rw [hd]
   have:=jV.asc (u:=u) n (p+1) (by omega) fun i hi=>by
    have:=h0 (i+1) (by omega)
    rwa [show p+(i+1)=p+1+i by omega] at this
   rwa [show p+1+n=p+(n+1) by omega] at this
theorem jV.agr{s u:ByteArray}{a b c:Nat}(hag:Ll s a b u c)(hnb:¬ (Utf8.decode s a).1=65279):∀ {p:Nat},jV s p b→a≤p→jV u (c+(p-a)) (c+(b-a)):=by
 intro p hc
 generalize hq:b=q at hc
 induction hc with
 |nil p=>
  intro h
  subst hq
  exact .nil _
 |step p q h1 h2 h ih=>
  intro hp
  subst hq
  have hle:=h.le
  have hw:=width_pos s p
  have l:=hag.lo
  have hu:=hag.up
  have hd:=kV hag ((p:Int)-a) (by omega) (by rw [show ((a:Int)+(p-a)).toNat=p by omega];exact h2.1) (by rw [show ((a:Int)+(p-a)).toNat=p by omega];omega)
  rw [show ((a:Int)+(p-a)).toNat=p by omega,show ((c:Int)+(p-a)).toNat=c+(p-a) by omega] at hd
  refine .step _ _ (by omega) ?_ ?_
  ·unfold Gj
   rw [hd]
   refine⟨h2.1,h2.2.1,fun e=>?_⟩
   exfalso
   have p0:=h2.2.2 e
   have:p=a:=by omega
   rw [this] at e
   exact hnb e
  ·rw [hd]
   have:=ih rfl (by omega)
   rwa [show c+(p+(Utf8.decode s p).2-a)=c+(p-a)+(Utf8.decode s p).2 by omega] at this
theorem Uv(s:ByteArray)(p:Nat)(h:¬ ((Utf8.decode s p).1=65533∧(Utf8.decode s p).2<2))(hw:2≤(Utf8.decode s p).2):∀ i,i<(Utf8.decode s p).2→128≤A4 s ((p+i:Nat):Int):=by
 intro i hi
 have g:=fB s (p+i)
 rw [Lib.decode_at] at h hw hi
 have key:∀ (n b0 b1 b2 b3:Nat),¬ ((Lib.decodeN n b0 b1 b2 b3).1=65533∧(Lib.decodeN n b0 b1 b2 b3).2<2)→2≤(Lib.decodeN n b0 b1 b2 b3).2→128≤b0∧128≤b1∧(2<(Lib.decodeN n b0 b1 b2 b3).2→128≤b2)∧(3<(Lib.decodeN n b0 b1 b2 b3).2→128≤b3)∧(Lib.decodeN n b0 b1 b2 b3).2≤4:=by
  intro n b0 b1 b2 b3 h hw
  unfold Lib.decodeN at h hw ⊢
  repeat' split
  all_goals (dsimp only at *)
  all_goals (try (exfalso;simp_all;done))
  all_goals (refine⟨?_,?_,?_,?_,?_⟩<;>omega)
 obtain⟨k0,k1,k2,k3,k4⟩:=key _ _ _ _ _ h hw
 have:i=0∨i=1∨i=2∨i=3:=by omega
 rcases this with rfl|rfl|rfl|rfl
 ·rw [Nat.add_zero] at g ⊢;omega
 ·omega
 ·have:=k2 (by omega);omega
 ·have:=k3 (by omega);omega
theorem jV.split{s:ByteArray}{a e b:Nat}(h:jV s a e):a≤b→b≤e→(b=a∨A4 s ((b-1:Nat):Int)<128∨A4 s (b:Int)<128)→jV s a b∧jV s b e:=by
 induction h with
 |nil p=>
  intro h1 h2 _
  have:b=p:=by omega
  rw [this]
  exact⟨.nil _,.nil _⟩
 |step p q h1 h2 h ih=>
  intro h3 h4 h5
  by_cases c0:b=p
  ·rw [c0]
   exact⟨.nil _,.step p q h1 h2 h⟩
  by_cases c1:p+(Utf8.decode s p).2≤b
  ·obtain⟨i1,i2⟩:=ih c1 h4 (h5.elim (fun q=>absurd q c0) .inr)
   exact⟨.step p _ h1 h2 i1,i2⟩
  ·exfalso
   have hh:=Uv s p h2.1 (by omega)
   rcases h5 with q|q|q
   ·exact c0 q
   ·have:=hh (b-1-p) (by omega)
    rw [show p+(b-1-p)=b-1 by omega] at this
    omega
   ·have:=hh (b-p) (by omega)
    rw [show p+(b-p)=b by omega] at this
    omega
end Go.Ex
namespace Go.Ex
open Go.Proofs
theorem Sh{s:ByteArray}{a b k:Int}(h:H0 s a=(k,b))(hk:1≤k∧k≤9):(E7 (C9 s a).1=true∧P0 s a=b∧¬ (C9 s a).1=65279)∨(C9 s a).1=59∧k=9∨(¬ (S4 s a).1=0∧(S4 s a).2.1=b∧¬ (C9 s a).1=65279)∨(¬ (J7 s a).1=0∧(J7 s a).2.1=b∧¬ (C9 s a).1=65279)∨(0<Y2 (sub s a s.size)∧a+Y2 (sub s a s.size)=b∧¬ (C9 s a).1=65279):=by
 have kb:(H0 s a).1=k∧(H0 s a).2=b:=by rw [h];exact⟨rfl,rfl⟩
 unfold H0 at kb
 by_cases c1:(C9 s a).1=65279
 ·rw [if_pos c1] at kb;dsimp only at kb;omega
 rw [if_neg c1] at kb
 by_cases c2:O3 (C9 s a).1
 ·rw [if_pos c2] at kb;dsimp only at kb;omega
 rw [if_neg c2] at kb
 by_cases c3:O2 (sub s a s.size) sP
 ·rw [if_pos c3] at kb
  split at kb<;>(dsimp only at kb;omega)
 rw [if_neg c3] at kb
 by_cases c4:O2 (sub s a s.size) gO
 ·rw [if_pos c4] at kb
  split at kb<;>(dsimp only at kb;omega)
 rw [if_neg c4] at kb
 by_cases c5:E7 (C9 s a).1=true
 ·rw [if_pos c5,(lE s a).1] at kb
  exact .inl ⟨c5,kb.2,c1⟩
 rw [if_neg c5] at kb
 by_cases c6:(C9 s a).1=59
 ·rw [if_pos c6] at kb
  exact .inr (.inl ⟨c6,kb.1.symm⟩)
 rw [if_neg c6] at kb
 by_cases c7:(S4 s a).2.2=15
 ·rw [if_neg (not_not_intro c7)] at kb
  by_cases c8:(J7 s a).2.2=15
  ·rw [if_neg (not_not_intro c8)] at kb
   by_cases c9:0<Y2 (sub s a s.size)
   ·rw [if_pos c9] at kb
    exact .inr (.inr (.inr (.inr ⟨c9,kb.2,c1⟩)))
   ·rw [if_neg c9] at kb;dsimp only at kb;omega
  ·rw [if_pos c8] at kb
   dsimp only at kb
   exact .inr (.inr (.inr (.inl ⟨by omega,kb.2,c1⟩)))
 ·rw [if_pos c7] at kb
  dsimp only at kb
  exact .inr (.inr (.inl ⟨by omega,kb.2,c1⟩))
theorem Qo{r:Nat}(h:¬ (E7 (r:Int)=false∧¬ R0 (r:Int))):¬ r=65533∧¬ r=0∧¬ r=65279:=by
 refine⟨?_,?_,?_⟩<;>(rintro rfl;exact h (by decide))
theorem Ma(s:ByteArray)(a:Nat):∀ (f p:Nat),a+p≤s.size→s.size-(a+p)≤f→∃ q,jV s (a+p) q∧(q:Int)=(if 0≤J9 (s.extract a s.size) f p then a+J9 (s.extract a s.size) f p else s.size)
 |0,p,h0,h1=>⟨a+p,.nil _,by
  show (((a+p:Nat)):Int)=(s.size:Int)
  omega⟩
 |f+1,p,h0,h1=>by
  have hus:(s.extract a s.size).size=s.size-a:=by rw [ByteArray.size_extract];omega
  have hds:Utf8.decode (s.extract a s.size) p=Utf8.decode s (a+p):=Lib.tail_decode s a p
  simp only [J9,hus,hds]
  by_cases hp:p<s.size-a
  ·rw [if_pos hp]
   have hw:=width_pos s (a+p)
   have hle:=fF s (a+p) (by omega)
   by_cases c:E7 ((Utf8.decode s (a+p)).1:Int)=false∧¬ R0 ((Utf8.decode s (a+p)).1:Int)
   ·rw [if_pos c,if_pos (by omega)]
    exact⟨a+p,.nil _,by omega⟩
   ·rw [if_neg c]
    obtain⟨q,q1,q2⟩:=Ma s a f (p+(Utf8.decode s (a+p)).2) (by omega) (by omega)
    obtain⟨g1,g2,g3⟩:=Qo c
    refine⟨q,.step _ _ (by omega) ⟨fun w=>g1 w.1,g2,fun w=>absurd w g3⟩ ?_,q2⟩
    rw [Nat.add_assoc]
    exact q1
  ·rw [if_neg hp,if_neg (by decide)]
   exact⟨a+p,.nil _,by omega⟩
theorem sD(s:ByteArray)(mk:Int):∀ (f:Nat) (it a e:Int),0≤a→N6 s mk f it a=some e→A4 s (e-1)=mk
 |0,it,a,e,h0,h=>by cases h
 |f+1,it,a,e,h0,h=>by
  simp only [N6] at h
  split at h
  ·cases h
  rename_i d1
  split at h
  ·rename_i d2
   split at h
   ·injection h with h
    rw [←h,show a+1-1=a by omega]
    exact d2
   ·cases h
  split at h
  ·cases h
  split at h
  ·cases h
  have:=(V0 s mk a ⟨h0,by omega⟩).1
  exact sD s mk f _ _ e (by omega) h
theorem wI(s:ByteArray)(a:Int)(hex:Bool):∀ (f:Nat) (to:Int),0≤to→∀ i,to≤i→i<bP s a hex f to→0<A4 s i∧A4 s i<128
 |0,to,h0,i,h1,h2=>by simp only [bP] at h2;omega
 |f+1,to,h0,i,h1,h2=>by
  simp only [bP] at h2
  by_cases c:fI s a hex to
  ·rw [if_pos c] at h2
   by_cases e:i=to
   ·subst e
    have:=c.2
    unfold qD Dz cA at this
    have hr:=L0 s i
    refine⟨?_,?_⟩
    ·rcases this with this|this
     ·rcases this with q|q|q|q|q
      ·omega
      ·omega
      ·by_cases z:A4 s i=0
       ·rw [z] at q;exact absurd q (by decide)
       ·omega
      ·omega
      ·omega
     ·omega
    ·rcases this with this|this
     ·rcases this with q|q|q|q|q
      ·omega
      ·omega
      ·by_cases z:A4 s i<128
       ·exact z
       ·exfalso
        rw [if_neg (by omega),if_neg (by omega),if_neg (by omega)] at q
        omega
      ·omega
      ·omega
     ·omega
   ·exact wI s a hex f (to+1) (by omega) i (by omega) h2
  ·rw [if_neg c] at h2;omega
theorem Rt(v:ByteArray)(c:Int)(hc:0≤c∧c<256)(h:0≤H7 v c):A4 v (H7 v c)=c:=by
 obtain⟨o,ho⟩:∃ o:Nat,H7 v c=o:=⟨(H7 v c).toNat,by omega⟩
 rw [ho]
 unfold H7 at ho
 have h1:=(Go.Lib.indexByte_some ho).1
 unfold A4
 rw [Int.toNat_natCast,List.getD_eq_getElem?_getD,h1]
 show ((c.toNat.toUInt8).toNat:Int)=c
 have:(c.toNat.toUInt8).toNat=c.toNat % 256:=by simp
 omega
theorem Vm:∀ w∈rQ,∀ x∈w.data.toList,0<x.toNat:=by decide
theorem Cw{s:ByteArray}(hs:¬ 0≤W1 s){a b:Nat}{k:Int}(ha:a<s.size)(hab:a<b)(hb:b≤s.size)(h:H0 s a=(k,(b:Int)))(hk:1≤k∧k≤8):jV s a b∧¬ (Utf8.decode s a).1=65279:=by
 have asc:(∀ i,i<b-a→0<A4 s ((a+i:Nat):Int)∧A4 s ((a+i:Nat):Int)<128)→jV s a b∧¬ (Utf8.decode s a).1=65279:=fun q=>by
  have:=jV.asc (u:=s) (b-a) a (by omega) q
  rw [show a+(b-a)=b by omega] at this
  refine⟨this,?_⟩
  have q0:=q 0 (by omega)
  rw [oF s a ha q0.2]
  dsimp only
  have:=q0.2
  rw [Nat.add_zero] at this
  omega
 rcases Sh h (by omega) with ⟨c1,c2,c3⟩|⟨c1,c2⟩|⟨c1,c2,c3⟩|⟨c1,c2,c3⟩|⟨c1,c2,c3⟩
 ·have h0:¬ (C9 s a).1=0:=fun e=>by rw [e] at c1;exact zE c1
  obtain⟨d1,d2⟩:=Y4 s a h0
  rw [Int.toNat_natCast] at d2
  obtain⟨q,q1,q2⟩:=Ma s a (s.extract a s.size).size 0 (by omega) (by rw [ByteArray.size_extract];omega)
  have e:(q:Int)=b:=by
   rw [q2,←c2]
   unfold P0
   have e1:sub s (a:Int) s.size=s.extract a s.size:=by show s.extract ((a:Int).toNat) ((s.size:Int).toNat) = _;rw [Int.toNat_natCast,Int.toNat_natCast]
   rw [e1]
  have:q=b:=by omega
  subst this
  refine⟨q1,fun w=>c3 ?_⟩
  rw [d2]
  show ((Utf8.decode s a).1:Int)=65279
  omega
 ·omega
 ·refine asc fun i hi=>?_
  unfold S4 at c1 c2
  by_cases w:eD s a
  ·rw [if_neg (not_not_intro w)] at c1 c2
   split at c1
   ·rename_i w2
    rw [if_pos w2] at c2
    dsimp only at c2
    unfold aR at c2
    have:=wI s a _ s.size a (by omega) ((a+i:Nat):Int) (by omega) (by rw [c2];omega)
    exact this
   ·exact absurd rfl c1
  ·rw [if_pos w] at c1;exact absurd rfl c1
 ·have hcl:=zY hs
  have hm:A4 s a<128∧A4 s ((b-1:Nat):Int)<128:=by
   unfold J7 at c1 c2
   by_cases w:(a:Int)<0∨(s.size:Int)≤a∨H7 aX (A4 s a)<0
   ·rw [if_pos w] at c1;exact absurd rfl c1
   rw [if_neg w] at c1 c2
   have hlt:A4 s a<128:=by
    by_cases z:A4 s a<128
    ·exact z
    ·exact absurd (Xc _ ⟨by omega,(L0 s a).2⟩) (by omega)
   refine⟨hlt,?_⟩
   by_cases w2:A4 s a=96
   ·rw [if_pos w2] at c1 c2
    by_cases w3:H7 (sub s (a+1) s.size) 96<0
    ·rw [if_pos w3] at c1;exact absurd rfl c1
    rw [if_neg w3] at c1 c2
    dsimp only at c2
    have hx:=Rt (sub s (a+1) s.size) 96 (by omega) (by omega)
    rw [C8 s (a+1) s.size _ (by omega) (by omega) (Int.le_refl _) (by omega) (by omega)] at hx
    rw [show (a:Int)+1+H7 (sub s (a+1) s.size) 96=((b-1:Nat):Int) by omega] at hx
    omega
   ·rw [if_neg w2] at c1 c2
    cases hr:bE s a with
    |none=>rw [hr] at c1;exact absurd rfl c1
    |some e=>
     rw [hr] at c2
     have hbe:e=b:=by
      dsimp only at c2
      split at c2<;>exact c2
     have:=sD s (A4 s a) _ _ _ e (by omega) hr
     rw [hbe,show (b:Int)-1=((b-1:Nat):Int) by omega] at this
     omega
  obtain⟨s1,s2⟩:=hcl.split (b:=a) (by omega) (by omega) (.inr (.inr hm.1))
  obtain⟨s3,s4⟩:=s2.split (b:=b) (by omega) hb (.inr (.inl hm.2))
  refine⟨s3,?_⟩
  rw [oF s a ha hm.1]
  dsimp only
  omega
 ·refine asc fun i hi=>?_
  unfold Y2 at c1 c2
  obtain⟨h1,h2⟩:=iX _ _ c1
  have z1:=J1 s a s.size ⟨by omega,by omega,Int.le_refl _⟩
  generalize T2 (sub s a s.size) (min 3 (sub s a s.size).size)=g at *
  have w:=J1 (sub s a s.size) 0 (g.toNat:Int) ⟨Int.le_refl _,by omega,by omega⟩
  have e2:sub (sub s a s.size) 0 (g.toNat:Int)=(sub s a s.size).extract 0 g.toNat:=by show (sub s a s.size).extract 0 ((g.toNat:Int).toNat) = _;rw [Int.toNat_natCast]
  rw [e2] at w
  have q:=C8 (sub s a s.size) 0 (g.toNat:Int) i (Int.le_refl _) (by omega) (by omega) (by omega) (by omega)
  rw [e2,C8 s a s.size (0+i) (by omega) (by omega) (Int.le_refl _) (by omega) (by omega),show (a:Int)+(0+i)=((a+i:Nat):Int) by omega] at q
  obtain⟨x,hx1,hx2⟩:=fG ((sub s a s.size).extract 0 g.toNat) i (by omega)
  rw [q] at hx2
  have m1:=vX _ h1 _ (List.mem_of_getElem? hx1)
  have m2:=Vm _ h1 _ (List.mem_of_getElem? hx1)
  omega
end Go.Ex
