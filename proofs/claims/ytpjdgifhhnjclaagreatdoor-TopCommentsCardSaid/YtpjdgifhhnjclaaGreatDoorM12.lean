/-
  Top: TopComments: whatever the input, the law answers true (part 12)
-/
import Derived.Test.YtpjdgifhhnjclaaGreatDoorM11
set_option linter.unusedVariables false
set_option linter.unusedSimpArgs false
set_option maxHeartbeats 4000000
set_option maxRecDepth 10000
namespace Go.Ex
open Go.Proofs
section
variable {I:In}{g:Gt}
theorem Ux(hg:HG I g)(t:Bool)(frm:Int)(x:Nd)(n0:Int)(h0:0≤frm)(hx:Ex I frm x n0 1 56)(q:Tq I n0):A8 (zU I g t frm x (n0+1)) fun x m=>Ex I frm x m 1 56:=by
 obtain⟨w0,⟨f0,g0⟩,⟨t0,u0⟩,p0,l0,c0⟩:=hx
 obtain⟨q7,q8,q9⟩:=q
 have r0:=w0.rng
 obtain⟨n,rfl⟩:∃ n,n=n0+1:=⟨_,rfl⟩
 unfold zU
 (repeat' (first|(refine A8.ite ?_ ?_<;>intro h<;>(try ((refine (wq I h ?a).use ?_;(case a=>decide);intro q1 q2 q3))); (try (refine (wq I h.2 ?a).use ?_;(case a=>decide);intro q4 q5 q6)))|(refine A8.bnd (A8.want I (by decide)) ?_;rintro _ m ⟨rfl,h,q1,q2,q3⟩)|(refine A8.bnd (S5 I _) ?_;rintro x m ⟨⟨w1,⟨f1,f2⟩,⟨t1,t2⟩,p1,l1,c1⟩,rfl,rfl,hk⟩;have r1:=w1.rng)|(refine A8.bnd (hg.ex _ _ _ rfl (by omega) (by exact trivial)) ?_;rintro x m ⟨w1,⟨f1,f2⟩,⟨t1,t2⟩,p1,l1,c1⟩;(try simp only [cF,A6] at c1);have r1:=w1.rng)|(refine A8.ok ?_)))
 all_goals (refine⟨?_,⟨?_,?_⟩,⟨?_,?_⟩,?_,?_,?_⟩<;>(try simp only [sE,cF,A6])<;>(first|omega|(repeat' (first|assumption|exact .inl ⟨rfl,by decide⟩|(refine dS ?_ (by decide) ?_ ?_ ?_ ?_ ?_)|(refine eJ ?_ (by decide) ?_ ?_ ?_ ?_ ?_ ?_ ?_ ?_)|omega))))
theorem oM(hg:HG I g)(n0:Int)(h0:0≤n0):∀ (f:Nat) (w:Int) (acc:List Nd) (n:Int),n0≤n→n≤I.L→E6 I (-1) acc n0 n→L6 acc≤2000*(n-n0)→(w = -1∨acc≠[]∧n0≤w∧w<n∧word I w=(⟨#[46,46,46]⟩:ByteArray)∧(acc.getLastD I3).to≤w) →
 A8 (T3 I (⟨#[44]⟩:ByteArray) (⟨#[41]⟩:ByteArray) (jJ I g) f w acc n) fun r m=>(n0≤m∧Tq I m)∧E6 I (-1) r.1 n0 m∧L6 r.1≤2000*(m-n0)∧(r.2 = -1∨r.1≠[]∧n0≤r.2∧r.2<m∧word I r.2=(⟨#[46,46,46]⟩:ByteArray)∧(r.1.getLastD I3).to≤r.2)
 |0,w,acc,n,_,_,_,_,_=>A8.err
 |f+1,w,acc,n,h1,h2,h3,h4,h5=>by
  unfold T3
  refine A8.ite (fun h=>A8.ok ⟨⟨h1,wq I h (by decide)⟩,h3,h4,h5⟩) fun h=>?_
  have key:A8 (jJ I g w n) fun x m=>∃ e:Int,(e=m∧x.2 = -1∨m=e+1∧x.2=e∧word I e=(⟨#[46,46,46]⟩:ByteArray)∧Tq I e)∧Ex I n x.1 e 1 88∧w = -1:=by
   unfold jJ
   refine A8.ite (fun h=>A8.err) fun h=>?_
   refine A8.bnd (hg.ex _ _ _ rfl (by omega) trivial) ?_
   intro x m hx
   refine A8.ite (fun h=>A8.ok ⟨m,.inr ⟨rfl,rfl,h,wq I h (by decide)⟩,hx,by rcases h5 with h5|h5<;>omega⟩) fun h=>A8.ok ⟨m,.inl ⟨rfl,by dsimp only;rcases h5 with h5|h5<;>omega⟩,hx,by rcases h5 with h5|h5<;>omega⟩
  refine A8.bnd key ?_
  rintro⟨x,v⟩ m ⟨e,h6,⟨w1,⟨f1,f2⟩,⟨t1,t2⟩,p1,l1,c1⟩,rfl⟩
  dsimp only at *
  have r1:=w1.rng
  have hm:e≤m∧m≤I.L∧pc I e=pc I m:=by
   rcases h6 with ⟨rfl,_⟩|⟨rfl,_,_,q⟩
   ·exact⟨Int.le_refl _,l1,rfl⟩
   ·exact⟨by omega,by have:=q.2.1;omega,q.2.2.symm⟩
  have hw:=E6.snoc (t:=m) h3 (by omega) (.inl (by omega)) w1 (by omega)
  have hv:v = -1∨acc++[x]≠[]∧n0≤v∧v<m∧word I v=(⟨#[46,46,46]⟩:ByteArray)∧((acc++[x]).getLastD I3).to≤v:=by
   rcases h6 with ⟨_,h6⟩|⟨rfl,rfl,h6,q⟩
   ·exact .inl h6
   ·refine .inr ⟨by simp,by omega,by omega,h6,?_⟩
    rw [List.getLastD_eq_getLast?,List.getLast?_append]
    simp
    omega
  have hc:L6 (acc++[x])≤2000*(m-n0):=by rw [N2];omega
  refine A8.ite (fun h=>?_) fun h=>?_
  ·exact oM hg n0 h0 f v _ m (by omega) hm.2.1 hw hc hv
  ·refine A8.bnd (A8.want I (by decide)) ?_
   rintro _ _ ⟨rfl,h,q1,q2,q3⟩
   refine oM hg n0 h0 f v _ (m+1) (by omega) (by omega) (hw.more ⟨by omega,q3.symm⟩) (by omega) ?_
   rcases hv with hv|⟨a,b,c,d,e⟩
   ·exact .inl hv
   ·exact .inr ⟨a,b,by omega,d,e⟩
theorem Cv(hg:HG I g)(frm:Int)(x:Nd)(n:Int)(h0:0≤frm)(hx:Ex I frm x n 1 56):A8 (mW I g frm x n) fun x m=>Ex I frm x m 1 56:=by
 obtain⟨w0,⟨f0,g0⟩,⟨t0,u0⟩,p0,l0,c0⟩:=hx
 have r0:=w0.rng
 unfold mW
 have key:A8 (T5 I (⟨#[40]⟩:ByteArray) (⟨#[44]⟩:ByteArray) (⟨#[41]⟩:ByteArray) (jJ I g) (-1) n) fun r m=>Tq I n∧(n+1≤m∧Tq I m)∧E6 I (-1) r.1 (n+1) m∧L6 r.1≤2000*(m-(n+1))∧(r.2 = -1∨r.1≠[]∧n+1≤r.2∧r.2<m∧word I r.2=(⟨#[46,46,46]⟩:ByteArray)∧(r.1.getLastD I3).to≤r.2):=by
  unfold T5
  refine A8.bnd (A8.want I (by decide)) ?_
  rintro _ _ ⟨rfl,h,q⟩
  refine A8.mono (oM hg (n+1) (by omega) _ (-1) [] (n+1) (Int.le_refl _) (by have:=q.2.1;omega) (by unfold E6;exact⟨Int.le_refl _,rfl⟩) (by simp only [L6];omega) (.inl rfl)) ?_
  rintro r m h
  exact⟨q,h⟩
 refine A8.bnd key ?_
 rintro⟨l,w⟩ m ⟨⟨b1,b2,b3⟩,⟨b4,b5⟩,a1,a2,a3⟩
 dsimp only at *
 refine A8.bnd (A8.want I (by decide)) ?_
 rintro _ _ ⟨rfl,h,q1,q2,q3⟩
 have hl:=W6 (k:=11) (c:=1) a1 (by omega) (by omega) (by decide) (by decide) (by simp [dI]) (by omega)
 have hto:w = -1∨(K3 11 l m).to≤w:=by
  rcases a3 with a3|⟨a,b,c,d,e⟩
  ·exact .inl a3
  ·cases l with
   |nil=>exact absurd rfl a
   |cons y r=>exact .inr e
 obtain⟨w1,⟨f1,f2⟩,e1,⟨t1,t2⟩,p1,l1,c1⟩:=hl
 refine A8.ok ?_
 have hw:Ia I 34 w frm (m+1):=by
  rcases a3 with a3|⟨a,b,c,d,e⟩
  ·exact .inl ⟨a3,by decide⟩
  ·exact .inr ⟨by omega,.inr (.inr ⟨by simp [jK,d],fun e=>by omega⟩)⟩
 have r1:=w1.rng
 (refine⟨?_,⟨?_,?_⟩,⟨?_,?_⟩,?_,?_,?_⟩<;>(try simp only [sE,cF,A6])<;>(first|omega|(repeat' (first|assumption|(refine eJ ?_ (by decide) ?_ ?_ ?_ ?_ ?_ ?_ ?_ ?_)|omega))))
theorem vW(hg:HG I g)(frm:Int)(x lo:Nd)(n0 n:Int)(h0:0≤frm)(hx:Ex I frm x n0 1 56)(hlo:Ex I (n0+1) lo n 0 88)(q0:Tq I n0)(q:Tq I n):A8 (fS I g frm x lo (n+1)) fun x m=>Ex I frm x m 1 56:=by
 obtain⟨w0,⟨f0,g0⟩,⟨t0,u0⟩,p0,l0,c0⟩:=hx
 obtain⟨w2,⟨f2,g2⟩,⟨t2,u2⟩,p2,l2,c2⟩:=hlo
 obtain⟨q7,q8,q9⟩:=q0
 obtain⟨q10,q11,q12⟩:=q
 have r0:=w0.rng
 have r2:=w2.rng
 obtain⟨k,rfl⟩:∃ k,k=n0+1:=⟨_,rfl⟩
 unfold fS
 refine A8.ite (fun h=>?_) fun h=>?_
 ·refine (wq I h (by decide)).use ?_
  intro q1 q2 q3
  (repeat' ((refine A8.ok ?_)))
  all_goals (refine⟨?_,⟨?_,?_⟩,⟨?_,?_⟩,?_,?_,?_⟩<;>(try simp only [sE,cF,A6])<;>(first|omega|(repeat' (first|assumption|exact G6 I _ _ 0 (by omega) (by decide)|exact .inl ⟨rfl,by decide⟩|(refine Of ?_ (by decide) ?_ ?_ ?_ ?_ ?_ ?_ ?_ ?_ ?_ ?_ ?_ ?_ ?_ ?_)|omega|(simp only [sE,cF,A6]<;>omega)))))
 ·(repeat' (first|(refine A8.ite ?_ ?_<;>intro h<;>(try ((refine (wq I h ?a).use ?_;(case a=>decide);intro q1 q2 q3))); (try (refine (wq I h.2 ?a).use ?_;(case a=>decide);intro q4 q5 q6)))|(refine A8.bnd (A8.want I (by decide)) ?_;rintro _ m ⟨rfl,h,q1,q2,q3⟩)|(refine A8.bnd (hg.ex _ _ _ rfl (by omega) (by exact trivial)) ?_;rintro x m ⟨w1,⟨f1,f2⟩,⟨t1,t2⟩,p1,l1,c1⟩;(try simp only [cF,A6] at c1);have r1:=w1.rng)|(refine A8.ok ?_)))
  all_goals (refine⟨?_,⟨?_,?_⟩,⟨?_,?_⟩,?_,?_,?_⟩<;>(try simp only [sE,cF,A6])<;>(first|omega|(repeat' (first|assumption|exact G6 I _ _ 0 (by omega) (by decide)|exact .inl ⟨rfl,by decide⟩|(refine Of ?_ (by decide) ?_ ?_ ?_ ?_ ?_ ?_ ?_ ?_ ?_ ?_ ?_ ?_ ?_ ?_)|omega|(simp only [sE,cF,A6]<;>omega)))))
theorem wX(hg:HG I g)(n0:Int)(h0:0≤n0):∀ (f:Nat) (acc:List Nd) (n:Int),acc≠[]→n0+1≤n→n≤I.L→E6 I (-1) acc n0 n→L6 acc≤2000*(n-n0)→A8 (gZ I g f acc n) fun l m=>l≠[]∧n0+1≤m∧m≤I.L∧E6 I (-1) l n0 m∧L6 l≤2000*(m-n0)
 |0,acc,n,_,_,_,_,_=>A8.err
 |f+1,acc,n,h00,h1,h2,h3,h4=>by
  unfold gZ
  refine A8.ite (fun h=>?_) fun h=>A8.ok ⟨h00,h1,h2,h3,h4⟩
  obtain⟨q1,q2,q3⟩:=wq I h.1 (by decide)
  refine A8.bnd (hg.ex _ _ _ rfl (by omega) trivial) ?_
  rintro x m ⟨w1,⟨f1,f2⟩,⟨t1,t2⟩,p1,l1,c1⟩;(try simp only [cF,A6] at c1);have r1:=w1.rng
  exact wX hg n0 h0 f _ m (by simp) (by omega) l1 (E6.snoc h3 (by omega) (.inl (by omega)) w1 ⟨by omega,t2⟩) (by rw [N2];omega)
theorem Wo(hg:HG I g)(frm:Int)(X:Nd)(n0:Int)(h0:0≤frm)(hx:Ex I frm X n0 1 56)(q:Tq I n0):A8 (cY I g frm X (n0+1)) fun x m=>Ex I frm x m 1 56:=by
 have q':=q
 have hx':=hx
 obtain⟨w0,⟨f0,g0⟩,⟨t0,u0⟩,p0,l0,c0⟩:=hx
 obtain⟨q7,q8,q9⟩:=q
 have r0:=w0.rng
 unfold cY
 refine A8.ite (fun h=>?_) fun h=>?_
 ·exact vW hg frm X (E3 0 (n0+1)) n0 (n0+1) h0 hx' ⟨G6 I 0 _ 0 (by omega) (by decide),⟨rfl,rfl⟩,⟨rfl,rfl⟩,by omega,by omega,by rw [nC];omega⟩ q' (wq I h (by decide))
 ·refine A8.bnd (hg.ex _ _ _ rfl (by omega) trivial) ?_
  intro lo m hlo
  have hlo':=hlo
  revert hlo lo m
  rintro x m ⟨w1,⟨f1,f2⟩,⟨t1,t2⟩,p1,l1,c1⟩;(try simp only [cF,A6] at c1);have r1:=w1.rng
  intro hlo'
  refine A8.ite (fun h=>?_) fun h=>?_
  ·exact vW hg frm X _ n0 m h0 hx' ⟨w1,⟨f1,f2⟩,⟨t1,t2⟩,by omega,l1,by omega⟩ q' (wq I h (by decide))
  ·refine A8.bnd (wX hg (n0+1) (by omega) (F6 I m) [_] m (by simp) (by omega) l1 (by
    unfold E6
    refine⟨(by omega),.inl (by omega),w1,?_⟩
    unfold E6
    exact⟨by omega,t2⟩) (by simp only [L6];omega)) ?_
   rintro l m2 ⟨a1,a2,a3,a4,a5⟩
   have hmb:maybe I (⟨#[44]⟩:ByteArray) m2=m2∨Tq I m2∧maybe I (⟨#[44]⟩:ByteArray) m2=m2+1:=by
    unfold maybe
    split
    ·rename_i h;exact .inr ⟨wq I h (by decide),rfl⟩
    ·exact .inl rfl
   obtain⟨m3,hm3⟩:∃ m3,maybe I (⟨#[44]⟩:ByteArray) m2=m3:=⟨_,rfl⟩
   rw [hm3] at hmb ⊢
   refine A8.bnd (A8.want I (by decide)) ?_
   rintro _ _ ⟨rfl,h,q1,q2,q3⟩
   have hl:=W6 (k:=11) (c:=1) a4 (by omega) (by omega) (by decide) (by decide) (by simp [dI]) (by omega)
   obtain⟨w3,⟨f3,g3⟩,e3,⟨t3,u3⟩,p3,l3,c3⟩:=hl
   have r3:=w3.rng
   have hpc:m2≤m3∧pc I m2=pc I m3:=by
    rcases hmb with rfl|⟨⟨_,_,hz⟩,rfl⟩
    ·exact⟨Int.le_refl _,rfl⟩
    ·exact⟨by omega,hz.symm⟩
   refine A8.ok ?_
   (refine⟨?_,⟨?_,?_⟩,⟨?_,?_⟩,?_,?_,?_⟩<;>(try simp only [sE,cF,A6])<;>(first|omega|(repeat' (first|assumption|exact .inl ⟨rfl,by decide⟩|(refine eJ ?_ (by decide) ?_ ?_ ?_ ?_ ?_ ?_ ?_ ?_)|omega))))
theorem cU(hg:HG I g)(t:Bool)(frm:Int)(h0:0≤frm):∀ (f:Nat) (x:Nd) (n:Int),Ex I frm x n 1 56→A8 (X4 I g t frm f x n) fun x m=>Ex I frm x m 1 56
 |0,x,n,hx=>A8.err
 |f+1,x,n,hx=>by
  unfold X4
  refine A8.ite (fun h=>A8.bnd (Ux hg t frm x n h0 hx (wq I h (by decide))) fun y m hy=>cU hg t frm h0 f y m hy) fun h=>?_
  refine A8.ite (fun h=>A8.bnd (Cv hg frm x n h0 hx) fun y m hy=>cU hg t frm h0 f y m hy) fun h=>?_
  refine A8.ite (fun h=>A8.bnd (Wo hg frm x n h0 hx (wq I h (by decide))) fun y m hy=>cU hg t frm h0 f y m hy) fun h=>?_
  refine A8.ite (fun h=>?_) fun h=>A8.ok hx
  obtain⟨w0,⟨f0,g0⟩,⟨t0,u0⟩,p0,l0,c0⟩:=hx
  have r0:=w0.rng
  refine A8.bnd (hg.el _ _ (by omega)) ?_
  rintro x m ⟨w1,⟨f1,f2⟩,e1,⟨t1,t2⟩,p1,l1,c1⟩;(try simp only [cF,A6] at c1);have r1:=w1.rng
  refine cU hg t frm h0 f _ m ?_
  (refine⟨?_,⟨?_,?_⟩,⟨?_,?_⟩,?_,?_,?_⟩<;>(try simp only [sE,cF,A6])<;>(first|omega|(repeat' (first|assumption|exact .inl ⟨rfl,by decide⟩|(refine eJ ?_ (by decide) ?_ ?_ ?_ ?_ ?_ ?_ ?_ ?_)|omega))))
theorem Gc(hg:HG I g)(t:Bool)(n:Int)(hn:0≤n∧n≤I.L):A8 (W3 I g t n) fun x m=>Ex I n x m 1 (cF .primary):=by
 unfold W3
 refine A8.bnd (hg.ex _ _ _ rfl hn trivial) ?_
 intro x m hx
 refine A8.mono (cU hg t n hn.1 _ x m (by simpa only [cF,A6,Int.reduceAdd,Int.reduceMul] using hx)) ?_
 rintro x m ⟨w1,⟨f1,f2⟩,⟨t1,t2⟩,p1,l1,c1⟩;(try simp only [cF,A6] at c1);have r1:=w1.rng
 (refine⟨?_,⟨?_,?_⟩,⟨?_,?_⟩,?_,?_,?_⟩<;>(try simp only [sE,cF,A6])<;>(omega))
theorem eI(hg:HG I g)(k w frm:Int)(t:Bool)(n:Int)(h0:0≤frm∧frm<n∧n≤I.L∧pc I frm=pc I n)(hk:(0≤k∧k≤68)∧dI k 1)(hw:w<n∧∀ m,n<m→Ia I k w frm m):A8 (M3 g k w frm [] t n) fun x m=>Ex I frm x m 1 8:=by
 unfold M3
 refine A8.bnd (hg.ex _ _ _ rfl (by omega) trivial) ?_
 rintro x m ⟨w1,⟨f1,f2⟩,⟨t1,t2⟩,p1,l1,c1⟩;(try simp only [cF,A6] at c1);have r1:=w1.rng
 refine A8.ok ?_
 rw [List.nil_append]
 have hw2:=hw.2 m (by omega)
 have hw1:=hw.1
 refine⟨dS ⟨by omega,by omega,by omega⟩ hk hw2 w1 (by omega) (by omega) (.inl (by omega)),⟨rfl,rfl⟩,⟨rfl,rfl⟩,by omega,by omega,by simp only [sE,cF,A6];omega⟩
theorem vF(hg:HG I g)(k frm:Int)(y:Nd)(t:Bool)(n:Int)(h0:0≤frm∧frm+2≤n∧n≤I.L)(hy:S3 I y)(h1:frm≤y.frm∧pc I frm=pc I y.frm)(h2:y.to≤n∧pc I y.to=pc I n)(h3:L4 y≤2000*(n-frm-2)+88)(hk:(0≤k∧k≤68)∧dI k 2)(hw:bZ k):A8 (M3 g k (-1) frm [y] t n) fun x m=>Ex I frm x m 1 8:=by
 unfold M3
 refine A8.bnd (hg.ex _ _ _ rfl (by omega) trivial) ?_
 rintro x m ⟨w1,⟨f1,f2⟩,⟨t1,t2⟩,p1,l1,c1⟩;(try simp only [cF,A6] at c1);have r1:=w1.rng
 have r2:=hy.rng
 refine A8.ok ?_
 refine⟨eJ ⟨by omega,by omega,by omega⟩ hk (.inl ⟨rfl,hw⟩) hy w1 (by omega) (by omega) (by omega) (.inl (by omega)) (.inl (by omega)),⟨rfl,rfl⟩,⟨rfl,rfl⟩,by omega,by omega,by simp only [List.cons_append,List.nil_append,mF,mT,Int.le_refl,or_true,true_or,and_true,true_and,and_self,EH,cC,cN,nC,lC,nF,nT,cF,A6];omega⟩
end
end Go.Ex
