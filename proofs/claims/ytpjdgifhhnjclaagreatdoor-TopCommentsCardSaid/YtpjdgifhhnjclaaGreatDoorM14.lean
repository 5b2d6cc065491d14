/-
  Top: TopComments: whatever the input, the law answers true (part 14)
-/
import Derived.Test.YtpjdgifhhnjclaaGreatDoorM13
set_option linter.unusedVariables false
set_option linter.unusedSimpArgs false
set_option maxHeartbeats 4000000
set_option maxRecDepth 10000
namespace Go.Ex
open Go.Proofs
structure ER(I:In)(a:Int)(x:Nd)(b c:Int):Prop where
 wel:S3 I x
 frm:a≤x.frm∧pc I a=pc I x.frm
 to:x.to≤b∧pc I x.to=pc I b
 cnt:L4 x≤c
theorem sL{I:In}{a m p c:Int}{s:Nd}(hs:Ex I a s m p c):A8 (V8 s m) fun y m'=>m'=m∧ER I a y m (L4 s-1):=by
 obtain⟨w1,⟨f1,f2⟩,⟨t1,t2⟩,p1,l1,c1⟩:=hs
 unfold V8
 refine A8.ite (fun h=>?_) fun h=>A8.err
 have h1:=w1.ar
 rw [h] at h1
 obtain⟨y,e,wy,a1,a2,a3⟩:=w1.kid1 (by simpa [dI,Rv] using h1)
 rw [e]
 exact A8.ok ⟨rfl,wy,⟨by show _≤y.frm;omega,by show _=pc I y.frm;omega⟩,⟨by show y.to≤_;omega,by show pc I y.to = _;omega⟩,by show L4 y≤_;omega⟩
theorem Fy{I:In}{a m p c:Int}{s y x:Nd}(hs:Ex I a s m p c)(h:aL I s=some (y,x)):S3 I y∧S3 I x∧(a≤y.frm∧pc I a=pc I y.frm)∧(y.to≤x.frm∧pc I y.to=pc I x.frm)∧(x.to≤m∧pc I x.to=pc I m)∧L4 y+L4 x≤L4 s:=by
 obtain⟨w1,⟨f1,f2⟩,⟨t1,t2⟩,p1,l1,c1⟩:=hs
 have r1:=w1.rng
 unfold aL at h
 split at h
 ·rename_i c
  cases h
  have h1:=w1.ar
  rw [c.1] at h1
  obtain⟨z,e,wz,a1,a2,a3⟩:=w1.kid1 (by simpa [dI,Rv] using h1)
  rw [e] at c ⊢
  have c2:z.kind=33:=c.2
  have h2:=wz.ar
  rw [c2] at h2
  obtain⟨v,e2,wv,b1,b2,b3⟩:=wz.kid1 (by simpa [dI,Rv] using h2)
  show S3 I _∧S3 I (z.kids.getD 0 I3)∧_∧(_≤(z.kids.getD 0 I3).frm∧_=pc I (z.kids.getD 0 I3).frm)∧((z.kids.getD 0 I3).to≤_∧pc I (z.kids.getD 0 I3).to = _)∧_+L4 (z.kids.getD 0 I3)≤_
  rw [e2]
  refine⟨G6 I 0 s.frm 0 (by omega) (by decide),wv,?_,?_,?_,?_⟩
  ·simp only [mF];omega
  ·simp only [mT]
   show s.frm≤v.frm∧_=pc I v.frm
   omega
  ·show v.to≤_∧pc I v.to = _
   omega
  ·show L4 (E3 0 s.frm)+L4 v≤_
   rw [nC]
   omega
 ·split at h
  ·rename_i c
   cases h
   obtain⟨d1,d2,d3,d4,d5,d6⟩:=c
   have h1:=w1.ar
   rw [d1] at h1
   obtain⟨l,r,e,wl,wr,a1,a2,a3,a4⟩:=w1.kid2 (by simpa [dI,Rv] using h1)
   rw [e] at d3 d4 d5 d6 ⊢
   have d3':l.kids.length=1:=by exact_mod_cast d3
   have d4':r.kids.length=1:=by exact_mod_cast d4
   obtain⟨z,e2,wz,b1,b2,b3⟩:=wl.kid1 d3'
   obtain⟨gd,e3,wg,g1,g2,g3⟩:=wr.kid1 d4'
   have d6':(r.kids.getD 0 I3).kind=33:=d6
   rw [e3] at d6'
   have d6'':gd.kind=33:=d6'
   have h2:=wg.ar
   rw [d6''] at h2
   obtain⟨v,e4,wv,v1,v2,v3⟩:=wg.kid1 (by simpa [dI,Rv] using h2)
   show S3 I (l.kids.getD 0 I3)∧S3 I ((r.kids.getD 0 I3).kids.getD 0 I3)∧(_≤(l.kids.getD 0 I3).frm∧_=pc I (l.kids.getD 0 I3).frm)∧((l.kids.getD 0 I3).to≤((r.kids.getD 0 I3).kids.getD 0 I3).frm∧pc I (l.kids.getD 0 I3).to=pc I ((r.kids.getD 0 I3).kids.getD 0 I3).frm)∧(((r.kids.getD 0 I3).kids.getD 0 I3).to≤_∧pc I ((r.kids.getD 0 I3).kids.getD 0 I3).to = _)∧L4 (l.kids.getD 0 I3)+L4 ((r.kids.getD 0 I3).kids.getD 0 I3)≤_
   rw [e2,e3]
   show S3 I z∧S3 I (gd.kids.getD 0 I3)∧(_≤z.frm∧_=pc I z.frm)∧(z.to≤(gd.kids.getD 0 I3).frm∧pc I z.to=pc I (gd.kids.getD 0 I3).frm)∧((gd.kids.getD 0 I3).to≤_∧pc I (gd.kids.getD 0 I3).to = _)∧L4 z+L4 (gd.kids.getD 0 I3)≤_
   rw [e4]
   show S3 I z∧S3 I v∧(_≤z.frm∧_=pc I z.frm)∧(z.to≤v.frm∧pc I z.to=pc I v.frm)∧(v.to≤_∧pc I v.to = _)∧L4 z+L4 v≤_
   exact⟨wz,wv,by omega,by omega,by omega,by omega⟩
  ·cases h
section
variable {I:In}{g:Gt}
theorem lO(hg:HG I g)(t:Bool)(n0:Int)(h0:0≤n0):∀ (f:Nat) (acc:List Nd) (n:Int),n0≤n→n≤I.L→E6 I (-1) acc n0 n→L6 acc≤2000*(n-n0)→(acc=[]∧n=n0∨acc≠[]∧(acc.headD I3).frm=n0∧∀ i,(acc.getLastD I3).to≤i→i<n→word I i=(⟨#[59]⟩:ByteArray)) →
 A8 (lP I g t f acc n) fun l m=>n0≤m∧m≤I.L∧E6 I (-1) l n0 m∧L6 l≤2000*(m-n0)∧(l=[]∧m=n0∨l≠[]∧(l.headD I3).frm=n0∧∀ i,(l.getLastD I3).to≤i→i<m→word I i=(⟨#[59]⟩:ByteArray))
 |0,acc,n,_,_,_,_,_=>A8.err
 |f+1,acc,n,h1,h2,h3,h4,h5=>by
  unfold lP
  have hh:∀ x:Nd,x.frm=n→((acc++[x]).headD I3).frm=n0:=by
   intro x hx
   rcases h5 with ⟨rfl,h5⟩|⟨h5,h6,_⟩
   ·show x.frm=n0;omega
   ·cases acc with
    |nil=>exact absurd rfl h5
    |cons y r=>exact h6
  have hl:∀ x:Nd,((acc++[x]).getLastD I3)=x:=by
   intro x
   rw [List.getLastD_eq_getLast?,List.getLast?_append]
   simp
  refine A8.ite (fun h=>A8.ok ⟨h1,h2,h3,h4,h5⟩) fun h=>A8.ite (fun h=>?_) fun h=>?_
  ·obtain⟨q1,q2,q3⟩:=wq I h (by decide)
   refine lO hg t n0 h0 f _ (n+1) (by omega) (by omega) (E6.snoc h3 ⟨Int.le_refl _,rfl⟩ (.inl (by rw [nF];omega)) (G6 I 49 n 0 (by omega) (by decide)) ⟨by rw [nT];omega,by rw [nT];omega⟩) (by rw [N2,nC];omega) (.inr ⟨by simp,hh _ rfl,?_⟩)
   intro i h6 h7
   rw [hl,nT] at h6
   rw [show i=n by omega]
   exact h
  ·refine A8.bnd (hg.ex _ _ _ rfl (by omega) trivial) ?_
   rintro x m ⟨w1,⟨f1,f2⟩,⟨t1,t2⟩,p1,l1,c1⟩;(try simp only [cF,A6] at c1);have r1:=w1.rng
   have hw:=E6.snoc (t:=m) h3 (by omega) (.inl (by omega)) w1 (by omega)
   refine A8.ite (fun h=>?_) fun h=>?_
   ·refine lO hg t n0 h0 f _ m (by omega) (by omega) hw (by rw [N2];omega) (.inr ⟨by simp,hh _ f1,?_⟩)
    intro i h6 h7
    rw [hl] at h6
    omega
   ·refine A8.bnd (A8.want I (by decide)) ?_
    rintro _ _ ⟨rfl,h,q1,q2,q3⟩
    refine lO hg t n0 h0 f _ (m+1) (by omega) (by omega) (hw.more (by omega)) (by rw [N2];omega) (.inr ⟨by simp,hh _ f1,?_⟩)
    intro i h6 h7
    rw [hl] at h6
    rw [show i=m by omega]
    exact h
theorem Ga(hg:HG I g)(t:Bool)(n:Int)(hn:0≤n∧n≤I.L):A8 (V4 I g t n) fun x m=>Sm I n x m 0 (cF .anyStmts):=by
 unfold V4
 refine A8.bnd (lO hg t n hn.1 _ [] n (Int.le_refl _) hn.2 (by unfold E6;exact⟨Int.le_refl _,rfl⟩) (by simp only [L6];omega) (.inl ⟨rfl,rfl⟩)) ?_
 rintro l m ⟨a1,a2,a3,a4,a5⟩
 obtain⟨w1,⟨f1,f2⟩,e1,⟨t1,t2⟩,p1,l1,c1⟩:=W6 (k:=13) (c:=1) a3 (by omega) (by omega) (by decide) (by decide) (by simp [dI]) (by omega)
 refine A8.ok ?_
 rcases a5 with ⟨rfl,rfl⟩|⟨h1,h2,h3⟩
 ·exact⟨w1,⟨rfl,rfl⟩,e1,⟨t1,t2⟩,by omega,by omega,by simp only [cF,A6];omega,fun i h4 h5=>by have h6:m≤i:=h4;omega⟩
 ·cases l with
  |nil=>exact absurd rfl h1
  |cons x r=>exact⟨w1,⟨h2,by show pc I x.frm=pc I n;rw [show x.frm=n from h2]⟩,e1,⟨t1,t2⟩,by omega,by omega,by simp only [cF,A6];omega,h3⟩
theorem Om(hg:HG I g)(t:Bool)(n:Int)(hn:0≤n∧n≤I.L):A8 (nJ g t n) fun x m=>Sm I n x m 0 (cF .stmts):=by
 unfold nJ
 refine A8.mono (hg.sa false n hn) ?_
 rintro x m ⟨w1,⟨f1,f2⟩,e1,⟨t1,t2⟩,p1,l1,c1,s1⟩;(try simp only [cF,A6] at c1);have r1:=w1.rng
 exact⟨w1,⟨f1,f2⟩,e1,⟨t1,t2⟩,p1,l1,by simp only [cF,A6];omega,s1⟩
theorem Hq(hg:HG I g)(t:Bool)(n:Int)(hn:0≤n∧n≤I.L):A8 (gP I g t n) fun x m=>Ex I n x m 1 (cF .block):=by
 unfold gP
 (repeat' (first|(refine A8.bnd (A8.want I (by decide)) ?_;rintro _ m ⟨rfl,h,q1,q2,q3⟩)|(refine A8.bnd (hg.ss _ _ (by omega)) ?_;rintro x m ⟨w1,⟨f1,f2⟩,e1,⟨t1,t2⟩,p1,l1,c1,s1⟩;(try simp only [cF,A6] at c1);have r1:=w1.rng)|(refine A8.ok ?_)))
 all_goals (refine⟨?_,⟨?_,?_⟩,⟨?_,?_⟩,?_,?_,?_⟩<;>(try simp only [sE,cF,A6])<;>(first|omega|(repeat' (first|assumption|exact .inl ⟨rfl,by decide⟩|(refine dS ?_ (by decide) ?_ ?_ ?_ ?_ ?_)|omega))))
theorem Mr(hg:HG I g)(t:Bool)(n:Int)(hn:0≤n∧n≤I.L):A8 (F8 I g t n) fun x m=>Ex I n x m 1 (cF .stmt):=by
 unfold F8
 (repeat' (first|(refine A8.ite ?_ ?_<;>intro h<;>(try (first|(refine (wq I h ?a).use ?_;(case a=>decide);intro q1 q2 q3)|(refine (Mj I (n:=n) ?a).use ?_;(case a=>(intro e;rw [e] at h;first|(revert h;decide)));intro q1 q2 q3)|(refine (Mj I (n:=(n+1)) ?a).use ?_;(case a=>(intro e;rw [e] at h;first|(refine absurd h.2 ?_;decide)));intro q1 q2 q3))); (try (refine (wq I h.2 ?a).use ?_;(case a=>decide);intro q4 q5 q6)))|(refine A8.bnd (S5 I _) ?_;rintro x m ⟨⟨w1,⟨f1,f2⟩,⟨t1,t2⟩,p1,l1,c1⟩,rfl,rfl,hk⟩;have r1:=w1.rng)|(refine A8.bnd (hg.ex _ _ _ rfl (by omega) (by exact trivial)) ?_;rintro x m ⟨w1,⟨f1,f2⟩,⟨t1,t2⟩,p1,l1,c1⟩;(try simp only [cF,A6] at c1);have r1:=w1.rng)|(refine A8.mono (hg.ex _ _ _ rfl (by omega) (by first|exact trivial|assumption)) ?_;rintro x m ⟨w1,⟨f1,f2⟩,⟨t1,t2⟩,p1,l1,c1⟩;(try simp only [cF,A6] at c1);have r1:=w1.rng)|(refine A8.ok ?_)))
 all_goals (refine⟨?_,⟨?_,?_⟩,⟨?_,?_⟩,?_,?_,?_⟩<;>(try simp only [sE,cF,A6])<;>(first|omega|(repeat' (first|assumption|exact G6 I _ _ 0 (by omega) (by decide)|exact .inl ⟨rfl,by decide⟩|(refine eJ ?_ (by decide) ?_ ?_ ?_ ?_ ?_ ?_ ?_ ?_)|omega|(simp only [sE,cF,A6]<;>omega)))))
theorem zW(hg:HG I g)(t:Bool)(n:Int)(hn:0≤n∧n≤I.L)(hp:pre I .declared n):A8 (cQ g t n) fun x m=>Ex I n x m 1 (cF .declared):=by
 unfold cQ
 refine A8.bnd (hg.ex _ _ _ rfl hn (.inr hp)) ?_
 rintro x m ⟨w1,⟨f1,f2⟩,⟨t1,t2⟩,p1,l1,c1⟩;(try simp only [cF,A6] at c1);have r1:=w1.rng
 refine A8.ok ?_
 (refine⟨?_,⟨?_,?_⟩,⟨?_,?_⟩,?_,?_,?_⟩<;>(try simp only [sE,cF,A6])<;>(first|omega|(repeat' (first|assumption|exact .inl ⟨rfl,by decide⟩|(refine dS ?_ (by decide) ?_ ?_ ?_ ?_ ?_)|omega))))
theorem Mb(hg:HG I g)(t:Bool)(n:Int)(hn:0≤n∧n≤I.L)(hp:pre I .started n):A8 (Z3 I g t n) fun x m=>Ex I n x m 1 (cF .started):=by
 obtain⟨q7,q8,q9⟩:Tq I n:=Mj I fun e=>by simp only [pre] at hp;rw [e] at hp;revert hp;decide
 unfold Z3
 (repeat' (first|(refine A8.bnd (hg.ex _ _ _ rfl (by omega) (by first|exact trivial|assumption)) ?_;rintro x m ⟨w1,⟨f1,f2⟩,⟨t1,t2⟩,p1,l1,c1⟩;(try simp only [cF,A6] at c1);have r1:=w1.rng)|(refine A8.ok ?_)))
 split
 ·(refine⟨?_,⟨?_,?_⟩,⟨?_,?_⟩,?_,?_,?_⟩<;>(try simp only [sE,cF,A6])<;>(first|omega|(repeat' (first|assumption|exact .inl ⟨rfl,by decide⟩|(refine dS ?_ (by decide) ?_ ?_ ?_ ?_ ?_)|omega))))
 ·(refine⟨?_,⟨?_,?_⟩,⟨?_,?_⟩,?_,?_,?_⟩<;>(try simp only [sE,cF,A6])<;>(first|omega|(repeat' (first|assumption|exact .inl ⟨rfl,by decide⟩|(refine dS ?_ (by decide) ?_ ?_ ?_ ?_ ?_)|omega))))
theorem yU(hg:HG I g)(t:Bool)(n:Int)(hn:0≤n∧n≤I.L)(hp:pre I .returned n):A8 (U9 I g t n) fun x m=>Ex I n x m 1 (cF .returned):=by
 obtain⟨q7,q8,q9⟩:Tq I n:=Mj I fun e=>by simp only [pre] at hp;rw [e] at hp;revert hp;decide
 unfold U9
 refine A8.ite (fun h=>?_) fun h=>?_
 ·(repeat' ((refine A8.ok ?_)))
  (refine⟨?_,⟨?_,?_⟩,⟨?_,?_⟩,?_,?_,?_⟩<;>(try simp only [sE,cF,A6])<;>(first|omega|(repeat' (first|exact G6 I _ _ 0 (by omega) (by decide)|exact .inl ⟨rfl,by decide⟩|(refine dS ?_ (by decide) ?_ ?_ ?_ ?_ ?_)|omega|(simp only [sE,cF,A6]<;>omega)))))
 ·(repeat' (first|(refine A8.bnd (hg.ex _ _ _ rfl (by omega) (by first|exact trivial|assumption)) ?_;rintro x m ⟨w1,⟨f1,f2⟩,⟨t1,t2⟩,p1,l1,c1⟩;(try simp only [cF,A6] at c1);have r1:=w1.rng)|(refine A8.ok ?_)))
  (refine⟨?_,⟨?_,?_⟩,⟨?_,?_⟩,?_,?_,?_⟩<;>(try simp only [sE,cF,A6])<;>(first|omega|(repeat' (first|assumption|exact .inl ⟨rfl,by decide⟩|(refine dS ?_ (by decide) ?_ ?_ ?_ ?_ ?_)|omega))))
theorem Ti(t:Bool)(n:Int)(hn:0≤n∧n≤I.L)(hp:pre I .branch n):A8 (cJ I t n) fun x m=>Ex I n x m 1 (cF .branch):=by
 have hw:jK 57 (word I n):=by simp only [jK];simp;exact hp
 obtain⟨q7,q8,q9⟩:Tq I n:=Mj I fun e=>by simp only [pre] at hp;rw [e] at hp;revert hp;decide
 unfold cJ
 refine A8.ite (fun h=>?_) fun h=>?_
 ·(repeat' (first|(refine A8.bnd (S5 I _) ?_;rintro x m ⟨⟨w1,⟨f1,f2⟩,⟨t1,t2⟩,p1,l1,c1⟩,rfl,rfl,hk⟩;have r1:=w1.rng)|(refine A8.ok ?_)))
  (refine⟨?_,⟨?_,?_⟩,⟨?_,?_⟩,?_,?_,?_⟩<;>(try simp only [sE,cF,A6])<;>(first|omega|(repeat' (first|assumption|(refine .inr ⟨by omega,.inr (.inr ⟨?_,fun _=>by rfl⟩)⟩)|(refine dS ?_ (by decide) ?_ ?_ ?_ ?_ ?_)|omega))))
 ·(repeat' ((refine A8.ok ?_)))
  (refine⟨?_,⟨?_,?_⟩,⟨?_,?_⟩,?_,?_,?_⟩<;>(try simp only [sE,cF,A6])<;>(first|omega|(repeat' (first|assumption|exact G6 I _ _ 0 (by omega) (by decide)|(refine .inr ⟨by omega,.inr (.inr ⟨?_,fun _=>by rfl⟩)⟩)|(refine dS ?_ (by decide) ?_ ?_ ?_ ?_ ?_)|omega|(simp only [sE,cF,A6]<;>omega)))))
theorem Ac(hg:HG I g)(t:Bool)(n:Int)(frm:Int)(l:Nd)(h0:0≤frm)(hl:Ex I frm l n 1 96):A8 (U3 I g t frm l n) fun x m=>Ex I frm x m 1 112:=by
 obtain⟨w0,⟨f0,g0⟩,⟨t0,u0⟩,p0,l0,c0⟩:=hl
 have r0:=w0.rng
 unfold U3
 refine A8.ite (fun h=>?_) fun h=>A8.ite (fun h=>A8.err) fun hk=>?_
 ·have hw:jK 53 (word I n):=by simp only [jK];simp;exact h
  obtain⟨q7,q8,q9⟩:Tq I n:=Mj I fun e=>by rw [e] at h;revert h;decide
  (repeat' (first|(refine A8.bnd (hg.ex _ _ _ rfl (by omega) (by exact trivial)) ?_;rintro x m ⟨w1,⟨f1,f2⟩,⟨t1,t2⟩,p1,l1,c1⟩;(try simp only [cF,A6] at c1);have r1:=w1.rng)|(refine A8.ok ?_)))
  (refine⟨?_,⟨?_,?_⟩,⟨?_,?_⟩,?_,?_,?_⟩<;>(try simp only [sE,cF,A6])<;>(first|omega|(repeat' (first|assumption|(refine .inr ⟨by omega,.inr (.inr ⟨?_,fun _=>by omega⟩)⟩)|(refine eJ ?_ (by decide) ?_ ?_ ?_ ?_ ?_ ?_ ?_ ?_)|omega))))
 ·obtain⟨y,e,wy,a1,a2,a3⟩:=w0.kid1 (by have:=nN hk;exact_mod_cast this)
  have e2:l.kids.getD 0 I3=y:=by rw [e];rfl
  rw [e2]
  have ry:=wy.rng
  refine A8.ite (fun h=>?_) fun h=>?_
  ·have hw:jK 52 (word I n):=by simp only [jK];simp;exact h
   obtain⟨q7,q8,q9⟩:Tq I n:=Mj I fun e=>by rw [e] at h;revert h;decide
   (repeat' ((refine A8.ok ?_)))
   (refine⟨?_,⟨?_,?_⟩,⟨?_,?_⟩,?_,?_,?_⟩<;>(try simp only [sE,cF,A6])<;>(first|omega|(repeat' (first|assumption|(refine .inr ⟨by omega,.inr (.inr ⟨?_,fun _=>by omega⟩)⟩)|(refine dS ?_ (by decide) ?_ ?_ ?_ ?_ ?_)|omega))))
  ·(repeat' (first|(refine A8.ite ?_ ?_<;>intro h<;>(try ((refine (wq I h ?a).use ?_;(case a=>decide);intro q1 q2 q3))); (try (refine (wq I h.2 ?a).use ?_;(case a=>decide);intro q4 q5 q6)))|(refine A8.bnd (hg.ex _ _ _ rfl (by omega) (by exact trivial)) ?_;rintro x m ⟨w1,⟨f1,f2⟩,⟨t1,t2⟩,p1,l1,c1⟩;(try simp only [cF,A6] at c1);have r1:=w1.rng)|(refine A8.ok ?_)))
   all_goals (refine⟨?_,⟨?_,?_⟩,⟨?_,?_⟩,?_,?_,?_⟩<;>(try simp only [sE,cF,A6])<;>(first|omega|(repeat' (first|assumption|exact .inl ⟨rfl,by decide⟩|(refine dS ?_ (by decide) ?_ ?_ ?_ ?_ ?_)|(refine eJ ?_ (by decide) ?_ ?_ ?_ ?_ ?_ ?_ ?_ ?_)|omega))))
theorem Jg(hg:HG I g)(t:Bool)(n:Int)(hn:0≤n∧n≤I.L):A8 (Z4 I g t n) fun x m=>Ex I n x m 1 (cF .simple):=by
 unfold Z4
 refine A8.bnd (hg.ex _ _ _ rfl hn trivial) ?_
 intro l m hl
 refine A8.mono (Ac hg t m n l hn.1 (by simpa only [cF,A6,Int.reduceAdd,Int.reduceMul] using hl)) ?_
 rintro x m ⟨w1,⟨f1,f2⟩,⟨t1,t2⟩,p1,l1,c1⟩;(try simp only [cF,A6] at c1);have r1:=w1.rng
 (refine⟨?_,⟨?_,?_⟩,⟨?_,?_⟩,?_,?_,?_⟩<;>(try simp only [sE,cF,A6])<;>(omega))
theorem Le(hg:HG I g)(n:Int)(hn:0≤n∧n≤I.L):A8 (mV I g n) fun x m=>Ex I (n+1) x m 1 88∧Tq I n:=by
 unfold mV
 refine A8.bnd (A8.want I (by decide)) ?_
 rintro _ _ ⟨rfl,h,q1,q2,q3⟩
 refine A8.mono (hg.ex _ _ _ rfl (by omega) trivial) ?_
 intro x m hx
 exact⟨by simpa only [cF,A6,Int.reduceAdd,Int.reduceMul] using hx,q1,q2,q3⟩
theorem Di(hg:HG I g)(n:Int)(hn:0≤n∧n≤I.L):A8 (iI I g n) fun h m=>S3 I h.1∧S3 I h.2∧(n≤h.1.frm∧pc I n=pc I h.1.frm)∧(h.1.to≤h.2.frm∧pc I h.1.to=pc I h.2.frm)∧(h.2.to≤m∧pc I h.2.to=pc I m)∧(n+1≤m∧m≤I.L)∧L4 h.1+L4 h.2≤2000*(m-n-1)+113:=by
 unfold iI
 refine A8.ite (fun h=>?_) fun h=>?_
 ·refine A8.bnd (Le hg n hn) ?_
  rintro x m ⟨⟨w1,⟨f1,f2⟩,⟨t1,t2⟩,p1,l1,c1⟩,q1,q2,q3⟩
  exact A8.ok ⟨G6 I 0 n 0 hn (by decide),w1,⟨Int.le_refl _,rfl⟩,⟨by rw [nT];dsimp only;omega,by rw [nT];dsimp only;omega⟩,⟨by dsimp only;omega,t2⟩,(by omega),by dsimp only;rw [nC];omega⟩
 ·refine A8.bnd (hg.ex _ _ _ rfl hn trivial) ?_
  intro s m hs
  have hs':=hs
  obtain⟨w2,⟨f2,g2⟩,⟨t2,u2⟩,p2,l2,c2⟩:=hs
  simp only [cF,A6] at c2
  have r2:=w2.rng
  refine A8.ite (fun h=>?_) fun h=>?_
  ·refine A8.bnd (Le hg m (by omega)) ?_
   rintro x m ⟨⟨w1,⟨f1,f2⟩,⟨t1,t2⟩,p1,l1,c1⟩,q1,q2,q3⟩
   exact A8.ok ⟨w2,w1,⟨by dsimp only;omega,by dsimp only;omega⟩,⟨by dsimp only;omega,by dsimp only;omega⟩,⟨by dsimp only;omega,t2⟩,(by omega),by dsimp only;omega⟩
  ·refine A8.bnd (sL hs') ?_
   rintro y m' ⟨rfl,w1,⟨f1,f2⟩,⟨t1,t3⟩,c1⟩
   exact A8.ok ⟨G6 I 0 n 0 hn (by decide),w1,⟨Int.le_refl _,rfl⟩,⟨by rw [nT];exact f1,by rw [nT];exact f2⟩,⟨by dsimp only;omega,t3⟩,(by omega),by dsimp only;rw [nC];omega⟩
theorem Gx(hg:HG I g)(t:Bool)(n:Int)(hn:0≤n∧n≤I.L)(hp:pre I .ifs n):A8 (zH I g t n) fun x m=>Ex I n x m 1 (cF .ifs):=by
 obtain⟨q7,q8,q9⟩:Tq I n:=wq I hp (by decide)
 unfold zH
 refine A8.bnd (Di hg (n+1) (by omega)) ?_
 rintro⟨h1,h2⟩ m ⟨w1,w2,a1,a2,a3,a4,a5⟩
 dsimp only at *
 have r1:=w1.rng
 have r2:=w2.rng
 (repeat' (first|(refine A8.ite ?_ ?_<;>intro h<;>(try ((refine (wq I h ?a).use ?_;(case a=>decide);intro q1 q2 q3))); (try (refine (wq I h.2 ?a).use ?_;(case a=>decide);intro q4 q5 q6)))|(refine A8.bnd (hg.ex _ _ _ rfl (by omega) (by first|exact trivial|assumption)) ?_;rintro x m ⟨w1,⟨f1,f2⟩,⟨t1,t2⟩,p1,l1,c1⟩;(try simp only [cF,A6] at c1);have r1:=w1.rng)|(refine A8.ok ?_)))
 all_goals (refine⟨?_,⟨?_,?_⟩,⟨?_,?_⟩,?_,?_,?_⟩<;>(try simp only [sE,cF,A6])<;>(first|omega|(repeat' (first|assumption|exact G6 I _ _ 0 (by omega) (by decide)|exact .inl ⟨rfl,by decide⟩|(refine Of ?_ (by decide) ?_ ?_ ?_ ?_ ?_ ?_ ?_ ?_ ?_ ?_ ?_ ?_ ?_ ?_)|omega|(simp only [sE,cF,A6]<;>omega)))))
theorem Oe(hg:HG I g)(kind:Int)(hk:kind=62∨kind=64)(one:Int→G3 Nd)(ho:∀ n,0≤n∧n≤I.L→A8 (one n) fun x m=>Ex I n x m 1 112)(n0:Int)(h0:0≤n0):∀ (f:Nat) (acc:List Nd) (n:Int),n0≤n→n≤I.L→E6 I (-1) acc n0 n→L6 acc≤2000*(n-n0)→A8 (pZ I g kind one f acc n) fun l m=>n0≤m∧m≤I.L∧E6 I (-1) l n0 m∧L6 l≤2000*(m-n0)
 |0,acc,n,_,_,_,_=>A8.err
 |f+1,acc,n,h1,h2,h3,h4=>by
  unfold pZ
  refine A8.ite (fun h=>A8.ok ⟨h1,h2,h3,h4⟩) fun h=>?_
  have key:A8 (if word I n=(⟨#[100,101,102,97,117,108,116]⟩:ByteArray) then .ok (E3 0 (n+1)) (n+1) else bnd (want I (⟨#[99,97,115,101]⟩:ByteArray) n) fun _ m=>one m) fun x m=>Ex I (n+1) x m 0 112∧Tq I n:=by
   refine A8.ite (fun h=>?_) fun h=>?_
   ·have q:=wq I h (by decide)
    have e:=dM (I:=I) 0 (n+1) ⟨by omega,by have:=q.2.1;omega⟩ (by decide)
    exact A8.ok ⟨⟨e.wel,e.frm,e.to,e.pr,e.L,by have:=e.cnt;omega⟩,q⟩
   ·refine A8.bnd (A8.want I (by decide)) ?_
    rintro _ _ ⟨rfl,h,q⟩
    have q':=q
    obtain⟨q1,q2,q3⟩:=q
    refine A8.mono (ho _ (by omega)) ?_
    intro x m e
    exact⟨⟨e.wel,e.frm,e.to,by have:=e.pr;omega,e.L,by have:=e.cnt;omega⟩,q'⟩
  refine A8.bnd key ?_
  rintro x m ⟨⟨w2,⟨f2,g2⟩,⟨t2,u2⟩,p2,l2,c2⟩,q4,q5,q6⟩
  have r2:=w2.rng
  refine A8.bnd (A8.want I (by decide)) ?_
  rintro _ _ ⟨rfl,h,q1,q2,q3⟩
  refine A8.bnd (hg.ss _ _ (by omega)) ?_
  rintro y m2 ⟨w1,⟨f1,g1⟩,e1,⟨t1,u1⟩,p1,l1,c1,s1⟩
  simp only [cF,A6] at c1
  have r1:=w1.rng
  have hw:S3 I (.mk kind (-1) n m2 [x,y]):=eJ ⟨by omega,by omega,by omega⟩ (by rcases hk with rfl|rfl<;>decide) (.inl ⟨rfl,by rcases hk with rfl|rfl<;>decide⟩) w2 w1 (by omega) (by omega) (by omega) (.inl (by omega)) (.inl (by omega))
  exact Oe hg kind hk one ho n0 h0 f _ m2 (by omega) (by omega) (E6.snoc h3 ⟨Int.le_refl _,rfl⟩ (.inl (by simp only [mF];omega)) hw ⟨Int.le_refl _,rfl⟩) (by rw [N2];simp only [sE,cF,A6];omega)
theorem dQ(hg:HG I g)(n:Int)(hn:0≤n∧n≤I.L)(kind:Int)(hk:kind=62∨kind=64)(one:Int→G3 Nd)(ho:∀ n,0≤n∧n≤I.L→A8 (one n) fun x m=>Ex I n x m 1 112):A8 (P7 I g kind one n) fun x m=>Sp I n x m 1 1:=by
 unfold P7
 refine A8.bnd (A8.want I (by decide)) ?_
 rintro _ _ ⟨rfl,h,q1,q2,q3⟩
 refine A8.bnd (Oe hg kind hk one ho (n+1) (by omega) _ [] (n+1) (Int.le_refl _) (by omega) (by unfold E6;exact⟨Int.le_refl _,rfl⟩) (by simp only [L6];omega)) ?_
 rintro l m ⟨a1,a2,a3,a4⟩
 refine A8.bnd (A8.want I (by decide)) ?_
 rintro _ _ ⟨rfl,h,q4,q5,q6⟩
 obtain⟨w1,⟨f1,f2⟩,e1,⟨t1,t2⟩,p1,l1,c1⟩:=W6 (k:=25) (c:=1) a3 (by omega) (by omega) (by decide) (by decide) (by simp [dI]) (by omega)
 exact A8.ok ⟨w1,(by omega),e1,(by omega),by omega,by omega,by omega⟩
theorem kK(hg:HG I g){f:Fn}{t:Bool}(h1:Cx f=true)(h2:∀ n,pre I f n)(h3:A6 f≤13):∀ n,0≤n∧n≤I.L→A8 (g f t n) fun x m=>Ex I n x m 1 112:=fun n hn=>A8.mono (hg.ex f t n h1 hn (h2 n)) fun x m e=>⟨e.wel,e.frm,e.to,e.pr,e.L,by have:=e.cnt;simp only [cF] at this;omega⟩
theorem iU(hg:HG I g)(n:Int)(first tag:Nd)(s:Option Nd)(a m:Int)(q:Tq I n)(w0:S3 I first)(h1:n+1≤first.frm∧pc I (n+1)=pc I first.frm)(h2:first.to≤a∧pc I first.to=pc I a)(h3:a≤I.L)(h4:L4 first≤2000*(a-n-1)+112)
 (hs:match s with|none=>tag=E3 0 a∧m=a|some s=>Ex I a s m 1 112):A8 (bU I g n first tag s m) fun x m=>Ex I n x m 1 24:=by
 obtain⟨q7,q8,q9⟩:=q
 have r0:=w0.rng
 cases s with
 |none=>
  obtain⟨rfl,rfl⟩:=hs
  unfold bU
  refine A8.bnd (dQ hg m (by omega) 62 (.inl rfl) _ (kK hg rfl (fun _=>trivial) (by decide))) ?_
  rintro x m ⟨w1,⟨f1,f2⟩,e1,⟨t1,t2⟩,p1,l1,c1⟩;(try simp only [cF,A6] at c1);have r1:=w1.rng
  refine A8.ok ?_
  (refine⟨?_,⟨?_,?_⟩,⟨?_,?_⟩,?_,?_,?_⟩<;>(try simp only [sE,cF,A6])<;>(first|omega|(repeat' (first|assumption|exact G6 I _ _ 0 (by omega) (by decide)|exact .inl ⟨rfl,by decide⟩|(refine Oa ?_ (by decide) ?_ ?_ ?_ ?_ ?_ ?_ ?_ ?_ ?_ ?_ ?_)|omega|(simp only [sE,cF,A6]<;>omega)))))
 |some s=>
  dsimp only at hs
  have hs':=hs
  obtain⟨w2,⟨f2,g2⟩,⟨t2,u2⟩,p2,l2,c2⟩:=hs
  unfold bU
  dsimp only
  split
  ·rename_i y x e
   obtain⟨wy,wx,b1,b2,b3,b4⟩:=Fy hs' e
   have ry:=wy.rng
   have rx:=wx.rng
   refine A8.bnd (dQ hg m (by omega) 62 (.inl rfl) _ (kK hg rfl (fun _=>trivial) (by decide))) ?_
   rintro x m ⟨w1,⟨f1,f2⟩,e1,⟨t1,t2⟩,p1,l1,c1⟩;(try simp only [cF,A6] at c1);have r1:=w1.rng
   refine A8.ok ?_
   (refine⟨?_,⟨?_,?_⟩,⟨?_,?_⟩,?_,?_,?_⟩<;>(try simp only [sE,cF,A6])<;>(first|omega|(repeat' (first|assumption|exact .inl ⟨rfl,by decide⟩|(refine Of ?_ (by decide) ?_ ?_ ?_ ?_ ?_ ?_ ?_ ?_ ?_ ?_ ?_ ?_ ?_ ?_)|omega))))
  ·refine A8.bnd (sL hs') ?_
   rintro y m' ⟨rfl,wy,b1,b2,b3⟩
   have ry:=wy.rng
   refine A8.bnd (dQ hg _ (by omega) 62 (.inl rfl) _ (kK hg rfl (fun _=>trivial) (by decide))) ?_
   rintro x m ⟨w1,⟨f1,f2⟩,e1,⟨t1,t2⟩,p1,l1,c1⟩;(try simp only [cF,A6] at c1);have r1:=w1.rng
   refine A8.ok ?_
   (refine⟨?_,⟨?_,?_⟩,⟨?_,?_⟩,?_,?_,?_⟩<;>(try simp only [sE,cF,A6])<;>(first|omega|(repeat' (first|assumption|exact .inl ⟨rfl,by decide⟩|(refine Oa ?_ (by decide) ?_ ?_ ?_ ?_ ?_ ?_ ?_ ?_ ?_ ?_ ?_)|omega))))
theorem vP(hg:HG I g)(n:Int)(first:Nd)(a:Int)(q:Tq I n)(w0:S3 I first)(h1:n+1≤first.frm∧pc I (n+1)=pc I first.frm)(h2:first.to≤a∧pc I first.to=pc I a)(h3:a≤I.L)(h4:L4 first≤2000*(a-n-1)+112):A8 (eM I g n first a) fun x m=>Ex I n x m 1 24:=by
 have r0:=w0.rng
 unfold eM
 refine A8.ite (fun h=>?_) fun h=>?_
 ·exact iU hg n first _ none a a q w0 h1 h2 h3 h4 ⟨rfl,rfl⟩
 ·refine A8.bnd (kK hg (f:=.simple) (t:=true) rfl (fun _=>trivial) (by decide) a ⟨by omega,h3⟩) ?_
  intro s m hs
  exact iU hg n first _ (some s) a m q w0 h1 h2 h3 h4 hs
theorem yB(hg:HG I g)(t:Bool)(n:Int)(hn:0≤n∧n≤I.L)(hp:pre I .switches n):A8 (J6 I g t n) fun x m=>Ex I n x m 1 (cF .switches):=by
 have up:∀ {o:G3 Nd},(A8 o fun x m=>Ex I n x m 1 24)→A8 o fun x m=>Ex I n x m 1 (cF .switches):=fun h=>A8.mono h fun x m h=>⟨h.wel,h.frm,h.to,h.pr,h.L,by have:=h.cnt;simp only [cF,A6];omega⟩
 have q:Tq I n:=wq I hp (by decide)
 have q8:=q.2.1
 have e0:=dM (I:=I) 0 (n+1) (by omega) (by decide)
 have ec:=e0.cnt
 unfold J6
 refine A8.ite (fun h=>?_) fun h=>A8.ite (fun h=>?_) fun h=>?_
 ·exact up (iU hg n _ _ none (n+1) (n+1) q e0.wel ⟨Int.le_refl _,rfl⟩ ⟨Int.le_refl _,rfl⟩ (by omega) (by omega) ⟨rfl,rfl⟩)
 ·obtain⟨q1,q2,q3⟩:=wq I h (by decide)
  exact up (vP hg n _ (n+1+1) q e0.wel ⟨Int.le_refl _,rfl⟩ ⟨by rw [nT];omega,by rw [nT];omega⟩ (by omega) (by omega))
 ·refine A8.bnd (kK hg (f:=.simple) (t:=true) rfl (fun _=>trivial) (by decide) (n+1) (by omega)) ?_
  intro s m hs
  have hs':=hs
  obtain⟨w2,⟨f2,g2⟩,⟨t2,u2⟩,p2,l2,c2⟩:=hs
  have r2:=w2.rng
  refine A8.ite (fun h=>?_) fun h=>?_
  ·obtain⟨q1,q2,q3⟩:=wq I h (by decide)
   exact up (vP hg n s (m+1) q w2 (by omega) (by omega) (by omega) (by omega))
  ·exact up (iU hg n _ _ (some s) (n+1) m q e0.wel ⟨Int.le_refl _,rfl⟩ ⟨Int.le_refl _,rfl⟩ (by omega) (by omega) hs')
theorem Xb(hg:HG I g)(t:Bool)(n:Int)(hn:0≤n∧n≤I.L)(hp:pre I .selects n):A8 (Z5 I g t n) fun x m=>Ex I n x m 1 (cF .selects):=by
 obtain⟨q7,q8,q9⟩:Tq I n:=wq I hp (by decide)
 unfold Z5
 refine A8.bnd (dQ hg (n+1) (by omega) 64 (.inr rfl) _ (kK hg rfl (fun _=>trivial) (by decide))) ?_
 rintro x m ⟨w1,⟨f1,f2⟩,e1,⟨t1,t2⟩,p1,l1,c1⟩;(try simp only [cF,A6] at c1);have r1:=w1.rng
 refine A8.ok ?_
 (refine⟨?_,⟨?_,?_⟩,⟨?_,?_⟩,?_,?_,?_⟩<;>(try simp only [sE,cF,A6])<;>(first|omega|(repeat' (first|assumption|exact .inl ⟨rfl,by decide⟩|(refine dS ?_ (by decide) ?_ ?_ ?_ ?_ ?_)|omega))))
theorem oZ(hg:HG I g)(t:Bool)(n:Int)(w frm:Int)(l:Nd)(hf:0≤frm)(wl:S3 I l)(h1:frm+1≤l.frm∧pc I frm=pc I l.frm)(h2:l.to≤n∧pc I l.to=pc I n)(h3:L4 l≤2000*(n-frm-1)+96)(hw:Ia I 66 w frm (frm+1)∨Ia I 66 w frm n∧l.to≤w)(hw2:w = -1∨l.to≤w∧w<n):A8 (N8 I g t w frm l n) fun x m=>Ex I frm x m 1 24:=by
 have r0:=wl.rng
 unfold N8
 refine A8.bnd (A8.want I (by decide)) ?_
 rintro _ _ ⟨rfl,h,q1,q2,q3⟩
 refine A8.bnd (hg.ex _ _ _ rfl (by omega) trivial) ?_
 rintro x m ⟨w1,⟨f1,f2⟩,⟨t1,t2⟩,p1,l1,c1⟩;(try simp only [cF,A6] at c1);have r1:=w1.rng
 refine A8.bnd (hg.ex _ _ _ rfl (by omega) trivial) ?_
 rintro x m ⟨w1,⟨f1,f2⟩,⟨t1,t2⟩,p1,l1,c1⟩;(try simp only [cF,A6] at c1);have r1:=w1.rng
 refine A8.ok ?_
 have hw3:Ia I 66 w frm m:=by
  rcases hw with hw|⟨hw,_⟩<;>rcases hw with ⟨a,b⟩|⟨a,b⟩
  ·exact .inl ⟨a,b⟩
  ·refine .inr ⟨by omega,?_⟩
   rcases b with b|b|b
   ·omega
   ·omega
   ·exact .inr (.inr b)
  ·exact .inl ⟨a,b⟩
  ·refine .inr ⟨by omega,?_⟩
   rcases b with b|b|b
   ·omega
   ·omega
   ·exact .inr (.inr b)
 (refine⟨?_,⟨?_,?_⟩,⟨?_,?_⟩,?_,?_,?_⟩<;>(try simp only [sE,cF,A6])<;>(first|omega|(repeat' (first|assumption|(refine Oa ?_ (by decide) ?_ ?_ ?_ ?_ ?_ ?_ ?_ ?_ ?_ ?_ ?_)|omega))))
theorem Sd(hg:HG I g)(t:Bool)(n:Int)(first cond:Nd)(m:Int)(q:Tq I n)(w1:S3 I first)(w2:S3 I cond)(h1:n+1≤first.frm∧pc I (n+1)=pc I first.frm)(h2:first.to≤cond.frm∧pc I first.to=pc I cond.frm)(h3:cond.to≤m∧pc I cond.to=pc I m)(h4:m≤I.L)(h5:L4 first+L4 cond≤2000*(m-n-1)+300):A8 (T6 I g t n first cond m) fun x m=>Ex I n x m 1 24:=by
 obtain⟨q7,q8,q9⟩:=q
 have r1:=w1.rng
 have r2:=w2.rng
 unfold T6
 have key:A8 (if word I m=(⟨#[123]⟩:ByteArray) then .ok (E3 0 m) m else g .simple true m) fun x m'=>Ex I m x m' 0 112:=by
  refine A8.ite (fun h=>?_) fun h=>?_
  ·have e:=dM (I:=I) 0 m (by omega) (by decide)
   exact A8.ok ⟨e.wel,e.frm,e.to,e.pr,e.L,by have:=e.cnt;omega⟩
  ·refine A8.mono (kK hg (f:=.simple) (t:=true) rfl (fun _=>trivial) (by decide) m ⟨by omega,h4⟩) ?_
   intro x m' e
   exact⟨e.wel,e.frm,e.to,by have:=e.pr;omega,e.L,by have:=e.cnt;omega⟩
 refine A8.bnd key ?_
 rintro x m' ⟨w3,⟨f3,g3⟩,⟨t3,u3⟩,p3,l3,c3⟩
 have r3:=w3.rng
 refine A8.bnd (hg.ex _ _ _ rfl (by omega) trivial) ?_
 rintro b m2 ⟨w4,⟨f4,g4⟩,⟨t4,u4⟩,p4,l4,c4⟩
 simp only [cF,A6] at c4
 have r4:=w4.rng
 refine A8.ok ?_
 (refine⟨?_,⟨?_,?_⟩,⟨?_,?_⟩,?_,?_,?_⟩<;>(try simp only [sE,cF,A6])<;>(first|omega|(repeat' (first|assumption|exact .inl ⟨rfl,by decide⟩|(refine Of ?_ (by decide) ?_ ?_ ?_ ?_ ?_ ?_ ?_ ?_ ?_ ?_ ?_ ?_ ?_ ?_)|omega))))
theorem pI(hg:HG I g)(t:Bool)(n:Int)(first:Nd)(m:Int)(q:Tq I n)(w1:S3 I first)(h1:n+1≤first.frm∧pc I (n+1)=pc I first.frm)(h3:first.to≤m∧pc I first.to=pc I m)(h4:m≤I.L)(h5:L4 first≤2000*(m-n-1)+112):A8 (Q1 I g t n first m) fun x m=>Ex I n x m 1 24:=by
 have r1:=w1.rng
 have q':=q
 obtain⟨q7,q8,q9⟩:=q
 unfold Q1
 refine A8.bnd (A8.want I (by decide)) ?_
 rintro _ _ ⟨rfl,h,q1,q2,q3⟩
 have key:A8 (if word I (m+1)=(⟨#[59]⟩:ByteArray) then .ok (E3 0 (m+1)) (m+1) else g .expr true (m+1)) fun x m'=>Ex I (m+1) x m' 0 88:=by
  refine A8.ite (fun h=>?_) fun h=>?_
  ·have e:=dM (I:=I) 0 (m+1) (by omega) (by decide)
   exact A8.ok ⟨e.wel,e.frm,e.to,e.pr,e.L,by have:=e.cnt;omega⟩
  ·refine A8.mono (hg.ex .expr true _ rfl (by omega) trivial) ?_
   intro x m' e
   exact⟨e.wel,e.frm,e.to,by have:=e.pr;omega,e.L,by have:=e.cnt;simp only [cF,A6] at this;omega⟩
 refine A8.bnd key ?_
 rintro x m' ⟨w3,⟨f3,g3⟩,⟨t3,u3⟩,p3,l3,c3⟩
 have r3:=w3.rng
 refine A8.bnd (A8.want I (by decide)) ?_
 rintro _ _ ⟨rfl,h,q4,q5,q6⟩
 exact Sd hg t n first x (m'+1) q' w1 w3 h1 (by omega) (by omega) (by omega) (by omega)
theorem Au(hg:HG I g)(t:Bool)(n:Int)(hn:0≤n∧n≤I.L)(hp:pre I .fors n):A8 (W9 I g t n) fun x m=>Ex I n x m 1 (cF .fors):=by
 have up:∀ {o:G3 Nd},(A8 o fun x m=>Ex I n x m 1 24)→A8 o fun x m=>Ex I n x m 1 (cF .fors):=fun h=>A8.mono h fun x m h=>⟨h.wel,h.frm,h.to,h.pr,h.L,by have:=h.cnt;simp only [cF,A6];omega⟩
 have q:Tq I n:=wq I hp (by decide)
 have q':=q
 obtain⟨q7,q8,q9⟩:=q
 have e0:=dM (I:=I) 0 (n+1) (by omega) (by decide)
 have ec:=e0.cnt
 have ew:=e0.wel
 unfold W9
 refine A8.ite (fun h=>?_) fun h=>A8.ite (fun h=>?_) fun h=>A8.ite (fun h=>?_) fun h=>?_
 ·(repeat' (first|(refine A8.bnd (hg.ex _ _ _ rfl (by omega) (by first|exact trivial|assumption)) ?_;rintro x m ⟨w1,⟨f1,f2⟩,⟨t1,t2⟩,p1,l1,c1⟩;(try simp only [cF,A6] at c1);have r1:=w1.rng)|(refine A8.ok ?_)))
  all_goals (refine⟨?_,⟨?_,?_⟩,⟨?_,?_⟩,?_,?_,?_⟩<;>(try simp only [sE,cF,A6])<;>(first|omega|(repeat' (first|assumption|exact .inl ⟨rfl,by decide⟩|(refine Of ?_ (by decide) ?_ ?_ ?_ ?_ ?_ ?_ ?_ ?_ ?_ ?_ ?_ ?_ ?_ ?_)|omega|(simp only [sE,cF,A6]<;>omega)))))
 ·exact up (oZ hg t (n+1) (-1) n _ hn.1 ew ⟨Int.le_refl _,by rw [nF];omega⟩ ⟨Int.le_refl _,rfl⟩ (by omega) (.inl (.inl ⟨rfl,by decide⟩)) (.inl rfl))
 ·exact up (pI hg t n _ (n+1) q' ew ⟨Int.le_refl _,rfl⟩ ⟨Int.le_refl _,rfl⟩ (by omega) (by omega))
 ·refine A8.bnd (hg.ex .exprs true (n+1) rfl (by omega) trivial) ?_
  intro l m hl
  have hl':Ex I (n+1) l m 1 96:=by simpa only [cF,A6,Int.reduceAdd,Int.reduceMul] using hl
  obtain⟨w2,⟨f2,g2⟩,⟨t2,u2⟩,p2,l2,c2⟩:=hl'
  have hl':Ex I (n+1) l m 1 96:=by simpa only [cF,A6,Int.reduceAdd,Int.reduceMul] using hl
  have r2:=w2.rng
  refine A8.ite (fun h=>?_) fun h=>?_
  ·obtain⟨q1,q2,q3⟩:Tq I m:=Mj I fun e=>by have h:=h.1;rw [e] at h;revert h;decide
   have hw:jK 66 (word I m):=by simp only [jK];simp;exact h.1
   exact up (oZ hg t (m+1) m n l hn.1 w2 (by omega) (by omega) (by omega) (.inr ⟨.inr ⟨by omega,.inr (.inr ⟨hw,fun e=>by omega⟩)⟩,by omega⟩) (.inr (by omega)))
  ·refine A8.bnd (Ac hg true m (n+1) l (by omega) hl') ?_
   intro s m' hs
   have hs':=hs
   obtain⟨w3,⟨f3,g3⟩,⟨t3,u3⟩,p3,l3,c3⟩:=hs
   have r3:=w3.rng
   refine A8.ite (fun h=>?_) fun h=>?_
   ·exact up (pI hg t n s m' q' w3 (by omega) (by omega) (by omega) (by omega))
   ·refine A8.bnd (sL hs') ?_
    rintro y m2 ⟨rfl,wy,b1,b2,b3⟩
    have ry:=wy.rng
    refine A8.bnd (hg.ex _ _ _ rfl (by omega) trivial) ?_
    rintro x m ⟨w1,⟨f1,f2⟩,⟨t1,t2⟩,p1,l1,c1⟩;(try simp only [cF,A6] at c1);have r1:=w1.rng
    refine A8.ok ?_
    (refine⟨?_,⟨?_,?_⟩,⟨?_,?_⟩,?_,?_,?_⟩<;>(try simp only [sE,cF,A6])<;>(first|omega|(repeat' (first|assumption|exact G6 I _ _ 0 (by omega) (by decide)|exact .inl ⟨rfl,by decide⟩|(refine Of ?_ (by decide) ?_ ?_ ?_ ?_ ?_ ?_ ?_ ?_ ?_ ?_ ?_ ?_ ?_ ?_)|omega|(simp only [sE,cF,A6]<;>omega)))))
end
theorem Fl(I:In):∀ f,HG I (G I f)
 |0=>⟨fun _ _ _ _ _ _=>A8.err,fun _ _ _=>A8.err,fun _ _ _=>A8.err,fun _ _ _=>A8.err⟩
 |f+1=>by
  have hg:=Fl I f
  refine⟨?_,fun t n hn=>zR hg t n hn,fun t n hn=>Ga hg t n hn,fun t n hn=>Om hg t n hn⟩
  intro r t n hr hn hp
  show A8 (step I (G I f) r t n) _
  cases r
  case expr=>exact Ju hg t n hn
  case binary k=>exact Wi hg t n hn k hp
  case unary=>exact Yl hg t n hn
  case operand=>exact Oc hg t n hn
  case primary=>exact Gc hg t n hn
  case exprs=>exact Np hg t n hn
  case element=>exact De hg t n hn
  case value=>exact Ul hg t n hn
  case elements=>exact absurd hr (by decide)
  case typ=>exact Vv hg t n hn
  case anyType=>exact Af hg t n hn
  case typeName=>exact xW hg t n hn
  case signature=>exact uN hg t n hn
  case params=>exact Fh hg t n hn
  case param=>exact Wn hg t n hn
  case tparams=>exact Qa hg t n hn
  case names=>exact Co n hn t
  case union=>exact Wl hg t n hn
  case block=>exact Hq hg t n hn
  case stmts=>exact absurd hr (by decide)
  case anyStmts=>exact absurd hr (by decide)
  case stmt=>exact Mr hg t n hn
  case simple=>exact Jg hg t n hn
  case ifs=>exact Gx hg t n hn hp
  case switches=>exact yB hg t n hn hp
  case selects=>exact Xb hg t n hn hp
  case fors=>exact Au hg t n hn hp
  case declared=>exact zW hg t n hn hp
  case started=>exact Mb hg t n hn hp
  case returned=>exact yU hg t n hn hp
  case branch=>exact Ti t n hn hp
  case group=>exact Bp hg t n hn hp
  case valueSpec=>exact uI hg t n hn
  case constSpec=>exact uV hg t n hn
  case importSpec=>exact sS n hn t
  case typeSpec=>exact xU hg t n hn
  case fn=>exact AL hg t n hn
  case file=>exact Hu hg t n hn
  case field=>exact Lp hg t n hn
  case elem=>exact Pu hg t n hn
  case types=>exact Am hg t n hn
end Go.Ex
