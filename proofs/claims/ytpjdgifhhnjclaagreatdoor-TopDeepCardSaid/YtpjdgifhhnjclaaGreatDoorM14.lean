/-
  Top: TopDeep: whatever the input, the law answers true (part 14)
-/
import Derived.Test.YtpjdgifhhnjclaaGreatDoorM13
set_option linter.unusedVariables false
set_option linter.unusedSimpArgs false
set_option maxHeartbeats 4000000
set_option maxRecDepth 10000
namespace Go.Ex
open Go.Proofs
section
variable {I:In}{g:Gt}
theorem dot_law(hg:HG I g)(t:Bool)(frm:Int)(x:Nd)(n0:Int)(h0:0≤frm)(hx:Ex I frm x n0 1 56)(q:Tq I n0):OkP (dotS I g t frm x (n0+1)) fun x m=>Ex I frm x m 1 56:=by
 obtain⟨w0,⟨f0,g0⟩,⟨t0,u0⟩,p0,l0,c0⟩:=hx
 obtain⟨q7,q8,q9⟩:=q
 have r0:=w0.rng
 obtain⟨n,rfl⟩:∃ n,n=n0+1:=⟨_,rfl⟩
 unfold dotS
 (repeat' (first|(refine OkP.ite ?_ ?_<;>intro h<;>(try ((refine (wq I h ?a).use ?_;(case a=>decide);intro q1 q2 q3))); (try (refine (wq I h.2 ?a).use ?_;(case a=>decide);intro q4 q5 q6)))|(refine OkP.bnd (OkP.want I (by decide)) ?_;rintro _ m ⟨rfl,h,q1,q2,q3⟩)|(refine OkP.bnd (nameS_ok I _) ?_;rintro x m ⟨⟨w1,⟨f1,f2⟩,⟨t1,t2⟩,p1,l1,c1⟩,rfl,rfl,hk⟩;have r1:=w1.rng)|(refine OkP.bnd (hg.ex _ _ _ rfl ⟨by omega,by omega⟩ (by exact trivial)) ?_;rintro x m ⟨w1,⟨f1,f2⟩,⟨t1,t2⟩,p1,l1,c1⟩;(try simp only [cF,rank] at c1);have r1:=w1.rng)|(refine OkP.ok ?_)))
 all_goals (refine⟨?_,⟨?_,?_⟩,⟨?_,?_⟩,?_,?_,?_⟩<;>(try simp only [mF,mT,Int.le_refl,or_true,true_or,and_true,true_and,and_self,ctE,cC,cN,nC,lC,nF,nT,cF,rank])<;>(first|omega|(repeat' (first|assumption|exact .inl ⟨rfl,by decide⟩|(refine wel1 ?_ (by decide) ?_ ?_ ?_ ?_ ?_)|(refine wel2 ?_ (by decide) ?_ ?_ ?_ ?_ ?_ ?_ ?_ ?_)|omega))))
theorem argGo_law(hg:HG I g)(n0:Int)(h0:0≤n0):∀ (f:Nat) (w:Int) (acc:List Nd) (n:Int),n0≤n→n≤I.L→WelL I (-1) acc n0 n→cntL acc≤2000*(n-n0)→(w = -1∨acc≠[]∧n0≤w∧w<n∧word I w=(⟨#[46,46,46]⟩:ByteArray)∧(acc.getLastD nd0).to≤w) →
 OkP (rowsGo I (⟨#[44]⟩:ByteArray) (⟨#[41]⟩:ByteArray) (argS I g) f w acc n) fun r m=>(n0≤m∧Tq I m)∧WelL I (-1) r.1 n0 m∧cntL r.1≤2000*(m-n0)∧(r.2 = -1∨r.1≠[]∧n0≤r.2∧r.2<m∧word I r.2=(⟨#[46,46,46]⟩:ByteArray)∧(r.1.getLastD nd0).to≤r.2)
 |0,w,acc,n,_,_,_,_,_=>OkP.err
 |f+1,w,acc,n,h1,h2,h3,h4,h5=>by
  unfold rowsGo
  refine OkP.ite (fun h=>OkP.ok ⟨⟨h1,wq I h (by decide)⟩,h3,h4,h5⟩) fun h=>?_
  have key:OkP (argS I g w n) fun x m=>∃ e:Int,(e=m∧x.2 = -1∨m=e+1∧x.2=e∧word I e=(⟨#[46,46,46]⟩:ByteArray)∧Tq I e)∧Ex I n x.1 e 1 88∧w = -1:=by
   unfold argS
   refine OkP.ite (fun h=>OkP.err) fun h=>?_
   refine OkP.bnd (hg.ex _ _ _ rfl ⟨by omega,by omega⟩ trivial) ?_
   intro x m hx
   refine OkP.ite (fun h=>OkP.ok ⟨m,.inr ⟨rfl,rfl,h,wq I h (by decide)⟩,hx,by rcases h5 with h5|h5<;>omega⟩) fun h=>OkP.ok ⟨m,.inl ⟨rfl,by dsimp only;rcases h5 with h5|h5<;>omega⟩,hx,by rcases h5 with h5|h5<;>omega⟩
  refine OkP.bnd key ?_
  rintro⟨x,v⟩ m ⟨e,h6,⟨w1,⟨f1,f2⟩,⟨t1,t2⟩,p1,l1,c1⟩,rfl⟩
  dsimp only at *
  have r1:=w1.rng
  have hm:e≤m∧m≤I.L∧pc I e=pc I m:=by
   rcases h6 with ⟨rfl,_⟩|⟨rfl,_,_,q⟩
   ·exact⟨Int.le_refl _,l1,rfl⟩
   ·exact⟨by omega,by have:=q.2.1;omega,q.2.2.symm⟩
  have hw:=WelL.snoc (t:=m) h3 ⟨by omega,by omega⟩ (.inl (by omega)) w1 ⟨by omega,by omega⟩
  have hv:v = -1∨acc++[x]≠[]∧n0≤v∧v<m∧word I v=(⟨#[46,46,46]⟩:ByteArray)∧((acc++[x]).getLastD nd0).to≤v:=by
   rcases h6 with ⟨_,h6⟩|⟨rfl,rfl,h6,q⟩
   ·exact .inl h6
   ·refine .inr ⟨by simp,by omega,by omega,h6,?_⟩
    rw [List.getLastD_eq_getLast?,List.getLast?_append]
    simp
    omega
  have hc:cntL (acc++[x])≤2000*(m-n0):=by rw [cntL_snoc];omega
  refine OkP.ite (fun h=>?_) fun h=>?_
  ·exact argGo_law hg n0 h0 f v _ m (by omega) hm.2.1 hw hc hv
  ·refine OkP.bnd (OkP.want I (by decide)) ?_
   rintro _ _ ⟨rfl,h,q1,q2,q3⟩
   refine argGo_law hg n0 h0 f v _ (m+1) (by omega) (by omega) (hw.more ⟨by omega,q3.symm⟩) (by omega) ?_
   rcases hv with hv|⟨a,b,c,d,e⟩
   ·exact .inl hv
   ·exact .inr ⟨a,b,by omega,d,e⟩
theorem call_law(hg:HG I g)(frm:Int)(x:Nd)(n:Int)(h0:0≤frm)(hx:Ex I frm x n 1 56):OkP (callS I g frm x n) fun x m=>Ex I frm x m 1 56:=by
 obtain⟨w0,⟨f0,g0⟩,⟨t0,u0⟩,p0,l0,c0⟩:=hx
 have r0:=w0.rng
 unfold callS
 have key:OkP (rowsS I (⟨#[40]⟩:ByteArray) (⟨#[44]⟩:ByteArray) (⟨#[41]⟩:ByteArray) (argS I g) (-1) n) fun r m=>Tq I n∧(n+1≤m∧Tq I m)∧WelL I (-1) r.1 (n+1) m∧cntL r.1≤2000*(m-(n+1))∧(r.2 = -1∨r.1≠[]∧n+1≤r.2∧r.2<m∧word I r.2=(⟨#[46,46,46]⟩:ByteArray)∧(r.1.getLastD nd0).to≤r.2):=by
  unfold rowsS
  refine OkP.bnd (OkP.want I (by decide)) ?_
  rintro _ _ ⟨rfl,h,q⟩
  refine OkP.mono (argGo_law hg (n+1) (by omega) _ (-1) [] (n+1) (Int.le_refl _) (by have:=q.2.1;omega) (by unfold WelL;exact⟨Int.le_refl _,rfl⟩) (by simp only [cntL];omega) (.inl rfl)) ?_
  rintro r m h
  exact⟨q,h⟩
 refine OkP.bnd key ?_
 rintro⟨l,w⟩ m ⟨⟨b1,b2,b3⟩,⟨b4,b5⟩,a1,a2,a3⟩
 dsimp only at *
 refine OkP.bnd (OkP.want I (by decide)) ?_
 rintro _ _ ⟨rfl,h,q1,q2,q3⟩
 have hl:=listN_sp (k:=11) (c:=1) a1 (by omega) (by omega) (by decide) (by decide) (by simp [ArP]) (by omega)
 have hto:w = -1∨(listN 11 l m).to≤w:=by
  rcases a3 with a3|⟨a,b,c,d,e⟩
  ·exact .inl a3
  ·cases l with
   |nil=>exact absurd rfl a
   |cons y r=>exact .inr e
 obtain⟨w1,⟨f1,f2⟩,e1,⟨t1,t2⟩,p1,l1,c1⟩:=hl
 refine OkP.ok ?_
 have hw:WdP I 34 w frm (m+1):=by
  rcases a3 with a3|⟨a,b,c,d,e⟩
  ·exact .inl ⟨a3,by decide⟩
  ·exact .inr ⟨by omega,.inr (.inr ⟨by simp [WdK,d],fun e=>by omega⟩)⟩
 have r1:=w1.rng
 (refine⟨?_,⟨?_,?_⟩,⟨?_,?_⟩,?_,?_,?_⟩<;>(try simp only [mF,mT,Int.le_refl,or_true,true_or,and_true,true_and,and_self,ctE,cC,cN,nC,lC,nF,nT,cF,rank])<;>(first|omega|(repeat' (first|assumption|(refine wel2 ?_ (by decide) ?_ ?_ ?_ ?_ ?_ ?_ ?_ ?_)|omega))))
theorem slice_law(hg:HG I g)(frm:Int)(x lo:Nd)(n0 n:Int)(h0:0≤frm)(hx:Ex I frm x n0 1 56)(hlo:Ex I (n0+1) lo n 0 88)(q0:Tq I n0)(q:Tq I n):OkP (sliceS I g frm x lo (n+1)) fun x m=>Ex I frm x m 1 56:=by
 obtain⟨w0,⟨f0,g0⟩,⟨t0,u0⟩,p0,l0,c0⟩:=hx
 obtain⟨w2,⟨f2,g2⟩,⟨t2,u2⟩,p2,l2,c2⟩:=hlo
 obtain⟨q7,q8,q9⟩:=q0
 obtain⟨q10,q11,q12⟩:=q
 have r0:=w0.rng
 have r2:=w2.rng
 obtain⟨k,rfl⟩:∃ k,k=n0+1:=⟨_,rfl⟩
 unfold sliceS
 refine OkP.ite (fun h=>?_) fun h=>?_
 ·refine (wq I h (by decide)).use ?_
  intro q1 q2 q3
  (repeat' ((refine OkP.ok ?_)))
  all_goals (refine⟨?_,⟨?_,?_⟩,⟨?_,?_⟩,?_,?_,?_⟩<;>(try simp only [mF,mT,Int.le_refl,or_true,true_or,and_true,true_and,and_self,ctE,cC,cN,nC,lC,nF,nT,cF,rank])<;>(first|omega|(repeat' (first|assumption|exact noneN_wel I _ _ 0 ⟨by omega,by omega⟩ (by decide)|exact .inl ⟨rfl,by decide⟩|(refine wel4 ?_ (by decide) ?_ ?_ ?_ ?_ ?_ ?_ ?_ ?_ ?_ ?_ ?_ ?_ ?_ ?_)|omega|(simp only [mF,mT,Int.le_refl,or_true,true_or,and_true,true_and,and_self,ctE,cC,cN,nC,lC,nF,nT,cF,rank]<;>omega)))))
 ·(repeat' (first|(refine OkP.ite ?_ ?_<;>intro h<;>(try ((refine (wq I h ?a).use ?_;(case a=>decide);intro q1 q2 q3))); (try (refine (wq I h.2 ?a).use ?_;(case a=>decide);intro q4 q5 q6)))|(refine OkP.bnd (OkP.want I (by decide)) ?_;rintro _ m ⟨rfl,h,q1,q2,q3⟩)|(refine OkP.bnd (hg.ex _ _ _ rfl ⟨by omega,by omega⟩ (by exact trivial)) ?_;rintro x m ⟨w1,⟨f1,f2⟩,⟨t1,t2⟩,p1,l1,c1⟩;(try simp only [cF,rank] at c1);have r1:=w1.rng)|(refine OkP.ok ?_)))
  all_goals (refine⟨?_,⟨?_,?_⟩,⟨?_,?_⟩,?_,?_,?_⟩<;>(try simp only [mF,mT,Int.le_refl,or_true,true_or,and_true,true_and,and_self,ctE,cC,cN,nC,lC,nF,nT,cF,rank])<;>(first|omega|(repeat' (first|assumption|exact noneN_wel I _ _ 0 ⟨by omega,by omega⟩ (by decide)|exact .inl ⟨rfl,by decide⟩|(refine wel4 ?_ (by decide) ?_ ?_ ?_ ?_ ?_ ?_ ?_ ?_ ?_ ?_ ?_ ?_ ?_ ?_)|omega|(simp only [mF,mT,Int.le_refl,or_true,true_or,and_true,true_and,and_self,ctE,cC,cN,nC,lC,nF,nT,cF,rank]<;>omega)))))
theorem idxGo_law(hg:HG I g)(n0:Int)(h0:0≤n0):∀ (f:Nat) (acc:List Nd) (n:Int),acc≠[]→n0+1≤n→n≤I.L→WelL I (-1) acc n0 n→cntL acc≤2000*(n-n0)→OkP (idxGo I g f acc n) fun l m=>l≠[]∧n0+1≤m∧m≤I.L∧WelL I (-1) l n0 m∧cntL l≤2000*(m-n0)
 |0,acc,n,_,_,_,_,_=>OkP.err
 |f+1,acc,n,h00,h1,h2,h3,h4=>by
  unfold idxGo
  refine OkP.ite (fun h=>?_) fun h=>OkP.ok ⟨h00,h1,h2,h3,h4⟩
  obtain⟨q1,q2,q3⟩:=wq I h.1 (by decide)
  refine OkP.bnd (hg.ex _ _ _ rfl ⟨by omega,by omega⟩ trivial) ?_
  rintro x m ⟨w1,⟨f1,f2⟩,⟨t1,t2⟩,p1,l1,c1⟩;(try simp only [cF,rank] at c1);have r1:=w1.rng
  exact idxGo_law hg n0 h0 f _ m (by simp) (by omega) l1 (WelL.snoc h3 ⟨by omega,by omega⟩ (.inl (by omega)) w1 ⟨by omega,t2⟩) (by rw [cntL_snoc];omega)
theorem index_law(hg:HG I g)(frm:Int)(X:Nd)(n0:Int)(h0:0≤frm)(hx:Ex I frm X n0 1 56)(q:Tq I n0):OkP (indexS I g frm X (n0+1)) fun x m=>Ex I frm x m 1 56:=by
 have q':=q
 have hx':=hx
 obtain⟨w0,⟨f0,g0⟩,⟨t0,u0⟩,p0,l0,c0⟩:=hx
 obtain⟨q7,q8,q9⟩:=q
 have r0:=w0.rng
 unfold indexS
 refine OkP.ite (fun h=>?_) fun h=>?_
 ·exact slice_law hg frm X (noneN 0 (n0+1)) n0 (n0+1) h0 hx' ⟨noneN_wel I 0 _ 0 ⟨by omega,by omega⟩ (by decide),⟨rfl,rfl⟩,⟨rfl,rfl⟩,by omega,by omega,by rw [nC];omega⟩ q' (wq I h (by decide))
 ·refine OkP.bnd (hg.ex _ _ _ rfl ⟨by omega,by omega⟩ trivial) ?_
  intro lo m hlo
  have hlo':=hlo
  revert hlo lo m
  rintro x m ⟨w1,⟨f1,f2⟩,⟨t1,t2⟩,p1,l1,c1⟩;(try simp only [cF,rank] at c1);have r1:=w1.rng
  intro hlo'
  refine OkP.ite (fun h=>?_) fun h=>?_
  ·exact slice_law hg frm X _ n0 m h0 hx' ⟨w1,⟨f1,f2⟩,⟨t1,t2⟩,by omega,l1,by omega⟩ q' (wq I h (by decide))
  ·refine OkP.bnd (idxGo_law hg (n0+1) (by omega) (fuel I m) [_] m (by simp) (by omega) l1 (by
    unfold WelL
    refine⟨⟨by omega,by omega⟩,.inl (by omega),w1,?_⟩
    unfold WelL
    exact⟨by omega,t2⟩) (by simp only [cntL];omega)) ?_
   rintro l m2 ⟨a1,a2,a3,a4,a5⟩
   have hmb:maybe I (⟨#[44]⟩:ByteArray) m2=m2∨Tq I m2∧maybe I (⟨#[44]⟩:ByteArray) m2=m2+1:=by
    unfold maybe
    split
    ·rename_i h;exact .inr ⟨wq I h (by decide),rfl⟩
    ·exact .inl rfl
   obtain⟨m3,hm3⟩:∃ m3,maybe I (⟨#[44]⟩:ByteArray) m2=m3:=⟨_,rfl⟩
   rw [hm3] at hmb ⊢
   refine OkP.bnd (OkP.want I (by decide)) ?_
   rintro _ _ ⟨rfl,h,q1,q2,q3⟩
   have hl:=listN_sp (k:=11) (c:=1) a4 (by omega) (by omega) (by decide) (by decide) (by simp [ArP]) (by omega)
   obtain⟨w3,⟨f3,g3⟩,e3,⟨t3,u3⟩,p3,l3,c3⟩:=hl
   have r3:=w3.rng
   have hpc:m2≤m3∧pc I m2=pc I m3:=by
    rcases hmb with rfl|⟨⟨_,_,hz⟩,rfl⟩
    ·exact⟨Int.le_refl _,rfl⟩
    ·exact⟨by omega,hz.symm⟩
   refine OkP.ok ?_
   (refine⟨?_,⟨?_,?_⟩,⟨?_,?_⟩,?_,?_,?_⟩<;>(try simp only [mF,mT,Int.le_refl,or_true,true_or,and_true,true_and,and_self,ctE,cC,cN,nC,lC,nF,nT,cF,rank])<;>(first|omega|(repeat' (first|assumption|exact .inl ⟨rfl,by decide⟩|(refine wel2 ?_ (by decide) ?_ ?_ ?_ ?_ ?_ ?_ ?_ ?_)|omega))))
theorem primGo_law(hg:HG I g)(t:Bool)(frm:Int)(h0:0≤frm):∀ (f:Nat) (x:Nd) (n:Int),Ex I frm x n 1 56→OkP (primGo I g t frm f x n) fun x m=>Ex I frm x m 1 56
 |0,x,n,hx=>OkP.err
 |f+1,x,n,hx=>by
  unfold primGo
  refine OkP.ite (fun h=>OkP.bnd (dot_law hg t frm x n h0 hx (wq I h (by decide))) fun y m hy=>primGo_law hg t frm h0 f y m hy) fun h=>?_
  refine OkP.ite (fun h=>OkP.bnd (call_law hg frm x n h0 hx) fun y m hy=>primGo_law hg t frm h0 f y m hy) fun h=>?_
  refine OkP.ite (fun h=>OkP.bnd (index_law hg frm x n h0 hx (wq I h (by decide))) fun y m hy=>primGo_law hg t frm h0 f y m hy) fun h=>?_
  refine OkP.ite (fun h=>?_) fun h=>OkP.ok hx
  obtain⟨w0,⟨f0,g0⟩,⟨t0,u0⟩,p0,l0,c0⟩:=hx
  have r0:=w0.rng
  refine OkP.bnd (hg.el _ _ ⟨by omega,by omega⟩) ?_
  rintro x m ⟨w1,⟨f1,f2⟩,e1,⟨t1,t2⟩,p1,l1,c1⟩;(try simp only [cF,rank] at c1);have r1:=w1.rng
  refine primGo_law hg t frm h0 f _ m ?_
  (refine⟨?_,⟨?_,?_⟩,⟨?_,?_⟩,?_,?_,?_⟩<;>(try simp only [mF,mT,Int.le_refl,or_true,true_or,and_true,true_and,and_self,ctE,cC,cN,nC,lC,nF,nT,cF,rank])<;>(first|omega|(repeat' (first|assumption|exact .inl ⟨rfl,by decide⟩|(refine wel2 ?_ (by decide) ?_ ?_ ?_ ?_ ?_ ?_ ?_ ?_)|omega))))
theorem primary_law(hg:HG I g)(t:Bool)(n:Int)(hn:0≤n∧n≤I.L):OkP (primaryS I g t n) fun x m=>Ex I n x m 1 (cF .primary):=by
 unfold primaryS
 refine OkP.bnd (hg.ex _ _ _ rfl hn trivial) ?_
 intro x m hx
 refine OkP.mono (primGo_law hg t n hn.1 _ x m (by simpa only [cF,rank,Int.reduceAdd,Int.reduceMul] using hx)) ?_
 rintro x m ⟨w1,⟨f1,f2⟩,⟨t1,t2⟩,p1,l1,c1⟩;(try simp only [cF,rank] at c1);have r1:=w1.rng
 (refine⟨?_,⟨?_,?_⟩,⟨?_,?_⟩,?_,?_,?_⟩<;>(try simp only [mF,mT,Int.le_refl,or_true,true_or,and_true,true_and,and_self,ctE,cC,cN,nC,lC,nF,nT,cF,rank])<;>(omega))
theorem wrap_law(hg:HG I g)(k w frm:Int)(t:Bool)(n:Int)(h0:0≤frm∧frm<n∧n≤I.L∧pc I frm=pc I n)(hk:(0≤k∧k≤68)∧ArP k 1)(hw:w<n∧∀ m,n<m→WdP I k w frm m):OkP (wrapS g k w frm [] t n) fun x m=>Ex I frm x m 1 8:=by
 unfold wrapS
 refine OkP.bnd (hg.ex _ _ _ rfl ⟨by omega,by omega⟩ trivial) ?_
 rintro x m ⟨w1,⟨f1,f2⟩,⟨t1,t2⟩,p1,l1,c1⟩;(try simp only [cF,rank] at c1);have r1:=w1.rng
 refine OkP.ok ?_
 rw [List.nil_append]
 have hw2:=hw.2 m (by omega)
 have hw1:=hw.1
 refine⟨wel1 ⟨by omega,by omega,by omega⟩ hk hw2 w1 ⟨by omega,by omega⟩ ⟨by omega,by omega⟩ (.inl (by omega)),⟨rfl,rfl⟩,⟨rfl,rfl⟩,by omega,by omega,by simp only [mF,mT,Int.le_refl,or_true,true_or,and_true,true_and,and_self,ctE,cC,cN,nC,lC,nF,nT,cF,rank];omega⟩
theorem wrap2_law(hg:HG I g)(k frm:Int)(y:Nd)(t:Bool)(n:Int)(h0:0≤frm∧frm+2≤n∧n≤I.L)(hy:Wel I y)(h1:frm≤y.frm∧pc I frm=pc I y.frm)(h2:y.to≤n∧pc I y.to=pc I n)(h3:cntN y≤2000*(n-frm-2)+88)(hk:(0≤k∧k≤68)∧ArP k 2)(hw:BareK k):OkP (wrapS g k (-1) frm [y] t n) fun x m=>Ex I frm x m 1 8:=by
 unfold wrapS
 refine OkP.bnd (hg.ex _ _ _ rfl ⟨by omega,by omega⟩ trivial) ?_
 rintro x m ⟨w1,⟨f1,f2⟩,⟨t1,t2⟩,p1,l1,c1⟩;(try simp only [cF,rank] at c1);have r1:=w1.rng
 have r2:=hy.rng
 refine OkP.ok ?_
 refine⟨wel2 ⟨by omega,by omega,by omega⟩ hk (.inl ⟨rfl,hw⟩) hy w1 ⟨by omega,by omega⟩ ⟨by omega,by omega⟩ ⟨by omega,by omega⟩ (.inl (by omega)) (.inl (by omega)),⟨rfl,rfl⟩,⟨rfl,rfl⟩,by omega,by omega,by simp only [List.cons_append,List.nil_append,mF,mT,Int.le_refl,or_true,true_or,and_true,true_and,and_self,ctE,cC,cN,nC,lC,nF,nT,cF,rank];omega⟩
end
end Go.Ex
