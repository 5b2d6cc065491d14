/-
  Top: TopDeep: whatever the input, the law answers true (part 16)
-/
import Derived.Test.YtpjdgifhhnjclaaGreatDoorM15
set_option linter.unusedVariables false
set_option linter.unusedSimpArgs false
set_option maxHeartbeats 4000000
set_option maxRecDepth 10000
namespace Go.Ex
open Go.Proofs
structure In'(I:In)(a:Int)(x:Nd)(b c:Int):Prop where
 wel:Wel I x
 frm:a≤x.frm∧pc I a=pc I x.frm
 to:x.to≤b∧pc I x.to=pc I b
 cnt:cntN x≤c
theorem only_law{I:In}{a m p c:Int}{s:Nd}(hs:Ex I a s m p c):OkP (onlyS s m) fun y m'=>m'=m∧In' I a y m (cntN s-1):=by
 obtain⟨w1,⟨f1,f2⟩,⟨t1,t2⟩,p1,l1,c1⟩:=hs
 unfold onlyS
 refine OkP.ite (fun h=>?_) fun h=>OkP.err
 have h1:=w1.ar
 rw [h] at h1
 obtain⟨y,e,wy,a1,a2,a3⟩:=w1.kid1 (by simpa [ArP,arT] using h1)
 rw [e]
 exact OkP.ok ⟨rfl,wy,⟨by show _≤y.frm;omega,by show _=pc I y.frm;omega⟩,⟨by show y.to≤_;omega,by show pc I y.to = _;omega⟩,by show cntN y≤_;omega⟩
theorem ask_law{I:In}{a m p c:Int}{s y x:Nd}(hs:Ex I a s m p c)(h:askN I s=some (y,x)):Wel I y∧Wel I x∧(a≤y.frm∧pc I a=pc I y.frm)∧(y.to≤x.frm∧pc I y.to=pc I x.frm)∧(x.to≤m∧pc I x.to=pc I m)∧cntN y+cntN x≤cntN s:=by
 obtain⟨w1,⟨f1,f2⟩,⟨t1,t2⟩,p1,l1,c1⟩:=hs
 have r1:=w1.rng
 unfold askN at h
 split at h
 ·rename_i c
  cases h
  have h1:=w1.ar
  rw [c.1] at h1
  obtain⟨z,e,wz,a1,a2,a3⟩:=w1.kid1 (by simpa [ArP,arT] using h1)
  rw [e] at c ⊢
  have c2:z.kind=33:=c.2
  have h2:=wz.ar
  rw [c2] at h2
  obtain⟨v,e2,wv,b1,b2,b3⟩:=wz.kid1 (by simpa [ArP,arT] using h2)
  show Wel I _∧Wel I (z.kids.getD 0 nd0)∧_∧(_≤(z.kids.getD 0 nd0).frm∧_=pc I (z.kids.getD 0 nd0).frm)∧((z.kids.getD 0 nd0).to≤_∧pc I (z.kids.getD 0 nd0).to = _)∧_+cntN (z.kids.getD 0 nd0)≤_
  rw [e2]
  refine⟨noneN_wel I 0 s.frm 0 ⟨by omega,by omega⟩ (by decide),wv,?_,?_,?_,?_⟩
  ·simp only [mF];omega
  ·simp only [mT]
   show s.frm≤v.frm∧_=pc I v.frm
   omega
  ·show v.to≤_∧pc I v.to = _
   omega
  ·show cntN (noneN 0 s.frm)+cntN v≤_
   rw [nC]
   omega
 ·split at h
  ·rename_i c
   cases h
   obtain⟨d1,d2,d3,d4,d5,d6⟩:=c
   have h1:=w1.ar
   rw [d1] at h1
   obtain⟨l,r,e,wl,wr,a1,a2,a3,a4⟩:=w1.kid2 (by simpa [ArP,arT] using h1)
   rw [e] at d3 d4 d5 d6 ⊢
   have d3':l.kids.length=1:=by exact_mod_cast d3
   have d4':r.kids.length=1:=by exact_mod_cast d4
   obtain⟨z,e2,wz,b1,b2,b3⟩:=wl.kid1 d3'
   obtain⟨gd,e3,wg,g1,g2,g3⟩:=wr.kid1 d4'
   have d6':(r.kids.getD 0 nd0).kind=33:=d6
   rw [e3] at d6'
   have d6'':gd.kind=33:=d6'
   have h2:=wg.ar
   rw [d6''] at h2
   obtain⟨v,e4,wv,v1,v2,v3⟩:=wg.kid1 (by simpa [ArP,arT] using h2)
   show Wel I (l.kids.getD 0 nd0)∧Wel I ((r.kids.getD 0 nd0).kids.getD 0 nd0)∧(_≤(l.kids.getD 0 nd0).frm∧_=pc I (l.kids.getD 0 nd0).frm)∧((l.kids.getD 0 nd0).to≤((r.kids.getD 0 nd0).kids.getD 0 nd0).frm∧pc I (l.kids.getD 0 nd0).to=pc I ((r.kids.getD 0 nd0).kids.getD 0 nd0).frm)∧(((r.kids.getD 0 nd0).kids.getD 0 nd0).to≤_∧pc I ((r.kids.getD 0 nd0).kids.getD 0 nd0).to = _)∧cntN (l.kids.getD 0 nd0)+cntN ((r.kids.getD 0 nd0).kids.getD 0 nd0)≤_
   rw [e2,e3]
   show Wel I z∧Wel I (gd.kids.getD 0 nd0)∧(_≤z.frm∧_=pc I z.frm)∧(z.to≤(gd.kids.getD 0 nd0).frm∧pc I z.to=pc I (gd.kids.getD 0 nd0).frm)∧((gd.kids.getD 0 nd0).to≤_∧pc I (gd.kids.getD 0 nd0).to = _)∧cntN z+cntN (gd.kids.getD 0 nd0)≤_
   rw [e4]
   show Wel I z∧Wel I v∧(_≤z.frm∧_=pc I z.frm)∧(z.to≤v.frm∧pc I z.to=pc I v.frm)∧(v.to≤_∧pc I v.to = _)∧cntN z+cntN v≤_
   exact⟨wz,wv,by omega,by omega,by omega,by omega⟩
  ·cases h
section
variable {I:In}{g:Gt}
theorem stGo_law(hg:HG I g)(t:Bool)(n0:Int)(h0:0≤n0):∀ (f:Nat) (acc:List Nd) (n:Int),n0≤n→n≤I.L→WelL I (-1) acc n0 n→cntL acc≤2000*(n-n0)→(acc=[]∧n=n0∨acc≠[]∧(acc.headD nd0).frm=n0∧∀ i,(acc.getLastD nd0).to≤i→i<n→word I i=(⟨#[59]⟩:ByteArray)) →
 OkP (stGo I g t f acc n) fun l m=>n0≤m∧m≤I.L∧WelL I (-1) l n0 m∧cntL l≤2000*(m-n0)∧(l=[]∧m=n0∨l≠[]∧(l.headD nd0).frm=n0∧∀ i,(l.getLastD nd0).to≤i→i<m→word I i=(⟨#[59]⟩:ByteArray))
 |0,acc,n,_,_,_,_,_=>OkP.err
 |f+1,acc,n,h1,h2,h3,h4,h5=>by
  unfold stGo
  have hh:∀ x:Nd,x.frm=n→((acc++[x]).headD nd0).frm=n0:=by
   intro x hx
   rcases h5 with ⟨rfl,h5⟩|⟨h5,h6,_⟩
   ·show x.frm=n0;omega
   ·cases acc with
    |nil=>exact absurd rfl h5
    |cons y r=>exact h6
  have hl:∀ x:Nd,((acc++[x]).getLastD nd0)=x:=by
   intro x
   rw [List.getLastD_eq_getLast?,List.getLast?_append]
   simp
  refine OkP.ite (fun h=>OkP.ok ⟨h1,h2,h3,h4,h5⟩) fun h=>OkP.ite (fun h=>?_) fun h=>?_
  ·obtain⟨q1,q2,q3⟩:=wq I h (by decide)
   refine stGo_law hg t n0 h0 f _ (n+1) (by omega) (by omega) (WelL.snoc h3 ⟨Int.le_refl _,rfl⟩ (.inl (by rw [nF];omega)) (noneN_wel I 49 n 0 ⟨by omega,by omega⟩ (by decide)) ⟨by rw [nT];omega,by rw [nT];omega⟩) (by rw [cntL_snoc,nC];omega) (.inr ⟨by simp,hh _ rfl,?_⟩)
   intro i h6 h7
   rw [hl,nT] at h6
   rw [show i=n by omega]
   exact h
  ·refine OkP.bnd (hg.ex _ _ _ rfl ⟨by omega,by omega⟩ trivial) ?_
   rintro x m ⟨w1,⟨f1,f2⟩,⟨t1,t2⟩,p1,l1,c1⟩;(try simp only [cF,rank] at c1);have r1:=w1.rng
   have hw:=WelL.snoc (t:=m) h3 ⟨by omega,by omega⟩ (.inl (by omega)) w1 ⟨by omega,by omega⟩
   refine OkP.ite (fun h=>?_) fun h=>?_
   ·refine stGo_law hg t n0 h0 f _ m (by omega) (by omega) hw (by rw [cntL_snoc];omega) (.inr ⟨by simp,hh _ f1,?_⟩)
    intro i h6 h7
    rw [hl] at h6
    omega
   ·refine OkP.bnd (OkP.want I (by decide)) ?_
    rintro _ _ ⟨rfl,h,q1,q2,q3⟩
    refine stGo_law hg t n0 h0 f _ (m+1) (by omega) (by omega) (hw.more ⟨by omega,by omega⟩) (by rw [cntL_snoc];omega) (.inr ⟨by simp,hh _ f1,?_⟩)
    intro i h6 h7
    rw [hl] at h6
    rw [show i=m by omega]
    exact h
theorem anyStmts_law(hg:HG I g)(t:Bool)(n:Int)(hn:0≤n∧n≤I.L):OkP (anyStmtsS I g t n) fun x m=>Sm I n x m 0 (cF .anyStmts):=by
 unfold anyStmtsS
 refine OkP.bnd (stGo_law hg t n hn.1 _ [] n (Int.le_refl _) hn.2 (by unfold WelL;exact⟨Int.le_refl _,rfl⟩) (by simp only [cntL];omega) (.inl ⟨rfl,rfl⟩)) ?_
 rintro l m ⟨a1,a2,a3,a4,a5⟩
 obtain⟨w1,⟨f1,f2⟩,e1,⟨t1,t2⟩,p1,l1,c1⟩:=listN_sp (k:=13) (c:=1) a3 (by omega) (by omega) (by decide) (by decide) (by simp [ArP]) (by omega)
 refine OkP.ok ?_
 rcases a5 with ⟨rfl,rfl⟩|⟨h1,h2,h3⟩
 ·exact⟨w1,⟨rfl,rfl⟩,e1,⟨t1,t2⟩,by omega,by omega,by simp only [cF,rank];omega,fun i h4 h5=>by have h6:m≤i:=h4;omega⟩
 ·cases l with
  |nil=>exact absurd rfl h1
  |cons x r=>exact⟨w1,⟨h2,by show pc I x.frm=pc I n;rw [show x.frm=n from h2]⟩,e1,⟨t1,t2⟩,by omega,by omega,by simp only [cF,rank];omega,h3⟩
theorem stmts_law(hg:HG I g)(t:Bool)(n:Int)(hn:0≤n∧n≤I.L):OkP (stmtsS g t n) fun x m=>Sm I n x m 0 (cF .stmts):=by
 unfold stmtsS
 refine OkP.mono (hg.sa false n hn) ?_
 rintro x m ⟨w1,⟨f1,f2⟩,e1,⟨t1,t2⟩,p1,l1,c1,s1⟩;(try simp only [cF,rank] at c1);have r1:=w1.rng
 exact⟨w1,⟨f1,f2⟩,e1,⟨t1,t2⟩,p1,l1,by simp only [cF,rank];omega,s1⟩
theorem block_law(hg:HG I g)(t:Bool)(n:Int)(hn:0≤n∧n≤I.L):OkP (blockS I g t n) fun x m=>Ex I n x m 1 (cF .block):=by
 unfold blockS
 (repeat' (first|(refine OkP.bnd (OkP.want I (by decide)) ?_;rintro _ m ⟨rfl,h,q1,q2,q3⟩)|(refine OkP.bnd (hg.ss _ _ ⟨by omega,by omega⟩) ?_;rintro x m ⟨w1,⟨f1,f2⟩,e1,⟨t1,t2⟩,p1,l1,c1,s1⟩;(try simp only [cF,rank] at c1);have r1:=w1.rng)|(refine OkP.ok ?_)))
 all_goals (refine⟨?_,⟨?_,?_⟩,⟨?_,?_⟩,?_,?_,?_⟩<;>(try simp only [mF,mT,Int.le_refl,or_true,true_or,and_true,true_and,and_self,ctE,cC,cN,nC,lC,nF,nT,cF,rank])<;>(first|omega|(repeat' (first|assumption|exact .inl ⟨rfl,by decide⟩|(refine wel1 ?_ (by decide) ?_ ?_ ?_ ?_ ?_)|omega))))
theorem stmt_law(hg:HG I g)(t:Bool)(n:Int)(hn:0≤n∧n≤I.L):OkP (stmtS I g t n) fun x m=>Ex I n x m 1 (cF .stmt):=by
 unfold stmtS
 (repeat' (first|(refine OkP.ite ?_ ?_<;>intro h<;>(try (first|(refine (wq I h ?a).use ?_;(case a=>decide);intro q1 q2 q3)|(refine (wqe I (n:=n) ?a).use ?_;(case a=>(intro e;rw [e] at h;first|(revert h;decide)));intro q1 q2 q3)|(refine (wqe I (n:=(n+1)) ?a).use ?_;(case a=>(intro e;rw [e] at h;first|(refine absurd h.2 ?_;decide)));intro q1 q2 q3))); (try (refine (wq I h.2 ?a).use ?_;(case a=>decide);intro q4 q5 q6)))|(refine OkP.bnd (nameS_ok I _) ?_;rintro x m ⟨⟨w1,⟨f1,f2⟩,⟨t1,t2⟩,p1,l1,c1⟩,rfl,rfl,hk⟩;have r1:=w1.rng)|(refine OkP.bnd (hg.ex _ _ _ rfl ⟨by omega,by omega⟩ (by exact trivial)) ?_;rintro x m ⟨w1,⟨f1,f2⟩,⟨t1,t2⟩,p1,l1,c1⟩;(try simp only [cF,rank] at c1);have r1:=w1.rng)|(refine OkP.mono (hg.ex _ _ _ rfl ⟨by omega,by omega⟩ (by first|exact trivial|assumption)) ?_;rintro x m ⟨w1,⟨f1,f2⟩,⟨t1,t2⟩,p1,l1,c1⟩;(try simp only [cF,rank] at c1);have r1:=w1.rng)|(refine OkP.ok ?_)))
 all_goals (refine⟨?_,⟨?_,?_⟩,⟨?_,?_⟩,?_,?_,?_⟩<;>(try simp only [mF,mT,Int.le_refl,or_true,true_or,and_true,true_and,and_self,ctE,cC,cN,nC,lC,nF,nT,cF,rank])<;>(first|omega|(repeat' (first|assumption|exact noneN_wel I _ _ 0 ⟨by omega,by omega⟩ (by decide)|exact .inl ⟨rfl,by decide⟩|(refine wel2 ?_ (by decide) ?_ ?_ ?_ ?_ ?_ ?_ ?_ ?_)|omega|(simp only [mF,mT,Int.le_refl,or_true,true_or,and_true,true_and,and_self,ctE,cC,cN,nC,lC,nF,nT,cF,rank]<;>omega)))))
theorem declared_law(hg:HG I g)(t:Bool)(n:Int)(hn:0≤n∧n≤I.L)(hp:pre I .declared n):OkP (declaredS g t n) fun x m=>Ex I n x m 1 (cF .declared):=by
 unfold declaredS
 refine OkP.bnd (hg.ex _ _ _ rfl hn (.inr hp)) ?_
 rintro x m ⟨w1,⟨f1,f2⟩,⟨t1,t2⟩,p1,l1,c1⟩;(try simp only [cF,rank] at c1);have r1:=w1.rng
 refine OkP.ok ?_
 (refine⟨?_,⟨?_,?_⟩,⟨?_,?_⟩,?_,?_,?_⟩<;>(try simp only [mF,mT,Int.le_refl,or_true,true_or,and_true,true_and,and_self,ctE,cC,cN,nC,lC,nF,nT,cF,rank])<;>(first|omega|(repeat' (first|assumption|exact .inl ⟨rfl,by decide⟩|(refine wel1 ?_ (by decide) ?_ ?_ ?_ ?_ ?_)|omega))))
theorem started_law(hg:HG I g)(t:Bool)(n:Int)(hn:0≤n∧n≤I.L)(hp:pre I .started n):OkP (startedS I g t n) fun x m=>Ex I n x m 1 (cF .started):=by
 obtain⟨q7,q8,q9⟩:Tq I n:=wqe I fun e=>by simp only [pre] at hp;rw [e] at hp;revert hp;decide
 unfold startedS
 (repeat' (first|(refine OkP.bnd (hg.ex _ _ _ rfl ⟨by omega,by omega⟩ (by first|exact trivial|assumption)) ?_;rintro x m ⟨w1,⟨f1,f2⟩,⟨t1,t2⟩,p1,l1,c1⟩;(try simp only [cF,rank] at c1);have r1:=w1.rng)|(refine OkP.ok ?_)))
 split
 ·(refine⟨?_,⟨?_,?_⟩,⟨?_,?_⟩,?_,?_,?_⟩<;>(try simp only [mF,mT,Int.le_refl,or_true,true_or,and_true,true_and,and_self,ctE,cC,cN,nC,lC,nF,nT,cF,rank])<;>(first|omega|(repeat' (first|assumption|exact .inl ⟨rfl,by decide⟩|(refine wel1 ?_ (by decide) ?_ ?_ ?_ ?_ ?_)|omega))))
 ·(refine⟨?_,⟨?_,?_⟩,⟨?_,?_⟩,?_,?_,?_⟩<;>(try simp only [mF,mT,Int.le_refl,or_true,true_or,and_true,true_and,and_self,ctE,cC,cN,nC,lC,nF,nT,cF,rank])<;>(first|omega|(repeat' (first|assumption|exact .inl ⟨rfl,by decide⟩|(refine wel1 ?_ (by decide) ?_ ?_ ?_ ?_ ?_)|omega))))
theorem returned_law(hg:HG I g)(t:Bool)(n:Int)(hn:0≤n∧n≤I.L)(hp:pre I .returned n):OkP (returnedS I g t n) fun x m=>Ex I n x m 1 (cF .returned):=by
 obtain⟨q7,q8,q9⟩:Tq I n:=wqe I fun e=>by simp only [pre] at hp;rw [e] at hp;revert hp;decide
 unfold returnedS
 refine OkP.ite (fun h=>?_) fun h=>?_
 ·(repeat' ((refine OkP.ok ?_)))
  (refine⟨?_,⟨?_,?_⟩,⟨?_,?_⟩,?_,?_,?_⟩<;>(try simp only [mF,mT,Int.le_refl,or_true,true_or,and_true,true_and,and_self,ctE,cC,cN,nC,lC,nF,nT,cF,rank])<;>(first|omega|(repeat' (first|exact noneN_wel I _ _ 0 ⟨by omega,by omega⟩ (by decide)|exact .inl ⟨rfl,by decide⟩|(refine wel1 ?_ (by decide) ?_ ?_ ?_ ?_ ?_)|omega|(simp only [mF,mT,Int.le_refl,or_true,true_or,and_true,true_and,and_self,ctE,cC,cN,nC,lC,nF,nT,cF,rank]<;>omega)))))
 ·(repeat' (first|(refine OkP.bnd (hg.ex _ _ _ rfl ⟨by omega,by omega⟩ (by first|exact trivial|assumption)) ?_;rintro x m ⟨w1,⟨f1,f2⟩,⟨t1,t2⟩,p1,l1,c1⟩;(try simp only [cF,rank] at c1);have r1:=w1.rng)|(refine OkP.ok ?_)))
  (refine⟨?_,⟨?_,?_⟩,⟨?_,?_⟩,?_,?_,?_⟩<;>(try simp only [mF,mT,Int.le_refl,or_true,true_or,and_true,true_and,and_self,ctE,cC,cN,nC,lC,nF,nT,cF,rank])<;>(first|omega|(repeat' (first|assumption|exact .inl ⟨rfl,by decide⟩|(refine wel1 ?_ (by decide) ?_ ?_ ?_ ?_ ?_)|omega))))
theorem branch_law(t:Bool)(n:Int)(hn:0≤n∧n≤I.L)(hp:pre I .branch n):OkP (branchS I t n) fun x m=>Ex I n x m 1 (cF .branch):=by
 have hw:WdK 57 (word I n):=by simp only [WdK];simp;exact hp
 obtain⟨q7,q8,q9⟩:Tq I n:=wqe I fun e=>by simp only [pre] at hp;rw [e] at hp;revert hp;decide
 unfold branchS
 refine OkP.ite (fun h=>?_) fun h=>?_
 ·(repeat' (first|(refine OkP.bnd (nameS_ok I _) ?_;rintro x m ⟨⟨w1,⟨f1,f2⟩,⟨t1,t2⟩,p1,l1,c1⟩,rfl,rfl,hk⟩;have r1:=w1.rng)|(refine OkP.ok ?_)))
  (refine⟨?_,⟨?_,?_⟩,⟨?_,?_⟩,?_,?_,?_⟩<;>(try simp only [mF,mT,Int.le_refl,or_true,true_or,and_true,true_and,and_self,ctE,cC,cN,nC,lC,nF,nT,cF,rank])<;>(first|omega|(repeat' (first|assumption|(refine .inr ⟨by omega,.inr (.inr ⟨?_,fun _=>by rfl⟩)⟩)|(refine wel1 ?_ (by decide) ?_ ?_ ?_ ?_ ?_)|omega))))
 ·(repeat' ((refine OkP.ok ?_)))
  (refine⟨?_,⟨?_,?_⟩,⟨?_,?_⟩,?_,?_,?_⟩<;>(try simp only [mF,mT,Int.le_refl,or_true,true_or,and_true,true_and,and_self,ctE,cC,cN,nC,lC,nF,nT,cF,rank])<;>(first|omega|(repeat' (first|assumption|exact noneN_wel I _ _ 0 ⟨by omega,by omega⟩ (by decide)|(refine .inr ⟨by omega,.inr (.inr ⟨?_,fun _=>by rfl⟩)⟩)|(refine wel1 ?_ (by decide) ?_ ?_ ?_ ?_ ?_)|omega|(simp only [mF,mT,Int.le_refl,or_true,true_or,and_true,true_and,and_self,ctE,cC,cN,nC,lC,nF,nT,cF,rank]<;>omega)))))
theorem rest_law(hg:HG I g)(t:Bool)(n:Int)(frm:Int)(l:Nd)(h0:0≤frm)(hl:Ex I frm l n 1 96):OkP (restS I g t frm l n) fun x m=>Ex I frm x m 1 112:=by
 obtain⟨w0,⟨f0,g0⟩,⟨t0,u0⟩,p0,l0,c0⟩:=hl
 have r0:=w0.rng
 unfold restS
 refine OkP.ite (fun h=>?_) fun h=>OkP.ite (fun h=>OkP.err) fun hk=>?_
 ·have hw:WdK 53 (word I n):=by simp only [WdK];simp;exact h
  obtain⟨q7,q8,q9⟩:Tq I n:=wqe I fun e=>by rw [e] at h;revert h;decide
  (repeat' (first|(refine OkP.bnd (hg.ex _ _ _ rfl ⟨by omega,by omega⟩ (by exact trivial)) ?_;rintro x m ⟨w1,⟨f1,f2⟩,⟨t1,t2⟩,p1,l1,c1⟩;(try simp only [cF,rank] at c1);have r1:=w1.rng)|(refine OkP.ok ?_)))
  (refine⟨?_,⟨?_,?_⟩,⟨?_,?_⟩,?_,?_,?_⟩<;>(try simp only [mF,mT,Int.le_refl,or_true,true_or,and_true,true_and,and_self,ctE,cC,cN,nC,lC,nF,nT,cF,rank])<;>(first|omega|(repeat' (first|assumption|(refine .inr ⟨by omega,.inr (.inr ⟨?_,fun _=>by omega⟩)⟩)|(refine wel2 ?_ (by decide) ?_ ?_ ?_ ?_ ?_ ?_ ?_ ?_)|omega))))
 ·obtain⟨y,e,wy,a1,a2,a3⟩:=w0.kid1 (by have:=Classical.not_not.1 hk;exact_mod_cast this)
  have e2:l.kids.getD 0 nd0=y:=by rw [e];rfl
  rw [e2]
  have ry:=wy.rng
  refine OkP.ite (fun h=>?_) fun h=>?_
  ·have hw:WdK 52 (word I n):=by simp only [WdK];simp;exact h
   obtain⟨q7,q8,q9⟩:Tq I n:=wqe I fun e=>by rw [e] at h;revert h;decide
   (repeat' ((refine OkP.ok ?_)))
   (refine⟨?_,⟨?_,?_⟩,⟨?_,?_⟩,?_,?_,?_⟩<;>(try simp only [mF,mT,Int.le_refl,or_true,true_or,and_true,true_and,and_self,ctE,cC,cN,nC,lC,nF,nT,cF,rank])<;>(first|omega|(repeat' (first|assumption|(refine .inr ⟨by omega,.inr (.inr ⟨?_,fun _=>by omega⟩)⟩)|(refine wel1 ?_ (by decide) ?_ ?_ ?_ ?_ ?_)|omega))))
  ·(repeat' (first|(refine OkP.ite ?_ ?_<;>intro h<;>(try ((refine (wq I h ?a).use ?_;(case a=>decide);intro q1 q2 q3))); (try (refine (wq I h.2 ?a).use ?_;(case a=>decide);intro q4 q5 q6)))|(refine OkP.bnd (hg.ex _ _ _ rfl ⟨by omega,by omega⟩ (by exact trivial)) ?_;rintro x m ⟨w1,⟨f1,f2⟩,⟨t1,t2⟩,p1,l1,c1⟩;(try simp only [cF,rank] at c1);have r1:=w1.rng)|(refine OkP.ok ?_)))
   all_goals (refine⟨?_,⟨?_,?_⟩,⟨?_,?_⟩,?_,?_,?_⟩<;>(try simp only [mF,mT,Int.le_refl,or_true,true_or,and_true,true_and,and_self,ctE,cC,cN,nC,lC,nF,nT,cF,rank])<;>(first|omega|(repeat' (first|assumption|exact .inl ⟨rfl,by decide⟩|(refine wel1 ?_ (by decide) ?_ ?_ ?_ ?_ ?_)|(refine wel2 ?_ (by decide) ?_ ?_ ?_ ?_ ?_ ?_ ?_ ?_)|omega))))
theorem simple_law(hg:HG I g)(t:Bool)(n:Int)(hn:0≤n∧n≤I.L):OkP (simpleS I g t n) fun x m=>Ex I n x m 1 (cF .simple):=by
 unfold simpleS
 refine OkP.bnd (hg.ex _ _ _ rfl hn trivial) ?_
 intro l m hl
 refine OkP.mono (rest_law hg t m n l hn.1 (by simpa only [cF,rank,Int.reduceAdd,Int.reduceMul] using hl)) ?_
 rintro x m ⟨w1,⟨f1,f2⟩,⟨t1,t2⟩,p1,l1,c1⟩;(try simp only [cF,rank] at c1);have r1:=w1.rng
 (refine⟨?_,⟨?_,?_⟩,⟨?_,?_⟩,?_,?_,?_⟩<;>(try simp only [mF,mT,Int.le_refl,or_true,true_or,and_true,true_and,and_self,ctE,cC,cN,nC,lC,nF,nT,cF,rank])<;>(omega))
theorem cond_law(hg:HG I g)(n:Int)(hn:0≤n∧n≤I.L):OkP (condS I g n) fun x m=>Ex I (n+1) x m 1 88∧Tq I n:=by
 unfold condS
 refine OkP.bnd (OkP.want I (by decide)) ?_
 rintro _ _ ⟨rfl,h,q1,q2,q3⟩
 refine OkP.mono (hg.ex _ _ _ rfl ⟨by omega,by omega⟩ trivial) ?_
 intro x m hx
 exact⟨by simpa only [cF,rank,Int.reduceAdd,Int.reduceMul] using hx,q1,q2,q3⟩
theorem ifHead_law(hg:HG I g)(n:Int)(hn:0≤n∧n≤I.L):OkP (ifHead I g n) fun h m=>Wel I h.1∧Wel I h.2∧(n≤h.1.frm∧pc I n=pc I h.1.frm)∧(h.1.to≤h.2.frm∧pc I h.1.to=pc I h.2.frm)∧(h.2.to≤m∧pc I h.2.to=pc I m)∧(n+1≤m∧m≤I.L)∧cntN h.1+cntN h.2≤2000*(m-n-1)+113:=by
 unfold ifHead
 refine OkP.ite (fun h=>?_) fun h=>?_
 ·refine OkP.bnd (cond_law hg n hn) ?_
  rintro x m ⟨⟨w1,⟨f1,f2⟩,⟨t1,t2⟩,p1,l1,c1⟩,q1,q2,q3⟩
  exact OkP.ok ⟨noneN_wel I 0 n 0 hn (by decide),w1,⟨Int.le_refl _,rfl⟩,⟨by rw [nT];dsimp only;omega,by rw [nT];dsimp only;omega⟩,⟨by dsimp only;omega,t2⟩,⟨by omega,by omega⟩,by dsimp only;rw [nC];omega⟩
 ·refine OkP.bnd (hg.ex _ _ _ rfl hn trivial) ?_
  intro s m hs
  have hs':=hs
  obtain⟨w2,⟨f2,g2⟩,⟨t2,u2⟩,p2,l2,c2⟩:=hs
  simp only [cF,rank] at c2
  have r2:=w2.rng
  refine OkP.ite (fun h=>?_) fun h=>?_
  ·refine OkP.bnd (cond_law hg m ⟨by omega,by omega⟩) ?_
   rintro x m ⟨⟨w1,⟨f1,f2⟩,⟨t1,t2⟩,p1,l1,c1⟩,q1,q2,q3⟩
   exact OkP.ok ⟨w2,w1,⟨by dsimp only;omega,by dsimp only;omega⟩,⟨by dsimp only;omega,by dsimp only;omega⟩,⟨by dsimp only;omega,t2⟩,⟨by omega,by omega⟩,by dsimp only;omega⟩
  ·refine OkP.bnd (only_law hs') ?_
   rintro y m' ⟨rfl,w1,⟨f1,f2⟩,⟨t1,t3⟩,c1⟩
   exact OkP.ok ⟨noneN_wel I 0 n 0 hn (by decide),w1,⟨Int.le_refl _,rfl⟩,⟨by rw [nT];exact f1,by rw [nT];exact f2⟩,⟨by dsimp only;omega,t3⟩,⟨by omega,by omega⟩,by dsimp only;rw [nC];omega⟩
theorem ifs_law(hg:HG I g)(t:Bool)(n:Int)(hn:0≤n∧n≤I.L)(hp:pre I .ifs n):OkP (ifsS I g t n) fun x m=>Ex I n x m 1 (cF .ifs):=by
 obtain⟨q7,q8,q9⟩:Tq I n:=wq I hp (by decide)
 unfold ifsS
 refine OkP.bnd (ifHead_law hg (n+1) ⟨by omega,by omega⟩) ?_
 rintro⟨h1,h2⟩ m ⟨w1,w2,a1,a2,a3,a4,a5⟩
 dsimp only at *
 have r1:=w1.rng
 have r2:=w2.rng
 (repeat' (first|(refine OkP.ite ?_ ?_<;>intro h<;>(try ((refine (wq I h ?a).use ?_;(case a=>decide);intro q1 q2 q3))); (try (refine (wq I h.2 ?a).use ?_;(case a=>decide);intro q4 q5 q6)))|(refine OkP.bnd (hg.ex _ _ _ rfl ⟨by omega,by omega⟩ (by first|exact trivial|assumption)) ?_;rintro x m ⟨w1,⟨f1,f2⟩,⟨t1,t2⟩,p1,l1,c1⟩;(try simp only [cF,rank] at c1);have r1:=w1.rng)|(refine OkP.ok ?_)))
 all_goals (refine⟨?_,⟨?_,?_⟩,⟨?_,?_⟩,?_,?_,?_⟩<;>(try simp only [mF,mT,Int.le_refl,or_true,true_or,and_true,true_and,and_self,ctE,cC,cN,nC,lC,nF,nT,cF,rank])<;>(first|omega|(repeat' (first|assumption|exact noneN_wel I _ _ 0 ⟨by omega,by omega⟩ (by decide)|exact .inl ⟨rfl,by decide⟩|(refine wel4 ?_ (by decide) ?_ ?_ ?_ ?_ ?_ ?_ ?_ ?_ ?_ ?_ ?_ ?_ ?_ ?_)|omega|(simp only [mF,mT,Int.le_refl,or_true,true_or,and_true,true_and,and_self,ctE,cC,cN,nC,lC,nF,nT,cF,rank]<;>omega)))))
theorem clGo_law(hg:HG I g)(kind:Int)(hk:kind=62∨kind=64)(one:Int→Out Nd)(ho:∀ n,0≤n∧n≤I.L→OkP (one n) fun x m=>Ex I n x m 1 112)(n0:Int)(h0:0≤n0):∀ (f:Nat) (acc:List Nd) (n:Int),n0≤n→n≤I.L→WelL I (-1) acc n0 n→cntL acc≤2000*(n-n0)→OkP (clGo I g kind one f acc n) fun l m=>n0≤m∧m≤I.L∧WelL I (-1) l n0 m∧cntL l≤2000*(m-n0)
 |0,acc,n,_,_,_,_=>OkP.err
 |f+1,acc,n,h1,h2,h3,h4=>by
  unfold clGo
  refine OkP.ite (fun h=>OkP.ok ⟨h1,h2,h3,h4⟩) fun h=>?_
  have key:OkP (if word I n=(⟨#[100,101,102,97,117,108,116]⟩:ByteArray) then .ok (noneN 0 (n+1)) (n+1) else bnd (want I (⟨#[99,97,115,101]⟩:ByteArray) n) fun _ m=>one m) fun x m=>Ex I (n+1) x m 0 112∧Tq I n:=by
   refine OkP.ite (fun h=>?_) fun h=>?_
   ·have q:=wq I h (by decide)
    have e:=none_ex (I:=I) 0 (n+1) ⟨by omega,by have:=q.2.1;omega⟩ (by decide)
    exact OkP.ok ⟨⟨e.wel,e.frm,e.to,e.pr,e.L,by have:=e.cnt;omega⟩,q⟩
   ·refine OkP.bnd (OkP.want I (by decide)) ?_
    rintro _ _ ⟨rfl,h,q⟩
    have q':=q
    obtain⟨q1,q2,q3⟩:=q
    refine OkP.mono (ho _ ⟨by omega,by omega⟩) ?_
    intro x m e
    exact⟨⟨e.wel,e.frm,e.to,by have:=e.pr;omega,e.L,by have:=e.cnt;omega⟩,q'⟩
  refine OkP.bnd key ?_
  rintro x m ⟨⟨w2,⟨f2,g2⟩,⟨t2,u2⟩,p2,l2,c2⟩,q4,q5,q6⟩
  have r2:=w2.rng
  refine OkP.bnd (OkP.want I (by decide)) ?_
  rintro _ _ ⟨rfl,h,q1,q2,q3⟩
  refine OkP.bnd (hg.ss _ _ ⟨by omega,by omega⟩) ?_
  rintro y m2 ⟨w1,⟨f1,g1⟩,e1,⟨t1,u1⟩,p1,l1,c1,s1⟩
  simp only [cF,rank] at c1
  have r1:=w1.rng
  have hw:Wel I (.mk kind (-1) n m2 [x,y]):=wel2 ⟨by omega,by omega,by omega⟩ (by rcases hk with rfl|rfl<;>decide) (.inl ⟨rfl,by rcases hk with rfl|rfl<;>decide⟩) w2 w1 ⟨by omega,by omega⟩ ⟨by omega,by omega⟩ ⟨by omega,by omega⟩ (.inl (by omega)) (.inl (by omega))
  exact clGo_law hg kind hk one ho n0 h0 f _ m2 (by omega) (by omega) (WelL.snoc h3 ⟨Int.le_refl _,rfl⟩ (.inl (by simp only [mF];omega)) hw ⟨Int.le_refl _,rfl⟩) (by rw [cntL_snoc];simp only [mF,mT,Int.le_refl,or_true,true_or,and_true,true_and,and_self,ctE,cC,cN,nC,lC,nF,nT,cF,rank];omega)
theorem clauses_law(hg:HG I g)(n:Int)(hn:0≤n∧n≤I.L)(kind:Int)(hk:kind=62∨kind=64)(one:Int→Out Nd)(ho:∀ n,0≤n∧n≤I.L→OkP (one n) fun x m=>Ex I n x m 1 112):OkP (clausesS I g kind one n) fun x m=>Sp I n x m 1 1:=by
 unfold clausesS
 refine OkP.bnd (OkP.want I (by decide)) ?_
 rintro _ _ ⟨rfl,h,q1,q2,q3⟩
 refine OkP.bnd (clGo_law hg kind hk one ho (n+1) (by omega) _ [] (n+1) (Int.le_refl _) (by omega) (by unfold WelL;exact⟨Int.le_refl _,rfl⟩) (by simp only [cntL];omega)) ?_
 rintro l m ⟨a1,a2,a3,a4⟩
 refine OkP.bnd (OkP.want I (by decide)) ?_
 rintro _ _ ⟨rfl,h,q4,q5,q6⟩
 obtain⟨w1,⟨f1,f2⟩,e1,⟨t1,t2⟩,p1,l1,c1⟩:=listN_sp (k:=25) (c:=1) a3 (by omega) (by omega) (by decide) (by decide) (by simp [ArP]) (by omega)
 exact OkP.ok ⟨w1,⟨by omega,by omega⟩,e1,⟨by omega,by omega⟩,by omega,by omega,by omega⟩
theorem one112(hg:HG I g){f:Fn}{t:Bool}(h1:isEx f=true)(h2:∀ n,pre I f n)(h3:rank f≤13):∀ n,0≤n∧n≤I.L→OkP (g f t n) fun x m=>Ex I n x m 1 112:=fun n hn=>OkP.mono (hg.ex f t n h1 hn (h2 n)) fun x m e=>⟨e.wel,e.frm,e.to,e.pr,e.L,by have:=e.cnt;simp only [cF] at this;omega⟩
theorem swEnd_law(hg:HG I g)(n:Int)(first tag:Nd)(s:Option Nd)(a m:Int)(q:Tq I n)(w0:Wel I first)(h1:n+1≤first.frm∧pc I (n+1)=pc I first.frm)(h2:first.to≤a∧pc I first.to=pc I a)(h3:a≤I.L)(h4:cntN first≤2000*(a-n-1)+112)
 (hs:match s with|none=>tag=noneN 0 a∧m=a|some s=>Ex I a s m 1 112):OkP (swEnd I g n first tag s m) fun x m=>Ex I n x m 1 24:=by
 obtain⟨q7,q8,q9⟩:=q
 have r0:=w0.rng
 cases s with
 |none=>
  obtain⟨rfl,rfl⟩:=hs
  unfold swEnd
  refine OkP.bnd (clauses_law hg m ⟨by omega,by omega⟩ 62 (.inl rfl) _ (one112 hg rfl (fun _=>trivial) (by decide))) ?_
  rintro x m ⟨w1,⟨f1,f2⟩,e1,⟨t1,t2⟩,p1,l1,c1⟩;(try simp only [cF,rank] at c1);have r1:=w1.rng
  refine OkP.ok ?_
  (refine⟨?_,⟨?_,?_⟩,⟨?_,?_⟩,?_,?_,?_⟩<;>(try simp only [mF,mT,Int.le_refl,or_true,true_or,and_true,true_and,and_self,ctE,cC,cN,nC,lC,nF,nT,cF,rank])<;>(first|omega|(repeat' (first|assumption|exact noneN_wel I _ _ 0 ⟨by omega,by omega⟩ (by decide)|exact .inl ⟨rfl,by decide⟩|(refine wel3 ?_ (by decide) ?_ ?_ ?_ ?_ ?_ ?_ ?_ ?_ ?_ ?_ ?_)|omega|(simp only [mF,mT,Int.le_refl,or_true,true_or,and_true,true_and,and_self,ctE,cC,cN,nC,lC,nF,nT,cF,rank]<;>omega)))))
 |some s=>
  dsimp only at hs
  have hs':=hs
  obtain⟨w2,⟨f2,g2⟩,⟨t2,u2⟩,p2,l2,c2⟩:=hs
  unfold swEnd
  dsimp only
  split
  ·rename_i y x e
   obtain⟨wy,wx,b1,b2,b3,b4⟩:=ask_law hs' e
   have ry:=wy.rng
   have rx:=wx.rng
   refine OkP.bnd (clauses_law hg m ⟨by omega,by omega⟩ 62 (.inl rfl) _ (one112 hg rfl (fun _=>trivial) (by decide))) ?_
   rintro x m ⟨w1,⟨f1,f2⟩,e1,⟨t1,t2⟩,p1,l1,c1⟩;(try simp only [cF,rank] at c1);have r1:=w1.rng
   refine OkP.ok ?_
   (refine⟨?_,⟨?_,?_⟩,⟨?_,?_⟩,?_,?_,?_⟩<;>(try simp only [mF,mT,Int.le_refl,or_true,true_or,and_true,true_and,and_self,ctE,cC,cN,nC,lC,nF,nT,cF,rank])<;>(first|omega|(repeat' (first|assumption|exact .inl ⟨rfl,by decide⟩|(refine wel4 ?_ (by decide) ?_ ?_ ?_ ?_ ?_ ?_ ?_ ?_ ?_ ?_ ?_ ?_ ?_ ?_)|omega))))
  ·refine OkP.bnd (only_law hs') ?_
   rintro y m' ⟨rfl,wy,b1,b2,b3⟩
   have ry:=wy.rng
   refine OkP.bnd (clauses_law hg _ ⟨by omega,by omega⟩ 62 (.inl rfl) _ (one112 hg rfl (fun _=>trivial) (by decide))) ?_
   rintro x m ⟨w1,⟨f1,f2⟩,e1,⟨t1,t2⟩,p1,l1,c1⟩;(try simp only [cF,rank] at c1);have r1:=w1.rng
   refine OkP.ok ?_
   (refine⟨?_,⟨?_,?_⟩,⟨?_,?_⟩,?_,?_,?_⟩<;>(try simp only [mF,mT,Int.le_refl,or_true,true_or,and_true,true_and,and_self,ctE,cC,cN,nC,lC,nF,nT,cF,rank])<;>(first|omega|(repeat' (first|assumption|exact .inl ⟨rfl,by decide⟩|(refine wel3 ?_ (by decide) ?_ ?_ ?_ ?_ ?_ ?_ ?_ ?_ ?_ ?_ ?_)|omega))))
theorem swTwo_law(hg:HG I g)(n:Int)(first:Nd)(a:Int)(q:Tq I n)(w0:Wel I first)(h1:n+1≤first.frm∧pc I (n+1)=pc I first.frm)(h2:first.to≤a∧pc I first.to=pc I a)(h3:a≤I.L)(h4:cntN first≤2000*(a-n-1)+112):OkP (swTwo I g n first a) fun x m=>Ex I n x m 1 24:=by
 have r0:=w0.rng
 unfold swTwo
 refine OkP.ite (fun h=>?_) fun h=>?_
 ·exact swEnd_law hg n first _ none a a q w0 h1 h2 h3 h4 ⟨rfl,rfl⟩
 ·refine OkP.bnd (one112 hg (f:=.simple) (t:=true) rfl (fun _=>trivial) (by decide) a ⟨by omega,h3⟩) ?_
  intro s m hs
  exact swEnd_law hg n first _ (some s) a m q w0 h1 h2 h3 h4 hs
theorem switches_law(hg:HG I g)(t:Bool)(n:Int)(hn:0≤n∧n≤I.L)(hp:pre I .switches n):OkP (switchesS I g t n) fun x m=>Ex I n x m 1 (cF .switches):=by
 have up:∀ {o:Out Nd},(OkP o fun x m=>Ex I n x m 1 24)→OkP o fun x m=>Ex I n x m 1 (cF .switches):=fun h=>OkP.mono h fun x m h=>⟨h.wel,h.frm,h.to,h.pr,h.L,by have:=h.cnt;simp only [cF,rank];omega⟩
 have q:Tq I n:=wq I hp (by decide)
 have q8:=q.2.1
 have e0:=none_ex (I:=I) 0 (n+1) ⟨by omega,by omega⟩ (by decide)
 have ec:=e0.cnt
 unfold switchesS
 refine OkP.ite (fun h=>?_) fun h=>OkP.ite (fun h=>?_) fun h=>?_
 ·exact up (swEnd_law hg n _ _ none (n+1) (n+1) q e0.wel ⟨Int.le_refl _,rfl⟩ ⟨Int.le_refl _,rfl⟩ (by omega) (by omega) ⟨rfl,rfl⟩)
 ·obtain⟨q1,q2,q3⟩:=wq I h (by decide)
  exact up (swTwo_law hg n _ (n+1+1) q e0.wel ⟨Int.le_refl _,rfl⟩ ⟨by rw [nT];omega,by rw [nT];omega⟩ (by omega) (by omega))
 ·refine OkP.bnd (one112 hg (f:=.simple) (t:=true) rfl (fun _=>trivial) (by decide) (n+1) ⟨by omega,by omega⟩) ?_
  intro s m hs
  have hs':=hs
  obtain⟨w2,⟨f2,g2⟩,⟨t2,u2⟩,p2,l2,c2⟩:=hs
  have r2:=w2.rng
  refine OkP.ite (fun h=>?_) fun h=>?_
  ·obtain⟨q1,q2,q3⟩:=wq I h (by decide)
   exact up (swTwo_law hg n s (m+1) q w2 ⟨by omega,by omega⟩ ⟨by omega,by omega⟩ (by omega) (by omega))
  ·exact up (swEnd_law hg n _ _ (some s) (n+1) m q e0.wel ⟨Int.le_refl _,rfl⟩ ⟨Int.le_refl _,rfl⟩ (by omega) (by omega) hs')
theorem selects_law(hg:HG I g)(t:Bool)(n:Int)(hn:0≤n∧n≤I.L)(hp:pre I .selects n):OkP (selectsS I g t n) fun x m=>Ex I n x m 1 (cF .selects):=by
 obtain⟨q7,q8,q9⟩:Tq I n:=wq I hp (by decide)
 unfold selectsS
 refine OkP.bnd (clauses_law hg (n+1) ⟨by omega,by omega⟩ 64 (.inr rfl) _ (one112 hg rfl (fun _=>trivial) (by decide))) ?_
 rintro x m ⟨w1,⟨f1,f2⟩,e1,⟨t1,t2⟩,p1,l1,c1⟩;(try simp only [cF,rank] at c1);have r1:=w1.rng
 refine OkP.ok ?_
 (refine⟨?_,⟨?_,?_⟩,⟨?_,?_⟩,?_,?_,?_⟩<;>(try simp only [mF,mT,Int.le_refl,or_true,true_or,and_true,true_and,and_self,ctE,cC,cN,nC,lC,nF,nT,cF,rank])<;>(first|omega|(repeat' (first|assumption|exact .inl ⟨rfl,by decide⟩|(refine wel1 ?_ (by decide) ?_ ?_ ?_ ?_ ?_)|omega))))
theorem overall_law(hg:HG I g)(t:Bool)(n:Int)(w frm:Int)(l:Nd)(hf:0≤frm)(wl:Wel I l)(h1:frm+1≤l.frm∧pc I frm=pc I l.frm)(h2:l.to≤n∧pc I l.to=pc I n)(h3:cntN l≤2000*(n-frm-1)+96)(hw:WdP I 66 w frm (frm+1)∨WdP I 66 w frm n∧l.to≤w)(hw2:w = -1∨l.to≤w∧w<n):OkP (overallS I g t w frm l n) fun x m=>Ex I frm x m 1 24:=by
 have r0:=wl.rng
 unfold overallS
 refine OkP.bnd (OkP.want I (by decide)) ?_
 rintro _ _ ⟨rfl,h,q1,q2,q3⟩
 refine OkP.bnd (hg.ex _ _ _ rfl ⟨by omega,by omega⟩ trivial) ?_
 rintro x m ⟨w1,⟨f1,f2⟩,⟨t1,t2⟩,p1,l1,c1⟩;(try simp only [cF,rank] at c1);have r1:=w1.rng
 refine OkP.bnd (hg.ex _ _ _ rfl ⟨by omega,by omega⟩ trivial) ?_
 rintro x m ⟨w1,⟨f1,f2⟩,⟨t1,t2⟩,p1,l1,c1⟩;(try simp only [cF,rank] at c1);have r1:=w1.rng
 refine OkP.ok ?_
 have hw3:WdP I 66 w frm m:=by
  rcases hw with hw|⟨hw,_⟩<;>rcases hw with ⟨a,b⟩|⟨a,b⟩
  ·exact .inl ⟨a,b⟩
  ·refine .inr ⟨by omega,?_⟩
   rcases b with b|b|b
   ·omega
   ·omega
   ·exact .inr (.inr b)
  ·exact .inl ⟨a,b⟩
  ·refine .inr ⟨by omega,?_⟩
   rcases b with b|b|b
   ·omega
   ·omega
   ·exact .inr (.inr b)
 (refine⟨?_,⟨?_,?_⟩,⟨?_,?_⟩,?_,?_,?_⟩<;>(try simp only [mF,mT,Int.le_refl,or_true,true_or,and_true,true_and,and_self,ctE,cC,cN,nC,lC,nF,nT,cF,rank])<;>(first|omega|(repeat' (first|assumption|(refine wel3 ?_ (by decide) ?_ ?_ ?_ ?_ ?_ ?_ ?_ ?_ ?_ ?_ ?_)|omega))))
theorem forLast_law(hg:HG I g)(t:Bool)(n:Int)(first cond:Nd)(m:Int)(q:Tq I n)(w1:Wel I first)(w2:Wel I cond)(h1:n+1≤first.frm∧pc I (n+1)=pc I first.frm)(h2:first.to≤cond.frm∧pc I first.to=pc I cond.frm)(h3:cond.to≤m∧pc I cond.to=pc I m)(h4:m≤I.L)(h5:cntN first+cntN cond≤2000*(m-n-1)+300):OkP (forLast I g t n first cond m) fun x m=>Ex I n x m 1 24:=by
 obtain⟨q7,q8,q9⟩:=q
 have r1:=w1.rng
 have r2:=w2.rng
 unfold forLast
 have key:OkP (if word I m=(⟨#[123]⟩:ByteArray) then .ok (noneN 0 m) m else g .simple true m) fun x m'=>Ex I m x m' 0 112:=by
  refine OkP.ite (fun h=>?_) fun h=>?_
  ·have e:=none_ex (I:=I) 0 m ⟨by omega,by omega⟩ (by decide)
   exact OkP.ok ⟨e.wel,e.frm,e.to,e.pr,e.L,by have:=e.cnt;omega⟩
  ·refine OkP.mono (one112 hg (f:=.simple) (t:=true) rfl (fun _=>trivial) (by decide) m ⟨by omega,h4⟩) ?_
   intro x m' e
   exact⟨e.wel,e.frm,e.to,by have:=e.pr;omega,e.L,by have:=e.cnt;omega⟩
 refine OkP.bnd key ?_
 rintro x m' ⟨w3,⟨f3,g3⟩,⟨t3,u3⟩,p3,l3,c3⟩
 have r3:=w3.rng
 refine OkP.bnd (hg.ex _ _ _ rfl ⟨by omega,by omega⟩ trivial) ?_
 rintro b m2 ⟨w4,⟨f4,g4⟩,⟨t4,u4⟩,p4,l4,c4⟩
 simp only [cF,rank] at c4
 have r4:=w4.rng
 refine OkP.ok ?_
 (refine⟨?_,⟨?_,?_⟩,⟨?_,?_⟩,?_,?_,?_⟩<;>(try simp only [mF,mT,Int.le_refl,or_true,true_or,and_true,true_and,and_self,ctE,cC,cN,nC,lC,nF,nT,cF,rank])<;>(first|omega|(repeat' (first|assumption|exact .inl ⟨rfl,by decide⟩|(refine wel4 ?_ (by decide) ?_ ?_ ?_ ?_ ?_ ?_ ?_ ?_ ?_ ?_ ?_ ?_ ?_ ?_)|omega))))
theorem forRest_law(hg:HG I g)(t:Bool)(n:Int)(first:Nd)(m:Int)(q:Tq I n)(w1:Wel I first)(h1:n+1≤first.frm∧pc I (n+1)=pc I first.frm)(h3:first.to≤m∧pc I first.to=pc I m)(h4:m≤I.L)(h5:cntN first≤2000*(m-n-1)+112):OkP (forRest I g t n first m) fun x m=>Ex I n x m 1 24:=by
 have r1:=w1.rng
 have q':=q
 obtain⟨q7,q8,q9⟩:=q
 unfold forRest
 refine OkP.bnd (OkP.want I (by decide)) ?_
 rintro _ _ ⟨rfl,h,q1,q2,q3⟩
 have key:OkP (if word I (m+1)=(⟨#[59]⟩:ByteArray) then .ok (noneN 0 (m+1)) (m+1) else g .expr true (m+1)) fun x m'=>Ex I (m+1) x m' 0 88:=by
  refine OkP.ite (fun h=>?_) fun h=>?_
  ·have e:=none_ex (I:=I) 0 (m+1) ⟨by omega,by omega⟩ (by decide)
   exact OkP.ok ⟨e.wel,e.frm,e.to,e.pr,e.L,by have:=e.cnt;omega⟩
  ·refine OkP.mono (hg.ex .expr true _ rfl ⟨by omega,by omega⟩ trivial) ?_
   intro x m' e
   exact⟨e.wel,e.frm,e.to,by have:=e.pr;omega,e.L,by have:=e.cnt;simp only [cF,rank] at this;omega⟩
 refine OkP.bnd key ?_
 rintro x m' ⟨w3,⟨f3,g3⟩,⟨t3,u3⟩,p3,l3,c3⟩
 have r3:=w3.rng
 refine OkP.bnd (OkP.want I (by decide)) ?_
 rintro _ _ ⟨rfl,h,q4,q5,q6⟩
 exact forLast_law hg t n first x (m'+1) q' w1 w3 h1 ⟨by omega,by omega⟩ ⟨by omega,by omega⟩ (by omega) (by omega)
theorem fors_law(hg:HG I g)(t:Bool)(n:Int)(hn:0≤n∧n≤I.L)(hp:pre I .fors n):OkP (forsS I g t n) fun x m=>Ex I n x m 1 (cF .fors):=by
 have up:∀ {o:Out Nd},(OkP o fun x m=>Ex I n x m 1 24)→OkP o fun x m=>Ex I n x m 1 (cF .fors):=fun h=>OkP.mono h fun x m h=>⟨h.wel,h.frm,h.to,h.pr,h.L,by have:=h.cnt;simp only [cF,rank];omega⟩
 have q:Tq I n:=wq I hp (by decide)
 have q':=q
 obtain⟨q7,q8,q9⟩:=q
 have e0:=none_ex (I:=I) 0 (n+1) ⟨by omega,by omega⟩ (by decide)
 have ec:=e0.cnt
 have ew:=e0.wel
 unfold forsS
 refine OkP.ite (fun h=>?_) fun h=>OkP.ite (fun h=>?_) fun h=>OkP.ite (fun h=>?_) fun h=>?_
 ·(repeat' (first|(refine OkP.bnd (hg.ex _ _ _ rfl ⟨by omega,by omega⟩ (by first|exact trivial|assumption)) ?_;rintro x m ⟨w1,⟨f1,f2⟩,⟨t1,t2⟩,p1,l1,c1⟩;(try simp only [cF,rank] at c1);have r1:=w1.rng)|(refine OkP.ok ?_)))
  all_goals (refine⟨?_,⟨?_,?_⟩,⟨?_,?_⟩,?_,?_,?_⟩<;>(try simp only [mF,mT,Int.le_refl,or_true,true_or,and_true,true_and,and_self,ctE,cC,cN,nC,lC,nF,nT,cF,rank])<;>(first|omega|(repeat' (first|assumption|exact .inl ⟨rfl,by decide⟩|(refine wel4 ?_ (by decide) ?_ ?_ ?_ ?_ ?_ ?_ ?_ ?_ ?_ ?_ ?_ ?_ ?_ ?_)|omega|(simp only [mF,mT,Int.le_refl,or_true,true_or,and_true,true_and,and_self,ctE,cC,cN,nC,lC,nF,nT,cF,rank]<;>omega)))))
 ·exact up (overall_law hg t (n+1) (-1) n _ hn.1 ew ⟨Int.le_refl _,by rw [nF];omega⟩ ⟨Int.le_refl _,rfl⟩ (by omega) (.inl (.inl ⟨rfl,by decide⟩)) (.inl rfl))
 ·exact up (forRest_law hg t n _ (n+1) q' ew ⟨Int.le_refl _,rfl⟩ ⟨Int.le_refl _,rfl⟩ (by omega) (by omega))
 ·refine OkP.bnd (hg.ex .exprs true (n+1) rfl ⟨by omega,by omega⟩ trivial) ?_
  intro l m hl
  have hl':Ex I (n+1) l m 1 96:=by simpa only [cF,rank,Int.reduceAdd,Int.reduceMul] using hl
  obtain⟨w2,⟨f2,g2⟩,⟨t2,u2⟩,p2,l2,c2⟩:=hl'
  have hl':Ex I (n+1) l m 1 96:=by simpa only [cF,rank,Int.reduceAdd,Int.reduceMul] using hl
  have r2:=w2.rng
  refine OkP.ite (fun h=>?_) fun h=>?_
  ·obtain⟨q1,q2,q3⟩:Tq I m:=wqe I fun e=>by have h:=h.1;rw [e] at h;revert h;decide
   have hw:WdK 66 (word I m):=by simp only [WdK];simp;exact h.1
   exact up (overall_law hg t (m+1) m n l hn.1 w2 ⟨by omega,by omega⟩ ⟨by omega,by omega⟩ (by omega) (.inr ⟨.inr ⟨by omega,.inr (.inr ⟨hw,fun e=>by omega⟩)⟩,by omega⟩) (.inr ⟨by omega,by omega⟩))
  ·refine OkP.bnd (rest_law hg true m (n+1) l (by omega) hl') ?_
   intro s m' hs
   have hs':=hs
   obtain⟨w3,⟨f3,g3⟩,⟨t3,u3⟩,p3,l3,c3⟩:=hs
   have r3:=w3.rng
   refine OkP.ite (fun h=>?_) fun h=>?_
   ·exact up (forRest_law hg t n s m' q' w3 ⟨by omega,by omega⟩ ⟨by omega,by omega⟩ (by omega) (by omega))
   ·refine OkP.bnd (only_law hs') ?_
    rintro y m2 ⟨rfl,wy,b1,b2,b3⟩
    have ry:=wy.rng
    refine OkP.bnd (hg.ex _ _ _ rfl ⟨by omega,by omega⟩ trivial) ?_
    rintro x m ⟨w1,⟨f1,f2⟩,⟨t1,t2⟩,p1,l1,c1⟩;(try simp only [cF,rank] at c1);have r1:=w1.rng
    refine OkP.ok ?_
    (refine⟨?_,⟨?_,?_⟩,⟨?_,?_⟩,?_,?_,?_⟩<;>(try simp only [mF,mT,Int.le_refl,or_true,true_or,and_true,true_and,and_self,ctE,cC,cN,nC,lC,nF,nT,cF,rank])<;>(first|omega|(repeat' (first|assumption|exact noneN_wel I _ _ 0 ⟨by omega,by omega⟩ (by decide)|exact .inl ⟨rfl,by decide⟩|(refine wel4 ?_ (by decide) ?_ ?_ ?_ ?_ ?_ ?_ ?_ ?_ ?_ ?_ ?_ ?_ ?_ ?_)|omega|(simp only [mF,mT,Int.le_refl,or_true,true_or,and_true,true_and,and_self,ctE,cC,cN,nC,lC,nF,nT,cF,rank]<;>omega)))))
end
theorem all_law(I:In):∀ f,HG I (G I f)
 |0=>⟨fun _ _ _ _ _ _=>OkP.err,fun _ _ _=>OkP.err,fun _ _ _=>OkP.err,fun _ _ _=>OkP.err⟩
 |f+1=>by
  have hg:=all_law I f
  refine⟨?_,fun t n hn=>elements_law hg t n hn,fun t n hn=>anyStmts_law hg t n hn,fun t n hn=>stmts_law hg t n hn⟩
  intro r t n hr hn hp
  show OkP (step I (G I f) r t n) _
  cases r
  case expr=>exact expr_law hg t n hn
  case binary k=>exact binary_law hg t n hn k hp
  case unary=>exact unary_law hg t n hn
  case operand=>exact operand_law hg t n hn
  case primary=>exact primary_law hg t n hn
  case exprs=>exact exprs_law hg t n hn
  case element=>exact element_law hg t n hn
  case value=>exact value_law hg t n hn
  case elements=>exact absurd hr (by decide)
  case typ=>exact typ_law hg t n hn
  case anyType=>exact anyType_law hg t n hn
  case typeName=>exact typeName_law hg t n hn
  case signature=>exact signature_law hg t n hn
  case params=>exact params_law hg t n hn
  case param=>exact param_law hg t n hn
  case tparams=>exact tparams_law hg t n hn
  case names=>exact names_law n hn t
  case union=>exact union_law hg t n hn
  case block=>exact block_law hg t n hn
  case stmts=>exact absurd hr (by decide)
  case anyStmts=>exact absurd hr (by decide)
  case stmt=>exact stmt_law hg t n hn
  case simple=>exact simple_law hg t n hn
  case ifs=>exact ifs_law hg t n hn hp
  case switches=>exact switches_law hg t n hn hp
  case selects=>exact selects_law hg t n hn hp
  case fors=>exact fors_law hg t n hn hp
  case declared=>exact declared_law hg t n hn hp
  case started=>exact started_law hg t n hn hp
  case returned=>exact returned_law hg t n hn hp
  case branch=>exact branch_law t n hn hp
  case group=>exact group_law hg t n hn hp
  case valueSpec=>exact valueSpec_law hg t n hn
  case constSpec=>exact constSpec_law hg t n hn
  case importSpec=>exact importSpec_law n hn t
  case typeSpec=>exact typeSpec_law hg t n hn
  case fn=>exact fn_law hg t n hn
  case file=>exact file_law hg t n hn
  case field=>exact field_law hg t n hn
  case elem=>exact elem_law hg t n hn
  case types=>exact types_law hg t n hn
end Go.Ex
