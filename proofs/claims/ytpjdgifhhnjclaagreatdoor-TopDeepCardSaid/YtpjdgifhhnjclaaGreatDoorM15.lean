/-
  Top: TopDeep: whatever the input, the law answers true (part 15)
-/
import Derived.Test.YtpjdgifhhnjclaaGreatDoorM14
set_option linter.unusedVariables false
set_option linter.unusedSimpArgs false
set_option maxHeartbeats 4000000
set_option maxRecDepth 10000
namespace Go.Ex
open Go.Proofs
section
variable {I:In}{g:Gt}
theorem tag_law(n:Int)(hn:0≤n∧n≤I.L):OkP (tagS I n) fun x m=>Ex I n x m 0 1:=by
 unfold tagS
 refine OkP.ite (fun h=>?_) fun h=>?_
 ·refine OkP.mono (strS_ok I n) ?_
  rintro x m ⟨⟨w1,⟨f1,f2⟩,⟨t1,t2⟩,p1,l1,c1⟩,_⟩
  exact⟨w1,⟨f1,f2⟩,⟨t1,t2⟩,by omega,l1,by omega⟩
 ·exact OkP.ok ⟨noneN_wel I 0 n 0 hn (by decide),⟨rfl,rfl⟩,⟨rfl,rfl⟩,by omega,hn.2,by rw [nC];omega⟩
theorem none_ex(k n:Int)(hn:0≤n∧n≤I.L)(hk:(0≤k∧k≤68)∧ArP k 0∧BareK k):Ex I n (noneN k n) n 0 1:=⟨noneN_wel I k n 0 hn hk,⟨rfl,rfl⟩,⟨rfl,rfl⟩,by omega,hn.2,by rw [nC];omega⟩
theorem bare_law{c:Prop}[Decidable c](n:Int)(hn:0≤n∧n≤I.L):OkP (if c then .ok (noneN 0 n) n else nameS I n) fun x m=>Ex I n x m 0 1:=by
 refine OkP.ite (fun h=>OkP.ok (none_ex 0 n hn (by decide))) fun h=>?_
 refine OkP.mono (nameS_ok I n) ?_
 rintro x m ⟨⟨w1,⟨f1,f2⟩,⟨t1,t2⟩,p1,l1,c1⟩,_⟩
 exact⟨w1,⟨f1,f2⟩,⟨t1,t2⟩,by omega,l1,by omega⟩
theorem names_law(n:Int)(hn:0≤n∧n≤I.L)(t:Bool):OkP (namesS I t n) fun x m=>Ex I n x m 1 (cF .names):=by
 unfold namesS
 refine OkP.mono (sepS_ok I (c:=1) 10 _ _ (by decide) (by decide) (by decide) (fun n hn=>OkP.mono (nameS_ok I n) fun x m h=>h.1) n hn) ?_
 rintro x m ⟨w1,⟨f1,f2⟩,⟨t1,t2⟩,p1,l1,c1⟩;(try simp only [cF,rank] at c1);have r1:=w1.rng
 (refine⟨?_,⟨?_,?_⟩,⟨?_,?_⟩,?_,?_,?_⟩<;>(try simp only [mF,mT,Int.le_refl,or_true,true_or,and_true,true_and,and_self,ctE,cC,cN,nC,lC,nF,nT,cF,rank])<;>(omega))
theorem importSpec_law(n:Int)(hn:0≤n∧n≤I.L)(t:Bool):OkP (importSpecS I t n) fun x m=>Ex I n x m 1 (cF .importSpec):=by
 unfold importSpecS
 (repeat' (first|(refine OkP.ite ?_ ?_<;>intro h<;>(try (first|(refine (wq I h ?a).use ?_;(case a=>decide);intro q1 q2 q3)|(refine (kq I (.inl h)).use ?_;intro q1 q2 q3))); (try (refine (wq I h.2 ?a).use ?_;(case a=>decide);intro q4 q5 q6)))|(refine OkP.bnd (nameS_ok I _) ?_;rintro x m ⟨⟨w1,⟨f1,f2⟩,⟨t1,t2⟩,p1,l1,c1⟩,rfl,rfl,hk⟩;have r1:=w1.rng)|(refine OkP.bnd (strS_ok I _) ?_;rintro x m ⟨⟨w1,⟨f1,f2⟩,⟨t1,t2⟩,p1,l1,c1⟩,rfl,rfl,hk⟩;have r1:=w1.rng)|(refine OkP.ok ?_)))
 all_goals (refine⟨?_,⟨?_,?_⟩,⟨?_,?_⟩,?_,?_,?_⟩<;>(try simp only [mF,mT,Int.le_refl,or_true,true_or,and_true,true_and,and_self,ctE,cC,cN,nC,lC,nF,nT,cF,rank])<;>(first|omega|(repeat' (first|assumption|exact noneN_wel I _ _ 0 ⟨by omega,by omega⟩ (by decide)|exact .inl ⟨rfl,by decide⟩|(refine .inr ⟨by omega,.inr (.inr ⟨?_,fun _=>by rfl⟩)⟩)|(refine wel2 ?_ (by decide) ?_ ?_ ?_ ?_ ?_ ?_ ?_ ?_)|omega|(simp only [mF,mT,Int.le_refl,or_true,true_or,and_true,true_and,and_self,ctE,cC,cN,nC,lC,nF,nT,cF,rank]<;>omega)))))
theorem opt_law(hg:HG I g)(t:Bool)(n:Int)(hn:0≤n∧n≤I.L)(f:Fn){c:Prop}[Decidable c](hf:isEx f=true)(hp:c→pre I f n)(hr:rank f≤20):OkP (if c then g f t n else .ok (noneN 0 n) n) fun x m=>Ex I n x m 0 168:=by
 refine OkP.ite (fun h=>?_) fun h=>?_
 ·refine OkP.mono (hg.ex f t n hf hn (hp h)) ?_
  rintro x m ⟨w1,⟨f1,f2⟩,⟨t1,t2⟩,p1,l1,c1⟩
  exact⟨w1,⟨f1,f2⟩,⟨t1,t2⟩,by omega,l1,by simp only [cF] at c1;omega⟩
 ·have h:=none_ex (I:=I) 0 n hn (by decide)
  exact OkP.ok ⟨h.wel,h.frm,h.to,h.pr,h.L,by have:=h.cnt;omega⟩
theorem eq_law(hg:HG I g)(t:Bool)(n:Int)(hn:0≤n∧n≤I.L)(must:Bool):OkP (equalsS I g must t n) fun x m=>Ex I (x.frm) x m 0 97∧n≤x.frm∧pc I n=pc I x.frm∧cntN x≤2000*(m-n)+1:=by
 unfold equalsS
 refine OkP.ite (fun h=>?_) fun h=>OkP.ite (fun h=>OkP.err) fun h=>OkP.ok ?_
 ·obtain⟨q1,q2,q3⟩:=wq I h (by decide)
  refine OkP.mono (hg.ex .exprs t (n+1) rfl ⟨by omega,by omega⟩ trivial) ?_
  rintro x m ⟨w1,⟨f1,f2⟩,⟨t1,t2⟩,p1,l1,c1⟩;(try simp only [cF,rank] at c1);have r1:=w1.rng
  exact⟨⟨w1,⟨rfl,rfl⟩,⟨t1,t2⟩,by omega,l1,by omega⟩,by omega,by omega,by omega⟩
 ·have h:=none_ex (I:=I) 0 n hn (by decide)
  exact⟨⟨h.wel,h.frm,h.to,h.pr,h.L,by have:=h.cnt;show _≤2000*(n-n-0)+97;omega⟩,Int.le_refl _,rfl,by have:=h.cnt;omega⟩
theorem constSpec_law(hg:HG I g)(t:Bool)(n:Int)(hn:0≤n∧n≤I.L):OkP (constSpecS I g t n) fun x m=>Ex I n x m 1 (cF .constSpec):=by
 unfold constSpecS
 (repeat' (first|(refine OkP.bnd (eq_law hg _ _ ⟨by omega,by omega⟩ _) ?_;rintro x m ⟨⟨w1,⟨f1,f2⟩,⟨t1,t2⟩,p1,l1,c1⟩,e1,e2,e3⟩;have r1:=w1.rng)|(refine OkP.ite ?_ ?_<;>intro h<;>(try ((refine (wq I h ?a).use ?_;(case a=>decide);intro q1 q2 q3))); (try (refine (wq I h.2 ?a).use ?_;(case a=>decide);intro q4 q5 q6)))|(refine OkP.bnd (hg.ex _ _ _ rfl ⟨by omega,by omega⟩ (by exact trivial)) ?_;rintro x m ⟨w1,⟨f1,f2⟩,⟨t1,t2⟩,p1,l1,c1⟩;(try simp only [cF,rank] at c1);have r1:=w1.rng)|(refine OkP.ok ?_)))
 all_goals (refine⟨?_,⟨?_,?_⟩,⟨?_,?_⟩,?_,?_,?_⟩<;>(try simp only [mF,mT,Int.le_refl,or_true,true_or,and_true,true_and,and_self,ctE,cC,cN,nC,lC,nF,nT,cF,rank])<;>(first|omega|(repeat' (first|assumption|exact noneN_wel I _ _ 0 ⟨by omega,by omega⟩ (by decide)|exact .inl ⟨rfl,by decide⟩|(refine wel3 ?_ (by decide) ?_ ?_ ?_ ?_ ?_ ?_ ?_ ?_ ?_ ?_ ?_)|omega|(simp only [mF,mT,Int.le_refl,or_true,true_or,and_true,true_and,and_self,ctE,cC,cN,nC,lC,nF,nT,cF,rank]<;>omega)))))
theorem valueSpec_law(hg:HG I g)(t:Bool)(n:Int)(hn:0≤n∧n≤I.L):OkP (valueSpecS I g t n) fun x m=>Ex I n x m 1 (cF .valueSpec):=by
 unfold valueSpecS
 (repeat' (first|(refine OkP.bnd (eq_law hg _ _ ⟨by omega,by omega⟩ _) ?_;rintro x m ⟨⟨w1,⟨f1,f2⟩,⟨t1,t2⟩,p1,l1,c1⟩,e1,e2,e3⟩;have r1:=w1.rng)|(refine OkP.ite ?_ ?_<;>intro h<;>(try ((refine (wq I h ?a).use ?_;(case a=>decide);intro q1 q2 q3))); (try (refine (wq I h.2 ?a).use ?_;(case a=>decide);intro q4 q5 q6)))|(refine OkP.bnd (hg.ex _ _ _ rfl ⟨by omega,by omega⟩ (by exact trivial)) ?_;rintro x m ⟨w1,⟨f1,f2⟩,⟨t1,t2⟩,p1,l1,c1⟩;(try simp only [cF,rank] at c1);have r1:=w1.rng)|(refine OkP.ok ?_)))
 all_goals (refine⟨?_,⟨?_,?_⟩,⟨?_,?_⟩,?_,?_,?_⟩<;>(try simp only [mF,mT,Int.le_refl,or_true,true_or,and_true,true_and,and_self,ctE,cC,cN,nC,lC,nF,nT,cF,rank])<;>(first|omega|(repeat' (first|assumption|exact noneN_wel I _ _ 0 ⟨by omega,by omega⟩ (by decide)|exact .inl ⟨rfl,by decide⟩|(refine wel3 ?_ (by decide) ?_ ?_ ?_ ?_ ?_ ?_ ?_ ?_ ?_ ?_ ?_)|omega|(simp only [mF,mT,Int.le_refl,or_true,true_or,and_true,true_and,and_self,ctE,cC,cN,nC,lC,nF,nT,cF,rank]<;>omega)))))
theorem typeSpec_law(hg:HG I g)(t:Bool)(n:Int)(hn:0≤n∧n≤I.L):OkP (typeSpecS I g t n) fun x m=>Ex I n x m 1 (cF .typeSpec):=by
 unfold typeSpecS
 (repeat' (first|(refine OkP.bnd (opt_law hg _ _ ⟨by omega,by omega⟩ _ rfl (fun _=>trivial) (by decide)) ?_;rintro x m ⟨w1,⟨f1,f2⟩,⟨t1,t2⟩,p1,l1,c1⟩;(try simp only [cF,rank] at c1);have r1:=w1.rng)|(refine OkP.ite ?_ ?_<;>intro h<;>(try ((refine (wq I h ?a).use ?_;(case a=>decide);intro q1 q2 q3))); (try (refine (wq I h.2 ?a).use ?_;(case a=>decide);intro q4 q5 q6)))|(refine OkP.bnd (nameS_ok I _) ?_;rintro x m ⟨⟨w1,⟨f1,f2⟩,⟨t1,t2⟩,p1,l1,c1⟩,rfl,rfl,hk⟩;have r1:=w1.rng)|(refine OkP.bnd (hg.ex _ _ _ rfl ⟨by omega,by omega⟩ (by exact trivial)) ?_;rintro x m ⟨w1,⟨f1,f2⟩,⟨t1,t2⟩,p1,l1,c1⟩;(try simp only [cF,rank] at c1);have r1:=w1.rng)|(refine OkP.ok ?_)))
 all_goals (refine⟨?_,⟨?_,?_⟩,⟨?_,?_⟩,?_,?_,?_⟩<;>(try simp only [mF,mT,Int.le_refl,or_true,true_or,and_true,true_and,and_self,ctE,cC,cN,nC,lC,nF,nT,cF,rank])<;>(first|omega|(repeat' (first|assumption|exact .inl ⟨rfl,by decide⟩|(refine .inr ⟨by omega,.inr (.inr ⟨?_,fun _=>by omega⟩)⟩)|(refine wel3 ?_ (by decide) ?_ ?_ ?_ ?_ ?_ ?_ ?_ ?_ ?_ ?_ ?_)|omega))))
theorem fn_law(hg:HG I g)(t:Bool)(n:Int)(hn:0≤n∧n≤I.L):OkP (fnS I g t n) fun x m=>Ex I n x m 1 (cF .fn):=by
 unfold fnS
 (repeat' (first|(refine OkP.bnd (opt_law hg _ _ ⟨by omega,by omega⟩ _ rfl (fun _=>trivial) (by decide)) ?_;rintro x m ⟨w1,⟨f1,f2⟩,⟨t1,t2⟩,p1,l1,c1⟩;(try simp only [cF,rank] at c1);have r1:=w1.rng)|(refine OkP.bnd (OkP.want I (by decide)) ?_;rintro _ m ⟨rfl,h,q1,q2,q3⟩)|(refine OkP.bnd (nameS_ok I _) ?_;rintro x m ⟨⟨w1,⟨f1,f2⟩,⟨t1,t2⟩,p1,l1,c1⟩,rfl,rfl,hk⟩;have r1:=w1.rng)|(refine OkP.bnd (hg.ex _ _ _ rfl ⟨by omega,by omega⟩ (by exact trivial)) ?_;rintro x m ⟨w1,⟨f1,f2⟩,⟨t1,t2⟩,p1,l1,c1⟩;(try simp only [cF,rank] at c1);have r1:=w1.rng)|(refine OkP.ok ?_)))
 all_goals (refine⟨?_,⟨?_,?_⟩,⟨?_,?_⟩,?_,?_,?_⟩<;>(try simp only [mF,mT,Int.le_refl,or_true,true_or,and_true,true_and,and_self,ctE,cC,cN,nC,lC,nF,nT,cF,rank])<;>(first|omega|(repeat' (first|assumption|exact .inl ⟨rfl,by decide⟩|(refine wel5 ?_ (by decide) ?_ ?_ ?_ ?_ ?_ ?_ ?_ ?_ ?_ ?_ ?_ ?_ ?_ ?_ ?_ ?_ ?_)|omega))))
theorem unionOne_law(hg:HG I g)(t:Bool)(n:Int)(hn:0≤n∧n≤I.L):OkP (unionOne I g t n) fun x m=>Ex I n x m 1 41:=by
 unfold unionOne
 (repeat' (first|(refine OkP.ite ?_ ?_<;>intro h<;>(try ((refine (wq I h ?a).use ?_;(case a=>decide);intro q1 q2 q3))); (try (refine (wq I h.2 ?a).use ?_;(case a=>decide);intro q4 q5 q6)))|(refine OkP.bnd (hg.ex _ _ _ rfl ⟨by omega,by omega⟩ (by exact trivial)) ?_;rintro x m ⟨w1,⟨f1,f2⟩,⟨t1,t2⟩,p1,l1,c1⟩;(try simp only [cF,rank] at c1);have r1:=w1.rng)|(refine OkP.mono (hg.ex _ _ _ rfl ⟨by omega,by omega⟩ (by exact trivial)) ?_;rintro x m ⟨w1,⟨f1,f2⟩,⟨t1,t2⟩,p1,l1,c1⟩;(try simp only [cF,rank] at c1);have r1:=w1.rng)|(refine OkP.ok ?_)))
 all_goals (refine⟨?_,⟨?_,?_⟩,⟨?_,?_⟩,?_,?_,?_⟩<;>(try simp only [mF,mT,Int.le_refl,or_true,true_or,and_true,true_and,and_self,ctE,cC,cN,nC,lC,nF,nT,cF,rank])<;>(first|omega|(repeat' (first|assumption|exact .inl ⟨rfl,by decide⟩|(refine wel1 ?_ (by decide) ?_ ?_ ?_ ?_ ?_)|omega))))
theorem union_law(hg:HG I g)(t:Bool)(n:Int)(hn:0≤n∧n≤I.L):OkP (unionS I g t n) fun x m=>Ex I n x m 1 (cF .union):=by
 unfold unionS
 refine OkP.mono (sepS_ok I (c:=41) 18 _ _ (by decide) (by decide) (by decide) (fun n hn=>unionOne_law hg t n hn) n hn) ?_
 rintro x m ⟨w1,⟨f1,f2⟩,⟨t1,t2⟩,p1,l1,c1⟩;(try simp only [cF,rank] at c1);have r1:=w1.rng
 (refine⟨?_,⟨?_,?_⟩,⟨?_,?_⟩,?_,?_,?_⟩<;>(try simp only [mF,mT,Int.le_refl,or_true,true_or,and_true,true_and,and_self,ctE,cC,cN,nC,lC,nF,nT,cF,rank])<;>(omega))
theorem elem_law(hg:HG I g)(t:Bool)(n:Int)(hn:0≤n∧n≤I.L):OkP (elemS I g t n) fun x m=>Ex I n x m 1 (cF .elem):=by
 unfold elemS
 (repeat' (first|(refine OkP.ite ?_ ?_<;>intro h<;>(try ((refine (wqe I (n:=(n+1)) ?a).use ?_;(case a=>(intro e;rw [e] at h;first|(refine absurd h.2 ?_;decide)));intro q1 q2 q3))); (try (refine (wq I h.2 ?a).use ?_;(case a=>decide);intro q4 q5 q6)))|(refine OkP.bnd (nameS_ok I _) ?_;rintro x m ⟨⟨w1,⟨f1,f2⟩,⟨t1,t2⟩,p1,l1,c1⟩,rfl,rfl,hk⟩;have r1:=w1.rng)|(refine OkP.bnd (hg.ex _ _ _ rfl ⟨by omega,by omega⟩ (by exact trivial)) ?_;rintro x m ⟨w1,⟨f1,f2⟩,⟨t1,t2⟩,p1,l1,c1⟩;(try simp only [cF,rank] at c1);have r1:=w1.rng)|(refine OkP.mono (hg.ex _ _ _ rfl ⟨by omega,by omega⟩ (by exact trivial)) ?_;rintro x m ⟨w1,⟨f1,f2⟩,⟨t1,t2⟩,p1,l1,c1⟩;(try simp only [cF,rank] at c1);have r1:=w1.rng)|(refine OkP.ok ?_)))
 all_goals (refine⟨?_,⟨?_,?_⟩,⟨?_,?_⟩,?_,?_,?_⟩<;>(try simp only [mF,mT,Int.le_refl,or_true,true_or,and_true,true_and,and_self,ctE,cC,cN,nC,lC,nF,nT,cF,rank])<;>(first|omega|(repeat' (first|assumption|exact .inl ⟨rfl,by decide⟩|(refine wel2 ?_ (by decide) ?_ ?_ ?_ ?_ ?_ ?_ ?_ ?_)|omega))))
theorem field_law(hg:HG I g)(t:Bool)(n:Int)(hn:0≤n∧n≤I.L):OkP (fieldS I g t n) fun x m=>Ex I n x m 1 (cF .field):=by
 unfold fieldS
 (repeat' (first|(refine OkP.bnd (tag_law _ ⟨by omega,by omega⟩) ?_;rintro x m ⟨w1,⟨f1,f2⟩,⟨t1,t2⟩,p1,l1,c1⟩;(try simp only [cF,rank] at c1);have r1:=w1.rng)|(refine OkP.ite ?_ ?_<;>intro h<;>(try (first|(refine (wq I h ?a).use ?_;(case a=>decide);intro q1 q2 q3)|(refine (kq I (.inl h)).use ?_;intro q1 q2 q3))); (try (refine (wq I h.2 ?a).use ?_;(case a=>decide);intro q4 q5 q6)))|(refine OkP.bnd (hg.ex _ _ _ rfl ⟨by omega,by omega⟩ (by exact trivial)) ?_;rintro x m ⟨w1,⟨f1,f2⟩,⟨t1,t2⟩,p1,l1,c1⟩;(try simp only [cF,rank] at c1);have r1:=w1.rng)|(refine OkP.ok ?_)|(exact OkP.err)))
 all_goals (refine⟨?_,⟨?_,?_⟩,⟨?_,?_⟩,?_,?_,?_⟩<;>(try simp only [mF,mT,Int.le_refl,or_true,true_or,and_true,true_and,and_self,ctE,cC,cN,nC,lC,nF,nT,cF,rank])<;>(first|omega|(repeat' (first|assumption|exact .inl ⟨rfl,by decide⟩|(refine wel1 ?_ (by decide) ?_ ?_ ?_ ?_ ?_)|(refine wel2 ?_ (by decide) ?_ ?_ ?_ ?_ ?_ ?_ ?_ ?_)|(refine wel3 ?_ (by decide) ?_ ?_ ?_ ?_ ?_ ?_ ?_ ?_ ?_ ?_ ?_)|omega|(simp only [mF,mT,Int.le_refl,or_true,true_or,and_true,true_and,and_self,ctE,cC,cN,nC,lC,nF,nT,cF,rank]<;>omega)))))
theorem signature_law(hg:HG I g)(t:Bool)(n:Int)(hn:0≤n∧n≤I.L):OkP (signatureS I g t n) fun x m=>Ex I n x m 1 (cF .signature):=by
 unfold signatureS
 (repeat' (first|(refine OkP.ite ?_ ?_<;>intro h<;>(try ((refine (wq I h ?a).use ?_;(case a=>decide);intro q1 q2 q3))); (try (refine (wq I h.2 ?a).use ?_;(case a=>decide);intro q4 q5 q6)))|(refine OkP.bnd (hg.ex _ _ _ rfl ⟨by omega,by omega⟩ (by exact trivial)) ?_;rintro x m ⟨w1,⟨f1,f2⟩,⟨t1,t2⟩,p1,l1,c1⟩;(try simp only [cF,rank] at c1);have r1:=w1.rng)|(refine OkP.ok ?_)))
 all_goals (refine⟨?_,⟨?_,?_⟩,⟨?_,?_⟩,?_,?_,?_⟩<;>(try simp only [mF,mT,Int.le_refl,or_true,true_or,and_true,true_and,and_self,ctE,cC,cN,nC,lC,nF,nT,cF,rank])<;>(first|omega|(repeat' (first|assumption|exact noneN_wel I _ _ 0 ⟨by omega,by omega⟩ (by decide)|exact .inl ⟨rfl,by decide⟩|(refine wel2 ?_ (by decide) ?_ ?_ ?_ ?_ ?_ ?_ ?_ ?_)|omega|(simp only [mF,mT,Int.le_refl,or_true,true_or,and_true,true_and,and_self,ctE,cC,cN,nC,lC,nF,nT,cF,rank]<;>omega)))))
theorem param_law(hg:HG I g)(t:Bool)(n:Int)(hn:0≤n∧n≤I.L):OkP (paramS I g t n) fun x m=>Ex I n x m 1 (cF .param):=by
 unfold paramS
 (repeat' (first|(refine OkP.bnd (bare_law _ ⟨by omega,by omega⟩) ?_;rintro x m ⟨w1,⟨f1,f2⟩,⟨t1,t2⟩,p1,l1,c1⟩;(try simp only [cF,rank] at c1);have r1:=w1.rng)|(refine OkP.ite ?_ ?_<;>intro h<;>(try ((refine (wq I h ?a).use ?_;(case a=>decide);intro q1 q2 q3))); (try (refine (wq I h.2 ?a).use ?_;(case a=>decide);intro q4 q5 q6)))|(refine OkP.bnd (hg.ex _ _ _ rfl ⟨by omega,by omega⟩ (by exact trivial)) ?_;rintro x m ⟨w1,⟨f1,f2⟩,⟨t1,t2⟩,p1,l1,c1⟩;(try simp only [cF,rank] at c1);have r1:=w1.rng)|(refine OkP.ok ?_)))
 all_goals (refine⟨?_,⟨?_,?_⟩,⟨?_,?_⟩,?_,?_,?_⟩<;>(try simp only [mF,mT,Int.le_refl,or_true,true_or,and_true,true_and,and_self,ctE,cC,cN,nC,lC,nF,nT,cF,rank])<;>(first|omega|(repeat' (first|assumption|exact .inl ⟨rfl,by decide⟩|(refine .inr ⟨by omega,.inr (.inr ⟨?_,fun _=>by omega⟩)⟩)|(refine wel2 ?_ (by decide) ?_ ?_ ?_ ?_ ?_ ?_ ?_ ?_)|omega))))
theorem tparam_law(hg:HG I g)(t:Bool)(n:Int)(hn:0≤n∧n≤I.L):OkP (tparamS g t n) fun x m=>Ex I n x m 1 48:=by
 unfold tparamS
 (repeat' (first|(refine OkP.bnd (hg.ex _ _ _ rfl ⟨by omega,by omega⟩ (by exact trivial)) ?_;rintro x m ⟨w1,⟨f1,f2⟩,⟨t1,t2⟩,p1,l1,c1⟩;(try simp only [cF,rank] at c1);have r1:=w1.rng)|(refine OkP.ok ?_)))
 all_goals (refine⟨?_,⟨?_,?_⟩,⟨?_,?_⟩,?_,?_,?_⟩<;>(try simp only [mF,mT,Int.le_refl,or_true,true_or,and_true,true_and,and_self,ctE,cC,cN,nC,lC,nF,nT,cF,rank])<;>(first|omega|(repeat' (first|assumption|exact .inl ⟨rfl,by decide⟩|(refine wel2 ?_ (by decide) ?_ ?_ ?_ ?_ ?_ ?_ ?_ ?_)|omega))))
theorem tparams_law(hg:HG I g)(t:Bool)(n:Int)(hn:0≤n∧n≤I.L):OkP (tparamsS I g t n) fun x m=>Ex I n x m 1 (cF .tparams):=by
 unfold tparamsS
 refine OkP.ite (fun h=>OkP.err) fun hb=>?_
 refine OkP.bnd (rowsS_ok I (c:=48) _ _ _ _ (by decide) (by decide) (fun n hn=>tparam_law hg t n hn) n hn) ?_
 rintro⟨l,w⟩ m ⟨a1,a2,a3,a4,a5,a6,a7,a8⟩
 dsimp only at *
 obtain⟨b1,b2,b3⟩:=a3
 refine OkP.bnd (OkP.want I (by decide)) ?_
 rintro _ _ ⟨rfl,h,q1,q2,q3⟩
 have hl:=a8 hb
 refine OkP.ok ⟨welR ⟨by omega,by omega,by omega⟩ ⟨by decide,?_⟩ (.inl ⟨rfl,by decide⟩) ((a1.less ⟨by omega,b3.symm⟩).more ⟨by omega,q3.symm⟩),⟨rfl,rfl⟩,⟨rfl,rfl⟩,by omega,by omega,by simp only [mF,mT,Int.le_refl,or_true,true_or,and_true,true_and,and_self,ctE,cC,cN,nC,lC,nF,nT,cF,rank];omega⟩
 cases l with
 |nil=>exact absurd rfl hl
 |cons x r=>simp [ArP]
theorem params_law(hg:HG I g)(t:Bool)(n:Int)(hn:0≤n∧n≤I.L):OkP (paramsS I g t n) fun x m=>Ex I n x m 1 (cF .params):=by
 unfold paramsS
 refine OkP.bnd (rowsS_ok I (c:=56) _ _ _ _ (by decide) (by decide) (fun n hn=>hg.ex .param t n rfl hn trivial) n hn) ?_
 rintro⟨l,w⟩ m ⟨a1,a2,a3,a4,a5,a6,a7,a8⟩
 dsimp only at *
 obtain⟨b1,b2,b3⟩:=a3
 refine OkP.bnd (OkP.want I (by decide)) ?_
 rintro _ _ ⟨rfl,h,q1,q2,q3⟩
 refine OkP.ok ⟨welR ⟨by omega,by omega,by omega⟩ ⟨by decide,by simp [ArP]⟩ (.inl ⟨rfl,by decide⟩) ((a1.less ⟨by omega,b3.symm⟩).more ⟨by omega,q3.symm⟩),⟨rfl,rfl⟩,⟨rfl,rfl⟩,by omega,by omega,by simp only [mF,mT,Int.le_refl,or_true,true_or,and_true,true_and,and_self,ctE,cC,cN,nC,lC,nF,nT,cF,rank];omega⟩
theorem arguments_law(hg:HG I g)(t:Bool)(n:Int)(hn:0≤n∧n≤I.L):OkP (argumentsS I g t n) fun x m=>Sp I n x m 1 1:=by
 unfold argumentsS
 refine OkP.ite (fun h=>OkP.err) fun hb=>?_
 refine OkP.bnd (rowsS_ok I (c:=40) _ _ _ _ (by decide) (by decide) (fun n hn=>hg.ex .typ t n rfl hn trivial) n hn) ?_
 rintro⟨l,w⟩ m ⟨a1,a2,a3,a4,a5,a6,a7,a8⟩
 dsimp only at *
 obtain⟨b1,b2,b3⟩:=a3
 refine OkP.bnd (OkP.want I (by decide)) ?_
 rintro _ _ ⟨rfl,h,q1,q2,q3⟩
 obtain⟨w1,⟨f1,f2⟩,e1,⟨t1,t2⟩,p1,l1,c1⟩:=listN_sp (k:=11) (c:=1) a1 (by omega) (by omega) (by decide) (by decide) (by simp [ArP]) (by omega)
 exact OkP.ok ⟨w1,⟨by omega,by omega⟩,e1,⟨by omega,by omega⟩,by omega,by omega,by omega⟩
theorem typeName_law(hg:HG I g)(t:Bool)(n:Int)(hn:0≤n∧n≤I.L):OkP (typeNameS I g t n) fun x m=>Ex I n x m 1 (cF .typeName):=by
 unfold typeNameS
 (repeat' (first|(refine OkP.bnd (arguments_law hg t _ ⟨by omega,by omega⟩) ?_;rintro x m ⟨w1,⟨f1,f2⟩,e1,⟨t1,t2⟩,p1,l1,c1⟩;(try simp only [cF,rank] at c1);have r1:=w1.rng)|(refine OkP.ite ?_ ?_<;>intro h<;>(try ((refine (wq I h ?a).use ?_;(case a=>decide);intro q1 q2 q3))); (try (refine (wq I h.2 ?a).use ?_;(case a=>decide);intro q4 q5 q6)))|(refine OkP.bnd (nameS_ok I _) ?_;rintro x m ⟨⟨w1,⟨f1,f2⟩,⟨t1,t2⟩,p1,l1,c1⟩,rfl,rfl,hk⟩;have r1:=w1.rng)|(refine OkP.ok ?_)))
 all_goals (refine⟨?_,⟨?_,?_⟩,⟨?_,?_⟩,?_,?_,?_⟩<;>(try simp only [mF,mT,Int.le_refl,or_true,true_or,and_true,true_and,and_self,ctE,cC,cN,nC,lC,nF,nT,cF,rank])<;>(first|rfl|omega|(repeat' (first|assumption|exact .inl ⟨rfl,by decide⟩|(refine wel2 ?_ (by decide) ?_ ?_ ?_ ?_ ?_ ?_ ?_ ?_)|omega|(simp only [mF,mT,Int.le_refl,or_true,true_or,and_true,true_and,and_self,ctE,cC,cN,nC,lC,nF,nT,cF,rank]<;>omega)))))
theorem members_law(n:Int)(hn:0≤n∧n≤I.L)(k kk:Int)(one:Int→Out Nd)(frm:Int)(h0:0≤frm∧frm+1=n∧pc I frm=pc I n)(hk:((0≤k∧k≤68)∧ArP k 1∧BareK k)∧kk=20∨((0≤k∧k≤68)∧ArP k 1∧BareK k)∧kk=23)(ho:∀ n,0≤n∧n≤I.L→OkP (one n) fun x m=>Ex I n x m 1 56):OkP (membersS I k kk one frm n) fun x m=>Ex I frm x m 1 8:=by
 unfold membersS
 refine OkP.bnd (rowsS_ok I (c:=56) _ _ _ _ (by decide) (by decide) ho n hn) ?_
 rintro⟨l,w⟩ m ⟨a1,a2,a3,a4,a5,a6,a7,a8⟩
 dsimp only at *
 obtain⟨b1,b2,b3⟩:=a3
 refine OkP.bnd (OkP.want I (by decide)) ?_
 rintro _ _ ⟨rfl,h,q1,q2,q3⟩
 have hk1:((0≤k∧k≤68)∧ArP k 1)∧BareK k:=by rcases hk with h|h<;>exact⟨⟨h.1.1,h.1.2.1⟩,h.1.2.2⟩
 have hk2:(0≤kk∧kk≤68)∧BareK kk∧ArP kk l.length:=by rcases hk with h|h<;>rw [h.2]<;>exact⟨by decide,by decide,by simp [ArP]⟩
 obtain⟨w1,⟨f1,f2⟩,e1,⟨t1,t2⟩,p1,l1,c1⟩:=listN_sp (k:=kk) (c:=1) a1 (by omega) (by omega) hk2.1 hk2.2.1 hk2.2.2 (by omega)
 exact OkP.ok ⟨wel1 ⟨by omega,by omega,by omega⟩ hk1.1 (.inl ⟨rfl,hk1.2⟩) w1 ⟨by omega,by omega⟩ ⟨by omega,by omega⟩ (.inl (by omega)),⟨rfl,rfl⟩,⟨rfl,rfl⟩,by omega,by omega,by simp only [mF,mT,Int.le_refl,or_true,true_or,and_true,true_and,and_self,ctE,cC,cN,nC,lC,nF,nT,cF,rank];omega⟩
theorem row_law(hg:HG I g)(t:Bool)(n:Int)(hn:0≤n)(q:Tq I n):OkP (rowS I g n t (n+1)) fun x m=>Ex I n x m 1 8:=by
 obtain⟨q7,q8,q9⟩:=q
 unfold rowS
 refine OkP.ite (fun h=>?_) fun h=>OkP.ite (fun h=>?_) fun h=>?_
 ·obtain⟨q1,q2,q3⟩:=wq I h (by decide)
  exact wrap_law hg 43 (-1) n t _ ⟨by omega,by omega,by omega,by omega⟩ (by decide) ⟨by omega,fun m hm=>.inl ⟨rfl,by decide⟩⟩
 ·obtain⟨q1,q2,q3⟩:=wq I h (by decide)
  refine OkP.bnd (OkP.want I (by decide)) ?_
  rintro _ _ ⟨rfl,h,q1,q2,q3⟩
  exact wrap_law hg 42 (-1) n t _ ⟨by omega,by omega,by omega,by omega⟩ (by decide) ⟨by omega,fun m hm=>.inl ⟨rfl,by decide⟩⟩
 ·refine OkP.bnd (hg.ex _ _ _ rfl ⟨by omega,by omega⟩ trivial) ?_
  rintro x m ⟨w1,⟨f1,f2⟩,⟨t1,t2⟩,p1,l1,c1⟩;(try simp only [cF,rank] at c1);have r1:=w1.rng
  refine OkP.bnd (OkP.want I (by decide)) ?_
  rintro _ _ ⟨rfl,h,q1,q2,q3⟩
  exact wrap2_law hg 41 n _ t _ ⟨by omega,by omega,by omega⟩ w1 ⟨by omega,by omega⟩ ⟨by omega,by omega⟩ (by omega) (by decide) (by decide)
theorem anyType_law(hg:HG I g)(t:Bool)(n:Int)(hn:0≤n∧n≤I.L):OkP (aTS I g t n) fun x m=>Ex I n x m 1 (cF .anyType):=by
 have up:∀ {o:Out Nd},(OkP o fun x m=>Ex I n x m 1 8)→OkP o fun x m=>Ex I n x m 1 (cF .anyType):=fun h=>OkP.mono h fun x m h=>⟨h.wel,h.frm,h.to,h.pr,h.L,by have:=h.cnt;simp only [cF,rank];omega⟩
 unfold aTS
 refine OkP.ite (fun h=>?_) fun h=>OkP.ite (fun h=>?_) fun h=>OkP.ite (fun h=>?_) fun h=>OkP.ite (fun h=>?_) fun h=>OkP.ite (fun h=>?_) fun h=>OkP.ite (fun h=>?_) fun h=>OkP.ite (fun h=>?_) fun h=>OkP.ite (fun h=>?_) fun h=>OkP.ite (fun h=>?_) fun h=>OkP.ite (fun h=>?_) fun h=>OkP.err
 ·(repeat' ((refine OkP.mono (hg.ex _ _ _ rfl ⟨by omega,by omega⟩ (by exact trivial)) ?_;rintro x m ⟨w1,⟨f1,f2⟩,⟨t1,t2⟩,p1,l1,c1⟩;(try simp only [cF,rank] at c1);have r1:=w1.rng)))
  all_goals (refine⟨?_,⟨?_,?_⟩,⟨?_,?_⟩,?_,?_,?_⟩<;>(try simp only [mF,mT,Int.le_refl,or_true,true_or,and_true,true_and,and_self,ctE,cC,cN,nC,lC,nF,nT,cF,rank])<;>(omega))
 ·obtain⟨q1,q2,q3⟩:=wq I h (by decide)
  exact up (wrap_law hg 35 (-1) n t _ ⟨by omega,by omega,by omega,by omega⟩ (by decide) ⟨by omega,fun m hm=>.inl ⟨rfl,by decide⟩⟩)
 ·obtain⟨q1,q2,q3⟩:=wq I h (by decide)
  (repeat' (first|(refine OkP.bnd (OkP.want I (by decide)) ?_;rintro _ m ⟨rfl,h,q1,q2,q3⟩)|(refine OkP.bnd (hg.ex _ _ _ rfl ⟨by omega,by omega⟩ (by exact trivial)) ?_;rintro x m ⟨w1,⟨f1,f2⟩,⟨t1,t2⟩,p1,l1,c1⟩;(try simp only [cF,rank] at c1);have r1:=w1.rng)|(refine OkP.ok ?_)))
  all_goals (refine⟨?_,⟨?_,?_⟩,⟨?_,?_⟩,?_,?_,?_⟩<;>(try simp only [mF,mT,Int.le_refl,or_true,true_or,and_true,true_and,and_self,ctE,cC,cN,nC,lC,nF,nT,cF,rank])<;>(first|omega|(repeat' (first|assumption|exact .inl ⟨rfl,by decide⟩|(refine wel1 ?_ (by decide) ?_ ?_ ?_ ?_ ?_)|omega))))
 ·exact up (row_law hg t n hn.1 (wq I h (by decide)))
 ·obtain⟨q1,q2,q3⟩:=wq I h (by decide)
  refine OkP.bnd (OkP.want I (by decide)) ?_
  rintro _ _ ⟨rfl,h,q1,q2,q3⟩
  refine OkP.bnd (hg.ex _ _ _ rfl ⟨by omega,by omega⟩ trivial) ?_
  rintro x m ⟨w1,⟨f1,f2⟩,⟨t1,t2⟩,p1,l1,c1⟩;(try simp only [cF,rank] at c1);have r1:=w1.rng
  refine OkP.bnd (OkP.want I (by decide)) ?_
  rintro _ _ ⟨rfl,h,q1,q2,q3⟩
  exact up (wrap2_law hg 44 n _ t _ ⟨by omega,by omega,by omega⟩ w1 ⟨by omega,by omega⟩ ⟨by omega,by omega⟩ (by omega) (by decide) (by decide))
 ·obtain⟨q1,q2,q3⟩:=wq I h (by decide)
  have hmb:maybe I (⟨#[60,45]⟩:ByteArray) (n+1)=n+1∨Tq I (n+1)∧maybe I (⟨#[60,45]⟩:ByteArray) (n+1)=n+1+1:=by
   unfold maybe
   split
   ·rename_i h;exact .inr ⟨wq I h (by decide),rfl⟩
   ·exact .inl rfl
  have hw:∀ m,n<m→WdP I 45 n n m:=fun m hm=>.inr ⟨by omega,.inr (.inr ⟨by simp [WdK,h],fun _=>rfl⟩)⟩
  rcases hmb with e|⟨⟨q4,q5,q6⟩,e⟩<;>rw [e]
  ·exact up (wrap_law hg 45 n n t _ ⟨by omega,by omega,by omega,by omega⟩ (by decide) ⟨by omega,fun m hm=>hw m (by omega)⟩)
  ·exact up (wrap_law hg 45 n n t _ ⟨by omega,by omega,by omega,by omega⟩ (by decide) ⟨by omega,fun m hm=>hw m (by omega)⟩)
 ·obtain⟨q1,q2,q3⟩:=wq I h (by decide)
  have hw:∀ m,n<m→WdP I 45 n n m:=fun m hm=>.inr ⟨by omega,.inr (.inr ⟨by simp [WdK,h],fun _=>rfl⟩)⟩
  refine OkP.bnd (OkP.want I (by decide)) ?_
  rintro _ _ ⟨rfl,h,q4,q5,q6⟩
  exact up (wrap_law hg 45 n n t _ ⟨by omega,by omega,by omega,by omega⟩ (by decide) ⟨by omega,fun m hm=>hw m (by omega)⟩)
 ·obtain⟨q1,q2,q3⟩:=wq I h (by decide)
  (repeat' (first|(refine OkP.bnd (hg.ex _ _ _ rfl ⟨by omega,by omega⟩ (by exact trivial)) ?_;rintro x m ⟨w1,⟨f1,f2⟩,⟨t1,t2⟩,p1,l1,c1⟩;(try simp only [cF,rank] at c1);have r1:=w1.rng)|(refine OkP.ok ?_)))
  all_goals (refine⟨?_,⟨?_,?_⟩,⟨?_,?_⟩,?_,?_,?_⟩<;>(try simp only [mF,mT,Int.le_refl,or_true,true_or,and_true,true_and,and_self,ctE,cC,cN,nC,lC,nF,nT,cF,rank])<;>(first|omega|(repeat' (first|assumption|exact .inl ⟨rfl,by decide⟩|(refine wel1 ?_ (by decide) ?_ ?_ ?_ ?_ ?_)|omega))))
 ·obtain⟨q1,q2,q3⟩:=wq I h (by decide)
  exact up (members_law (n+1) ⟨by omega,by omega⟩ 47 20 _ n ⟨by omega,rfl,by omega⟩ (.inl ⟨by decide,rfl⟩) fun n hn=>hg.ex .field t n rfl hn trivial)
 ·obtain⟨q1,q2,q3⟩:=wq I h (by decide)
  exact up (members_law (n+1) ⟨by omega,by omega⟩ 48 23 _ n ⟨by omega,rfl,by omega⟩ (.inr ⟨by decide,rfl⟩) fun n hn=>hg.ex .elem t n rfl hn trivial)
theorem spec_law(hg:HG I g)(t:Bool)(n:Int)(hn:0≤n∧n≤I.L)(w:ByteArray):OkP (g (specOf w) t n) fun x m=>Ex I n x m 1 64:=by
 have h:isEx (specOf w)=true∧pre I (specOf w) n∧cF (specOf w)≤64:=by
  unfold specOf
  split
  ·exact⟨rfl,trivial,by decide⟩
  ·split
   ·exact⟨rfl,trivial,by decide⟩
   ·split
    ·exact⟨rfl,trivial,by decide⟩
    ·exact⟨rfl,trivial,by decide⟩
 refine OkP.mono (hg.ex _ _ _ h.1 hn h.2.1) ?_
 rintro x m ⟨w1,⟨f1,f2⟩,⟨t1,t2⟩,p1,l1,c1⟩
 exact⟨w1,⟨f1,f2⟩,⟨t1,t2⟩,p1,l1,by omega⟩
theorem group_law(hg:HG I g)(t:Bool)(n:Int)(hn:0≤n∧n≤I.L)(hp:pre I .group n):OkP (groupS I g t n) fun x m=>Ex I n x m 1 (cF .group):=by
 have hq:Tq I n:=wqe I fun e=>by
  simp only [pre] at hp
  rw [e] at hp
  revert hp
  decide
 obtain⟨q7,q8,q9⟩:=hq
 unfold groupS
 refine OkP.ite (fun h=>?_) fun h=>?_
 ·have hk:WdK 4 (word I n):=by simp only [WdK];simp;exact hp
  refine OkP.bnd (rowsS_ok I (c:=64) _ _ _ _ (by decide) (by decide) (fun n' hn=>spec_law hg t n' hn (word I n)) (n+1) ⟨by omega,by omega⟩) ?_
  rintro⟨l,w⟩ m ⟨a1,a2,a3,a4,a5,a6,a7,a8⟩
  dsimp only at *
  obtain⟨b1,b2,b3⟩:=a3
  refine OkP.bnd (OkP.want I (by decide)) ?_
  rintro _ _ ⟨rfl,h,q1,q2,q3⟩
  exact OkP.ok ⟨welR ⟨by omega,by omega,by omega⟩ ⟨by decide,by simp [ArP]⟩ (.inr ⟨by omega,.inr (.inr ⟨hk,fun e=>by omega⟩)⟩) (((a1.word (by omega)).less ⟨by omega,by omega⟩).more ⟨by omega,by omega⟩),⟨rfl,rfl⟩,⟨rfl,rfl⟩,by omega,by omega,by simp only [mF,mT,Int.le_refl,or_true,true_or,and_true,true_and,and_self,ctE,cC,cN,nC,lC,nF,nT,cF,rank];omega⟩
 ·have hk:WdK 3 (word I n):=by simp only [WdK];simp;exact hp
  refine OkP.bnd (spec_law hg t (n+1) ⟨by omega,by omega⟩ _) ?_
  rintro x m ⟨w1,⟨f1,f2⟩,⟨t1,t2⟩,p1,l1,c1⟩;(try simp only [cF,rank] at c1);have r1:=w1.rng
  refine OkP.ok ?_
  (refine⟨?_,⟨?_,?_⟩,⟨?_,?_⟩,?_,?_,?_⟩<;>(try simp only [mF,mT,Int.le_refl,or_true,true_or,and_true,true_and,and_self,ctE,cC,cN,nC,lC,nF,nT,cF,rank])<;>(first|omega|(repeat' (first|assumption|(refine .inr ⟨by omega,.inr (.inr ⟨?_,fun _=>by rfl⟩)⟩)|(refine wel1 ?_ (by decide) ?_ ?_ ?_ ?_ ?_)|omega))))
theorem impGo_law(hg:HG I g)(t:Bool)(n0:Int)(h0:0≤n0):∀ (f:Nat) (acc:List Nd) (n:Int),n0≤n→n≤I.L→WelL I (-1) acc n0 n→cntL acc≤2000*(n-n0)→OkP (impGo I g t f acc n) fun l m=>n0≤m∧m≤I.L∧WelL I (-1) l n0 m∧cntL l≤2000*(m-n0)
 |0,acc,n,_,_,_,_=>OkP.err
 |f+1,acc,n,h1,h2,h3,h4=>by
  unfold impGo
  refine OkP.ite (fun h=>?_) fun h=>OkP.ok ⟨h1,h2,h3,h4⟩
  refine OkP.bnd (hg.ex _ _ _ rfl ⟨by omega,by omega⟩ (.inl h)) ?_
  rintro x m ⟨w1,⟨f1,f2⟩,⟨t1,t2⟩,p1,l1,c1⟩;(try simp only [cF,rank] at c1);have r1:=w1.rng
  refine OkP.bnd (OkP.want I (by decide)) ?_
  rintro _ _ ⟨rfl,h,q1,q2,q3⟩
  exact impGo_law hg t n0 h0 f _ (m+1) (by omega) (by omega) (WelL.snoc h3 ⟨by omega,by omega⟩ (.inl (by omega)) w1 ⟨by omega,by omega⟩) (by rw [cntL_snoc];omega)
theorem declGo_law(hg:HG I g)(t:Bool)(n0:Int)(h0:0≤n0):∀ (f:Nat) (acc:List Nd) (n:Int),n0≤n→n≤I.L→WelL I (-1) acc n0 n→cntL acc≤2000*(n-n0)→OkP (declGo I g t f acc n) fun l m=>n0≤m∧m≤I.L∧WelL I (-1) l n0 m∧cntL l≤2000*(m-n0)
 |0,acc,n,_,_,_,_=>OkP.err
 |f+1,acc,n,h1,h2,h3,h4=>by
  unfold declGo
  refine OkP.ite (fun h=>?_) fun h=>OkP.ite (fun h=>?_) fun h=>OkP.ok ⟨h1,h2,h3,h4⟩
  ·refine OkP.bnd (hg.ex _ _ _ rfl ⟨by omega,by omega⟩ (.inr h)) ?_
   rintro x m ⟨w1,⟨f1,f2⟩,⟨t1,t2⟩,p1,l1,c1⟩;(try simp only [cF,rank] at c1);have r1:=w1.rng
   refine OkP.bnd (OkP.want I (by decide)) ?_
   rintro _ _ ⟨rfl,h,q1,q2,q3⟩
   exact declGo_law hg t n0 h0 f _ (m+1) (by omega) (by omega) (WelL.snoc h3 ⟨by omega,by omega⟩ (.inl (by omega)) w1 ⟨by omega,by omega⟩) (by rw [cntL_snoc];omega)
  ·refine OkP.bnd (hg.ex _ _ _ rfl ⟨by omega,by omega⟩ trivial) ?_
   rintro x m ⟨w1,⟨f1,f2⟩,⟨t1,t2⟩,p1,l1,c1⟩;(try simp only [cF,rank] at c1);have r1:=w1.rng
   refine OkP.bnd (OkP.want I (by decide)) ?_
   rintro _ _ ⟨rfl,h,q1,q2,q3⟩
   exact declGo_law hg t n0 h0 f _ (m+1) (by omega) (by omega) (WelL.snoc h3 ⟨by omega,by omega⟩ (.inl (by omega)) w1 ⟨by omega,by omega⟩) (by rw [cntL_snoc];omega)
theorem file_law(hg:HG I g)(t:Bool)(n:Int)(hn:0≤n∧n≤I.L):OkP (fileS I g t n) fun x m=>Ex I n x m 1 (cF .file):=by
 unfold fileS
 refine OkP.bnd (OkP.want I (by decide)) ?_
 rintro _ _ ⟨rfl,h,q1,q2,q3⟩
 refine OkP.bnd (nameS_ok I _) ?_
 rintro x m ⟨⟨w1,⟨f1,f2⟩,⟨t1,t2⟩,p1,l1,c1⟩,rfl,rfl,hk⟩
 have r1:=w1.rng
 refine OkP.bnd (OkP.want I (by decide)) ?_
 rintro _ _ ⟨rfl,h,q4,q5,q6⟩
 refine OkP.bnd (impGo_law hg t (n+1+1+1) (by omega) _ [] (n+1+1+1) (Int.le_refl _) (by omega) (by unfold WelL;exact⟨Int.le_refl _,rfl⟩) (by simp only [cntL];omega)) ?_
 rintro l m ⟨a1,a2,a3,a4⟩
 refine OkP.bnd (declGo_law hg t m (by omega) _ [] m (Int.le_refl _) (by omega) (by unfold WelL;exact⟨Int.le_refl _,rfl⟩) (by simp only [cntL];omega)) ?_
 rintro l2 m2 ⟨b1,b2,b3,b4⟩
 obtain⟨w3,⟨f3,g3⟩,e3,⟨t3,u3⟩,p3,l3,c3⟩:=listN_sp (k:=2) (c:=1) a3 (by omega) (by omega) (by decide) (by decide) (by simp [ArP]) (by omega)
 obtain⟨w4,⟨f4,g4⟩,e4,⟨t4,u4⟩,p4,l4,c4⟩:=listN_sp (k:=2) (c:=1) b3 (by omega) (by omega) (by decide) (by decide) (by simp [ArP]) (by omega)
 have r3:=w3.rng
 have r4:=w4.rng
 refine OkP.ok ?_
 (refine⟨?_,⟨?_,?_⟩,⟨?_,?_⟩,?_,?_,?_⟩<;>(try simp only [mF,mT,Int.le_refl,or_true,true_or,and_true,true_and,and_self,ctE,cC,cN,nC,lC,nF,nT,cF,rank])<;>(first|omega|(repeat' (first|assumption|exact .inl ⟨rfl,by decide⟩|(refine wel3 ?_ (by decide) ?_ ?_ ?_ ?_ ?_ ?_ ?_ ?_ ?_ ?_ ?_)|omega))))
end
end Go.Ex
