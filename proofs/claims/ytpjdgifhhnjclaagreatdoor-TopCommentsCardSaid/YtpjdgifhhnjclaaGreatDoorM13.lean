/-
  Top: TopComments: whatever the input, the law answers true (part 13)
-/
import Derived.Test.YtpjdgifhhnjclaaGreatDoorM12
set_option linter.unusedVariables false
set_option linter.unusedSimpArgs false
set_option maxHeartbeats 4000000
set_option maxRecDepth 10000
namespace Go.Ex
open Go.Proofs
section
variable {I:In}{g:Gt}
theorem Ew(n:Int)(hn:0≤n∧n≤I.L):A8 (rB I n) fun x m=>Ex I n x m 0 1:=by
 unfold rB
 refine A8.ite (fun h=>?_) fun h=>?_
 ·refine A8.mono (Wj I n) ?_
  rintro x m ⟨⟨w1,⟨f1,f2⟩,⟨t1,t2⟩,p1,l1,c1⟩,_⟩
  exact⟨w1,⟨f1,f2⟩,⟨t1,t2⟩,by omega,l1,by omega⟩
 ·exact A8.ok ⟨G6 I 0 n 0 hn (by decide),⟨rfl,rfl⟩,⟨rfl,rfl⟩,by omega,hn.2,by rw [nC];omega⟩
theorem dM(k n:Int)(hn:0≤n∧n≤I.L)(hk:(0≤k∧k≤68)∧dI k 0∧bZ k):Ex I n (E3 k n) n 0 1:=⟨G6 I k n 0 hn hk,⟨rfl,rfl⟩,⟨rfl,rfl⟩,by omega,hn.2,by rw [nC];omega⟩
theorem Fv{c:Prop}[Decidable c](n:Int)(hn:0≤n∧n≤I.L):A8 (if c then .ok (E3 0 n) n else Q7 I n) fun x m=>Ex I n x m 0 1:=by
 refine A8.ite (fun h=>A8.ok (dM 0 n hn (by decide))) fun h=>?_
 refine A8.mono (S5 I n) ?_
 rintro x m ⟨⟨w1,⟨f1,f2⟩,⟨t1,t2⟩,p1,l1,c1⟩,_⟩
 exact⟨w1,⟨f1,f2⟩,⟨t1,t2⟩,by omega,l1,by omega⟩
theorem Co(n:Int)(hn:0≤n∧n≤I.L)(t:Bool):A8 (dX I t n) fun x m=>Ex I n x m 1 (cF .names):=by
 unfold dX
 refine A8.mono (qF I (c:=1) 10 _ _ (by decide) (by decide) (by decide) (fun n hn=>A8.mono (S5 I n) fun x m h=>h.1) n hn) ?_
 rintro x m ⟨w1,⟨f1,f2⟩,⟨t1,t2⟩,p1,l1,c1⟩;(try simp only [cF,A6] at c1);have r1:=w1.rng
 (refine⟨?_,⟨?_,?_⟩,⟨?_,?_⟩,?_,?_,?_⟩<;>(try simp only [sE,cF,A6])<;>(omega))
theorem sS(n:Int)(hn:0≤n∧n≤I.L)(t:Bool):A8 (P5 I t n) fun x m=>Ex I n x m 1 (cF .importSpec):=by
 unfold P5
 (repeat' (first|(refine A8.ite ?_ ?_<;>intro h<;>(try (first|(refine (wq I h ?a).use ?_;(case a=>decide);intro q1 q2 q3)|(refine (kq I (.inl h)).use ?_;intro q1 q2 q3))); (try (refine (wq I h.2 ?a).use ?_;(case a=>decide);intro q4 q5 q6)))|(refine A8.bnd (S5 I _) ?_;rintro x m ⟨⟨w1,⟨f1,f2⟩,⟨t1,t2⟩,p1,l1,c1⟩,rfl,rfl,hk⟩;have r1:=w1.rng)|(refine A8.bnd (Wj I _) ?_;rintro x m ⟨⟨w1,⟨f1,f2⟩,⟨t1,t2⟩,p1,l1,c1⟩,rfl,rfl,hk⟩;have r1:=w1.rng)|(refine A8.ok ?_)))
 all_goals (refine⟨?_,⟨?_,?_⟩,⟨?_,?_⟩,?_,?_,?_⟩<;>(try simp only [sE,cF,A6])<;>(first|omega|(repeat' (first|assumption|exact G6 I _ _ 0 (by omega) (by decide)|exact .inl ⟨rfl,by decide⟩|(refine .inr ⟨by omega,.inr (.inr ⟨?_,fun _=>by rfl⟩)⟩)|(refine eJ ?_ (by decide) ?_ ?_ ?_ ?_ ?_ ?_ ?_ ?_)|omega|(simp only [sE,cF,A6]<;>omega)))))
theorem Hk(hg:HG I g)(t:Bool)(n:Int)(hn:0≤n∧n≤I.L)(f:Fn){c:Prop}[Decidable c](hf:Cx f=true)(hp:c→pre I f n)(hr:A6 f≤20):A8 (if c then g f t n else .ok (E3 0 n) n) fun x m=>Ex I n x m 0 168:=by
 refine A8.ite (fun h=>?_) fun h=>?_
 ·refine A8.mono (hg.ex f t n hf hn (hp h)) ?_
  rintro x m ⟨w1,⟨f1,f2⟩,⟨t1,t2⟩,p1,l1,c1⟩
  exact⟨w1,⟨f1,f2⟩,⟨t1,t2⟩,by omega,l1,by simp only [cF] at c1;omega⟩
 ·have h:=dM (I:=I) 0 n hn (by decide)
  exact A8.ok ⟨h.wel,h.frm,h.to,h.pr,h.L,by have:=h.cnt;omega⟩
theorem Mu(hg:HG I g)(t:Bool)(n:Int)(hn:0≤n∧n≤I.L)(must:Bool):A8 (V1 I g must t n) fun x m=>Ex I (x.frm) x m 0 97∧n≤x.frm∧pc I n=pc I x.frm∧L4 x≤2000*(m-n)+1:=by
 unfold V1
 refine A8.ite (fun h=>?_) fun h=>A8.ite (fun h=>A8.err) fun h=>A8.ok ?_
 ·obtain⟨q1,q2,q3⟩:=wq I h (by decide)
  refine A8.mono (hg.ex .exprs t (n+1) rfl (by omega) trivial) ?_
  rintro x m ⟨w1,⟨f1,f2⟩,⟨t1,t2⟩,p1,l1,c1⟩;(try simp only [cF,A6] at c1);have r1:=w1.rng
  exact⟨⟨w1,⟨rfl,rfl⟩,⟨t1,t2⟩,by omega,l1,by omega⟩,by omega,by omega,by omega⟩
 ·have h:=dM (I:=I) 0 n hn (by decide)
  exact⟨⟨h.wel,h.frm,h.to,h.pr,h.L,by have:=h.cnt;show _≤2000*(n-n-0)+97;omega⟩,Int.le_refl _,rfl,by have:=h.cnt;omega⟩
theorem uV(hg:HG I g)(t:Bool)(n:Int)(hn:0≤n∧n≤I.L):A8 (R9 I g t n) fun x m=>Ex I n x m 1 (cF .constSpec):=by
 unfold R9
 (repeat' (first|(refine A8.bnd (Mu hg _ _ (by omega) _) ?_;rintro x m ⟨⟨w1,⟨f1,f2⟩,⟨t1,t2⟩,p1,l1,c1⟩,e1,e2,e3⟩;have r1:=w1.rng)|(refine A8.ite ?_ ?_<;>intro h<;>(try ((refine (wq I h ?a).use ?_;(case a=>decide);intro q1 q2 q3))); (try (refine (wq I h.2 ?a).use ?_;(case a=>decide);intro q4 q5 q6)))|(refine A8.bnd (hg.ex _ _ _ rfl (by omega) (by exact trivial)) ?_;rintro x m ⟨w1,⟨f1,f2⟩,⟨t1,t2⟩,p1,l1,c1⟩;(try simp only [cF,A6] at c1);have r1:=w1.rng)|(refine A8.ok ?_)))
 all_goals (refine⟨?_,⟨?_,?_⟩,⟨?_,?_⟩,?_,?_,?_⟩<;>(try simp only [sE,cF,A6])<;>(first|omega|(repeat' (first|assumption|exact G6 I _ _ 0 (by omega) (by decide)|exact .inl ⟨rfl,by decide⟩|(refine Oa ?_ (by decide) ?_ ?_ ?_ ?_ ?_ ?_ ?_ ?_ ?_ ?_ ?_)|omega|(simp only [sE,cF,A6]<;>omega)))))
theorem uI(hg:HG I g)(t:Bool)(n:Int)(hn:0≤n∧n≤I.L):A8 (R4 I g t n) fun x m=>Ex I n x m 1 (cF .valueSpec):=by
 unfold R4
 (repeat' (first|(refine A8.bnd (Mu hg _ _ (by omega) _) ?_;rintro x m ⟨⟨w1,⟨f1,f2⟩,⟨t1,t2⟩,p1,l1,c1⟩,e1,e2,e3⟩;have r1:=w1.rng)|(refine A8.ite ?_ ?_<;>intro h<;>(try ((refine (wq I h ?a).use ?_;(case a=>decide);intro q1 q2 q3))); (try (refine (wq I h.2 ?a).use ?_;(case a=>decide);intro q4 q5 q6)))|(refine A8.bnd (hg.ex _ _ _ rfl (by omega) (by exact trivial)) ?_;rintro x m ⟨w1,⟨f1,f2⟩,⟨t1,t2⟩,p1,l1,c1⟩;(try simp only [cF,A6] at c1);have r1:=w1.rng)|(refine A8.ok ?_)))
 all_goals (refine⟨?_,⟨?_,?_⟩,⟨?_,?_⟩,?_,?_,?_⟩<;>(try simp only [sE,cF,A6])<;>(first|omega|(repeat' (first|assumption|exact G6 I _ _ 0 (by omega) (by decide)|exact .inl ⟨rfl,by decide⟩|(refine Oa ?_ (by decide) ?_ ?_ ?_ ?_ ?_ ?_ ?_ ?_ ?_ ?_ ?_)|omega|(simp only [sE,cF,A6]<;>omega)))))
theorem xU(hg:HG I g)(t:Bool)(n:Int)(hn:0≤n∧n≤I.L):A8 (U6 I g t n) fun x m=>Ex I n x m 1 (cF .typeSpec):=by
 unfold U6
 (repeat' (first|(refine A8.bnd (Hk hg _ _ (by omega) _ rfl (fun _=>trivial) (by decide)) ?_;rintro x m ⟨w1,⟨f1,f2⟩,⟨t1,t2⟩,p1,l1,c1⟩;(try simp only [cF,A6] at c1);have r1:=w1.rng)|(refine A8.ite ?_ ?_<;>intro h<;>(try ((refine (wq I h ?a).use ?_;(case a=>decide);intro q1 q2 q3))); (try (refine (wq I h.2 ?a).use ?_;(case a=>decide);intro q4 q5 q6)))|(refine A8.bnd (S5 I _) ?_;rintro x m ⟨⟨w1,⟨f1,f2⟩,⟨t1,t2⟩,p1,l1,c1⟩,rfl,rfl,hk⟩;have r1:=w1.rng)|(refine A8.bnd (hg.ex _ _ _ rfl (by omega) (by exact trivial)) ?_;rintro x m ⟨w1,⟨f1,f2⟩,⟨t1,t2⟩,p1,l1,c1⟩;(try simp only [cF,A6] at c1);have r1:=w1.rng)|(refine A8.ok ?_)))
 all_goals (refine⟨?_,⟨?_,?_⟩,⟨?_,?_⟩,?_,?_,?_⟩<;>(try simp only [sE,cF,A6])<;>(first|omega|(repeat' (first|assumption|exact .inl ⟨rfl,by decide⟩|(refine .inr ⟨by omega,.inr (.inr ⟨?_,fun _=>by omega⟩)⟩)|(refine Oa ?_ (by decide) ?_ ?_ ?_ ?_ ?_ ?_ ?_ ?_ ?_ ?_ ?_)|omega))))
theorem AL(hg:HG I g)(t:Bool)(n:Int)(hn:0≤n∧n≤I.L):A8 (Mx I g t n) fun x m=>Ex I n x m 1 (cF .fn):=by
 unfold Mx
 (repeat' (first|(refine A8.bnd (Hk hg _ _ (by omega) _ rfl (fun _=>trivial) (by decide)) ?_;rintro x m ⟨w1,⟨f1,f2⟩,⟨t1,t2⟩,p1,l1,c1⟩;(try simp only [cF,A6] at c1);have r1:=w1.rng)|(refine A8.bnd (A8.want I (by decide)) ?_;rintro _ m ⟨rfl,h,q1,q2,q3⟩)|(refine A8.bnd (S5 I _) ?_;rintro x m ⟨⟨w1,⟨f1,f2⟩,⟨t1,t2⟩,p1,l1,c1⟩,rfl,rfl,hk⟩;have r1:=w1.rng)|(refine A8.bnd (hg.ex _ _ _ rfl (by omega) (by exact trivial)) ?_;rintro x m ⟨w1,⟨f1,f2⟩,⟨t1,t2⟩,p1,l1,c1⟩;(try simp only [cF,A6] at c1);have r1:=w1.rng)|(refine A8.ok ?_)))
 all_goals (refine⟨?_,⟨?_,?_⟩,⟨?_,?_⟩,?_,?_,?_⟩<;>(try simp only [sE,cF,A6])<;>(first|omega|(repeat' (first|assumption|exact .inl ⟨rfl,by decide⟩|(refine DB ?_ (by decide) ?_ ?_ ?_ ?_ ?_ ?_ ?_ ?_ ?_ ?_ ?_ ?_ ?_ ?_ ?_ ?_ ?_)|omega))))
theorem xT(hg:HG I g)(t:Bool)(n:Int)(hn:0≤n∧n≤I.L):A8 (D5 I g t n) fun x m=>Ex I n x m 1 41:=by
 unfold D5
 (repeat' (first|(refine A8.ite ?_ ?_<;>intro h<;>(try ((refine (wq I h ?a).use ?_;(case a=>decide);intro q1 q2 q3))); (try (refine (wq I h.2 ?a).use ?_;(case a=>decide);intro q4 q5 q6)))|(refine A8.bnd (hg.ex _ _ _ rfl (by omega) (by exact trivial)) ?_;rintro x m ⟨w1,⟨f1,f2⟩,⟨t1,t2⟩,p1,l1,c1⟩;(try simp only [cF,A6] at c1);have r1:=w1.rng)|(refine A8.mono (hg.ex _ _ _ rfl (by omega) (by exact trivial)) ?_;rintro x m ⟨w1,⟨f1,f2⟩,⟨t1,t2⟩,p1,l1,c1⟩;(try simp only [cF,A6] at c1);have r1:=w1.rng)|(refine A8.ok ?_)))
 all_goals (refine⟨?_,⟨?_,?_⟩,⟨?_,?_⟩,?_,?_,?_⟩<;>(try simp only [sE,cF,A6])<;>(first|omega|(repeat' (first|assumption|exact .inl ⟨rfl,by decide⟩|(refine dS ?_ (by decide) ?_ ?_ ?_ ?_ ?_)|omega))))
theorem Wl(hg:HG I g)(t:Bool)(n:Int)(hn:0≤n∧n≤I.L):A8 (fP I g t n) fun x m=>Ex I n x m 1 (cF .union):=by
 unfold fP
 refine A8.mono (qF I (c:=41) 18 _ _ (by decide) (by decide) (by decide) (fun n hn=>xT hg t n hn) n hn) ?_
 rintro x m ⟨w1,⟨f1,f2⟩,⟨t1,t2⟩,p1,l1,c1⟩;(try simp only [cF,A6] at c1);have r1:=w1.rng
 (refine⟨?_,⟨?_,?_⟩,⟨?_,?_⟩,?_,?_,?_⟩<;>(try simp only [sE,cF,A6])<;>(omega))
theorem Pu(hg:HG I g)(t:Bool)(n:Int)(hn:0≤n∧n≤I.L):A8 (mP I g t n) fun x m=>Ex I n x m 1 (cF .elem):=by
 unfold mP
 (repeat' (first|(refine A8.ite ?_ ?_<;>intro h<;>(try ((refine (Mj I (n:=(n+1)) ?a).use ?_;(case a=>(intro e;rw [e] at h;first|(refine absurd h.2 ?_;decide)));intro q1 q2 q3))); (try (refine (wq I h.2 ?a).use ?_;(case a=>decide);intro q4 q5 q6)))|(refine A8.bnd (S5 I _) ?_;rintro x m ⟨⟨w1,⟨f1,f2⟩,⟨t1,t2⟩,p1,l1,c1⟩,rfl,rfl,hk⟩;have r1:=w1.rng)|(refine A8.bnd (hg.ex _ _ _ rfl (by omega) (by exact trivial)) ?_;rintro x m ⟨w1,⟨f1,f2⟩,⟨t1,t2⟩,p1,l1,c1⟩;(try simp only [cF,A6] at c1);have r1:=w1.rng)|(refine A8.mono (hg.ex _ _ _ rfl (by omega) (by exact trivial)) ?_;rintro x m ⟨w1,⟨f1,f2⟩,⟨t1,t2⟩,p1,l1,c1⟩;(try simp only [cF,A6] at c1);have r1:=w1.rng)|(refine A8.ok ?_)))
 all_goals (refine⟨?_,⟨?_,?_⟩,⟨?_,?_⟩,?_,?_,?_⟩<;>(try simp only [sE,cF,A6])<;>(first|omega|(repeat' (first|assumption|exact .inl ⟨rfl,by decide⟩|(refine eJ ?_ (by decide) ?_ ?_ ?_ ?_ ?_ ?_ ?_ ?_)|omega))))
theorem Lp(hg:HG I g)(t:Bool)(n:Int)(hn:0≤n∧n≤I.L):A8 (gJ I g t n) fun x m=>Ex I n x m 1 (cF .field):=by
 unfold gJ
 (repeat' (first|(refine A8.bnd (Ew _ (by omega)) ?_;rintro x m ⟨w1,⟨f1,f2⟩,⟨t1,t2⟩,p1,l1,c1⟩;(try simp only [cF,A6] at c1);have r1:=w1.rng)|(refine A8.ite ?_ ?_<;>intro h<;>(try (first|(refine (wq I h ?a).use ?_;(case a=>decide);intro q1 q2 q3)|(refine (kq I (.inl h)).use ?_;intro q1 q2 q3))); (try (refine (wq I h.2 ?a).use ?_;(case a=>decide);intro q4 q5 q6)))|(refine A8.bnd (hg.ex _ _ _ rfl (by omega) (by exact trivial)) ?_;rintro x m ⟨w1,⟨f1,f2⟩,⟨t1,t2⟩,p1,l1,c1⟩;(try simp only [cF,A6] at c1);have r1:=w1.rng)|(refine A8.ok ?_)|(exact A8.err)))
 all_goals (refine⟨?_,⟨?_,?_⟩,⟨?_,?_⟩,?_,?_,?_⟩<;>(try simp only [sE,cF,A6])<;>(first|omega|(repeat' (first|assumption|exact .inl ⟨rfl,by decide⟩|(refine dS ?_ (by decide) ?_ ?_ ?_ ?_ ?_)|(refine eJ ?_ (by decide) ?_ ?_ ?_ ?_ ?_ ?_ ?_ ?_)|(refine Oa ?_ (by decide) ?_ ?_ ?_ ?_ ?_ ?_ ?_ ?_ ?_ ?_ ?_)|omega|(simp only [sE,cF,A6]<;>omega)))))
theorem uN(hg:HG I g)(t:Bool)(n:Int)(hn:0≤n∧n≤I.L):A8 (R5 I g t n) fun x m=>Ex I n x m 1 (cF .signature):=by
 unfold R5
 (repeat' (first|(refine A8.ite ?_ ?_<;>intro h<;>(try ((refine (wq I h ?a).use ?_;(case a=>decide);intro q1 q2 q3))); (try (refine (wq I h.2 ?a).use ?_;(case a=>decide);intro q4 q5 q6)))|(refine A8.bnd (hg.ex _ _ _ rfl (by omega) (by exact trivial)) ?_;rintro x m ⟨w1,⟨f1,f2⟩,⟨t1,t2⟩,p1,l1,c1⟩;(try simp only [cF,A6] at c1);have r1:=w1.rng)|(refine A8.ok ?_)))
 all_goals (refine⟨?_,⟨?_,?_⟩,⟨?_,?_⟩,?_,?_,?_⟩<;>(try simp only [sE,cF,A6])<;>(first|omega|(repeat' (first|assumption|exact G6 I _ _ 0 (by omega) (by decide)|exact .inl ⟨rfl,by decide⟩|(refine eJ ?_ (by decide) ?_ ?_ ?_ ?_ ?_ ?_ ?_ ?_)|omega|(simp only [sE,cF,A6]<;>omega)))))
theorem Wn(hg:HG I g)(t:Bool)(n:Int)(hn:0≤n∧n≤I.L):A8 (gF I g t n) fun x m=>Ex I n x m 1 (cF .param):=by
 unfold gF
 (repeat' (first|(refine A8.bnd (Fv _ (by omega)) ?_;rintro x m ⟨w1,⟨f1,f2⟩,⟨t1,t2⟩,p1,l1,c1⟩;(try simp only [cF,A6] at c1);have r1:=w1.rng)|(refine A8.ite ?_ ?_<;>intro h<;>(try ((refine (wq I h ?a).use ?_;(case a=>decide);intro q1 q2 q3))); (try (refine (wq I h.2 ?a).use ?_;(case a=>decide);intro q4 q5 q6)))|(refine A8.bnd (hg.ex _ _ _ rfl (by omega) (by exact trivial)) ?_;rintro x m ⟨w1,⟨f1,f2⟩,⟨t1,t2⟩,p1,l1,c1⟩;(try simp only [cF,A6] at c1);have r1:=w1.rng)|(refine A8.ok ?_)))
 all_goals (refine⟨?_,⟨?_,?_⟩,⟨?_,?_⟩,?_,?_,?_⟩<;>(try simp only [sE,cF,A6])<;>(first|omega|(repeat' (first|assumption|exact .inl ⟨rfl,by decide⟩|(refine .inr ⟨by omega,.inr (.inr ⟨?_,fun _=>by omega⟩)⟩)|(refine eJ ?_ (by decide) ?_ ?_ ?_ ?_ ?_ ?_ ?_ ?_)|omega))))
theorem Zf(hg:HG I g)(t:Bool)(n:Int)(hn:0≤n∧n≤I.L):A8 (dJ g t n) fun x m=>Ex I n x m 1 48:=by
 unfold dJ
 (repeat' (first|(refine A8.bnd (hg.ex _ _ _ rfl (by omega) (by exact trivial)) ?_;rintro x m ⟨w1,⟨f1,f2⟩,⟨t1,t2⟩,p1,l1,c1⟩;(try simp only [cF,A6] at c1);have r1:=w1.rng)|(refine A8.ok ?_)))
 all_goals (refine⟨?_,⟨?_,?_⟩,⟨?_,?_⟩,?_,?_,?_⟩<;>(try simp only [sE,cF,A6])<;>(first|omega|(repeat' (first|assumption|exact .inl ⟨rfl,by decide⟩|(refine eJ ?_ (by decide) ?_ ?_ ?_ ?_ ?_ ?_ ?_ ?_)|omega))))
theorem Qa(hg:HG I g)(t:Bool)(n:Int)(hn:0≤n∧n≤I.L):A8 (Z2 I g t n) fun x m=>Ex I n x m 1 (cF .tparams):=by
 unfold Z2
 refine A8.ite (fun h=>A8.err) fun hb=>?_
 refine A8.bnd (eQ I (c:=48) _ _ _ _ (by decide) (by decide) (fun n hn=>Zf hg t n hn) n hn) ?_
 rintro⟨l,w⟩ m ⟨a1,a2,a3,a4,a5,a6,a7,a8⟩
 dsimp only at *
 obtain⟨b1,b2,b3⟩:=a3
 refine A8.bnd (A8.want I (by decide)) ?_
 rintro _ _ ⟨rfl,h,q1,q2,q3⟩
 have hl:=a8 hb
 refine A8.ok ⟨Hz ⟨by omega,by omega,by omega⟩ ⟨by decide,?_⟩ (.inl ⟨rfl,by decide⟩) ((a1.less ⟨by omega,b3.symm⟩).more ⟨by omega,q3.symm⟩),⟨rfl,rfl⟩,⟨rfl,rfl⟩,by omega,by omega,by simp only [sE,cF,A6];omega⟩
 cases l with
 |nil=>exact absurd rfl hl
 |cons x r=>simp [dI]
theorem Fh(hg:HG I g)(t:Bool)(n:Int)(hn:0≤n∧n≤I.L):A8 (cG I g t n) fun x m=>Ex I n x m 1 (cF .params):=by
 unfold cG
 refine A8.bnd (eQ I (c:=56) _ _ _ _ (by decide) (by decide) (fun n hn=>hg.ex .param t n rfl hn trivial) n hn) ?_
 rintro⟨l,w⟩ m ⟨a1,a2,a3,a4,a5,a6,a7,a8⟩
 dsimp only at *
 obtain⟨b1,b2,b3⟩:=a3
 refine A8.bnd (A8.want I (by decide)) ?_
 rintro _ _ ⟨rfl,h,q1,q2,q3⟩
 refine A8.ok ⟨Hz ⟨by omega,by omega,by omega⟩ ⟨by decide,by simp [dI]⟩ (.inl ⟨rfl,by decide⟩) ((a1.less ⟨by omega,b3.symm⟩).more ⟨by omega,q3.symm⟩),⟨rfl,rfl⟩,⟨rfl,rfl⟩,by omega,by omega,by simp only [sE,cF,A6];omega⟩
theorem uX(hg:HG I g)(t:Bool)(n:Int)(hn:0≤n∧n≤I.L):A8 (S2 I g t n) fun x m=>Sp I n x m 1 1:=by
 unfold S2
 refine A8.ite (fun h=>A8.err) fun hb=>?_
 refine A8.bnd (eQ I (c:=40) _ _ _ _ (by decide) (by decide) (fun n hn=>hg.ex .typ t n rfl hn trivial) n hn) ?_
 rintro⟨l,w⟩ m ⟨a1,a2,a3,a4,a5,a6,a7,a8⟩
 dsimp only at *
 obtain⟨b1,b2,b3⟩:=a3
 refine A8.bnd (A8.want I (by decide)) ?_
 rintro _ _ ⟨rfl,h,q1,q2,q3⟩
 obtain⟨w1,⟨f1,f2⟩,e1,⟨t1,t2⟩,p1,l1,c1⟩:=W6 (k:=11) (c:=1) a1 (by omega) (by omega) (by decide) (by decide) (by simp [dI]) (by omega)
 exact A8.ok ⟨w1,(by omega),e1,(by omega),by omega,by omega,by omega⟩
theorem xW(hg:HG I g)(t:Bool)(n:Int)(hn:0≤n∧n≤I.L):A8 (U7 I g t n) fun x m=>Ex I n x m 1 (cF .typeName):=by
 unfold U7
 (repeat' (first|(refine A8.bnd (uX hg t _ (by omega)) ?_;rintro x m ⟨w1,⟨f1,f2⟩,e1,⟨t1,t2⟩,p1,l1,c1⟩;(try simp only [cF,A6] at c1);have r1:=w1.rng)|(refine A8.ite ?_ ?_<;>intro h<;>(try ((refine (wq I h ?a).use ?_;(case a=>decide);intro q1 q2 q3))); (try (refine (wq I h.2 ?a).use ?_;(case a=>decide);intro q4 q5 q6)))|(refine A8.bnd (S5 I _) ?_;rintro x m ⟨⟨w1,⟨f1,f2⟩,⟨t1,t2⟩,p1,l1,c1⟩,rfl,rfl,hk⟩;have r1:=w1.rng)|(refine A8.ok ?_)))
 all_goals (refine⟨?_,⟨?_,?_⟩,⟨?_,?_⟩,?_,?_,?_⟩<;>(try simp only [sE,cF,A6])<;>(first|rfl|omega|(repeat' (first|assumption|exact .inl ⟨rfl,by decide⟩|(refine eJ ?_ (by decide) ?_ ?_ ?_ ?_ ?_ ?_ ?_ ?_)|omega|(simp only [sE,cF,A6]<;>omega)))))
theorem pF(n:Int)(hn:0≤n∧n≤I.L)(k kk:Int)(one:Int→G3 Nd)(frm:Int)(h0:0≤frm∧frm+1=n∧pc I frm=pc I n)(hk:((0≤k∧k≤68)∧dI k 1∧bZ k)∧kk=20∨((0≤k∧k≤68)∧dI k 1∧bZ k)∧kk=23)(ho:∀ n,0≤n∧n≤I.L→A8 (one n) fun x m=>Ex I n x m 1 56):A8 (F1 I k kk one frm n) fun x m=>Ex I frm x m 1 8:=by
 unfold F1
 refine A8.bnd (eQ I (c:=56) _ _ _ _ (by decide) (by decide) ho n hn) ?_
 rintro⟨l,w⟩ m ⟨a1,a2,a3,a4,a5,a6,a7,a8⟩
 dsimp only at *
 obtain⟨b1,b2,b3⟩:=a3
 refine A8.bnd (A8.want I (by decide)) ?_
 rintro _ _ ⟨rfl,h,q1,q2,q3⟩
 have hk1:((0≤k∧k≤68)∧dI k 1)∧bZ k:=by rcases hk with h|h<;>exact⟨⟨h.1.1,h.1.2.1⟩,h.1.2.2⟩
 have hk2:(0≤kk∧kk≤68)∧bZ kk∧dI kk l.length:=by rcases hk with h|h<;>rw [h.2]<;>exact⟨by decide,by decide,by simp [dI]⟩
 obtain⟨w1,⟨f1,f2⟩,e1,⟨t1,t2⟩,p1,l1,c1⟩:=W6 (k:=kk) (c:=1) a1 (by omega) (by omega) hk2.1 hk2.2.1 hk2.2.2 (by omega)
 exact A8.ok ⟨dS ⟨by omega,by omega,by omega⟩ hk1.1 (.inl ⟨rfl,hk1.2⟩) w1 (by omega) (by omega) (.inl (by omega)),⟨rfl,rfl⟩,⟨rfl,rfl⟩,by omega,by omega,by simp only [sE,cF,A6];omega⟩
theorem Mw(hg:HG I g)(t:Bool)(n:Int)(hn:0≤n)(q:Tq I n):A8 (aJ I g n t (n+1)) fun x m=>Ex I n x m 1 8:=by
 obtain⟨q7,q8,q9⟩:=q
 unfold aJ
 refine A8.ite (fun h=>?_) fun h=>A8.ite (fun h=>?_) fun h=>?_
 ·obtain⟨q1,q2,q3⟩:=wq I h (by decide)
  exact eI hg 43 (-1) n t _ ⟨by omega,by omega,by omega,by omega⟩ (by decide) ⟨by omega,fun m hm=>.inl ⟨rfl,by decide⟩⟩
 ·obtain⟨q1,q2,q3⟩:=wq I h (by decide)
  refine A8.bnd (A8.want I (by decide)) ?_
  rintro _ _ ⟨rfl,h,q1,q2,q3⟩
  exact eI hg 42 (-1) n t _ ⟨by omega,by omega,by omega,by omega⟩ (by decide) ⟨by omega,fun m hm=>.inl ⟨rfl,by decide⟩⟩
 ·refine A8.bnd (hg.ex _ _ _ rfl (by omega) trivial) ?_
  rintro x m ⟨w1,⟨f1,f2⟩,⟨t1,t2⟩,p1,l1,c1⟩;(try simp only [cF,A6] at c1);have r1:=w1.rng
  refine A8.bnd (A8.want I (by decide)) ?_
  rintro _ _ ⟨rfl,h,q1,q2,q3⟩
  exact vF hg 41 n _ t _ ⟨by omega,by omega,by omega⟩ w1 (by omega) (by omega) (by omega) (by decide) (by decide)
theorem Af(hg:HG I g)(t:Bool)(n:Int)(hn:0≤n∧n≤I.L):A8 (fK I g t n) fun x m=>Ex I n x m 1 (cF .anyType):=by
 have up:∀ {o:G3 Nd},(A8 o fun x m=>Ex I n x m 1 8)→A8 o fun x m=>Ex I n x m 1 (cF .anyType):=fun h=>A8.mono h fun x m h=>⟨h.wel,h.frm,h.to,h.pr,h.L,by have:=h.cnt;simp only [cF,A6];omega⟩
 unfold fK
 refine A8.ite (fun h=>?_) fun h=>A8.ite (fun h=>?_) fun h=>A8.ite (fun h=>?_) fun h=>A8.ite (fun h=>?_) fun h=>A8.ite (fun h=>?_) fun h=>A8.ite (fun h=>?_) fun h=>A8.ite (fun h=>?_) fun h=>A8.ite (fun h=>?_) fun h=>A8.ite (fun h=>?_) fun h=>A8.ite (fun h=>?_) fun h=>A8.err
 ·(repeat' ((refine A8.mono (hg.ex _ _ _ rfl (by omega) (by exact trivial)) ?_;rintro x m ⟨w1,⟨f1,f2⟩,⟨t1,t2⟩,p1,l1,c1⟩;(try simp only [cF,A6] at c1);have r1:=w1.rng)))
  all_goals (refine⟨?_,⟨?_,?_⟩,⟨?_,?_⟩,?_,?_,?_⟩<;>(try simp only [sE,cF,A6])<;>(omega))
 ·obtain⟨q1,q2,q3⟩:=wq I h (by decide)
  exact up (eI hg 35 (-1) n t _ ⟨by omega,by omega,by omega,by omega⟩ (by decide) ⟨by omega,fun m hm=>.inl ⟨rfl,by decide⟩⟩)
 ·obtain⟨q1,q2,q3⟩:=wq I h (by decide)
  (repeat' (first|(refine A8.bnd (A8.want I (by decide)) ?_;rintro _ m ⟨rfl,h,q1,q2,q3⟩)|(refine A8.bnd (hg.ex _ _ _ rfl (by omega) (by exact trivial)) ?_;rintro x m ⟨w1,⟨f1,f2⟩,⟨t1,t2⟩,p1,l1,c1⟩;(try simp only [cF,A6] at c1);have r1:=w1.rng)|(refine A8.ok ?_)))
  all_goals (refine⟨?_,⟨?_,?_⟩,⟨?_,?_⟩,?_,?_,?_⟩<;>(try simp only [sE,cF,A6])<;>(first|omega|(repeat' (first|assumption|exact .inl ⟨rfl,by decide⟩|(refine dS ?_ (by decide) ?_ ?_ ?_ ?_ ?_)|omega))))
 ·exact up (Mw hg t n hn.1 (wq I h (by decide)))
 ·obtain⟨q1,q2,q3⟩:=wq I h (by decide)
  refine A8.bnd (A8.want I (by decide)) ?_
  rintro _ _ ⟨rfl,h,q1,q2,q3⟩
  refine A8.bnd (hg.ex _ _ _ rfl (by omega) trivial) ?_
  rintro x m ⟨w1,⟨f1,f2⟩,⟨t1,t2⟩,p1,l1,c1⟩;(try simp only [cF,A6] at c1);have r1:=w1.rng
  refine A8.bnd (A8.want I (by decide)) ?_
  rintro _ _ ⟨rfl,h,q1,q2,q3⟩
  exact up (vF hg 44 n _ t _ ⟨by omega,by omega,by omega⟩ w1 (by omega) (by omega) (by omega) (by decide) (by decide))
 ·obtain⟨q1,q2,q3⟩:=wq I h (by decide)
  have hmb:maybe I (⟨#[60,45]⟩:ByteArray) (n+1)=n+1∨Tq I (n+1)∧maybe I (⟨#[60,45]⟩:ByteArray) (n+1)=n+1+1:=by
   unfold maybe
   split
   ·rename_i h;exact .inr ⟨wq I h (by decide),rfl⟩
   ·exact .inl rfl
  have hw:∀ m,n<m→Ia I 45 n n m:=fun m hm=>.inr ⟨by omega,.inr (.inr ⟨by simp [jK,h],fun _=>rfl⟩)⟩
  rcases hmb with e|⟨⟨q4,q5,q6⟩,e⟩<;>rw [e]
  ·exact up (eI hg 45 n n t _ ⟨by omega,by omega,by omega,by omega⟩ (by decide) ⟨by omega,fun m hm=>hw m (by omega)⟩)
  ·exact up (eI hg 45 n n t _ ⟨by omega,by omega,by omega,by omega⟩ (by decide) ⟨by omega,fun m hm=>hw m (by omega)⟩)
 ·obtain⟨q1,q2,q3⟩:=wq I h (by decide)
  have hw:∀ m,n<m→Ia I 45 n n m:=fun m hm=>.inr ⟨by omega,.inr (.inr ⟨by simp [jK,h],fun _=>rfl⟩)⟩
  refine A8.bnd (A8.want I (by decide)) ?_
  rintro _ _ ⟨rfl,h,q4,q5,q6⟩
  exact up (eI hg 45 n n t _ ⟨by omega,by omega,by omega,by omega⟩ (by decide) ⟨by omega,fun m hm=>hw m (by omega)⟩)
 ·obtain⟨q1,q2,q3⟩:=wq I h (by decide)
  (repeat' (first|(refine A8.bnd (hg.ex _ _ _ rfl (by omega) (by exact trivial)) ?_;rintro x m ⟨w1,⟨f1,f2⟩,⟨t1,t2⟩,p1,l1,c1⟩;(try simp only [cF,A6] at c1);have r1:=w1.rng)|(refine A8.ok ?_)))
  all_goals (refine⟨?_,⟨?_,?_⟩,⟨?_,?_⟩,?_,?_,?_⟩<;>(try simp only [sE,cF,A6])<;>(first|omega|(repeat' (first|assumption|exact .inl ⟨rfl,by decide⟩|(refine dS ?_ (by decide) ?_ ?_ ?_ ?_ ?_)|omega))))
 ·obtain⟨q1,q2,q3⟩:=wq I h (by decide)
  exact up (pF (n+1) (by omega) 47 20 _ n ⟨by omega,rfl,by omega⟩ (.inl ⟨by decide,rfl⟩) fun n hn=>hg.ex .field t n rfl hn trivial)
 ·obtain⟨q1,q2,q3⟩:=wq I h (by decide)
  exact up (pF (n+1) (by omega) 48 23 _ n ⟨by omega,rfl,by omega⟩ (.inr ⟨by decide,rfl⟩) fun n hn=>hg.ex .elem t n rfl hn trivial)
theorem Pb(hg:HG I g)(t:Bool)(n:Int)(hn:0≤n∧n≤I.L)(w:ByteArray):A8 (g (X3 w) t n) fun x m=>Ex I n x m 1 64:=by
 have h:Cx (X3 w)=true∧pre I (X3 w) n∧cF (X3 w)≤64:=by
  unfold X3
  split
  ·exact⟨rfl,trivial,by decide⟩
  ·split
   ·exact⟨rfl,trivial,by decide⟩
   ·split
    ·exact⟨rfl,trivial,by decide⟩
    ·exact⟨rfl,trivial,by decide⟩
 refine A8.mono (hg.ex _ _ _ h.1 hn h.2.1) ?_
 rintro x m ⟨w1,⟨f1,f2⟩,⟨t1,t2⟩,p1,l1,c1⟩
 exact⟨w1,⟨f1,f2⟩,⟨t1,t2⟩,p1,l1,by omega⟩
theorem Bp(hg:HG I g)(t:Bool)(n:Int)(hn:0≤n∧n≤I.L)(hp:pre I .group n):A8 (R6 I g t n) fun x m=>Ex I n x m 1 (cF .group):=by
 have hq:Tq I n:=Mj I fun e=>by
  simp only [pre] at hp
  rw [e] at hp
  revert hp
  decide
 obtain⟨q7,q8,q9⟩:=hq
 unfold R6
 refine A8.ite (fun h=>?_) fun h=>?_
 ·have hk:jK 4 (word I n):=by simp only [jK];simp;exact hp
  refine A8.bnd (eQ I (c:=64) _ _ _ _ (by decide) (by decide) (fun n' hn=>Pb hg t n' hn (word I n)) (n+1) (by omega)) ?_
  rintro⟨l,w⟩ m ⟨a1,a2,a3,a4,a5,a6,a7,a8⟩
  dsimp only at *
  obtain⟨b1,b2,b3⟩:=a3
  refine A8.bnd (A8.want I (by decide)) ?_
  rintro _ _ ⟨rfl,h,q1,q2,q3⟩
  exact A8.ok ⟨Hz ⟨by omega,by omega,by omega⟩ ⟨by decide,by simp [dI]⟩ (.inr ⟨by omega,.inr (.inr ⟨hk,fun e=>by omega⟩)⟩) (((a1.word (by omega)).less (by omega)).more (by omega)),⟨rfl,rfl⟩,⟨rfl,rfl⟩,by omega,by omega,by simp only [sE,cF,A6];omega⟩
 ·have hk:jK 3 (word I n):=by simp only [jK];simp;exact hp
  refine A8.bnd (Pb hg t (n+1) (by omega) _) ?_
  rintro x m ⟨w1,⟨f1,f2⟩,⟨t1,t2⟩,p1,l1,c1⟩;(try simp only [cF,A6] at c1);have r1:=w1.rng
  refine A8.ok ?_
  (refine⟨?_,⟨?_,?_⟩,⟨?_,?_⟩,?_,?_,?_⟩<;>(try simp only [sE,cF,A6])<;>(first|omega|(repeat' (first|assumption|(refine .inr ⟨by omega,.inr (.inr ⟨?_,fun _=>by rfl⟩)⟩)|(refine dS ?_ (by decide) ?_ ?_ ?_ ?_ ?_)|omega))))
theorem wV(hg:HG I g)(t:Bool)(n0:Int)(h0:0≤n0):∀ (f:Nat) (acc:List Nd) (n:Int),n0≤n→n≤I.L→E6 I (-1) acc n0 n→L6 acc≤2000*(n-n0)→A8 (gY I g t f acc n) fun l m=>n0≤m∧m≤I.L∧E6 I (-1) l n0 m∧L6 l≤2000*(m-n0)
 |0,acc,n,_,_,_,_=>A8.err
 |f+1,acc,n,h1,h2,h3,h4=>by
  unfold gY
  refine A8.ite (fun h=>?_) fun h=>A8.ok ⟨h1,h2,h3,h4⟩
  refine A8.bnd (hg.ex _ _ _ rfl (by omega) (.inl h)) ?_
  rintro x m ⟨w1,⟨f1,f2⟩,⟨t1,t2⟩,p1,l1,c1⟩;(try simp only [cF,A6] at c1);have r1:=w1.rng
  refine A8.bnd (A8.want I (by decide)) ?_
  rintro _ _ ⟨rfl,h,q1,q2,q3⟩
  exact wV hg t n0 h0 f _ (m+1) (by omega) (by omega) (E6.snoc h3 (by omega) (.inl (by omega)) w1 (by omega)) (by rw [N2];omega)
theorem kW(hg:HG I g)(t:Bool)(n0:Int)(h0:0≤n0):∀ (f:Nat) (acc:List Nd) (n:Int),n0≤n→n≤I.L→E6 I (-1) acc n0 n→L6 acc≤2000*(n-n0)→A8 (R8 I g t f acc n) fun l m=>n0≤m∧m≤I.L∧E6 I (-1) l n0 m∧L6 l≤2000*(m-n0)
 |0,acc,n,_,_,_,_=>A8.err
 |f+1,acc,n,h1,h2,h3,h4=>by
  unfold R8
  refine A8.ite (fun h=>?_) fun h=>A8.ite (fun h=>?_) fun h=>A8.ok ⟨h1,h2,h3,h4⟩
  ·refine A8.bnd (hg.ex _ _ _ rfl (by omega) (.inr h)) ?_
   rintro x m ⟨w1,⟨f1,f2⟩,⟨t1,t2⟩,p1,l1,c1⟩;(try simp only [cF,A6] at c1);have r1:=w1.rng
   refine A8.bnd (A8.want I (by decide)) ?_
   rintro _ _ ⟨rfl,h,q1,q2,q3⟩
   exact kW hg t n0 h0 f _ (m+1) (by omega) (by omega) (E6.snoc h3 (by omega) (.inl (by omega)) w1 (by omega)) (by rw [N2];omega)
  ·refine A8.bnd (hg.ex _ _ _ rfl (by omega) trivial) ?_
   rintro x m ⟨w1,⟨f1,f2⟩,⟨t1,t2⟩,p1,l1,c1⟩;(try simp only [cF,A6] at c1);have r1:=w1.rng
   refine A8.bnd (A8.want I (by decide)) ?_
   rintro _ _ ⟨rfl,h,q1,q2,q3⟩
   exact kW hg t n0 h0 f _ (m+1) (by omega) (by omega) (E6.snoc h3 (by omega) (.inl (by omega)) w1 (by omega)) (by rw [N2];omega)
theorem Hu(hg:HG I g)(t:Bool)(n:Int)(hn:0≤n∧n≤I.L):A8 (jQ I g t n) fun x m=>Ex I n x m 1 (cF .file):=by
 unfold jQ
 refine A8.bnd (A8.want I (by decide)) ?_
 rintro _ _ ⟨rfl,h,q1,q2,q3⟩
 refine A8.bnd (S5 I _) ?_
 rintro x m ⟨⟨w1,⟨f1,f2⟩,⟨t1,t2⟩,p1,l1,c1⟩,rfl,rfl,hk⟩
 have r1:=w1.rng
 refine A8.bnd (A8.want I (by decide)) ?_
 rintro _ _ ⟨rfl,h,q4,q5,q6⟩
 refine A8.bnd (wV hg t (n+1+1+1) (by omega) _ [] (n+1+1+1) (Int.le_refl _) (by omega) (by unfold E6;exact⟨Int.le_refl _,rfl⟩) (by simp only [L6];omega)) ?_
 rintro l m ⟨a1,a2,a3,a4⟩
 refine A8.bnd (kW hg t m (by omega) _ [] m (Int.le_refl _) (by omega) (by unfold E6;exact⟨Int.le_refl _,rfl⟩) (by simp only [L6];omega)) ?_
 rintro l2 m2 ⟨b1,b2,b3,b4⟩
 obtain⟨w3,⟨f3,g3⟩,e3,⟨t3,u3⟩,p3,l3,c3⟩:=W6 (k:=2) (c:=1) a3 (by omega) (by omega) (by decide) (by decide) (by simp [dI]) (by omega)
 obtain⟨w4,⟨f4,g4⟩,e4,⟨t4,u4⟩,p4,l4,c4⟩:=W6 (k:=2) (c:=1) b3 (by omega) (by omega) (by decide) (by decide) (by simp [dI]) (by omega)
 have r3:=w3.rng
 have r4:=w4.rng
 refine A8.ok ?_
 (refine⟨?_,⟨?_,?_⟩,⟨?_,?_⟩,?_,?_,?_⟩<;>(try simp only [sE,cF,A6])<;>(first|omega|(repeat' (first|assumption|exact .inl ⟨rfl,by decide⟩|(refine Oa ?_ (by decide) ?_ ?_ ?_ ?_ ?_ ?_ ?_ ?_ ?_ ?_ ?_)|omega))))
end
end Go.Ex
