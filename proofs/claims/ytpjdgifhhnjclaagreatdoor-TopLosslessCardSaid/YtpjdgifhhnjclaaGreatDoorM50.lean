/-
  Top: TopFaults, TopLossless: whatever the input, the law answers true (part 50)
-/
import Derived.Test.YtpjdgifhhnjclaaGreatDoorM49
set_option linter.unusedVariables false
set_option linter.unusedSimpArgs false
set_option maxHeartbeats 4000000
set_option maxRecDepth 10000
namespace Go.Ex.Tr
open Go.Ex Go.Proofs
def rng(a b:Int):List Int:=(List.range (b-a).toNat).map fun j=>a+(j:Nat)
theorem rng_nil{a b:Int}(h:b≤a):rng a b=[]:=by simp [rng,show (b-a).toNat=0 by omega]
theorem rng_cons{a b:Int}(h:a<b):rng a b=a::rng (a+1) b:=by
 simp only [rng,show (b-a).toNat=(b-(a+1)).toNat+1 by omega,List.range_succ_eq_map,List.map_cons,List.map_map]
 refine congr (congrArg List.cons (by simp)) (List.map_congr_left fun j _=>?_)
 simp only [Function.comp_apply]
 omega
def ownGo(L:List Nd)(E:List Int)(te:Int):Nat→Int→Int→List Int
 |0,_,at_=>rng at_ te
 |c+1,k,at_=>rng at_ (nd L k).f++ownGo L E te c (getI 0 E k) (max (max at_ (nd L k).f) (nd L k).t)
noncomputable def ownV(L:List Nd)(i:Int):List Int:=@ite _ (Has L i) (Classical.propDecidable _) (ownGo L (EL L) (nd L i).t (nd L i).c.toNat (i+1) (nd L i).f) []
theorem TreeP.lc{L:List Nd}{n:Int}(h:TreeP L n)(j:Int)(h0:0≤j)(h1:j<L.length):lcP L n j:=by
 by_cases hj:j=0
 ·subst hj;exact h.2.1
 ·exact (h.2.2.nest j (by omega) h1).1
structure WS where
 o:Option (Nat×Nat)
 xs:List Int
 n:Int
 a:Int
structure WInv(h:Heap)(x:WS):Prop where
 len:x.n=x.xs.length
 nil:x.o=none→x.xs=[]
 arr:∀ b c,x.o=some (b,c)→h.size≤b
 le:x.n≤x.a
 mx:x.a≤131072
theorem own_any(A:Option Addr)(len cap:Nat)(L:List Nd)(i:Int)(h:Heap)(hA:Sl ndR h A len L)(hr:len*40≤140737488355328) :
 CH Tryz.prog 15 #[.slice A len cap,.int .i64 i] h fun v h'=>OwnSl (intR .i64) 3 h h' v (ownV L i)∧Grows h h':=by
 refine enter (rep:=rep) (m:=13) (ex:=[]) (cu:=[]) tO Tryz.func15 rfl (by decide) (rs:=[.tmp 4]) rfl rfl [.val (.slice A len cap),.val (.int .i64 i)] rfl ?_
 have hL:=hA.len_eq
 (try (conv=>whnf))
 refine CK.epoch (fun h1 hq=>outline_any A len cap L 131072 h1 (hA.grows hq.grows) hr) ?_
 rintro h1 u h2 hq ⟨hg,x,y,d,b,E,U,rfl,hX,hY,hT,hF⟩
 obtain⟨X,xl,xc,rfl,hE⟩:=hX.sl
 obtain⟨Y,yl,yc,rfl,hU⟩:=hY.sl
 have hg0:=hq.grows.trans hg
 have hA2:=hA.grows hg0
 rcases b with _|_
 ·have hno:¬ Has L i:=fun h=>(by cases hT.2 h.1)
  have hV:ownV L i=[]:=by rw [ownV,if_neg hno]
  rw [hV]
  ((repeat' ((conv=>whnf);(first|(refine Br.mk ?_ ?_<;>intro hb<;>(try (contradiction)))|fail)));all_goals (try (conv=>whnf)))
  exact⟨fun h' hs=>⟨.nil,hg0.trans hs.grows⟩⟩
 ·have hyes:TreeP L mostT:=hT.1 rfl
  obtain⟨q1,q2,D,q3⟩:=hF rfl
  have hxl:=hE.len_eq
  have hl:=q1.len
  clear hX hY hq
  by_cases hi:0≤i∧i<len
  ·have hV:ownV L i=ownGo L E (nd L i).t (nd L i).c.toNat (i+1) (nd L i).f:=by rw [ownV,if_pos ⟨hyes,by omega,by omega⟩,EL_eq q1]
   obtain⟨R,hR⟩:∃ R,ownGo L E (nd L i).t (nd L i).c.toNat (i+1) (nd L i).f=R:=⟨_,rfl⟩
   rw [hV,hR]
   have hms:=q1.at_ i (by omega) (by omega)
   have hle:=q1.le i (by omega) (by omega)
   have hc0:=Kd.pos hms
   have hlci:=hyes.lc i (by omega) (by omega)
   simp only [lcP,mostT,nd] at hlci
   have z1:getI (intR .i64).dflt E i=getI 0 E i:=rfl
   ((repeat' ((conv=>whnf);(first|(refine Ar.fit (by omega) ?_)|(refine VC.mk (by (first|omega|exact Sl.plain (by assumption) (by omega))) ?_)|(refine Br.mk ?_ ?_<;>intro hb<;>(try (first|(exfalso;omega)|exact absurd rfl hb)))|(refine XLoad.of (by assumption) rfl rfl (by omega) (by omega) rfl ?_)|(refine New.mk ?_;intro b hb)|fail)));all_goals (try (conv=>whnf)))
   rename_i b9 hb9
   refine loop_rule tO [12] (fun x:WS×Int=>[(12,.val (.int .i64 x.2))]) (fun x=>[(10,b,.box 3 [.val (.int .i64 x.1.a)]),(9,b9,.box 32 [siK 12 x.1.o x.1.n])]++siC 12 x.1.o x.1.xs)
    (fun μ x=>WInv h2 x.1∧0≤x.2∧0≤x.1.n∧∃ c:Int,Ms L x.2 c (getI 0 E i)∧x.1.xs++ownGo L E (getI ndR.dflt L i).t c.toNat x.2 x.1.a=R∧μ=c.toNat) (getI ndR.dflt L i).c.toNat ⟨⟨none,[],0,(getI ndR.dflt L i).f⟩,i+1⟩ ?_
   conv=>whnf
   refine⟨by ((repeat (refine⟨rfl,?_⟩));trivial),⟨rfl,rfl,rfl,rfl,trivial⟩,⟨⟨by simp,by simp,by simp,by dsimp only;omega,by dsimp only;omega⟩,by dsimp only;omega,by simp,_,hms,hR,rfl⟩,?_⟩
   rintro μ ⟨⟨o,xs,m,a⟩,k⟩ ⟨⟨a1,a2,a3,a4,a5⟩,a6,a7,c,a8,a9,a10⟩
   dsimp only at a1 a2 a3 a4 a5 a6 a7 a8 a9 a10 ⊢
   have a11:=Kd.le a8
   have z2:getI (intR .i64).dflt E k=getI 0 E k:=rfl
   rcases a8.cases with ⟨rfl,ek⟩|⟨g1,g2,g3,g4,g5,e,g6,g7⟩
   ·simp only [Int.toNat_zero,ownGo,nd] at a9
    rcases o with _|⟨b0,c0⟩
    ·have a2:=a2 rfl
     subst a2
     dsimp only [siK,siC,List.append_nil,List.nil_append,List.cons_append]
     ((repeat' ((conv=>whnf);(first|(refine VC.mk (by (first|omega|exact Sl.plain (by assumption) (by omega))) ?_)|(refine Br.mk ?_ ?_<;>intro hb<;>(try (exfalso;omega)))|(refine XLoad.of (by assumption) rfl rfl (by omega) (by omega) rfl ?_)|(refine CK.inline (rep:=rep) tO Tryz.func29 rfl (by decide) (rs:=[]) rfl 4 [] [] rfl rfl rfl ?_)|fail)));all_goals (try (conv=>whnf)))
     refine loop_rule tO [] (fun _:WS=>[]) (fun x=>[(10,b,.box 3 [.val (.int .i64 x.a)]),(9,b9,.box 32 [siK 12 x.o x.n])]++siC 12 x.o x.xs) (fun μ x=>WInv h2 x∧0≤x.n∧x.xs++rng x.a ((getI ndR.dflt L i).t)=[]++rng a ((getI ndR.dflt L i).t)∧a≤x.a∧x.a≤max a ((getI ndR.dflt L i).t)∧μ=((getI ndR.dflt L i).t-x.a).toNat) ((getI ndR.dflt L i).t-a).toNat ⟨none,[],m,a⟩ ?_
     conv=>whnf
     refine⟨by ((repeat (refine⟨rfl,?_⟩));trivial),⟨rfl,rfl,rfl,rfl,trivial⟩,⟨⟨a1,fun _=>rfl,fun b c e=>(by cases e),a4,a5⟩,a7,rfl,Int.le_refl _,by dsimp only;omega,rfl⟩,?_⟩
     rintro ν ⟨o1,ys,m1,w⟩ ⟨⟨w1,w2,w3,w4,w5⟩,w6,w7,w8,w9,w10⟩
     dsimp only at w1 w2 w3 w4 w5 w6 w7 w8 w9 w10 ⊢
     by_cases hw:w<(getI ndR.dflt L i).t
     ·rw [rng_cons hw] at w7
      rcases o1 with _|⟨b1,c1⟩
      ·have w2:=w2 rfl
       subst w2
       dsimp only [siK,siC,List.append_nil,List.nil_append,List.cons_append]
       ((repeat' ((conv=>whnf);(first|(refine Ar.fit (by omega) ?_)|(refine VC.mk (by (first|omega|(and_intros<;>first|omega|rfl|(simp only [maxLen];omega)|(simp only [List.length_append,List.length_take,List.length_replicate,List.length_cons,List.length_nil];omega)))) ?_)|(refine Br.mk ?_ ?_<;>intro hb<;>(try (first|(exfalso;omega)|contradiction)))|(refine New.mk ?_;intro b hb)|(refine New2.mk ?_;intro b c hb hbc)|(refine SR.same ?_)|fail)));all_goals (try (conv=>whnf)))
       refine⟨ν-1,⟨some (b,c),[w],1,w+1⟩,⟨⟨by simp,fun e=>(by cases e),fun b' c' e=>(by cases e;first|exact hb|exact hb.elim (fun q=>q) fun q=>absurd q.2 List.not_mem_nil),by dsimp only;omega,by dsimp only;omega⟩,by simp,w7,by dsimp only;omega,by dsimp only;omega,by dsimp only;omega⟩,by omega,by ((repeat (refine⟨rfl,?_⟩));trivial),rfl,rfl,⟨rfl,rfl,rfl,rfl,rfl,rfl,trivial⟩⟩
      ·have w3':=w3 b1 c1 rfl
       dsimp only [siK,siC,List.append_nil,List.nil_append,List.cons_append]
       ((repeat' ((conv=>whnf);(first|(refine Ar.fit (by omega) ?_)|(refine VC.mk (by (first|omega|(and_intros<;>first|omega|rfl|(simp only [maxLen];omega)|(simp only [List.length_append,List.length_take,List.length_replicate,List.length_cons,List.length_nil];omega)))) ?_)|(refine Br.mk ?_ ?_<;>intro hb<;>(try (exfalso;omega)))|(refine New.mk ?_;intro b hb)|(refine NewO.mk ?_;intro b c hb hbc)|(refine SR.same ?_)|fail)));all_goals (try (conv=>whnf)))
       have hys:List.take m1.toNat ys=ys:=List.take_of_length_le (by omega)
       refine⟨ν-1,⟨some (b,c),List.take m1.toNat ys++[w],m1+1,w+1⟩,⟨⟨by dsimp only;rw [hys,List.length_append,List.length_singleton];omega,fun e=>(by cases e),fun b' c' e=>(by cases e;first|exact hb|exact hb.elim (fun q=>q) fun q=>absurd q.2 List.not_mem_nil),by dsimp only;omega,by dsimp only;omega⟩,by dsimp only;omega,by dsimp only;rw [hys,List.append_assoc];exact w7,by dsimp only;omega,by dsimp only;omega,by dsimp only;omega⟩,by omega,by ((repeat (refine⟨rfl,?_⟩));trivial),rfl,rfl,⟨rfl,rfl,rfl,rfl,rfl,rfl,trivial⟩⟩
     ·rw [rng_nil (a:=w) (by omega),List.append_nil] at w7
      rcases o1 with _|⟨b1,c1⟩
      ·have w2:=w2 rfl
       subst w2
       dsimp only [siK,siC,List.append_nil,List.nil_append,List.cons_append]
       ((repeat' ((conv=>whnf);(first|(refine VC.mk (by omega) ?_)|(refine Br.mk ?_ ?_<;>intro hb<;>(try (exfalso;omega)))|fail)));all_goals (try (conv=>whnf)))
       rw [←a9,←w7]
       exact⟨fun h' hs=>⟨.nil,hg0.trans hs.grows⟩⟩
      ·have w3':=w3 b1 c1 rfl
       dsimp only [siK,siC,List.append_nil,List.nil_append,List.cons_append]
       ((repeat' ((conv=>whnf);(first|(refine VC.mk (by omega) ?_)|(refine Br.mk ?_ ?_<;>intro hb<;>(try (exfalso;omega)))|fail)));all_goals (try (conv=>whnf)))
       rw [←a9,←w7]
       exact⟨fun h' hs=>⟨(hs.own (k:=12) rfl w1).base hg0,hg0.trans hs.grows⟩⟩
    ·dsimp only [siK,siC,List.append_nil,List.nil_append,List.cons_append]
     ((repeat' ((conv=>whnf);(first|(refine VC.mk (by (first|omega|exact Sl.plain (by assumption) (by omega))) ?_)|(refine Br.mk ?_ ?_<;>intro hb<;>(try (exfalso;omega)))|(refine XLoad.of (by assumption) rfl rfl (by omega) (by omega) rfl ?_)|(refine CK.inline (rep:=rep) tO Tryz.func29 rfl (by decide) (rs:=[]) rfl 4 [] [] rfl rfl rfl ?_)|fail)));all_goals (try (conv=>whnf)))
     refine loop_rule tO [] (fun _:WS=>[]) (fun x=>[(10,b,.box 3 [.val (.int .i64 x.a)]),(9,b9,.box 32 [siK 12 x.o x.n])]++siC 12 x.o x.xs) (fun μ x=>WInv h2 x∧0≤x.n∧x.xs++rng x.a ((getI ndR.dflt L i).t)=xs++rng a ((getI ndR.dflt L i).t)∧a≤x.a∧x.a≤max a ((getI ndR.dflt L i).t)∧μ=((getI ndR.dflt L i).t-x.a).toNat) ((getI ndR.dflt L i).t-a).toNat ⟨some (b0,c0),xs,m,a⟩ ?_
     conv=>whnf
     refine⟨by ((repeat (refine⟨rfl,?_⟩));trivial),⟨rfl,rfl,rfl,rfl,rfl,rfl,trivial⟩,⟨⟨a1,fun e=>(by cases e),a3,a4,a5⟩,a7,rfl,Int.le_refl _,by dsimp only;omega,rfl⟩,?_⟩
     rintro ν ⟨o1,ys,m1,w⟩ ⟨⟨w1,w2,w3,w4,w5⟩,w6,w7,w8,w9,w10⟩
     dsimp only at w1 w2 w3 w4 w5 w6 w7 w8 w9 w10 ⊢
     by_cases hw:w<(getI ndR.dflt L i).t
     ·rw [rng_cons hw] at w7
      rcases o1 with _|⟨b1,c1⟩
      ·have w2:=w2 rfl
       subst w2
       dsimp only [siK,siC,List.append_nil,List.nil_append,List.cons_append]
       ((repeat' ((conv=>whnf);(first|(refine Ar.fit (by omega) ?_)|(refine VC.mk (by (first|omega|(and_intros<;>first|omega|rfl|(simp only [maxLen];omega)|(simp only [List.length_append,List.length_take,List.length_replicate,List.length_cons,List.length_nil];omega)))) ?_)|(refine Br.mk ?_ ?_<;>intro hb<;>(try (first|(exfalso;omega)|contradiction)))|(refine New.mk ?_;intro b hb)|(refine New2.mk ?_;intro b c hb hbc)|(refine SR.same ?_)|fail)));all_goals (try (conv=>whnf)))
       refine⟨ν-1,⟨some (b,c),[w],1,w+1⟩,⟨⟨by simp,fun e=>(by cases e),fun b' c' e=>(by cases e;first|exact hb|exact hb.elim (fun q=>q) fun q=>absurd q.2 List.not_mem_nil),by dsimp only;omega,by dsimp only;omega⟩,by simp,w7,by dsimp only;omega,by dsimp only;omega,by dsimp only;omega⟩,by omega,by ((repeat (refine⟨rfl,?_⟩));trivial),rfl,rfl,⟨rfl,rfl,rfl,rfl,rfl,rfl,trivial⟩⟩
      ·have w3':=w3 b1 c1 rfl
       dsimp only [siK,siC,List.append_nil,List.nil_append,List.cons_append]
       ((repeat' ((conv=>whnf);(first|(refine Ar.fit (by omega) ?_)|(refine VC.mk (by (first|omega|(and_intros<;>first|omega|rfl|(simp only [maxLen];omega)|(simp only [List.length_append,List.length_take,List.length_replicate,List.length_cons,List.length_nil];omega)))) ?_)|(refine Br.mk ?_ ?_<;>intro hb<;>(try (exfalso;omega)))|(refine New.mk ?_;intro b hb)|(refine NewO.mk ?_;intro b c hb hbc)|(refine SR.same ?_)|fail)));all_goals (try (conv=>whnf)))
       have hys:List.take m1.toNat ys=ys:=List.take_of_length_le (by omega)
       refine⟨ν-1,⟨some (b,c),List.take m1.toNat ys++[w],m1+1,w+1⟩,⟨⟨by dsimp only;rw [hys,List.length_append,List.length_singleton];omega,fun e=>(by cases e),fun b' c' e=>(by cases e;first|exact hb|exact hb.elim (fun q=>q) fun q=>absurd q.2 List.not_mem_nil),by dsimp only;omega,by dsimp only;omega⟩,by dsimp only;omega,by dsimp only;rw [hys,List.append_assoc];exact w7,by dsimp only;omega,by dsimp only;omega,by dsimp only;omega⟩,by omega,by ((repeat (refine⟨rfl,?_⟩));trivial),rfl,rfl,⟨rfl,rfl,rfl,rfl,rfl,rfl,trivial⟩⟩
     ·rw [rng_nil (a:=w) (by omega),List.append_nil] at w7
      rcases o1 with _|⟨b1,c1⟩
      ·have w2:=w2 rfl
       subst w2
       dsimp only [siK,siC,List.append_nil,List.nil_append,List.cons_append]
       ((repeat' ((conv=>whnf);(first|(refine VC.mk (by omega) ?_)|(refine Br.mk ?_ ?_<;>intro hb<;>(try (exfalso;omega)))|fail)));all_goals (try (conv=>whnf)))
       rw [←a9,←w7]
       exact⟨fun h' hs=>⟨.nil,hg0.trans hs.grows⟩⟩
      ·have w3':=w3 b1 c1 rfl
       dsimp only [siK,siC,List.append_nil,List.nil_append,List.cons_append]
       ((repeat' ((conv=>whnf);(first|(refine VC.mk (by omega) ?_)|(refine Br.mk ?_ ?_<;>intro hb<;>(try (exfalso;omega)))|fail)));all_goals (try (conv=>whnf)))
       rw [←a9,←w7]
       exact⟨fun h' hs=>⟨(hs.own (k:=12) rfl w1).base hg0,hg0.trans hs.grows⟩⟩
   ·have hge:=Kd.ge g6
    have hge2:=Kd.ge g7
    have he:getI 0 E k=e:=(q1.at_ k g2 g3).uniq g6
    have hlck:=hyes.lc k g2 g3
    simp only [lcP,mostT,nd] at hlck
    rw [show c.toNat=(c-1).toNat+1 by omega] at a9
    simp only [ownGo,nd] at a9
    rcases o with _|⟨b0,c0⟩
    ·have a2:=a2 rfl
     subst a2
     dsimp only [siK,siC,List.append_nil,List.nil_append,List.cons_append]
     ((repeat' ((conv=>whnf);(first|(refine VC.mk (by (first|omega|exact Sl.plain (by assumption) (by omega))) ?_)|(refine Br.mk ?_ ?_<;>intro hb<;>(try (exfalso;omega)))|(refine XLoad.of (by assumption) rfl rfl (by omega) (by omega) rfl ?_)|(refine CK.inline (rep:=rep) tO Tryz.func29 rfl (by decide) (rs:=[]) rfl 4 [] [] rfl rfl rfl ?_)|fail)));all_goals (try (conv=>whnf)))
     refine loop_rule tO [] (fun _:WS=>[]) (fun x=>[(10,b,.box 3 [.val (.int .i64 x.a)]),(9,b9,.box 32 [siK 12 x.o x.n])]++siC 12 x.o x.xs) (fun μ x=>WInv h2 x∧0≤x.n∧x.xs++rng x.a ((getI ndR.dflt L k).f)=[]++rng a ((getI ndR.dflt L k).f)∧a≤x.a∧x.a≤max a ((getI ndR.dflt L k).f)∧μ=((getI ndR.dflt L k).f-x.a).toNat) ((getI ndR.dflt L k).f-a).toNat ⟨none,[],m,a⟩ ?_
     conv=>whnf
     refine⟨by ((repeat (refine⟨rfl,?_⟩));trivial),⟨rfl,rfl,rfl,rfl,trivial⟩,⟨⟨a1,fun _=>rfl,fun b c e=>(by cases e),a4,a5⟩,a7,rfl,Int.le_refl _,by dsimp only;omega,rfl⟩,?_⟩
     rintro ν ⟨o1,ys,m1,w⟩ ⟨⟨w1,w2,w3,w4,w5⟩,w6,w7,w8,w9,w10⟩
     dsimp only at w1 w2 w3 w4 w5 w6 w7 w8 w9 w10 ⊢
     by_cases hw:w<(getI ndR.dflt L k).f
     ·rw [rng_cons hw] at w7
      rcases o1 with _|⟨b1,c1⟩
      ·have w2:=w2 rfl
       subst w2
       dsimp only [siK,siC,List.append_nil,List.nil_append,List.cons_append]
       ((repeat' ((conv=>whnf);(first|(refine Ar.fit (by omega) ?_)|(refine VC.mk (by (first|omega|(and_intros<;>first|omega|rfl|(simp only [maxLen];omega)|(simp only [List.length_append,List.length_take,List.length_replicate,List.length_cons,List.length_nil];omega)))) ?_)|(refine Br.mk ?_ ?_<;>intro hb<;>(try (first|(exfalso;omega)|contradiction)))|(refine New.mk ?_;intro b hb)|(refine New2.mk ?_;intro b c hb hbc)|(refine SR.same ?_)|fail)));all_goals (try (conv=>whnf)))
       refine⟨ν-1,⟨some (b,c),[w],1,w+1⟩,⟨⟨by simp,fun e=>(by cases e),fun b' c' e=>(by cases e;first|exact hb|exact hb.elim (fun q=>q) fun q=>absurd q.2 List.not_mem_nil),by dsimp only;omega,by dsimp only;omega⟩,by simp,w7,by dsimp only;omega,by dsimp only;omega,by dsimp only;omega⟩,by omega,by ((repeat (refine⟨rfl,?_⟩));trivial),rfl,rfl,⟨rfl,rfl,rfl,rfl,rfl,rfl,trivial⟩⟩
      ·have w3':=w3 b1 c1 rfl
       dsimp only [siK,siC,List.append_nil,List.nil_append,List.cons_append]
       ((repeat' ((conv=>whnf);(first|(refine Ar.fit (by omega) ?_)|(refine VC.mk (by (first|omega|(and_intros<;>first|omega|rfl|(simp only [maxLen];omega)|(simp only [List.length_append,List.length_take,List.length_replicate,List.length_cons,List.length_nil];omega)))) ?_)|(refine Br.mk ?_ ?_<;>intro hb<;>(try (exfalso;omega)))|(refine New.mk ?_;intro b hb)|(refine NewO.mk ?_;intro b c hb hbc)|(refine SR.same ?_)|fail)));all_goals (try (conv=>whnf)))
       have hys:List.take m1.toNat ys=ys:=List.take_of_length_le (by omega)
       refine⟨ν-1,⟨some (b,c),List.take m1.toNat ys++[w],m1+1,w+1⟩,⟨⟨by dsimp only;rw [hys,List.length_append,List.length_singleton];omega,fun e=>(by cases e),fun b' c' e=>(by cases e;first|exact hb|exact hb.elim (fun q=>q) fun q=>absurd q.2 List.not_mem_nil),by dsimp only;omega,by dsimp only;omega⟩,by dsimp only;omega,by dsimp only;rw [hys,List.append_assoc];exact w7,by dsimp only;omega,by dsimp only;omega,by dsimp only;omega⟩,by omega,by ((repeat (refine⟨rfl,?_⟩));trivial),rfl,rfl,⟨rfl,rfl,rfl,rfl,rfl,rfl,trivial⟩⟩
     ·rw [rng_nil (a:=w) (by omega),List.append_nil] at w7
      rcases o1 with _|⟨b1,c1⟩
      ·have w2:=w2 rfl
       subst w2
       dsimp only [siK,siC,List.append_nil,List.nil_append,List.cons_append]
       ((repeat' ((conv=>whnf);(first|(refine dW (id:=11) tO mixed (.pull 1 [3,4,5,6,7] (.pull 2 [3,4,5,6,7] (.pull 3 [4,5,6,7] (.pull 4 [5,6,7] (.pull 0 [6,7] (.pull 5 [6,7] (.pull 6 [7] (.one 7 .done)))))))) (by kernel_rfl) (by kernel_rfl) ?_)|(refine VC.mk (by (first|omega|exact Sl.plain (by assumption) (by omega))) ?_)|(refine Br.mk ?_ ?_<;>intro hb<;>(try (exfalso;omega)))|(refine XLoad.of (by assumption) rfl rfl (by omega) (by omega) rfl ?_)|fail)));all_goals (try (conv=>whnf)))
       have hwa:w=max a (getI ndR.dflt L k).f:=by omega
       refine⟨μ-1,⟨⟨none,[],m1,max w (getI ndR.dflt L k).t⟩,getI 0 E k⟩,⟨⟨w1,fun e=>(by first|rfl|cases e),w3,by dsimp only;omega,by dsimp only;omega⟩,by dsimp only;omega,w6,_,by dsimp only;rw [he];exact g7,by dsimp only;rw [hwa,w7,List.append_assoc];exact a9,by omega⟩,by omega,by ((repeat (refine⟨rfl,?_⟩));trivial),rfl,rfl,⟨rfl,rfl,rfl,rfl,trivial⟩⟩
      ·have w3':=w3 b1 c1 rfl
       dsimp only [siK,siC,List.append_nil,List.nil_append,List.cons_append]
       ((repeat' ((conv=>whnf);(first|(refine dW (id:=11) tO mixed (.pull 1 [3,4,5,6,7] (.pull 2 [3,4,5,6,7] (.pull 3 [4,5,6,7] (.pull 4 [5,6,7] (.pull 0 [6,7] (.pull 5 [6,7] (.pull 6 [7] (.one 7 .done)))))))) (by kernel_rfl) (by kernel_rfl) ?_)|(refine VC.mk (by (first|omega|exact Sl.plain (by assumption) (by omega))) ?_)|(refine Br.mk ?_ ?_<;>intro hb<;>(try (exfalso;omega)))|(refine XLoad.of (by assumption) rfl rfl (by omega) (by omega) rfl ?_)|fail)));all_goals (try (conv=>whnf)))
       have hwa:w=max a (getI ndR.dflt L k).f:=by omega
       refine⟨μ-1,⟨⟨some (b1,c1),ys,m1,max w (getI ndR.dflt L k).t⟩,getI 0 E k⟩,⟨⟨w1,fun e=>(by first|rfl|cases e),w3,by dsimp only;omega,by dsimp only;omega⟩,by dsimp only;omega,w6,_,by dsimp only;rw [he];exact g7,by dsimp only;rw [hwa,w7,List.append_assoc];exact a9,by omega⟩,by omega,by ((repeat (refine⟨rfl,?_⟩));trivial),rfl,rfl,⟨rfl,rfl,rfl,rfl,rfl,rfl,trivial⟩⟩
    ·dsimp only [siK,siC,List.append_nil,List.nil_append,List.cons_append]
     ((repeat' ((conv=>whnf);(first|(refine VC.mk (by (first|omega|exact Sl.plain (by assumption) (by omega))) ?_)|(refine Br.mk ?_ ?_<;>intro hb<;>(try (exfalso;omega)))|(refine XLoad.of (by assumption) rfl rfl (by omega) (by omega) rfl ?_)|(refine CK.inline (rep:=rep) tO Tryz.func29 rfl (by decide) (rs:=[]) rfl 4 [] [] rfl rfl rfl ?_)|fail)));all_goals (try (conv=>whnf)))
     refine loop_rule tO [] (fun _:WS=>[]) (fun x=>[(10,b,.box 3 [.val (.int .i64 x.a)]),(9,b9,.box 32 [siK 12 x.o x.n])]++siC 12 x.o x.xs) (fun μ x=>WInv h2 x∧0≤x.n∧x.xs++rng x.a ((getI ndR.dflt L k).f)=xs++rng a ((getI ndR.dflt L k).f)∧a≤x.a∧x.a≤max a ((getI ndR.dflt L k).f)∧μ=((getI ndR.dflt L k).f-x.a).toNat) ((getI ndR.dflt L k).f-a).toNat ⟨some (b0,c0),xs,m,a⟩ ?_
     conv=>whnf
     refine⟨by ((repeat (refine⟨rfl,?_⟩));trivial),⟨rfl,rfl,rfl,rfl,rfl,rfl,trivial⟩,⟨⟨a1,fun e=>(by cases e),a3,a4,a5⟩,a7,rfl,Int.le_refl _,by dsimp only;omega,rfl⟩,?_⟩
     rintro ν ⟨o1,ys,m1,w⟩ ⟨⟨w1,w2,w3,w4,w5⟩,w6,w7,w8,w9,w10⟩
     dsimp only at w1 w2 w3 w4 w5 w6 w7 w8 w9 w10 ⊢
     by_cases hw:w<(getI ndR.dflt L k).f
     ·rw [rng_cons hw] at w7
      rcases o1 with _|⟨b1,c1⟩
      ·have w2:=w2 rfl
       subst w2
       dsimp only [siK,siC,List.append_nil,List.nil_append,List.cons_append]
       ((repeat' ((conv=>whnf);(first|(refine Ar.fit (by omega) ?_)|(refine VC.mk (by (first|omega|(and_intros<;>first|omega|rfl|(simp only [maxLen];omega)|(simp only [List.length_append,List.length_take,List.length_replicate,List.length_cons,List.length_nil];omega)))) ?_)|(refine Br.mk ?_ ?_<;>intro hb<;>(try (first|(exfalso;omega)|contradiction)))|(refine New.mk ?_;intro b hb)|(refine New2.mk ?_;intro b c hb hbc)|(refine SR.same ?_)|fail)));all_goals (try (conv=>whnf)))
       refine⟨ν-1,⟨some (b,c),[w],1,w+1⟩,⟨⟨by simp,fun e=>(by cases e),fun b' c' e=>(by cases e;first|exact hb|exact hb.elim (fun q=>q) fun q=>absurd q.2 List.not_mem_nil),by dsimp only;omega,by dsimp only;omega⟩,by simp,w7,by dsimp only;omega,by dsimp only;omega,by dsimp only;omega⟩,by omega,by ((repeat (refine⟨rfl,?_⟩));trivial),rfl,rfl,⟨rfl,rfl,rfl,rfl,rfl,rfl,trivial⟩⟩
      ·have w3':=w3 b1 c1 rfl
       dsimp only [siK,siC,List.append_nil,List.nil_append,List.cons_append]
       ((repeat' ((conv=>whnf);(first|(refine Ar.fit (by omega) ?_)|(refine VC.mk (by (first|omega|(and_intros<;>first|omega|rfl|(simp only [maxLen];omega)|(simp only [List.length_append,List.length_take,List.length_replicate,List.length_cons,List.length_nil];omega)))) ?_)|(refine Br.mk ?_ ?_<;>intro hb<;>(try (exfalso;omega)))|(refine New.mk ?_;intro b hb)|(refine NewO.mk ?_;intro b c hb hbc)|(refine SR.same ?_)|fail)));all_goals (try (conv=>whnf)))
       have hys:List.take m1.toNat ys=ys:=List.take_of_length_le (by omega)
       refine⟨ν-1,⟨some (b,c),List.take m1.toNat ys++[w],m1+1,w+1⟩,⟨⟨by dsimp only;rw [hys,List.length_append,List.length_singleton];omega,fun e=>(by cases e),fun b' c' e=>(by cases e;first|exact hb|exact hb.elim (fun q=>q) fun q=>absurd q.2 List.not_mem_nil),by dsimp only;omega,by dsimp only;omega⟩,by dsimp only;omega,by dsimp only;rw [hys,List.append_assoc];exact w7,by dsimp only;omega,by dsimp only;omega,by dsimp only;omega⟩,by omega,by ((repeat (refine⟨rfl,?_⟩));trivial),rfl,rfl,⟨rfl,rfl,rfl,rfl,rfl,rfl,trivial⟩⟩
     ·rw [rng_nil (a:=w) (by omega),List.append_nil] at w7
      rcases o1 with _|⟨b1,c1⟩
      ·have w2:=w2 rfl
       subst w2
       dsimp only [siK,siC,List.append_nil,List.nil_append,List.cons_append]
       ((repeat' ((conv=>whnf);(first|(refine dW (id:=11) tO mixed (.pull 1 [3,4,5,6,7] (.pull 2 [3,4,5,6,7] (.pull 3 [4,5,6,7] (.pull 4 [5,6,7] (.pull 0 [6,7] (.pull 5 [6,7] (.pull 6 [7] (.one 7 .done)))))))) (by kernel_rfl) (by kernel_rfl) ?_)|(refine VC.mk (by (first|omega|exact Sl.plain (by assumption) (by omega))) ?_)|(refine Br.mk ?_ ?_<;>intro hb<;>(try (exfalso;omega)))|(refine XLoad.of (by assumption) rfl rfl (by omega) (by omega) rfl ?_)|fail)));all_goals (try (conv=>whnf)))
       have hwa:w=max a (getI ndR.dflt L k).f:=by omega
       refine⟨μ-1,⟨⟨none,[],m1,max w (getI ndR.dflt L k).t⟩,getI 0 E k⟩,⟨⟨w1,fun e=>(by first|rfl|cases e),w3,by dsimp only;omega,by dsimp only;omega⟩,by dsimp only;omega,w6,_,by dsimp only;rw [he];exact g7,by dsimp only;rw [hwa,w7,List.append_assoc];exact a9,by omega⟩,by omega,by ((repeat (refine⟨rfl,?_⟩));trivial),rfl,rfl,⟨rfl,rfl,rfl,rfl,trivial⟩⟩
      ·have w3':=w3 b1 c1 rfl
       dsimp only [siK,siC,List.append_nil,List.nil_append,List.cons_append]
       ((repeat' ((conv=>whnf);(first|(refine dW (id:=11) tO mixed (.pull 1 [3,4,5,6,7] (.pull 2 [3,4,5,6,7] (.pull 3 [4,5,6,7] (.pull 4 [5,6,7] (.pull 0 [6,7] (.pull 5 [6,7] (.pull 6 [7] (.one 7 .done)))))))) (by kernel_rfl) (by kernel_rfl) ?_)|(refine VC.mk (by (first|omega|exact Sl.plain (by assumption) (by omega))) ?_)|(refine Br.mk ?_ ?_<;>intro hb<;>(try (exfalso;omega)))|(refine XLoad.of (by assumption) rfl rfl (by omega) (by omega) rfl ?_)|fail)));all_goals (try (conv=>whnf)))
       have hwa:w=max a (getI ndR.dflt L k).f:=by omega
       refine⟨μ-1,⟨⟨some (b1,c1),ys,m1,max w (getI ndR.dflt L k).t⟩,getI 0 E k⟩,⟨⟨w1,fun e=>(by first|rfl|cases e),w3,by dsimp only;omega,by dsimp only;omega⟩,by dsimp only;omega,w6,_,by dsimp only;rw [he];exact g7,by dsimp only;rw [hwa,w7,List.append_assoc];exact a9,by omega⟩,by omega,by ((repeat (refine⟨rfl,?_⟩));trivial),rfl,rfl,⟨rfl,rfl,rfl,rfl,rfl,rfl,trivial⟩⟩
  ·have hno:¬ Has L i:=fun h=>by have:=h.2;omega
   have hV:ownV L i=[]:=by rw [ownV,if_neg hno]
   rw [hV]
   ((repeat' ((conv=>whnf);(first|(refine Br.mk ?_ ?_<;>intro hb<;>(try (first|(exfalso;omega)|exact absurd rfl hb)))|fail)));all_goals (try (conv=>whnf)))
   all_goals exact⟨fun h' hs=>⟨.nil,hg0.trans hs.grows⟩⟩
end Go.Ex.Tr
