/-
  Top: TopDeep: whatever the input, the law answers true (part 51)
-/
import Derived.Test.YtpjdgifhhnjclaaGreatDoorM50
set_option linter.unusedVariables false
set_option linter.unusedSimpArgs false
set_option maxHeartbeats 4000000
set_option maxRecDepth 10000
namespace Go.Ex.Pk
open Go.Ex Go.Proofs
attribute [local irreducible] CH
def sufS:List Int→Int→Option (List Int)
 |[],i=>some []
 |k::r,i=>match sufS r (i+1) with
  |none=>none
  |some st=>if k<0∨(st.length:Int)<k then none else some (i::st.drop k.toNat)
theorem sufS_len:∀ (ks:List Int) (i:Int) (st:List Int),sufS ks i=some st→st.length≤ks.length
 |[],i,st,h=>by cases h;exact Nat.le_refl _
 |k::r,i,st,h=>by
  simp only [sufS] at h
  split at h
  ·cases h
  ·rename_i st' hs
   split at h
   ·cases h
   ·cases h
    have:=sufS_len r (i+1) st' hs
    simp only [List.length_cons,List.length_drop];omega
def kidsL(L:List Prt):List Int:=L.map Prt.kids
theorem kids_drop(L:List Prt)(i:Int)(h0:0≤i)(h1:i<L.length):(kidsL L).drop i.toNat=(getI prtR.dflt L i).kids::(kidsL L).drop (i+1).toNat:=by
 unfold kidsL
 have hi:i.toNat<L.length:=by omega
 rw [List.drop_eq_getElem_cons (by simpa using hi),show (i+1).toNat=i.toNat+1 by omega]
 congr 1
 rw [List.getElem_map]
 unfold getI
 rw [List.getD_eq_getElem?_getD,List.getElem?_eq_getElem hi]
 rfl
def WellL(L:List Prt):Prop:=∃ st,sufS (kidsL L) 0=some st∧st.length=1
theorem sufS_mem:∀ (ks:List Int) (i:Int) (st:List Int),sufS ks i=some st→∀ y∈st,i≤y∧y<i+ks.length
 |[],i,st,h,y,hy=>by cases h;cases hy
 |k::r,i,st,h,y,hy=>by
  simp only [sufS] at h
  split at h
  ·cases h
  ·rename_i st' hs
   split at h
   ·cases h
   ·cases h
    simp only [List.length_cons]
    rcases List.mem_cons.1 hy with rfl|hy
    ·omega
    ·have:=sufS_mem r (i+1) st' hs y (List.mem_of_mem_drop hy)
     omega
theorem sufS_none:∀ (j:Nat) (ks:List Int) (i:Int),sufS (ks.drop j) (i+j)=none→sufS ks i=none
 |0,ks,i,h=>by simpa using h
 |j+1,[],i,h=>by simp [sufS] at h
 |j+1,k::r,i,h=>by
  simp only [sufS]
  rw [sufS_none j r (i+1) (by rw [←h,List.drop_succ_cons];congr 1;omega)]
def siK(k:Nat)(o:Option (Nat×Nat))(n:Int):KV:=match o with
 |none=>.val (.slice none 0 0)
 |some (b,c)=>.osl k b n c
def siC(k:Nat)(o:Option (Nat×Nat))(L:List Int):Chs:=match o with
 |none=>[]
 |some (b,c)=>[(k,b,.arr 3 (intR .i64) L c)]
structure ES where
 O:List Int
 o:Option (Nat×Nat)
 xs:List Int
 m:Int
 i:Int
structure EInv(ks:List Int)(x:ES):Prop where
 ol:x.O.length=ks.length
 m:x.m=x.xs.length
 nil:x.o=none→x.xs=[]
 i0 : -1≤x.i
 i1:x.i<ks.length
 st:sufS (ks.drop (x.i+1).toNat) (x.i+1)=some x.xs.reverse
theorem tends_any(A:Option Addr)(n c:Nat)(L:List Prt)(h:Heap)(hL:Sl prtR h A n L)(hn:n≤1000000000) :
 CH Tryz.prog 71 #[.slice A n c] h fun v h'=>(∃ (B:Option Addr) (m e:Nat) (d:Int) (b:Bool),v = .tuple #[.slice B m e,.int .i64 d,.bool b]∧((b=true∧d=1)↔∃ st,sufS (kidsL L) 0=some st∧st.length=1))∧Grows h h':=by
 refine enter (rep:=rep) (m:=9) (ex:=[16,31,38]) (cu:=[]) tO Tryz.func71 rfl (by decide) (rs:=[.tmp 2,.tmp 3,.tmp 4]) rfl rfl [.val (.slice A n c)] rfl ?_
 have hlen:=hL.len_eq
 have hkl:(kidsL L).length=L.length:=by simp [kidsL]
 ((repeat' ((conv=>whnf);(first|(refine Ar.fit (by omega) ?_)|(refine VC.mk (by (first|omega|(and_intros<;>first|omega|rfl|(simp only [maxLen];omega)))) ?_)|(refine New.mk ?_;intro b hb)|fail)));all_goals (try (conv=>whnf)))
 refine loop_rule tO [6,7] (fun x:ES=>[(6,siK 60 x.o x.m),(7,.val (.int .i64 x.i))]) (fun x=>[(11,b,.arr 3 (intR .i64) x.O (n:Int).toNat)]++siC 60 x.o x.xs)
  (fun μ x=>EInv (kidsL L) x∧(∀ b c,x.o=some (b,c)→h.size≤b∧x.m≤c)∧μ=(x.i+1).toNat) n ⟨List.replicate (n:Int).toNat 0,none,[],0,(n:Int)-1⟩ ?_
 conv=>whnf
 refine⟨by ((repeat (refine⟨rfl,?_⟩));trivial),⟨rfl,rfl,trivial⟩,⟨⟨by simp;omega,by simp,by simp,by dsimp only;omega,by dsimp only;omega,?_⟩,by simp,by dsimp only;omega⟩,?_⟩
 ·dsimp only
  rw [List.drop_of_length_le (by omega)];rfl
 rintro μ ⟨O,o,xs,m,i⟩ ⟨⟨a1,a2,a3,a4,a5,a6⟩,a7,a8⟩
 dsimp only at a1 a2 a3 a4 a5 a6 a7 a8 ⊢
 have hxl:xs.length≤1000000000:=by
  have:=sufS_len _ _ _ a6
  simp only [List.length_reverse,List.length_drop] at this
  omega
 by_cases hi:0≤i
 ·obtain⟨k,hk⟩:∃ k,k=(getI prtR.dflt L i).kids:=⟨_,rfl⟩
  have e0:sufS ((kidsL L).drop i.toNat) i=if k<0∨(xs.length:Int)<k then none else some (i::xs.reverse.drop k.toNat):=by
   rw [kids_drop L i hi (by omega)]
   simp only [sufS,a6,List.length_reverse]
   rw [hk]
  have hr:0<k→k≤xs.length→0≤getI (intR .i64).dflt xs (m-k)∧getI (intR .i64).dflt xs (m-k)<n:=fun k0 k1=>by
   have hm:getI (intR .i64).dflt xs (m-k)∈xs:=by
    simp only [getI,List.getD]
    rw [List.getElem?_eq_getElem (by omega)]
    exact List.getElem_mem _
   have:=sufS_mem _ _ _ a6 _ (List.mem_reverse.2 hm)
   simp only [List.length_drop] at this
   omega
  rcases o with _|⟨b0,c0⟩
  ·have:=a3 rfl
   subst this
   dsimp only [siK,siC,List.append_nil,List.nil_append,List.cons_append]
   have hfin:¬ (k<0∨((([]:List Int).length:Nat):Int)<k)→k=0:=fun h=>by simp only [List.length_nil] at h;omega
   ((repeat' ((conv=>whnf);(first|(refine Ar.fit (by omega) ?_)|(refine VC.mk (by (first|omega|exact Sl.plain (by assumption) (by omega)|(and_intros<;>first|omega|rfl|(simp only [maxLen];omega)))) ?_)|(refine Br.mk ?_ ?_<;>intro hb<;>(try (exfalso;omega)))|(refine XLoad.of (by assumption) rfl rfl (by omega) (by omega) rfl ?_)|(refine New.mk ?_;intro b hb)|fail)));all_goals (try (conv=>whnf)))
   all_goals first
    | (refine⟨fun h' hs=>⟨⟨none,0,0,0,false,rfl,⟨fun h=>(by cases h.1),fun⟨st,q1,q2⟩=>?_⟩⟩,hs.grows⟩⟩
       exfalso
       rw [if_pos (by simp only [List.length_nil];omega)] at e0
       rw [sufS_none i.toNat (kidsL L) 0 (by rw [←e0];congr 1;omega)] at q1
       cases q1)
    |skip
   have hz:(((0:Nat):Int)-(getI prtR.dflt L i).kids-0).toNat=0:=by omega
   rw [hz]
   ((repeat' ((conv=>whnf);(first|(refine Ar.fit (by omega) ?_)|(refine VC.mk (by (first|omega|(and_intros<;>first|omega|rfl|(simp only [List.length_append,List.length_take,List.length_replicate,List.length_cons,List.length_nil];omega)))) ?_)|(refine Br.mk ?_ ?_<;>intro hb<;>(try (contradiction)))|(refine New2.mk ?_;intro b c hb hbc)|(refine SR.same ?_)|fail)));all_goals (try (conv=>whnf)))
   have hk0:k=0:=hfin (by simp only [List.length_nil];omega)
   refine⟨μ-1,⟨O.set i.toNat (i+1),some (b,c),[i],1,i-1⟩,⟨⟨by dsimp only;rw [List.length_set];exact a1,rfl,fun e=>(by cases e),by dsimp only;omega,by dsimp only;omega,?_⟩,fun b' c' e=>(by cases e;exact⟨hb,by simp at hbc;dsimp only;omega⟩),by dsimp only;omega⟩,by omega,by ((repeat (refine⟨rfl,?_⟩));trivial),rfl,rfl,⟨rfl,rfl,rfl,rfl,trivial⟩⟩
   dsimp only
   rw [show i-1+1=i by omega,e0,if_neg (by simp only [List.length_nil];omega)]
   simp
  ·obtain⟨hb0,hc0⟩:=a7 b0 c0 rfl
   rw [hk] at hr
   have hol:(O.set i.toNat (i+1)).length=O.length:=List.length_set
   dsimp only [siK,siC,List.append_nil,List.nil_append,List.cons_append]
   ((repeat' ((conv=>whnf);(first|(refine Ar.fit (by omega) ?_)|(refine VC.mk (by (first|omega|exact Sl.plain (by assumption) (by omega)|(and_intros<;>first|omega|rfl|(simp only [maxLen];omega)|(simp only [List.length_append,List.length_take,List.length_replicate,List.length_cons,List.length_nil];omega)))) ?_)|(refine Br.mk ?_ ?_<;>intro hb<;>(try (exfalso;omega)))|(refine XLoad.of (by assumption) rfl rfl (by omega) (by omega) rfl ?_)|(refine New.mk ?_;intro b hb)|(refine NewO.mk ?_;intro b c hb hbc)|(refine SR.same ?_)|fail)));all_goals (try (conv=>whnf)))
   all_goals first
    | (refine⟨fun h' hs=>⟨⟨none,0,0,0,false,rfl,⟨fun h=>(by cases h.1),fun⟨st,q1,q2⟩=>?_⟩⟩,hs.grows⟩⟩
       exfalso
       rw [if_pos (by omega)] at e0
       rw [sufS_none i.toNat (kidsL L) 0 (by rw [←e0];congr 1;omega)] at q1
       cases q1)
    |skip
   all_goals
    have e1:List.take (m-(getI prtR.dflt L i).kids).toNat xs++List.take (1:Int).toNat [i]=(i::xs.reverse.drop k.toNat).reverse:=by
     rw [List.reverse_cons,List.reverse_drop,List.reverse_reverse,List.length_reverse,hk]
     congr 2
     omega
    refine⟨μ-1,⟨_,some (b,c),List.take (m-(getI prtR.dflt L i).kids).toNat xs++List.take (1:Int).toNat [i],m-(getI prtR.dflt L i).kids+((List.take ((1:Nat):Int).toNat [i]).length:Nat),i-1⟩,⟨⟨by dsimp only;simp only [List.length_set];exact a1,?_,fun e=>(by cases e),by dsimp only;omega,by dsimp only;omega,?_⟩,fun b' c' e=>(by cases e;exact⟨hb.elim id (fun hh=>(by cases hh.2)),by dsimp only;omega⟩),by dsimp only;omega⟩,by omega,by ((repeat (refine⟨rfl,?_⟩));trivial),rfl,rfl,⟨rfl,rfl,rfl,rfl,trivial⟩⟩
    ·dsimp only
     rw [e1]
     simp only [List.length_reverse,List.length_cons,List.length_drop]
     simp
     omega
    ·dsimp only
     rw [show i-1+1=i by omega,e0,if_neg (by omega),e1,List.reverse_reverse]
 ·have hi1:i = -1:=by omega
  subst hi1
  have e9:sufS (kidsL L) 0=some xs.reverse:=by simpa using a6
  rcases o with _|⟨b0,c0⟩
  ·have:=a3 rfl
   subst this
   dsimp only [siK,siC,List.append_nil,List.nil_append,List.cons_append]
   ((repeat' ((conv=>whnf);(first|(refine Br.mk ?_ ?_<;>intro hb<;>(try (exfalso;omega)))|fail)));all_goals (try (conv=>whnf)))
   all_goals
    refine⟨fun h' hs=>⟨⟨_,_,_,_,true,rfl,?_⟩,hs.grows⟩⟩
    rw [e9]
    simp
  ·obtain⟨hb0,hc0⟩:=a7 b0 c0 rfl
   dsimp only [siK,siC,List.append_nil,List.nil_append,List.cons_append]
   ((repeat' ((conv=>whnf);(first|(refine VC.mk (by omega) ?_)|(refine Br.mk ?_ ?_<;>intro hb<;>(try (exfalso;omega)))|fail)));all_goals (try (conv=>whnf)))
   all_goals
    refine⟨fun h' hs=>⟨⟨_,_,_,_,true,rfl,?_⟩,hs.grows⟩⟩
    rw [e9]
    simp
    omega
theorem pwell2_any(A:Option Addr)(n c:Nat)(L:List Prt)(h:Heap)(hL:Sl prtR h A n L)(hn:n≤1000000000) :
 CH Tryz.prog 45 #[.slice A n c] h fun v h'=>(∃ (B:Option Addr) (m e:Nat),v = .tuple #[.slice B m e,denC (.prop (WellL L))])∧Grows h h':=by
 refine enter (rep:=rep) (m:=7) (ex:=[]) (cu:=[]) tO Tryz.func45 rfl (by decide) (rs:=[.tmp 2,.tmp 3]) rfl rfl [.val (.slice A n c)] rfl ?_
 (try (conv=>whnf))
 refine CK.epoch (fun h1 hq=>tends_any A n c L h1 (hL.grows hq.grows) hn) ?_
 rintro h1 u h2 hq ⟨⟨B,m,e,d,b,rfl,hbb⟩,hg⟩
 have hg0:=hq.grows.trans hg
 have hbb:(b=true∧d=1)↔WellL L:=hbb
 rcases b with _|_
 ·((repeat' ((conv=>whnf);(first|(refine Br.mk ?_ ?_<;>intro hb<;>(try (exact Bool.noConfusion hb)))|fail)));all_goals (try (conv=>whnf)))
  refine⟨fun h' hs=>⟨⟨B,m,e,?_⟩,hg0.trans hs.grows⟩⟩
  rw [prop_false (fun hw=>by have:=hbb.2 hw;cases this.1)]
  rfl
 ·((repeat' ((conv=>whnf);(first|(refine Br.mk ?_ ?_<;>intro hb<;>(try (exact absurd rfl hb)))|fail)));all_goals (try (conv=>whnf)))
  refine⟨fun h' hs=>⟨⟨B,m,e,?_⟩,hg0.trans hs.grows⟩⟩
  have:(d=1)=WellL L:=propext ⟨fun hd=>hbb.1 ⟨rfl,hd⟩,fun hw=>(hbb.2 hw).2⟩
  rw [←this]
  rfl
theorem pwell_any(A:Option Addr)(n c:Nat)(L:List Prt)(h:Heap)(hL:Sl prtR h A n L)(hn:n≤1000000000) :
 CH Tryz.prog 36 #[.slice A n c] h fun v h'=>v=denC (.prop (WellL L))∧Grows h h':=by
 refine enter (rep:=rep) (m:=5) (ex:=[]) (cu:=[]) tO Tryz.func36 rfl (by decide) (rs:=[.tmp 2]) rfl rfl [.val (.slice A n c)] rfl ?_
 (try (conv=>whnf))
 refine CK.epoch (fun h1 hq=>pwell2_any A n c L h1 (hL.grows hq.grows) hn) ?_
 rintro h1 u h2 hq ⟨⟨B,m,e,rfl⟩,hg⟩
 have hg0:=hq.grows.trans hg
 by_cases hw:WellL L
 ·rw [prop_true hw]
  (try (conv=>whnf))
  exact⟨fun h' hs=>⟨prop_true rfl,hg0.trans hs.grows⟩⟩
 ·rw [prop_false hw]
  (try (conv=>whnf))
  exact⟨fun h' hs=>⟨prop_false (fun h=>by cases h),hg0.trans hs.grows⟩⟩
end Go.Ex.Pk
namespace Go.Ex
open Go.Proofs
attribute [local irreducible] CH
structure PartW(p:Prt):Prop where
 kind:0≤p.kind∧p.kind≤68
 least:leastA p.kind≤p.kids
 more:leastA p.kind<p.kids→moreA p.kind=true
 size:p.word.size≤1000000
 spelt:SpP p.kind p.word
theorem tcheck_any(A:Option Addr)(n c:Nat)(L:List Prt)(h:Heap)(ht:TabsH h)(hL:Sl prtR h A n L)(hn:n≤1000000000)(hW:Pk.WellL L)(hP:∀ p∈L,PartW p) :
 CH Tryz.prog 18 #[.slice A n c] h fun v h'=>v = .int .i64 0∧Grows h h':=by
 refine enter (rep:=rep) (m:=1) (ex:=[0,2,4,5,6,9,10,11,12,13,48]) (cu:=[]) tO Tryz.func18 rfl (by decide) (rs:=[.tmp 2]) rfl rfl [.val (.slice A n c)] rfl ?_
 have hlen:=hL.len_eq
 have cw:∀ h1,Sl prtR h1 A n L→CH Tryz.prog 36 #[.slice A n c] h1 fun v h'=>v = .bool true∧Grows h1 h':=fun h1 hs=>(Pk.pwell_any A n c L h1 hs hn).mono fun v h' ⟨e1,e2⟩=>⟨e1.trans (prop_true hW),e2⟩
 have hH:Held prtR h [] A n L:=Held.start hL
 ((repeat' ((conv=>whnf);(first|(refine Br.mk ?_ ?_<;>intro hb<;>(try replace hb:=Classical.not_not.1 hb)<;>(try (exact absurd rfl hb)))|(apply CK.pure;(case hh=>(intro h1 hs;exact cw h1 (hH.at_ hs))))|fail)));all_goals (try (conv=>whnf)))
 all_goals (try (exfalso;omega))
 refine lgn tO [12] (fun i:Nat=>[(12,.val (.int .i64 i))]) (fun _=>⟨h,[],[]⟩) (fun μ i=>i+μ=n) ?_
 conv=>whnf
 refine⟨fun h5 hs=>⟨n,0,by omega,?_,hs⟩,?_⟩
 ·(repeat (refine And.intro ⟨_,rfl,by first|rfl|(simp [den,den1,denC];done)⟩ ?_));exact trivial
 rintro μ i hi0
 by_cases hi:i<n
 ·have hp:PartW (getI prtR.dflt L (i:Int)):=hP _ (getI_mem prtR.dflt L (i:Int) (by omega) (by omega))
  have hpl:PlainA A:=hL.plain (by omega)
  obtain⟨p1,p2,p3,p4,p5⟩:=hp
  have ca:=fun h1=>arity_any (getI prtR.dflt L (i:Int)).kind h1 (by omega)
  have cs:=fun h1 ht=>spelt_any (getI prtR.dflt L (i:Int)).kind (getI prtR.dflt L (i:Int)).word h1 ht (by omega) p4 p5
  generalize leastA (getI prtR.dflt L (i:Int)).kind=la at *
  by_cases hm:moreA (getI prtR.dflt L (i:Int)).kind=true
  ·rw [hm] at ca
   ((repeat' ((conv=>whnf);(first|(refine Ar.fit (by omega) ?_)|(refine VC.mk (by omega) ?_)|(refine Br.mk ?_ ?_<;>intro hb<;>(try replace hb:=Classical.not_not.1 hb)<;>(try (first|(exfalso;omega)|exact absurd rfl hb)))|(refine XLoad.of (by assumption) rfl rfl (by omega) (by omega) rfl ?_)|(refine New.mk ?_;intro b hb)|(apply CK.pure;(case hh=>(intro h1 hs;exact ca h1)))|(apply CK.pure;(case hh=>(intro h1 hs;exact cs h1 (ht.at hs))))|fail)));all_goals (try (conv=>whnf)))
   all_goals first
    |(exfalso;omega)
    | (intro h6 hs
       refine⟨μ-1,i+1,by omega,by omega,?_,hs.ren [] trivial⟩
       (repeat (refine And.intro ⟨_,rfl,by first|rfl|(simp [den,den1,denC];done)⟩ ?_));exact trivial)
  ·have hm2:moreA (getI prtR.dflt L (i:Int)).kind=false:=by simpa using hm
   have hle:¬ la<(getI prtR.dflt L (i:Int)).kids:=fun q=>hm (p3 q)
   rw [hm2] at ca
   ((repeat' ((conv=>whnf);(first|(refine Ar.fit (by omega) ?_)|(refine VC.mk (by omega) ?_)|(refine Br.mk ?_ ?_<;>intro hb<;>(try replace hb:=Classical.not_not.1 hb)<;>(try (first|(exfalso;omega)|exact absurd rfl hb)))|(refine XLoad.of (by assumption) rfl rfl (by omega) (by omega) rfl ?_)|(refine New.mk ?_;intro b hb)|(apply CK.pure;(case hh=>(intro h1 hs;exact ca h1)))|(apply CK.pure;(case hh=>(intro h1 hs;exact cs h1 (ht.at hs))))|fail)));all_goals (try (conv=>whnf)))
   all_goals first
    |(exfalso;omega)
    | (intro h6 hs
       refine⟨μ-1,i+1,by omega,by omega,?_,hs.ren [] trivial⟩
       (repeat (refine And.intro ⟨_,rfl,by first|rfl|(simp [den,den1,denC];done)⟩ ?_));exact trivial)
 ·((repeat' ((conv=>whnf);(first|(refine Br.mk ?_ ?_<;>intro hb<;>(try (exfalso;omega)))|fail)));all_goals (try (conv=>whnf)))
  all_goals first
   |exact⟨fun h' hs=>⟨rfl,hs.grows⟩⟩
   |(exfalso;omega)
end Go.Ex
namespace Go.Ex
open Go.Proofs
mutual
theorem suf_flat:∀ (x:Nd) (ks:List Int) (i:Int) (st:List Int),Pk.sufS ks (i+(flat x).length)=some st→Pk.sufS ((flat x).map Nde.kids++ks) i=some (i::st)
 |.mk k w f t l,ks,i,st,h=>by
  have h1:i+((flat (.mk k w f t l)).length:Int)=i+1+((flatL l).length:Int):=by simp only [flat,List.length_cons];omega
  rw [h1] at h
  obtain⟨st',h2,h3,h4⟩:=suf_flatL l ks (i+1) st h
  simp only [flat,List.map_cons,List.cons_append,Pk.sufS,h2]
  rw [if_neg (by omega),Int.toNat_natCast,h4]
theorem suf_flatL:∀ (l:List Nd) (ks:List Int) (i:Int) (st:List Int),Pk.sufS ks (i+(flatL l).length)=some st→∃ st',Pk.sufS ((flatL l).map Nde.kids++ks) i=some st'∧st'.length=l.length+st.length∧st'.drop l.length=st
 |[],ks,i,st,h=>by
  simp only [flatL,List.length_nil] at h
  rw [show i+((0:Nat):Int)=i by omega] at h
  exact⟨st,by simpa only [flatL,List.map_nil,List.nil_append] using h,by simp,by simp⟩
 |x::r,ks,i,st,h=>by
  have h1:i+((flatL (x::r)).length:Int)=i+((flat x).length:Int)+((flatL r).length:Int):=by simp only [flatL,List.length_append];omega
  rw [h1] at h
  obtain⟨st',h2,h3,h4⟩:=suf_flatL r ks (i+(flat x).length) st h
  have h5:=suf_flat x ((flatL r).map Nde.kids++ks) i st' h2
  refine⟨i::st',?_,by simp only [List.length_cons];omega,by simpa only [List.length_cons,List.drop_succ_cons] using h4⟩
  simp only [flatL,List.map_append,List.append_assoc]
  exact h5
end
theorem well_flat(I:In)(x:Nd):Pk.WellL ((flat x).map (partN I)):=by
 have h:=suf_flat x [] 0 [] rfl
 rw [List.append_nil] at h
 refine⟨[0],?_,rfl⟩
 unfold Pk.kidsL
 rw [List.map_map]
 exact h
structure NodW(I:In)(y:Nde):Prop where
 kids:0≤y.kids
 lc:Lc I y.kind y.word y.frm y.to y.kids.toNat
mutual
theorem flat_nod{I:In}:∀ (x:Nd),Wel I x→∀ y∈flat x,NodW I y
 |.mk k w f t l,h,y,hy=>by
  unfold Wel at h
  obtain⟨h1,h2⟩:=h
  simp only [flat,List.mem_cons] at hy
  rcases hy with rfl|hy
  ·exact⟨by dsimp only;omega,by dsimp only;rw [Int.toNat_natCast];exact h1⟩
  ·rcases h2 with h2|h2
   ·have h6:l.length=0:=by
     have:=h1.2.2.1
     rcases h2 with rfl|rfl<;>simpa [ArP,arT] using this
    have h7:l=[]:=List.eq_nil_of_length_eq_zero h6
    subst h7
    simp only [flatL] at hy
    cases hy
   ·exact flatL_nod l w f t h2 y hy
theorem flatL_nod{I:In}:∀ (l:List Nd) (w f t:Int),WelL I w l f t→∀ y∈flatL l,NodW I y
 |[],w,f,t,h,y,hy=>by simp only [flatL] at hy;cases hy
 |x::r,w,f,t,h,y,hy=>by
  unfold WelL at h
  simp only [flatL,List.mem_append] at hy
  rcases hy with hy|hy
  ·exact flat_nod x h.2.2.1 y hy
  ·exact flatL_nod r w x.to t h.2.2.2 y hy
end
def nlN(I:In):Nat→Int→List Int
 |0,_=>[]
 |k+1,a=>if NL I a then a::nlN I k (a+1) else nlN I k (a+1)
def nlL(I:In)(a b:Int):List Int:=nlN I (b-a).toNat a
theorem nlN_add(I:In):∀ (k j:Nat) (a:Int),nlN I (k+j) a=nlN I k a++nlN I j (a+k)
 |0,j,a=>by simp [nlN]
 |k+1,j,a=>by
  rw [show k+1+j=(k+j)+1 by omega]
  simp only [nlN]
  rw [nlN_add I k j (a+1),show a+1+(k:Int)=a+((k+1:Nat):Int) by omega]
  split<;>rfl
theorem nlL_app(I:In){a b c:Int}(h1:a≤b)(h2:b≤c):nlL I a c=nlL I a b++nlL I b c:=by
 unfold nlL
 rw [show (c-a).toNat=(b-a).toNat+(c-b).toNat by omega,nlN_add,show a+(((b-a).toNat:Nat):Int)=b by omega]
theorem nlN_gap(I:In):∀ (k:Nat) (a:Int),(∀ i,a≤i→i<a+k→¬ NL I i)→nlN I k a=[]
 |0,a,h=>rfl
 |k+1,a,h=>by
  simp only [nlN]
  rw [if_neg (h a (Int.le_refl _) (by omega))]
  exact nlN_gap I k (a+1) fun i h1 h2=>h i (by omega) (by omega)
theorem nlL_gap(I:In){a b:Int}(h0:0≤a)(h1:a≤b)(h2:pc I a=pc I b):nlL I a b=[]:=nlN_gap I _ a fun i h3 h4=>pc_gap I a b h0 h1 h2 i h3 (by omega)
def lvs(l:List Nde):List Int:=(l.filter fun y=>decide (y.kind=26∨y.kind=27)).map Nde.word
theorem lvs_app(l r:List Nde):lvs (l++r)=lvs l++lvs r:=by unfold lvs;rw [List.filter_append,List.map_append]
mutual
theorem lvs_flat{I:In}:∀ (x:Nd),Wel I x→lvs (flat x)=nlL I x.frm x.to
 |.mk k w f t l,h=>by
  unfold Wel at h
  obtain⟨⟨a1,a2,a3,a4⟩,h2⟩:=h
  show lvs (flat (.mk k w f t l))=nlL I f t
  by_cases hk:k=26∨k=27
  ·have h6:l.length=0:=by rcases hk with rfl|rfl<;>simpa [ArP,arT] using a3
   have h7:l=[]:=List.eq_nil_of_length_eq_zero h6
   subst h7
   have h8:w=f∧t=f+1∧NL I f:=by
    rcases a4 with ⟨_,b⟩|⟨_,b⟩
    ·rcases hk with rfl|rfl<;>exact absurd b (by decide)
    ·rcases b with ⟨_,c,d⟩|⟨_,c,d⟩|⟨d,_⟩
     ·exact⟨c.1,c.2,.inl d⟩
     ·exact⟨c.1,c.2,.inr d⟩
     ·rcases hk with rfl|rfl<;>simp [WdK] at d
   obtain⟨rfl,rfl,h9⟩:=h8
   have e1:lvs (flat (.mk k w w (w+1) []))=[w]:=by
    unfold lvs
    simp only [flat,flatL,List.filter_cons,List.filter_nil]
    rw [if_pos (by simpa using hk)]
    rfl
   rw [e1]
   unfold nlL
   rw [show (w+1-w).toNat=1 by omega]
   simp only [nlN]
   rw [if_pos h9]
  ·have h3:=h2.resolve_left hk
   have e1:lvs (flat (.mk k w f t l))=lvs (flatL l):=by
    unfold lvs
    simp only [flat,List.filter_cons]
    rw [if_neg (by simpa using hk)]
   rw [e1]
   exact lvs_flatL l w f t a1.1 h3
theorem lvs_flatL{I:In}:∀ (l:List Nd) (w f t:Int),0≤f→WelL I w l f t→lvs (flatL l)=nlL I f t
 |[],w,f,t,h0,h=>by
  unfold WelL at h
  rw [nlL_gap I h0 h.1 h.2]
  rfl
 |x::r,w,f,t,h0,h=>by
  unfold WelL at h
  obtain⟨b1,b2,b3,b4⟩:=h
  have hr:=b3.rng
  have hle:=b4.le
  rw [flatL,lvs_app,lvs_flat x b3,lvs_flatL r w x.to t (by omega) b4,nlL_app I (a:=f) (b:=x.to) (c:=t) (by omega) hle,nlL_app I (a:=f) (b:=x.frm) (c:=x.to) (by omega) hr.2.1,nlL_gap I h0 b1.1 b1.2]
  rfl
end
end Go.Ex
namespace Go.Ex
open Go.Proofs
theorem sp_of(k:Int)(w:ByteArray)(h26:¬ k=26)(h27:¬ k=27)(h5:¬ k=5)(h7:¬ k=7)(h15:¬ (k=15∨k=34))(h66:¬ k=66)(he:¬ wordsT k=⟨#[]⟩)(h1:¬ w=⟨#[]⟩)(h2:Lib.contains w.data.toList [32]=false)(h3:Lib.contains (wordsT k).data.toList ((⟨#[32]⟩:ByteArray)++w++(⟨#[32]⟩:ByteArray)).data.toList=true):SpP k w:=by
 unfold SpP
 rw [if_neg h26,if_neg h27,if_neg h5,if_neg h7,if_neg h15,if_neg h66,if_neg he]
 exact⟨h1,h2,h3⟩
theorem sp36(w:ByteArray)(h:w=(⟨#[43]⟩:ByteArray)∨w=(⟨#[45]⟩:ByteArray)∨w=(⟨#[33]⟩:ByteArray)∨w=(⟨#[94]⟩:ByteArray)∨w=(⟨#[38]⟩:ByteArray)∨w=(⟨#[60,45]⟩:ByteArray)):SpP 36 w:=by
 rcases h with rfl|rfl|rfl|rfl|rfl|rfl
 all_goals exact sp_of 36 _ (by decide) (by decide) (by decide) (by decide) (by decide) (by decide) (by decide +kernel) (by decide) (by decide +kernel) (by decide +kernel)
theorem sp57(w:ByteArray)(h:w=(⟨#[98,114,101,97,107]⟩:ByteArray)∨w=(⟨#[99,111,110,116,105,110,117,101]⟩:ByteArray)∨w=(⟨#[103,111,116,111]⟩:ByteArray)∨w=(⟨#[102,97,108,108,116,104,114,111,117,103,104]⟩:ByteArray)):SpP 57 w:=by
 rcases h with rfl|rfl|rfl|rfl
 all_goals exact sp_of 57 _ (by decide) (by decide) (by decide) (by decide) (by decide) (by decide) (by decide +kernel) (by decide) (by decide +kernel) (by decide +kernel)
theorem sp52(w:ByteArray)(h:w=(⟨#[43,43]⟩:ByteArray)∨w=(⟨#[45,45]⟩:ByteArray)):SpP 52 w:=by
 rcases h with rfl|rfl
 all_goals exact sp_of 52 _ (by decide) (by decide) (by decide) (by decide) (by decide) (by decide) (by decide +kernel) (by decide) (by decide +kernel) (by decide +kernel)
theorem sp53(w:ByteArray)(h:assignsP w):SpP 53 w:=by
 unfold assignsP at h
 rcases h with rfl|rfl|rfl|rfl|rfl|rfl|rfl|rfl|rfl|rfl|rfl|rfl|rfl
 all_goals exact sp_of 53 _ (by decide) (by decide) (by decide) (by decide) (by decide) (by decide) (by decide +kernel) (by decide) (by decide +kernel) (by decide +kernel)
theorem sp3(w:ByteArray)(h:w=(⟨#[105,109,112,111,114,116]⟩:ByteArray)∨w=(⟨#[99,111,110,115,116]⟩:ByteArray)∨w=(⟨#[118,97,114]⟩:ByteArray)∨w=(⟨#[116,121,112,101]⟩:ByteArray)):SpP 3 w∧SpP 4 w:=by
 rcases h with rfl|rfl|rfl|rfl
 all_goals exact⟨sp_of 3 _ (by decide) (by decide) (by decide) (by decide) (by decide) (by decide) (by decide +kernel) (by decide) (by decide +kernel) (by decide +kernel),sp_of 4 _ (by decide) (by decide) (by decide) (by decide) (by decide) (by decide) (by decide +kernel) (by decide) (by decide +kernel) (by decide +kernel)⟩
theorem sp45(w:ByteArray)(h:w=(⟨#[60,45,99,104,97,110]⟩:ByteArray)∨w=(⟨#[99,104,97,110,60,45]⟩:ByteArray)∨w=(⟨#[99,104,97,110]⟩:ByteArray)):SpP 45 w:=by
 rcases h with rfl|rfl|rfl
 all_goals exact sp_of 45 _ (by decide) (by decide) (by decide) (by decide) (by decide) (by decide) (by decide +kernel) (by decide) (by decide +kernel) (by decide +kernel)
theorem sp37(w:ByteArray)(h:1≤levelF w):SpP 37 w:=by
 have key:(w=(⟨#[124,124]⟩:ByteArray)∨w=(⟨#[38,38]⟩:ByteArray)∨w=(⟨#[61,61]⟩:ByteArray)∨w=(⟨#[33,61]⟩:ByteArray)∨w=(⟨#[60]⟩:ByteArray)∨w=(⟨#[60,61]⟩:ByteArray)∨w=(⟨#[62]⟩:ByteArray)∨w=(⟨#[62,61]⟩:ByteArray))∨w=(⟨#[43]⟩:ByteArray)∨w=(⟨#[45]⟩:ByteArray)∨w=(⟨#[124]⟩:ByteArray)∨w=(⟨#[94]⟩:ByteArray)∨w=(⟨#[42]⟩:ByteArray)∨w=(⟨#[47]⟩:ByteArray)∨w=(⟨#[37]⟩:ByteArray)∨w=(⟨#[60,60]⟩:ByteArray)∨w=(⟨#[62,62]⟩:ByteArray)∨w=(⟨#[38]⟩:ByteArray)∨w=(⟨#[38,94]⟩:ByteArray):=by
  unfold levelF at h
  by_cases d1:w=(⟨#[124,124]⟩:ByteArray)
  ·exact .inl (.inl d1)
  by_cases d2:w=(⟨#[38,38]⟩:ByteArray)
  ·exact .inl (.inr (.inl d2))
  rw [if_neg d1,if_neg d2] at h
  split at h
  ·left;right;right;assumption
  split at h
  ·right
   have c:w=(⟨#[43]⟩:ByteArray)∨w=(⟨#[45]⟩:ByteArray)∨w=(⟨#[124]⟩:ByteArray)∨w=(⟨#[94]⟩:ByteArray):=by assumption
   rcases c with h|h|h|h
   ·exact .inl h
   ·exact .inr (.inl h)
   ·exact .inr (.inr (.inl h))
   ·exact .inr (.inr (.inr (.inl h)))
  split at h
  ·right;right;right;right;right;assumption
  ·omega
 rcases key with (rfl|rfl|rfl|rfl|rfl|rfl|rfl|rfl)|rfl|rfl|rfl|rfl|rfl|rfl|rfl|rfl|rfl|rfl|rfl
 all_goals exact sp_of 37 _ (by decide) (by decide) (by decide) (by decide) (by decide) (by decide) (by decide +kernel) (by decide) (by decide +kernel) (by decide +kernel)
end Go.Ex
namespace Go.Ex
open Go.Proofs
def TokOk(I:In):Prop:=∀ t∈I.toks,((0≤t.frm∧t.frm<I.s.size)∧¬ (lexK I.s t.frm).1=0∧t=⟨(lexK I.s t.frm).1,t.frm,(lexK I.s t.frm).2⟩)∨∃ e,t=⟨9,e,e⟩
theorem txt_size(I:In)(w:Int):(txtI I w).size≤I.s.size:=by
 unfold txtI
 split
 ·rw [ByteArray.size_extract];omega
 ·exact Nat.zero_le _
theorem txt_word(I:In)(w:Int)(h1:¬ word I w=⟨#[]⟩)(h2:¬ word I w=(⟨#[59]⟩:ByteArray)):txtI I w=word I w:=by
 unfold word at h1 h2 ⊢
 by_cases c1:w<0∨I.L≤w
 ·rw [if_pos c1] at h1;exact absurd rfl h1
 rw [if_neg c1] at h1 h2 ⊢
 by_cases c2:(getI tokR.dflt I.toks w).kind=9
 ·rw [if_pos c2] at h2;exact absurd rfl h2
 rw [if_neg c2] at h1 ⊢
 by_cases c3:(getI tokR.dflt I.toks w).kind=8∨(getI tokR.dflt I.toks w).kind=2
 ·rw [if_pos c3]
  unfold txtI
  rw [if_pos (by omega)]
 ·rw [if_neg c3] at h1;exact absurd rfl h1
theorem txt_tok(I:In)(hT:TokOk I)(w:Int)(hk:1≤kindT I w∧kindT I w≤7):(kindT I w=1→NameP (txtI I w))∧(3≤kindT I w→LitP (txtI I w)):=by
 unfold kindT at hk ⊢
 by_cases c1:w<0∨I.L≤w
 ·rw [if_pos c1] at hk;omega
 rw [if_neg c1] at hk ⊢
 have hm:getI tokR.dflt I.toks w∈I.toks:=getI_mem tokR.dflt I.toks w (by omega) (by unfold In.L at c1;omega)
 unfold txtI
 rw [if_pos (by omega)]
 generalize getI tokR.dflt I.toks w=t at hm hk ⊢
 rcases hT t hm with ⟨h1,h2,h3⟩|⟨e,rfl⟩
 ·obtain⟨k1,k2⟩:=lexK_txt I.s t.frm h1
  have e1:t.kind=(lexK I.s t.frm).1:=congrArg Tok.kind h3
  have e2:t.to=(lexK I.s t.frm).2:=congrArg Tok.to h3
  rw [e1] at hk ⊢
  rw [e2]
  exact⟨k1,fun q=>k2 q hk.2⟩
 ·dsimp only at hk;omega
end Go.Ex
namespace Go.Ex
open Go.Proofs
theorem bare_words:∀ n : _root_.Fin 69,BareK (n.val:Int)→wordsT (n.val:Int)=⟨#[]⟩:=by decide +kernel
theorem bare_sp(k:Int)(hk:0≤k∧k≤68)(h:BareK k):SpP k ⟨#[]⟩:=by
 have hw:=bare_words ⟨k.toNat,by omega⟩
 simp only at hw
 rw [Int.toNat_of_nonneg hk.1] at hw
 have hw:=hw h
 unfold BareK at h
 unfold SpP
 rw [if_neg (by omega),if_neg (by omega)]
 split
 ·exact .inl rfl
 split
 ·exact .inl rfl
 split
 ·exact .inl rfl
 split
 ·exact .inl rfl
 all_goals rfl
end Go.Ex
namespace Go.Ex
open Go.Proofs
theorem wdk_sp(k:Int)(u:ByteArray)(h:WdK k u)(h45:¬ k=45)(h26:¬ k=26)(h27:¬ k=27):SpP k u:=by
 unfold WdK at h
 by_cases c3:k=3∨k=4
 ·rw [if_pos c3] at h
  rcases c3 with rfl|rfl
  ·exact (sp3 u h).1
  ·exact (sp3 u h).2
 rw [if_neg c3] at h
 by_cases c5:k=5
 ·rw [if_pos c5] at h
  unfold SpP
  rw [if_neg h26,if_neg h27,if_pos c5]
  exact .inr h
 rw [if_neg c5] at h
 by_cases c7:k=7
 ·rw [if_pos c7] at h
  unfold SpP
  rw [if_neg h26,if_neg h27,if_neg c5,if_pos c7]
  exact .inr h
 rw [if_neg c7] at h
 by_cases c15:k=15∨k=34
 ·rw [if_pos c15] at h
  unfold SpP
  rw [if_neg h26,if_neg h27,if_neg c5,if_neg c7,if_pos c15]
  exact .inr h
 rw [if_neg c15] at h
 by_cases c36:k=36
 ·rw [if_pos c36] at h;subst c36;exact sp36 u h
 rw [if_neg c36] at h
 by_cases c37:k=37
 ·rw [if_pos c37] at h;subst c37;exact sp37 u h
 rw [if_neg c37,if_neg h45] at h
 by_cases c52:k=52
 ·rw [if_pos c52] at h;subst c52;exact sp52 u h
 rw [if_neg c52] at h
 by_cases c53:k=53
 ·rw [if_pos c53] at h;subst c53;exact sp53 u h
 rw [if_neg c53] at h
 by_cases c57:k=57
 ·rw [if_pos c57] at h;subst c57;exact sp57 u h
 rw [if_neg c57] at h
 by_cases c66:k=66
 ·rw [if_pos c66] at h
  unfold SpP
  rw [if_neg h26,if_neg h27,if_neg c5,if_neg c7,if_neg c15,if_pos c66]
  rcases h with h|h
  ·exact .inr (.inl h)
  ·exact .inr (.inr h)
 rw [if_neg c66] at h
 exact h.elim
end Go.Ex
namespace Go.Ex
open Go.Proofs
theorem wdk_no(k:Int):¬ WdK k ⟨#[]⟩∧¬ WdK k ((⟨#[59]⟩:ByteArray)):=by
 have l0:¬ 1≤levelF ⟨#[]⟩:=by decide
 have l1:¬ 1≤levelF ((⟨#[59]⟩:ByteArray)):=by decide
 have a0:¬ assignsP ⟨#[]⟩:=by decide
 have a1:¬ assignsP ((⟨#[59]⟩:ByteArray)):=by decide
 constructor
 all_goals
  intro h
  unfold WdK at h
  by_cases c0:k=3∨k=4
  ·rw [if_pos c0] at h
   first
    |exact l0 h
    |exact l1 h
    |exact a0 h
    |exact a1 h
    |exact absurd h (by decide)
  rw [if_neg c0] at h
  by_cases c1:k=5
  ·rw [if_pos c1] at h
   first
    |exact l0 h
    |exact l1 h
    |exact a0 h
    |exact a1 h
    |exact absurd h (by decide)
  rw [if_neg c1] at h
  by_cases c2:k=7
  ·rw [if_pos c2] at h
   first
    |exact l0 h
    |exact l1 h
    |exact a0 h
    |exact a1 h
    |exact absurd h (by decide)
  rw [if_neg c2] at h
  by_cases c3:k=15∨k=34
  ·rw [if_pos c3] at h
   first
    |exact l0 h
    |exact l1 h
    |exact a0 h
    |exact a1 h
    |exact absurd h (by decide)
  rw [if_neg c3] at h
  by_cases c4:k=36
  ·rw [if_pos c4] at h
   first
    |exact l0 h
    |exact l1 h
    |exact a0 h
    |exact a1 h
    |exact absurd h (by decide)
  rw [if_neg c4] at h
  by_cases c5:k=37
  ·rw [if_pos c5] at h
   first
    |exact l0 h
    |exact l1 h
    |exact a0 h
    |exact a1 h
    |exact absurd h (by decide)
  rw [if_neg c5] at h
  by_cases c6:k=45
  ·rw [if_pos c6] at h
   first
    |exact l0 h
    |exact l1 h
    |exact a0 h
    |exact a1 h
    |exact absurd h (by decide)
  rw [if_neg c6] at h
  by_cases c7:k=52
  ·rw [if_pos c7] at h
   first
    |exact l0 h
    |exact l1 h
    |exact a0 h
    |exact a1 h
    |exact absurd h (by decide)
  rw [if_neg c7] at h
  by_cases c8:k=53
  ·rw [if_pos c8] at h
   first
    |exact l0 h
    |exact l1 h
    |exact a0 h
    |exact a1 h
    |exact absurd h (by decide)
  rw [if_neg c8] at h
  by_cases c9:k=57
  ·rw [if_pos c9] at h
   first
    |exact l0 h
    |exact l1 h
    |exact a0 h
    |exact a1 h
    |exact absurd h (by decide)
  rw [if_neg c9] at h
  by_cases c10:k=66
  ·rw [if_pos c10] at h
   first
    |exact l0 h
    |exact l1 h
    |exact a0 h
    |exact a1 h
    |exact absurd h (by decide)
  rw [if_neg c10] at h
  exact h
theorem wdk_txt(I:In)(k w:Int)(h:WdK k (word I w)):txtI I w=word I w:=
 txt_word I w (fun q=>(wdk_no k).1 (by rw [←q];exact h)) (fun q=>(wdk_no k).2 (by rw [←q];exact h))
theorem part_ok(I:In)(hT:TokOk I)(hz:I.s.size≤900000)(y:Nde)(h:NodW I y):PartW (partN I y):=by
 obtain⟨h1,h2,h3,h4,h5⟩:=h
 obtain⟨a1,a2⟩:=ar_least h4
 rw [Int.toNat_of_nonneg h1] at a1 a2
 have hs:=txt_size I y.word
 have hp:y.kind=45→WdP I y.kind y.word y.frm y.to→wordP I y.kind y.word=(⟨#[60,45,99,104,97,110]⟩:ByteArray)∨wordP I y.kind y.word=(⟨#[99,104,97,110,60,45]⟩:ByteArray)∨wordP I y.kind y.word=(⟨#[99,104,97,110]⟩:ByteArray):=by
  intro e q
  unfold WdP at q
  rcases q with ⟨_,q⟩|⟨q0,⟨q,_⟩|⟨q,_⟩|⟨q,_⟩⟩
  ·unfold BareK at q;omega
  ·omega
  ·omega
  ·have t:=wdk_txt I _ _ q
   rw [e] at q
   have q2:word I y.word=(⟨#[99,104,97,110]⟩:ByteArray)∨word I y.word=(⟨#[60,45]⟩:ByteArray):=q
   unfold wordP
   rw [if_pos e,t]
   by_cases c1:word I y.word=(⟨#[60,45]⟩:ByteArray)
   ·rw [if_pos c1];exact .inl rfl
   ·rw [if_neg c1]
    by_cases c2:word I (y.word+1)=(⟨#[60,45]⟩:ByteArray)
    ·rw [if_pos c2];exact .inr (.inl rfl)
    ·rw [if_neg c2];exact .inr (.inr (q2.resolve_right c1))
 by_cases e:y.kind=45
 ·have hw:=hp e h5
  refine⟨h3,a1,a2,?_,?_⟩
  ·show (wordP I y.kind y.word).size≤1000000
   rcases hw with q|q|q<;>rw [q]<;>decide
  ·show SpP y.kind (wordP I y.kind y.word)
   rw [e] at hw ⊢
   exact sp45 _ hw
 ·have hw:wordP I y.kind y.word=txtI I y.word:=by unfold wordP;rw [if_neg e]
  refine⟨h3,a1,a2,?_,?_⟩
  ·show (wordP I y.kind y.word).size≤1000000
   rw [hw];omega
  ·show SpP y.kind (wordP I y.kind y.word)
   rw [hw]
   unfold WdP at h5
   rcases h5 with ⟨q0,q⟩|⟨q0,⟨q1,q2,q3⟩|⟨q1,q2,q3⟩|⟨q,_⟩⟩
   ·have:txtI I y.word=⟨#[]⟩:=by unfold txtI;rw [if_neg (by omega)]
    rw [this]
    exact bare_sp _ h3 q
   ·unfold SpP
    rw [if_pos q1,q2.1]
    exact (txt_tok I hT y.frm (by omega)).1 q3
   ·unfold SpP
    rw [if_neg (by omega),if_pos q1,q2.1]
    unfold Lit at q3
    exact (txt_tok I hT y.frm (by omega)).2 q3.1
   ·by_cases c26:y.kind=26
    ·rw [c26] at q;exact absurd q (by unfold WdK;simp)
    by_cases c27:y.kind=27
    ·rw [c27] at q;exact absurd q (by unfold WdK;simp)
    rw [wdk_txt I _ _ q]
    exact wdk_sp _ _ q e c26 c27
end Go.Ex
