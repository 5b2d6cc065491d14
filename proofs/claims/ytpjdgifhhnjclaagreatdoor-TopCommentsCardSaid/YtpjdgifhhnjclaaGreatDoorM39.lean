/-
  Top: TopComments: whatever the input, the law answers true (part 39)
-/
import Derived.Test.YtpjdgifhhnjclaaGreatDoorM37
set_option linter.unusedVariables false
set_option linter.unusedSimpArgs false
set_option maxHeartbeats 4000000
set_option maxRecDepth 10000
namespace Go.Ex.Pk
open Go.Ex Go.Proofs
attribute [local irreducible] CH
def sufS:List Int→Int→Option (List Int)
 |[],i=>some []
 |k::r,i=>match sufS r (i+1) with
  |none=>none
  |some st=>if k<0∨(st.length:Int)<k then none else some (i::st.drop k.toNat)
theorem Ab:∀ (ks:List Int) (i:Int) (st:List Int),sufS ks i=some st→st.length≤ks.length
 |[],i,st,h=>by cases h;exact Nat.le_refl _
 |k::r,i,st,h=>by
  simp only [sufS] at h
  split at h
  ·cases h
  ·rename_i st' hs
   split at h
   ·cases h
   ·cases h
    have:=Ab r (i+1) st' hs
    simp only [List.length_cons,List.length_drop];omega
def kidsL(L:List M8):List Int:=L.map M8.kids
theorem To(L:List M8)(i:Int)(h0:0≤i)(h1:i<L.length):(kidsL L).drop i.toNat=(B1 P3.dflt L i).kids::(kidsL L).drop (i+1).toNat:=by
 unfold kidsL
 have hi:i.toNat<L.length:=by omega
 rw [List.drop_eq_getElem_cons (by simpa using hi),show (i+1).toNat=i.toNat+1 by omega]
 congr 1
 rw [List.getElem_map]
 unfold B1
 rw [List.getD_eq_getElem?_getD,List.getElem?_eq_getElem hi]
 rfl
def WellL(L:List M8):Prop:=∃ st,sufS (kidsL L) 0=some st∧st.length=1
theorem Za:∀ (ks:List Int) (i:Int) (st:List Int),sufS ks i=some st→∀ y∈st,i≤y∧y<i+ks.length
 |[],i,st,h,y,hy=>by cases h;cases hy
 |k::r,i,st,h,y,hy=>by
  simp only [sufS] at h
  split at h
  ·cases h
  ·rename_i st' hs
   split at h
   ·cases h
   ·cases h
    simp only [List.length_cons]
    rcases List.mem_cons.1 hy with rfl|hy
    ·omega
    ·have:=Za r (i+1) st' hs y (List.mem_of_mem_drop hy)
     omega
theorem nI:∀ (j:Nat) (ks:List Int) (i:Int),sufS (ks.drop j) (i+j)=none→sufS ks i=none
 |0,ks,i,h=>by simpa using h
 |j+1,[],i,h=>by simp [sufS] at h
 |j+1,k::r,i,h=>by
  simp only [sufS]
  rw [nI j r (i+1) (by rw [←h,List.drop_succ_cons];congr 1;omega)]
def BY(k:Nat)(o:Option (Nat×Nat))(n:Int):KV:=match o with
 |none=>.val (.slice none 0 0)
 |some (b,c)=>.osl k b n c
def BZ(k:Nat)(o:Option (Nat×Nat))(L:List Int):L8:=match o with
 |none=>[]
 |some (b,c)=>[(k,b,.arr 3 (E9 .i64) L c)]
structure ES where
 O:List Int
 o:Option (Nat×Nat)
 xs:List Int
 m:Int
 i:Int
structure DY(ks:List Int)(x:ES):Prop where
 ol:x.O.length=ks.length
 m:x.m=x.xs.length
 nil:x.o=none→x.xs=[]
 i0 : -1≤x.i
 i1:x.i<ks.length
 st:sufS (ks.drop (x.i+1).toNat) (x.i+1)=some x.xs.reverse
theorem Mm(A:Option Addr)(n c:Nat)(L:List M8)(h:A3)(hL:Sl P3 h A n L)(hn:n≤1000000000) :
 CH Tryz.prog 71 #[.slice A n c] h fun v h'=>(∃ (B:Option Addr) (m e:Nat) (d:Int) (b:Bool),v = .tuple #[.slice B m e,.int .i64 d,.bool b]∧((b=true∧d=1)↔∃ st,sufS (kidsL L) 0=some st∧st.length=1))∧A5 h h':=by
 refine Q0 9 [16,31,38] [] [.val (.slice A n c)] Tryz.func71 rfl ?_
 have hlen:=hL.len_eq
 have hkl:(kidsL L).length=L.length:=by simp [kidsL]
 ((repeat' (conv=>whnf);first|(refine Ar.fit (by omega) ?_)|(refine VC.mk (by (first|omega|(and_intros<;>first|omega|rfl|(simp only [maxLen];omega)))) ?_)|(refine E5.mk ?_;intro b hb)|fail);all_goals try conv=>whnf)
 refine N1 tO [6,7] (fun x:ES=>[(6,BY 60 x.o x.m),(7,.val (.int .i64 x.i))]) (fun x=>[(11,b,.arr 3 (E9 .i64) x.O (n:Int).toNat)]++BZ 60 x.o x.xs)
  (fun μ x=>DY (kidsL L) x∧(∀ b c,x.o=some (b,c)→h.size≤b∧x.m≤c)∧μ=(x.i+1).toNat) n ⟨List.replicate (n:Int).toNat 0,none,[],0,(n:Int)-1⟩ ?_
 conv=>whnf
 refine⟨by ((repeat (refine⟨rfl,?_⟩));trivial),⟨rfl,rfl,trivial⟩,⟨⟨by simp;omega,by simp,by simp,by dsimp only;omega,by dsimp only;omega,?_⟩,by simp,by dsimp only;omega⟩,?_⟩
 ·dsimp only
  rw [List.drop_of_length_le (by omega)];rfl
 rintro μ ⟨O,o,xs,m,i⟩ ⟨⟨a1,a2,a3,a4,a5,a6⟩,a7,a8⟩
 dsimp only at a1 a2 a3 a4 a5 a6 a7 a8 ⊢
 have hxl:xs.length≤1000000000:=by
  have:=Ab _ _ _ a6
  simp only [List.length_reverse,List.length_drop] at this
  omega
 by_cases hi:0≤i
 ·obtain⟨k,hk⟩:∃ k,k=(B1 P3.dflt L i).kids:=⟨_,rfl⟩
  have e0:sufS ((kidsL L).drop i.toNat) i=if k<0∨(xs.length:Int)<k then none else some (i::xs.reverse.drop k.toNat):=by
   rw [To L i hi (by omega)]
   simp only [sufS,a6,List.length_reverse]
   rw [hk]
  have hr:0<k→k≤xs.length→0≤B1 (E9 .i64).dflt xs (m-k)∧B1 (E9 .i64).dflt xs (m-k)<n:=fun k0 k1=>by
   have hm:B1 (E9 .i64).dflt xs (m-k)∈xs:=by
    simp only [B1,List.getD]
    rw [List.getElem?_eq_getElem (by omega)]
    exact List.getElem_mem _
   have:=Za _ _ _ a6 _ (List.mem_reverse.2 hm)
   simp only [List.length_drop] at this
   omega
  rcases o with _|⟨b0,c0⟩
  ·have:=a3 rfl
   subst this
   dsimp only [BY,BZ,List.append_nil,List.nil_append,List.cons_append]
   have hfin:¬ (k<0∨((([]:List Int).length:Nat):Int)<k)→k=0:=fun h=>by simp only [List.length_nil] at h;omega
   ((repeat' (conv=>whnf);first|(refine Ar.fit (by omega) ?_)|(refine VC.mk (by (first|omega|exact Sl.plain (by assumption) (by omega)|(and_intros<;>first|omega|rfl|(simp only [maxLen];omega)))) ?_)|(refine Br.mk ?_ ?_<;>intro hb<;>(try omega))|(refine C1.of (by assumption) rfl rfl (by omega) (by omega) rfl ?_)|(refine E5.mk ?_;intro b hb)|fail);all_goals try conv=>whnf)
   all_goals first
    | (refine⟨fun h' hs=>⟨⟨none,0,0,0,false,rfl,⟨fun h=>(by cases h.1),fun⟨st,q1,q2⟩=>?_⟩⟩,hs.grows⟩⟩
       exfalso
       rw [if_pos (by simp only [List.length_nil];omega)] at e0
       rw [nI i.toNat (kidsL L) 0 (by rw [←e0];congr 1;omega)] at q1
       cases q1)
    |skip
   have hz:(((0:Nat):Int)-(B1 P3.dflt L i).kids-0).toNat=0:=by omega
   rw [hz]
   ((repeat' (conv=>whnf);first|(refine Ar.fit (by omega) ?_)|(refine VC.mk (by (first|omega|(and_intros<;>first|omega|rfl|(simp only [lL];omega)))) ?_)|(refine Br.mk ?_ ?_<;>intro hb<;>(try (contradiction)))|(refine aH.mk ?_;intro b c hb hbc)|(refine SR.same ?_)|fail);all_goals try conv=>whnf)
   have hk0:k=0:=hfin (by simp only [List.length_nil];omega)
   refine⟨μ-1,⟨O.set i.toNat (i+1),some (b,c),[i],1,i-1⟩,⟨⟨by dsimp only;rw [List.length_set];exact a1,rfl,fun e=>(by cases e),by dsimp only;omega,by dsimp only;omega,?_⟩,fun b' c' e=>(by cases e;exact⟨hb,by simp at hbc;dsimp only;omega⟩),by dsimp only;omega⟩,by omega,by ((repeat (refine⟨rfl,?_⟩));trivial),rfl,rfl,⟨rfl,rfl,rfl,rfl,trivial⟩⟩
   dsimp only
   rw [show i-1+1=i by omega,e0,if_neg (by simp only [List.length_nil];omega)]
   simp
  ·obtain⟨hb0,hc0⟩:=a7 b0 c0 rfl
   rw [hk] at hr
   have hol:(O.set i.toNat (i+1)).length=O.length:=List.length_set
   dsimp only [BY,BZ,List.append_nil,List.nil_append,List.cons_append]
   ((repeat' (conv=>whnf);first|(refine Ar.fit (by omega) ?_)|(refine VC.mk (by (first|omega|exact Sl.plain (by assumption) (by omega)|(and_intros<;>first|omega|rfl|(simp only [maxLen];omega)|(simp only [lL];omega)))) ?_)|(refine Br.mk ?_ ?_<;>intro hb<;>(try omega))|(refine C1.of (by assumption) rfl rfl (by omega) (by omega) rfl ?_)|(refine E5.mk ?_;intro b hb)|(refine X0.mk ?_;intro b c hb hbc)|(refine SR.same ?_)|fail);all_goals try conv=>whnf)
   all_goals first
    | (refine⟨fun h' hs=>⟨⟨none,0,0,0,false,rfl,⟨fun h=>(by cases h.1),fun⟨st,q1,q2⟩=>?_⟩⟩,hs.grows⟩⟩
       exfalso
       rw [if_pos (by omega)] at e0
       rw [nI i.toNat (kidsL L) 0 (by rw [←e0];congr 1;omega)] at q1
       cases q1)
    |skip
   all_goals
    have e1:List.take (m-(B1 P3.dflt L i).kids).toNat xs++List.take (1:Int).toNat [i]=(i::xs.reverse.drop k.toNat).reverse:=by
     rw [List.reverse_cons,List.reverse_drop,List.reverse_reverse,List.length_reverse,hk]
     congr 2
     omega
    refine⟨μ-1,⟨_,some (b,c),List.take (m-(B1 P3.dflt L i).kids).toNat xs++List.take (1:Int).toNat [i],m-(B1 P3.dflt L i).kids+((List.take ((1:Nat):Int).toNat [i]).length:Nat),i-1⟩,⟨⟨by dsimp only;simp only [List.length_set];exact a1,?_,fun e=>(by cases e),by dsimp only;omega,by dsimp only;omega,?_⟩,fun b' c' e=>(by cases e;exact⟨hb.elim id (fun hh=>(by cases hh.2)),by dsimp only;omega⟩),by dsimp only;omega⟩,by omega,by ((repeat (refine⟨rfl,?_⟩));trivial),rfl,rfl,⟨rfl,rfl,rfl,rfl,trivial⟩⟩
    ·dsimp only
     rw [e1]
     simp only [List.length_reverse,List.length_cons,List.length_drop]
     simp
     omega
    ·dsimp only
     rw [show i-1+1=i by omega,e0,if_neg (by omega),e1,List.reverse_reverse]
 ·have hi1:i = -1:=by omega
  subst hi1
  have e9:sufS (kidsL L) 0=some xs.reverse:=by simpa using a6
  rcases o with _|⟨b0,c0⟩
  ·have:=a3 rfl
   subst this
   dsimp only [BY,BZ,List.append_nil,List.nil_append,List.cons_append]
   ((repeat' (conv=>whnf);first|(refine Br.mk ?_ ?_<;>intro hb<;>(try omega))|fail);all_goals try conv=>whnf)
   all_goals
    refine⟨fun h' hs=>⟨⟨_,_,_,_,true,rfl,?_⟩,hs.grows⟩⟩
    rw [e9]
    simp
  ·obtain⟨hb0,hc0⟩:=a7 b0 c0 rfl
   dsimp only [BY,BZ,List.append_nil,List.nil_append,List.cons_append]
   ((repeat' (conv=>whnf);first|(refine VC.mk (by omega) ?_)|(refine Br.mk ?_ ?_<;>intro hb<;>(try omega))|fail);all_goals try conv=>whnf)
   all_goals
    refine⟨fun h' hs=>⟨⟨_,_,_,_,true,rfl,?_⟩,hs.grows⟩⟩
    rw [e9]
    simp
    omega
theorem Eh(A:Option Addr)(n c:Nat)(L:List M8)(h:A3)(hL:Sl P3 h A n L)(hn:n≤1000000000) :
 CH Tryz.prog 45 #[.slice A n c] h fun v h'=>(∃ (B:Option Addr) (m e:Nat),v = .tuple #[.slice B m e,A0 (.prop (WellL L))])∧A5 h h':=by
 refine Q0 7 [] [] [.val (.slice A n c)] Tryz.func45 rfl ?_
 (try (conv=>whnf))
 refine CK.epoch (fun h1 hq=>Mm A n c L h1 (hL.grows hq.grows) hn) ?_
 rintro h1 u h2 hq ⟨⟨B,m,e,d,b,rfl,hbb⟩,hg⟩
 have hg0:=hq.grows.trans hg
 have hbb:(b=true∧d=1)↔WellL L:=hbb
 rcases b with _|_
 ·((repeat' (conv=>whnf);first|(refine Br.mk ?_ ?_<;>intro hb<;>(try (exact Bool.noConfusion hb)))|fail);all_goals try conv=>whnf)
  refine⟨fun h' hs=>⟨⟨B,m,e,?_⟩,hg0.trans hs.grows⟩⟩
  rw [K8 (fun hw=>by have:=hbb.2 hw;cases this.1)]
  rfl
 ·((repeat' (conv=>whnf);first|(refine Br.mk ?_ ?_<;>intro hb<;>(try (exact absurd rfl hb)))|fail);all_goals try conv=>whnf)
  refine⟨fun h' hs=>⟨⟨B,m,e,?_⟩,hg0.trans hs.grows⟩⟩
  have:(d=1)=WellL L:=propext ⟨fun hd=>hbb.1 ⟨rfl,hd⟩,fun hw=>(hbb.2 hw).2⟩
  rw [←this]
  rfl
theorem pwell_any(A:Option Addr)(n c:Nat)(L:List M8)(h:A3)(hL:Sl P3 h A n L)(hn:n≤1000000000) :
 CH Tryz.prog 36 #[.slice A n c] h fun v h'=>v=A0 (.prop (WellL L))∧A5 h h':=by
 refine Q0 5 [] [] [.val (.slice A n c)] Tryz.func36 rfl ?_
 (try (conv=>whnf))
 refine CK.epoch (fun h1 hq=>Eh A n c L h1 (hL.grows hq.grows) hn) ?_
 rintro h1 u h2 hq ⟨⟨B,m,e,rfl⟩,hg⟩
 have hg0:=hq.grows.trans hg
 by_cases hw:WellL L
 ·rw [D0 hw]
  (try (conv=>whnf))
  exact⟨fun h' hs=>⟨D0 rfl,hg0.trans hs.grows⟩⟩
 ·rw [K8 hw]
  (try (conv=>whnf))
  exact⟨fun h' hs=>⟨K8 (fun h=>by cases h),hg0.trans hs.grows⟩⟩
end Go.Ex.Pk
namespace Go.Ex
open Go.Proofs
attribute [local irreducible] CH
structure P8(p:M8):Prop where
 kind:0≤p.kind∧p.kind≤68
 least:dY p.kind≤p.kids
 more:dY p.kind<p.kids→pE p.kind=true
 size:p.word.size≤1000000
 spelt:qV p.kind p.word
theorem Bg(A:Option Addr)(n c:Nat)(L:List M8)(h:A3)(ht:D2 h)(hL:Sl P3 h A n L)(hn:n≤1000000000)(hW:Pk.WellL L)(hP:∀ p∈L,P8 p) :
 CH Tryz.prog 18 #[.slice A n c] h fun v h'=>v = .int .i64 0∧A5 h h':=by
 refine Q0 1 [0,2,4,5,6,9,10,11,12,13,48] [] [.val (.slice A n c)] Tryz.func18 rfl ?_
 have hlen:=hL.len_eq
 have cw:∀ h1,Sl P3 h1 A n L→CH Tryz.prog 36 #[.slice A n c] h1 fun v h'=>v = .bool true∧A5 h1 h':=fun h1 hs=>(Pk.pwell_any A n c L h1 hs hn).mono fun v h' ⟨e1,e2⟩=>⟨e1.trans (D0 hW),e2⟩
 have hH:D3 P3 h [] A n L:=D3.start hL
 ((repeat' (conv=>whnf);first|(refine Br.mk ?_ ?_<;>intro hb<;>(try replace hb:=nN hb)<;>(try (exact absurd rfl hb)))|(refine A7 ?_ fun h1 hs=>cw h1 (hH.at_ hs))|fail);all_goals try conv=>whnf)
 all_goals (try omega)
 refine gG tO [12] (fun i:Nat=>[(12,.val (.int .i64 i))]) (fun _=>⟨h,[],[]⟩) (fun μ i=>i+μ=n) ?_
 conv=>whnf
 refine⟨fun h5 hs=>⟨n,0,by omega,?_,hs⟩,?_⟩
 ·(repeat (refine And.intro ⟨_,rfl,by first|rfl|(simp [B0,A1,A0];done)⟩ ?_));exact trivial
 rintro μ i hi0
 by_cases hi:i<n
 ·have hp:P8 (B1 P3.dflt L (i:Int)):=hP _ (W8 P3.dflt L (i:Int) (by omega) (by omega))
  have hpl:O1 A:=hL.plain (by omega)
  obtain⟨p1,p2,p3,p4,p5⟩:=hp
  have ca:=fun h1=>Lq (B1 P3.dflt L (i:Int)).kind h1 (by omega)
  have cs:=fun h1 ht=>Um (B1 P3.dflt L (i:Int)).kind (B1 P3.dflt L (i:Int)).word h1 ht (by omega) p4 p5
  generalize dY (B1 P3.dflt L (i:Int)).kind=la at *
  by_cases hm:pE (B1 P3.dflt L (i:Int)).kind=true
  ·rw [hm] at ca
   ((repeat' (conv=>whnf);first|(refine Ar.fit (by omega) ?_)|(refine VC.mk (by omega) ?_)|(refine Br.mk ?_ ?_<;>intro hb<;>(try replace hb:=nN hb)<;>(try (first|omega|exact absurd rfl hb)))|(refine C1.of (by assumption) rfl rfl (by omega) (by omega) rfl ?_)|(refine E5.mk ?_;intro b hb)|(refine A7 ?_ fun h1 hs=>ca h1)|(refine A7 ?_ fun h1 hs=>cs h1 (ht.at hs))|fail);all_goals try conv=>whnf)
   all_goals first
    |omega
    | (intro h6 hs
       refine⟨μ-1,i+1,by omega,by omega,?_,hs.ren [] trivial⟩
       (repeat (refine And.intro ⟨_,rfl,by first|rfl|(simp [B0,A1,A0];done)⟩ ?_));exact trivial)
  ·have hm2:pE (B1 P3.dflt L (i:Int)).kind=false:=by simpa using hm
   have hle:¬ la<(B1 P3.dflt L (i:Int)).kids:=fun q=>hm (p3 q)
   rw [hm2] at ca
   ((repeat' (conv=>whnf);first|(refine Ar.fit (by omega) ?_)|(refine VC.mk (by omega) ?_)|(refine Br.mk ?_ ?_<;>intro hb<;>(try replace hb:=nN hb)<;>(try (first|omega|exact absurd rfl hb)))|(refine C1.of (by assumption) rfl rfl (by omega) (by omega) rfl ?_)|(refine E5.mk ?_;intro b hb)|(refine A7 ?_ fun h1 hs=>ca h1)|(refine A7 ?_ fun h1 hs=>cs h1 (ht.at hs))|fail);all_goals try conv=>whnf)
   all_goals first
    |omega
    | (intro h6 hs
       refine⟨μ-1,i+1,by omega,by omega,?_,hs.ren [] trivial⟩
       (repeat (refine And.intro ⟨_,rfl,by first|rfl|(simp [B0,A1,A0];done)⟩ ?_));exact trivial)
 ·((repeat' (conv=>whnf);first|(refine Br.mk ?_ ?_<;>intro hb<;>(try omega))|fail);all_goals try conv=>whnf)
  all_goals first
   |exact⟨fun h' hs=>⟨rfl,hs.grows⟩⟩
   |omega
end Go.Ex
namespace Go.Ex
open Go.Proofs
mutual
theorem Xa:∀ (x:Nd) (ks:List Int) (i:Int) (st:List Int),Pk.sufS ks (i+(I5 x).length)=some st→Pk.sufS ((I5 x).map Pq.kids++ks) i=some (i::st)
 |.mk k w f t l,ks,i,st,h=>by
  have h1:i+((I5 (.mk k w f t l)).length:Int)=i+1+((H8 l).length:Int):=by simp only [I5,List.length_cons];omega
  rw [h1] at h
  obtain⟨st',h2,h3,h4⟩:=vQ l ks (i+1) st h
  simp only [I5,List.map_cons,List.cons_append,Pk.sufS,h2]
  rw [if_neg (by omega),Int.toNat_natCast,h4]
theorem vQ:∀ (l:List Nd) (ks:List Int) (i:Int) (st:List Int),Pk.sufS ks (i+(H8 l).length)=some st→∃ st',Pk.sufS ((H8 l).map Pq.kids++ks) i=some st'∧st'.length=l.length+st.length∧st'.drop l.length=st
 |[],ks,i,st,h=>by
  simp only [H8,List.length_nil] at h
  rw [show i+((0:Nat):Int)=i by omega] at h
  exact⟨st,by simpa only [H8,List.map_nil,List.nil_append] using h,by simp,by simp⟩
 |x::r,ks,i,st,h=>by
  have h1:i+((H8 (x::r)).length:Int)=i+((I5 x).length:Int)+((H8 r).length:Int):=by simp only [H8,List.length_append];omega
  rw [h1] at h
  obtain⟨st',h2,h3,h4⟩:=vQ r ks (i+(I5 x).length) st h
  have h5:=Xa x ((H8 r).map Pq.kids++ks) i st' h2
  refine⟨i::st',?_,by simp only [List.length_cons];omega,by simpa only [List.length_cons,List.drop_succ_cons] using h4⟩
  simp only [H8,List.map_append,List.append_assoc]
  exact h5
end
theorem Ql(I:In)(x:Nd):Pk.WellL ((I5 x).map (M0 I)):=by
 have h:=Xa x [] 0 [] rfl
 rw [List.append_nil] at h
 refine⟨[0],?_,rfl⟩
 unfold Pk.kidsL
 rw [List.map_map]
 exact h
structure BD(I:In)(y:Pq):Prop where
 kids:0≤y.kids
 lc:Lc I y.kind y.word y.frm y.to y.kids.toNat
mutual
theorem tI{I:In}:∀ (x:Nd),S3 I x→∀ y∈I5 x,BD I y
 |.mk k w f t l,h,y,hy=>by
  unfold S3 at h
  obtain⟨h1,h2⟩:=h
  simp only [I5,List.mem_cons] at hy
  rcases hy with rfl|hy
  ·exact⟨by dsimp only;omega,by dsimp only;rw [Int.toNat_natCast];exact h1⟩
  ·rcases h2 with h2|h2
   ·have h6:l.length=0:=by
     have:=h1.2.2.1
     rcases h2 with rfl|rfl<;>simpa [dI,Rv] using this
    have h7:l=[]:=List.eq_nil_of_length_eq_zero h6
    subst h7
    simp only [H8] at hy
    cases hy
   ·exact xC l w f t h2 y hy
theorem xC{I:In}:∀ (l:List Nd) (w f t:Int),E6 I w l f t→∀ y∈H8 l,BD I y
 |[],w,f,t,h,y,hy=>by simp only [H8] at hy;cases hy
 |x::r,w,f,t,h,y,hy=>by
  unfold E6 at h
  simp only [H8,List.mem_append] at hy
  rcases hy with hy|hy
  ·exact tI x h.2.2.1 y hy
  ·exact xC r w x.to t h.2.2.2 y hy
end
def Mk(I:In):Nat→Int→List Int
 |0,_=>[]
 |k+1,a=>if NL I a then a::Mk I k (a+1) else Mk I k (a+1)
def Vq(I:In)(a b:Int):List Int:=Mk I (b-a).toNat a
theorem Lk(I:In):∀ (k j:Nat) (a:Int),Mk I (k+j) a=Mk I k a++Mk I j (a+k)
 |0,j,a=>by simp [Mk]
 |k+1,j,a=>by
  rw [show k+1+j=(k+j)+1 by omega]
  simp only [Mk]
  rw [Lk I k j (a+1),show a+1+(k:Int)=a+((k+1:Nat):Int) by omega]
  split<;>rfl
theorem zD(I:In){a b c:Int}(h1:a≤b)(h2:b≤c):Vq I a c=Vq I a b++Vq I b c:=by
 unfold Vq
 rw [show (c-a).toNat=(b-a).toNat+(c-b).toNat by omega,Lk,show a+(((b-a).toNat:Nat):Int)=b by omega]
theorem Kk(I:In):∀ (k:Nat) (a:Int),(∀ i,a≤i→i<a+k→¬ NL I i)→Mk I k a=[]
 |0,a,h=>rfl
 |k+1,a,h=>by
  simp only [Mk]
  rw [if_neg (h a (Int.le_refl _) (by omega))]
  exact Kk I k (a+1) fun i h1 h2=>h i (by omega) (by omega)
theorem zC(I:In){a b:Int}(h0:0≤a)(h1:a≤b)(h2:pc I a=pc I b):Vq I a b=[]:=Kk I _ a fun i h3 h4=>Vz I a b h0 h1 h2 i h3 (by omega)
def Sk(l:List Pq):List Int:=(l.filter fun y=>decide (y.kind=26∨y.kind=27)).map Pq.word
theorem Uw(l r:List Pq):Sk (l++r)=Sk l++Sk r:=by unfold Sk;rw [List.filter_append,List.map_append]
mutual
theorem Zc{I:In}:∀ (x:Nd),S3 I x→Sk (I5 x)=Vq I x.frm x.to
 |.mk k w f t l,h=>by
  unfold S3 at h
  obtain⟨⟨a1,a2,a3,a4⟩,h2⟩:=h
  show Sk (I5 (.mk k w f t l))=Vq I f t
  by_cases hk:k=26∨k=27
  ·have h6:l.length=0:=by rcases hk with rfl|rfl<;>simpa [dI,Rv] using a3
   have h7:l=[]:=List.eq_nil_of_length_eq_zero h6
   subst h7
   have h8:w=f∧t=f+1∧NL I f:=by
    rcases a4 with ⟨_,b⟩|⟨_,b⟩
    ·rcases hk with rfl|rfl<;>exact absurd b (by decide)
    ·rcases b with ⟨_,c,d⟩|⟨_,c,d⟩|⟨d,_⟩
     ·exact⟨c.1,c.2,.inl d⟩
     ·exact⟨c.1,c.2,.inr d⟩
     ·rcases hk with rfl|rfl<;>simp [jK] at d
   obtain⟨rfl,rfl,h9⟩:=h8
   have e1:Sk (I5 (.mk k w w (w+1) []))=[w]:=by
    unfold Sk
    simp only [I5,H8,List.filter_cons,List.filter_nil]
    rw [if_pos (by simpa using hk)]
    rfl
   rw [e1]
   unfold Vq
   rw [show (w+1-w).toNat=1 by omega]
   simp only [Mk]
   rw [if_pos h9]
  ·have h3:=h2.resolve_left hk
   have e1:Sk (I5 (.mk k w f t l))=Sk (H8 l):=by
    unfold Sk
    simp only [I5,List.filter_cons]
    rw [if_neg (by simpa using hk)]
   rw [e1]
   exact wO l w f t a1.1 h3
theorem wO{I:In}:∀ (l:List Nd) (w f t:Int),0≤f→E6 I w l f t→Sk (H8 l)=Vq I f t
 |[],w,f,t,h0,h=>by
  unfold E6 at h
  rw [zC I h0 h.1 h.2]
  rfl
 |x::r,w,f,t,h0,h=>by
  unfold E6 at h
  obtain⟨b1,b2,b3,b4⟩:=h
  have hr:=b3.rng
  have hle:=b4.le
  rw [H8,Uw,Zc x b3,wO r w x.to t (by omega) b4,zD I (a:=f) (b:=x.to) (c:=t) (by omega) hle,zD I (a:=f) (b:=x.frm) (c:=x.to) (by omega) hr.2.1,zC I h0 b1.1 b1.2]
  rfl
end
end Go.Ex
namespace Go.Ex
open Go.Proofs
theorem oR(k:Int)(w:ByteArray)(h26:¬ k=26)(h27:¬ k=27)(h5:¬ k=5)(h7:¬ k=7)(h15:¬ (k=15∨k=34))(h66:¬ k=66)(he:¬ bO k=⟨#[]⟩)(h1:¬ w=⟨#[]⟩)(h2:Lib.contains w.data.toList [32]=false)(h3:Lib.contains (bO k).data.toList ((⟨#[32]⟩:ByteArray)++w++(⟨#[32]⟩:ByteArray)).data.toList=true):qV k w:=by
 unfold qV
 rw [if_neg h26,if_neg h27,if_neg h5,if_neg h7,if_neg h15,if_neg h66,if_neg he]
 exact⟨h1,h2,h3⟩
theorem DI(w:ByteArray)(h:w=(⟨#[43]⟩:ByteArray)∨w=(⟨#[45]⟩:ByteArray)∨w=(⟨#[33]⟩:ByteArray)∨w=(⟨#[94]⟩:ByteArray)∨w=(⟨#[38]⟩:ByteArray)∨w=(⟨#[60,45]⟩:ByteArray)):qV 36 w:=by
 rcases h with rfl|rfl|rfl|rfl|rfl|rfl
 all_goals exact oR 36 _ (by decide) (by decide) (by decide) (by decide) (by decide) (by decide) (by decide +kernel) (by decide) (by decide +kernel) (by decide +kernel)
theorem DD(w:ByteArray)(h:w=(⟨#[98,114,101,97,107]⟩:ByteArray)∨w=(⟨#[99,111,110,116,105,110,117,101]⟩:ByteArray)∨w=(⟨#[103,111,116,111]⟩:ByteArray)∨w=(⟨#[102,97,108,108,116,104,114,111,117,103,104]⟩:ByteArray)):qV 57 w:=by
 rcases h with rfl|rfl|rfl|rfl
 all_goals exact oR 57 _ (by decide) (by decide) (by decide) (by decide) (by decide) (by decide) (by decide +kernel) (by decide) (by decide +kernel) (by decide +kernel)
theorem DF(w:ByteArray)(h:w=(⟨#[43,43]⟩:ByteArray)∨w=(⟨#[45,45]⟩:ByteArray)):qV 52 w:=by
 rcases h with rfl|rfl
 all_goals exact oR 52 _ (by decide) (by decide) (by decide) (by decide) (by decide) (by decide) (by decide +kernel) (by decide) (by decide +kernel) (by decide +kernel)
theorem DE(w:ByteArray)(h:M4 w):qV 53 w:=by
 unfold M4 at h
 rcases h with rfl|rfl|rfl|rfl|rfl|rfl|rfl|rfl|rfl|rfl|rfl|rfl|rfl
 all_goals exact oR 53 _ (by decide) (by decide) (by decide) (by decide) (by decide) (by decide) (by decide +kernel) (by decide) (by decide +kernel) (by decide +kernel)
theorem ED(w:ByteArray)(h:w=(⟨#[105,109,112,111,114,116]⟩:ByteArray)∨w=(⟨#[99,111,110,115,116]⟩:ByteArray)∨w=(⟨#[118,97,114]⟩:ByteArray)∨w=(⟨#[116,121,112,101]⟩:ByteArray)):qV 3 w∧qV 4 w:=by
 rcases h with rfl|rfl|rfl|rfl
 all_goals exact⟨oR 3 _ (by decide) (by decide) (by decide) (by decide) (by decide) (by decide) (by decide +kernel) (by decide) (by decide +kernel) (by decide +kernel),oR 4 _ (by decide) (by decide) (by decide) (by decide) (by decide) (by decide) (by decide +kernel) (by decide) (by decide +kernel) (by decide +kernel)⟩
theorem DG(w:ByteArray)(h:w=(⟨#[60,45,99,104,97,110]⟩:ByteArray)∨w=(⟨#[99,104,97,110,60,45]⟩:ByteArray)∨w=(⟨#[99,104,97,110]⟩:ByteArray)):qV 45 w:=by
 rcases h with rfl|rfl|rfl
 all_goals exact oR 45 _ (by decide) (by decide) (by decide) (by decide) (by decide) (by decide) (by decide +kernel) (by decide) (by decide +kernel) (by decide +kernel)
theorem DH(w:ByteArray)(h:1≤X6 w):qV 37 w:=by
 have key:(w=(⟨#[124,124]⟩:ByteArray)∨w=(⟨#[38,38]⟩:ByteArray)∨w=(⟨#[61,61]⟩:ByteArray)∨w=(⟨#[33,61]⟩:ByteArray)∨w=(⟨#[60]⟩:ByteArray)∨w=(⟨#[60,61]⟩:ByteArray)∨w=(⟨#[62]⟩:ByteArray)∨w=(⟨#[62,61]⟩:ByteArray))∨w=(⟨#[43]⟩:ByteArray)∨w=(⟨#[45]⟩:ByteArray)∨w=(⟨#[124]⟩:ByteArray)∨w=(⟨#[94]⟩:ByteArray)∨w=(⟨#[42]⟩:ByteArray)∨w=(⟨#[47]⟩:ByteArray)∨w=(⟨#[37]⟩:ByteArray)∨w=(⟨#[60,60]⟩:ByteArray)∨w=(⟨#[62,62]⟩:ByteArray)∨w=(⟨#[38]⟩:ByteArray)∨w=(⟨#[38,94]⟩:ByteArray):=by
  unfold X6 at h
  by_cases d1:w=(⟨#[124,124]⟩:ByteArray)
  ·exact .inl (.inl d1)
  by_cases d2:w=(⟨#[38,38]⟩:ByteArray)
  ·exact .inl (.inr (.inl d2))
  rw [if_neg d1,if_neg d2] at h
  split at h
  ·left;right;right;assumption
  split at h
  ·right
   have c:w=(⟨#[43]⟩:ByteArray)∨w=(⟨#[45]⟩:ByteArray)∨w=(⟨#[124]⟩:ByteArray)∨w=(⟨#[94]⟩:ByteArray):=by assumption
   rcases c with h|h|h|h
   ·exact .inl h
   ·exact .inr (.inl h)
   ·exact .inr (.inr (.inl h))
   ·exact .inr (.inr (.inr (.inl h)))
  split at h
  ·right;right;right;right;right;assumption
  ·omega
 rcases key with (rfl|rfl|rfl|rfl|rfl|rfl|rfl|rfl)|rfl|rfl|rfl|rfl|rfl|rfl|rfl|rfl|rfl|rfl|rfl
 all_goals exact oR 37 _ (by decide) (by decide) (by decide) (by decide) (by decide) (by decide) (by decide +kernel) (by decide) (by decide +kernel) (by decide +kernel)
end Go.Ex
namespace Go.Ex
open Go.Proofs
def Kv(I:In):Prop:=∀ t∈I.toks,((0≤t.frm∧t.frm<I.s.size)∧¬ (H0 I.s t.frm).1=0∧t=⟨(H0 I.s t.frm).1,t.frm,(H0 I.s t.frm).2⟩)∨∃ e,t=⟨9,e,e⟩
theorem Hr(I:In)(w:Int):(eK I w).size≤I.s.size:=by
 unfold eK
 split
 ·rw [ByteArray.size_extract];omega
 ·exact Nat.zero_le _
theorem Gr(I:In)(w:Int)(h1:¬ word I w=⟨#[]⟩)(h2:¬ word I w=(⟨#[59]⟩:ByteArray)):eK I w=word I w:=by
 unfold word at h1 h2 ⊢
 by_cases c1:w<0∨I.L≤w
 ·rw [if_pos c1] at h1;exact absurd rfl h1
 rw [if_neg c1] at h1 h2 ⊢
 by_cases c2:(B1 C4.dflt I.toks w).kind=9
 ·rw [if_pos c2] at h2;exact absurd rfl h2
 rw [if_neg c2] at h1 ⊢
 by_cases c3:(B1 C4.dflt I.toks w).kind=8∨(B1 C4.dflt I.toks w).kind=2
 ·rw [if_pos c3]
  unfold eK
  rw [if_pos (by omega)]
 ·rw [if_neg c3] at h1;exact absurd rfl h1
theorem Rj(I:In)(hT:Kv I)(w:Int)(hk:1≤B9 I w∧B9 I w≤7):(B9 I w=1→Kf (eK I w))∧(3≤B9 I w→Qq (eK I w)):=by
 unfold B9 at hk ⊢
 by_cases c1:w<0∨I.L≤w
 ·rw [if_pos c1] at hk;omega
 rw [if_neg c1] at hk ⊢
 have hm:B1 C4.dflt I.toks w∈I.toks:=W8 C4.dflt I.toks w (by omega) (by unfold In.L at c1;omega)
 unfold eK
 rw [if_pos (by omega)]
 generalize B1 C4.dflt I.toks w=t at hm hk ⊢
 rcases hT t hm with ⟨h1,h2,h3⟩|⟨e,rfl⟩
 ·obtain⟨k1,k2⟩:=Dt I.s t.frm h1
  have e1:t.kind=(H0 I.s t.frm).1:=congrArg M7.kind h3
  have e2:t.to=(H0 I.s t.frm).2:=congrArg M7.to h3
  rw [e1] at hk ⊢
  rw [e2]
  exact⟨k1,fun q=>k2 q hk.2⟩
 ·dsimp only at hk;omega
end Go.Ex
namespace Go.Ex
open Go.Proofs
theorem Zi:∀ n : _root_.Fin 69,bZ (n.val:Int)→bO (n.val:Int)=⟨#[]⟩:=by decide +kernel
theorem Cy(k:Int)(hk:0≤k∧k≤68)(h:bZ k):qV k ⟨#[]⟩:=by
 have hw:=Zi ⟨k.toNat,by omega⟩
 simp only at hw
 rw [Int.toNat_of_nonneg hk.1] at hw
 have hw:=hw h
 unfold bZ at h
 unfold qV
 rw [if_neg (by omega),if_neg (by omega)]
 split
 ·exact .inl rfl
 split
 ·exact .inl rfl
 split
 ·exact .inl rfl
 split
 ·exact .inl rfl
 all_goals rfl
end Go.Ex
namespace Go.Ex
open Go.Proofs
theorem Iz(k:Int)(u:ByteArray)(h:jK k u)(h45:¬ k=45)(h26:¬ k=26)(h27:¬ k=27):qV k u:=by
 unfold jK at h
 by_cases c3:k=3∨k=4
 ·rw [if_pos c3] at h
  rcases c3 with rfl|rfl
  ·exact (ED u h).1
  ·exact (ED u h).2
 rw [if_neg c3] at h
 by_cases c5:k=5
 ·rw [if_pos c5] at h
  unfold qV
  rw [if_neg h26,if_neg h27,if_pos c5]
  exact .inr h
 rw [if_neg c5] at h
 by_cases c7:k=7
 ·rw [if_pos c7] at h
  unfold qV
  rw [if_neg h26,if_neg h27,if_neg c5,if_pos c7]
  exact .inr h
 rw [if_neg c7] at h
 by_cases c15:k=15∨k=34
 ·rw [if_pos c15] at h
  unfold qV
  rw [if_neg h26,if_neg h27,if_neg c5,if_neg c7,if_pos c15]
  exact .inr h
 rw [if_neg c15] at h
 by_cases c36:k=36
 ·rw [if_pos c36] at h;subst c36;exact DI u h
 rw [if_neg c36] at h
 by_cases c37:k=37
 ·rw [if_pos c37] at h;subst c37;exact DH u h
 rw [if_neg c37,if_neg h45] at h
 by_cases c52:k=52
 ·rw [if_pos c52] at h;subst c52;exact DF u h
 rw [if_neg c52] at h
 by_cases c53:k=53
 ·rw [if_pos c53] at h;subst c53;exact DE u h
 rw [if_neg c53] at h
 by_cases c57:k=57
 ·rw [if_pos c57] at h;subst c57;exact DD u h
 rw [if_neg c57] at h
 by_cases c66:k=66
 ·rw [if_pos c66] at h
  unfold qV
  rw [if_neg h26,if_neg h27,if_neg c5,if_neg c7,if_neg c15,if_pos c66]
  rcases h with h|h
  ·exact .inr (.inl h)
  ·exact .inr (.inr h)
 rw [if_neg c66] at h
 exact h.elim
end Go.Ex
namespace Go.Ex
open Go.Proofs
theorem Zq(k:Int):¬ jK k ⟨#[]⟩∧¬ jK k ((⟨#[59]⟩:ByteArray)):=by
 have l0:¬ 1≤X6 ⟨#[]⟩:=by decide
 have l1:¬ 1≤X6 ((⟨#[59]⟩:ByteArray)):=by decide
 have a0:¬ M4 ⟨#[]⟩:=by decide
 have a1:¬ M4 ((⟨#[59]⟩:ByteArray)):=by decide
 constructor
 all_goals
  intro h
  unfold jK at h
  by_cases c0:k=3∨k=4
  ·rw [if_pos c0] at h
   first
    |exact l0 h
    |exact l1 h
    |exact a0 h
    |exact a1 h
    |exact absurd h (by decide)
  rw [if_neg c0] at h
  by_cases c1:k=5
  ·rw [if_pos c1] at h
   first
    |exact l0 h
    |exact l1 h
    |exact a0 h
    |exact a1 h
    |exact absurd h (by decide)
  rw [if_neg c1] at h
  by_cases c2:k=7
  ·rw [if_pos c2] at h
   first
    |exact l0 h
    |exact l1 h
    |exact a0 h
    |exact a1 h
    |exact absurd h (by decide)
  rw [if_neg c2] at h
  by_cases c3:k=15∨k=34
  ·rw [if_pos c3] at h
   first
    |exact l0 h
    |exact l1 h
    |exact a0 h
    |exact a1 h
    |exact absurd h (by decide)
  rw [if_neg c3] at h
  by_cases c4:k=36
  ·rw [if_pos c4] at h
   first
    |exact l0 h
    |exact l1 h
    |exact a0 h
    |exact a1 h
    |exact absurd h (by decide)
  rw [if_neg c4] at h
  by_cases c5:k=37
  ·rw [if_pos c5] at h
   first
    |exact l0 h
    |exact l1 h
    |exact a0 h
    |exact a1 h
    |exact absurd h (by decide)
  rw [if_neg c5] at h
  by_cases c6:k=45
  ·rw [if_pos c6] at h
   first
    |exact l0 h
    |exact l1 h
    |exact a0 h
    |exact a1 h
    |exact absurd h (by decide)
  rw [if_neg c6] at h
  by_cases c7:k=52
  ·rw [if_pos c7] at h
   first
    |exact l0 h
    |exact l1 h
    |exact a0 h
    |exact a1 h
    |exact absurd h (by decide)
  rw [if_neg c7] at h
  by_cases c8:k=53
  ·rw [if_pos c8] at h
   first
    |exact l0 h
    |exact l1 h
    |exact a0 h
    |exact a1 h
    |exact absurd h (by decide)
  rw [if_neg c8] at h
  by_cases c9:k=57
  ·rw [if_pos c9] at h
   first
    |exact l0 h
    |exact l1 h
    |exact a0 h
    |exact a1 h
    |exact absurd h (by decide)
  rw [if_neg c9] at h
  by_cases c10:k=66
  ·rw [if_pos c10] at h
   first
    |exact l0 h
    |exact l1 h
    |exact a0 h
    |exact a1 h
    |exact absurd h (by decide)
  rw [if_neg c10] at h
  exact h
theorem Oj(I:In)(k w:Int)(h:jK k (word I w)):eK I w=word I w:=
 Gr I w (fun q=>(Zq k).1 (by rw [←q];exact h)) (fun q=>(Zq k).2 (by rw [←q];exact h))
theorem Pw(I:In)(hT:Kv I)(hz:I.s.size≤900000)(y:Pq)(h:BD I y):P8 (M0 I y):=by
 obtain⟨h1,h2,h3,h4,h5⟩:=h
 obtain⟨a1,a2⟩:=Jv h4
 rw [Int.toNat_of_nonneg h1] at a1 a2
 have hs:=Hr I y.word
 have hp:y.kind=45→Ia I y.kind y.word y.frm y.to→Y0 I y.kind y.word=(⟨#[60,45,99,104,97,110]⟩:ByteArray)∨Y0 I y.kind y.word=(⟨#[99,104,97,110,60,45]⟩:ByteArray)∨Y0 I y.kind y.word=(⟨#[99,104,97,110]⟩:ByteArray):=by
  intro e q
  unfold Ia at q
  rcases q with ⟨_,q⟩|⟨q0,⟨q,_⟩|⟨q,_⟩|⟨q,_⟩⟩
  ·unfold bZ at q;omega
  ·omega
  ·omega
  ·have t:=Oj I _ _ q
   rw [e] at q
   have q2:word I y.word=(⟨#[99,104,97,110]⟩:ByteArray)∨word I y.word=(⟨#[60,45]⟩:ByteArray):=q
   unfold Y0
   rw [if_pos e,t]
   by_cases c1:word I y.word=(⟨#[60,45]⟩:ByteArray)
   ·rw [if_pos c1];exact .inl rfl
   ·rw [if_neg c1]
    by_cases c2:word I (y.word+1)=(⟨#[60,45]⟩:ByteArray)
    ·rw [if_pos c2];exact .inr (.inl rfl)
    ·rw [if_neg c2];exact .inr (.inr (q2.resolve_right c1))
 by_cases e:y.kind=45
 ·have hw:=hp e h5
  refine⟨h3,a1,a2,?_,?_⟩
  ·show (Y0 I y.kind y.word).size≤1000000
   rcases hw with q|q|q<;>rw [q]<;>decide
  ·show qV y.kind (Y0 I y.kind y.word)
   rw [e] at hw ⊢
   exact DG _ hw
 ·have hw:Y0 I y.kind y.word=eK I y.word:=by unfold Y0;rw [if_neg e]
  refine⟨h3,a1,a2,?_,?_⟩
  ·show (Y0 I y.kind y.word).size≤1000000
   rw [hw];omega
  ·show qV y.kind (Y0 I y.kind y.word)
   rw [hw]
   unfold Ia at h5
   rcases h5 with ⟨q0,q⟩|⟨q0,⟨q1,q2,q3⟩|⟨q1,q2,q3⟩|⟨q,_⟩⟩
   ·have:eK I y.word=⟨#[]⟩:=by unfold eK;rw [if_neg (by omega)]
    rw [this]
    exact Cy _ h3 q
   ·unfold qV
    rw [if_pos q1,q2.1]
    exact (Rj I hT y.frm (by omega)).1 q3
   ·unfold qV
    rw [if_neg (by omega),if_pos q1,q2.1]
    unfold La at q3
    exact (Rj I hT y.frm (by omega)).2 q3.1
   ·by_cases c26:y.kind=26
    ·rw [c26] at q;exact absurd q (by unfold jK;simp)
    by_cases c27:y.kind=27
    ·rw [c27] at q;exact absurd q (by unfold jK;simp)
    rw [Oj I _ _ q]
    exact Iz _ _ q e c26 c27
end Go.Ex
namespace Go.Ex
open Go.Proofs
structure EQ(s:ByteArray)(T:List M7)(N:List Pq):Prop where
 sem:P2 s=(T,0,0)
 tn:(T.length:Int)≤65537
 nn:N.length≤1000000000
 wrd:∀ y∈N,-1≤y.word∧y.word<T.length
 well:Pk.WellL (N.map (M0 ⟨s,T,[]⟩))
 part:∀ p∈N.map (M0 ⟨s,T,[]⟩),P8 p
 Sk:Sk N=Vq ⟨s,T,[]⟩ 0 T.length
 leaf:∀ y∈N,y.kind=26∨y.kind=27→(y.kind=26↔B9 ⟨s,T,[]⟩ y.word=1)
 tok:∀ t∈T,0≤t.frm∧t.frm≤t.to∧t.to≤s.size
theorem jC{s:ByteArray}(hne:W5 s=0∧bH s=0):P2 s=(F0 s,0,0):=by
 obtain⟨h2,h3⟩:=hne
 have key:(P2 s).2.1=0∧(P2 s).2.2=0∧F0 s=(P2 s).1:=by
  unfold W5 W4 at h2
  unfold F0 W4
  split at h2
  ·rename_i c
   rw [if_pos c] at *
   split at h2
   ·rename_i c2
    rw [if_pos c2]
    exact⟨c.1,c.2,rfl⟩
   ·rename_i c2
    exact absurd h2 c2
  ·rename_i c
   unfold bH W4 at h3
   rw [if_neg c] at h3
   exact absurd ⟨h2,h3⟩ c
 rw [key.2.2]
 exact Prod.ext rfl (Prod.ext key.1 key.2.1)
theorem Rc(s:ByteArray)(T:List M7)(p q:List Int):∀ (k:Nat) (a:Int),Mk ⟨s,T,p⟩ k a=Mk ⟨s,T,q⟩ k a
 |0,a=>rfl
 |k+1,a=>by
  have e:(NL ⟨s,T,p⟩ a)=(NL ⟨s,T,q⟩ a):=rfl
  simp only [Mk]
  rw [Rc s T p q k (a+1)]
  by_cases h:NL ⟨s,T,p⟩ a
  ·rw [if_pos h,if_pos (e▸h)]
  ·rw [if_neg h,if_neg (e▸h)]
theorem Jm{s:ByteArray}(hne:W5 s=0∧bH s=0):Kv (gX s):=by
 have h0:=jC hne
 obtain⟨e1,e2,e3⟩:=qG s (by rw [h0]) (by rw [h0])
 rw [h0] at e3
 intro t ht
 rcases e3.mem t ht with ⟨h1,h2⟩|h1
 ·exact .inl ((oN s e1).mem t h1)
 ·exact .inr h1
theorem bF{s:ByteArray}{goal:Int}{T:List M7}{x:Nd}(hO:aK s goal = .inr (T,x)):EQ s T (I5 x):=by
 obtain⟨hne,hTT,hg,m,hm⟩:=lW hO
 have hw:=nQ hO
 have hc:=Ns hO
 have hnod:=tI x hw.wel
 have hr:=Fk hO
 subst hTT
 refine⟨jC hne,wK s,hc,?_,Ql _ x,?_,?_,?_,?_⟩
 ·intro y hy
  obtain⟨_,⟨h1,h2,h3⟩,_,_,h5⟩:=hnod y hy
  have h3':y.to≤(F0 s).length:=h3
  unfold Ia at h5
  rcases h5 with ⟨q,_⟩|⟨q,_⟩<;>omega
 ·intro p hp
  have hz:=sN s hne.1
  obtain⟨y,hy,rfl⟩:=List.mem_map.1 hp
  exact Pw (gX s) (Jm hne) (by show s.size≤900000;omega) y (hnod y hy)
 ·rw [Zc x hw.wel]
  have hx:=hw.wel.rng
  have hf:=hw.frm
  rw [hf]
  have hL:(gX s).L=(F0 s).length:=rfl
  have e0:Vq ⟨s,F0 s,[]⟩ 0 (F0 s).length=Vq (gX s) 0 (F0 s).length:=Rc s (F0 s) [] (bV s) _ _
  rw [e0,zD (gX s) (a:=0) (b:=x.to) (c:=(F0 s).length) (by omega) (by omega),zC (gX s) (a:=x.to) (b:=(F0 s).length) (by omega) (by omega) (by rw [hw.to,hL]),List.append_nil]
 ·intro y hy hk
  obtain⟨_,⟨h1,h2,h3⟩,_,_,h5⟩:=hnod y hy
  show y.kind=26↔B9 (gX s) y.word=1
  unfold Ia at h5
  rcases h5 with ⟨_,q⟩|⟨q0,⟨q1,q2,q3⟩|⟨q1,q2,q3⟩|⟨q,_⟩⟩
  ·unfold bZ at q;omega
  ·rw [q2.1];exact⟨fun _=>q3,fun _=>q1⟩
  ·rw [q2.1]
   unfold La at q3
   constructor<;>intro h<;>omega
  ·rcases hk with e|e<;>(rw [e] at q;exact absurd q (by unfold jK;simp))
 ·intro t ht
  obtain⟨i,hi,rfl⟩:=List.mem_iff_getElem.1 ht
  have h1:=hr.at (i:=(i:Int)) (by omega) (by show (i:Int)<((F0 s).length:Int);omega)
  have e:B1 C4.dflt (F0 s) (i:Int)=(F0 s)[i]:=by
   unfold B1
   rw [Int.toNat_natCast,List.getD_eq_getElem?_getD,List.getElem?_eq_getElem hi]
   rfl
  show 0≤(F0 s)[i].frm∧_
  rw [←e]
  exact h1
end Go.Ex
