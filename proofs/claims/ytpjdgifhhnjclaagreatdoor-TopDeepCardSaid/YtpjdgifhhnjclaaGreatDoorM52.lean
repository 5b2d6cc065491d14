/-
  Top: TopDeep: whatever the input, the law answers true (part 52)
-/
import Derived.Test.YtpjdgifhhnjclaaGreatDoorM51
set_option linter.unusedVariables false
set_option linter.unusedSimpArgs false
set_option maxHeartbeats 4000000
set_option maxRecDepth 10000
namespace Go.Ex
open Go.Proofs
structure Wds(s:ByteArray)(T:List Tok)(N:List Nde):Prop where
 sem:semF s=(T,0,0)
 tn:(T.length:Int)≤65537
 nn:N.length≤1000000000
 wrd:∀ y∈N,-1≤y.word∧y.word<T.length
 well:Pk.WellL (N.map (partN ⟨s,T,[]⟩))
 part:∀ p∈N.map (partN ⟨s,T,[]⟩),PartW p
 lvs:lvs N=nlL ⟨s,T,[]⟩ 0 T.length
 leaf:∀ y∈N,y.kind=26∨y.kind=27→(y.kind=26↔kindT ⟨s,T,[]⟩ y.word=1)
 tok:∀ t∈T,0≤t.frm∧t.frm≤t.to∧t.to≤s.size
theorem nestT_sem{s:ByteArray}(hne:nestE s=0∧nestA s=0):semF s=(nestT s,0,0):=by
 obtain⟨h2,h3⟩:=hne
 have key:(semF s).2.1=0∧(semF s).2.2=0∧nestT s=(semF s).1:=by
  unfold nestE nestF at h2
  unfold nestT nestF
  split at h2
  ·rename_i c
   rw [if_pos c] at *
   split at h2
   ·rename_i c2
    rw [if_pos c2]
    exact⟨c.1,c.2,rfl⟩
   ·rename_i c2
    exact absurd h2 c2
  ·rename_i c
   unfold nestA nestF at h3
   rw [if_neg c] at h3
   exact absurd ⟨h2,h3⟩ c
 rw [key.2.2]
 exact Prod.ext rfl (Prod.ext key.1 key.2.1)
theorem nlN_pair(s:ByteArray)(T:List Tok)(p q:List Int):∀ (k:Nat) (a:Int),nlN ⟨s,T,p⟩ k a=nlN ⟨s,T,q⟩ k a
 |0,a=>rfl
 |k+1,a=>by
  have e:(NL ⟨s,T,p⟩ a)=(NL ⟨s,T,q⟩ a):=rfl
  simp only [nlN]
  rw [nlN_pair s T p q k (a+1)]
  by_cases h:NL ⟨s,T,p⟩ a
  ·rw [if_pos h,if_pos (e▸h)]
  ·rw [if_neg h,if_neg (e▸h)]
theorem tokOk_sem{s:ByteArray}(hne:nestE s=0∧nestA s=0):TokOk (inS s):=by
 have h0:=nestT_sem hne
 obtain⟨e1,e2,e3⟩:=semF_rl s (by rw [h0]) (by rw [h0])
 rw [h0] at e3
 intro t ht
 rcases e3.mem t ht with ⟨h1,h2⟩|h1
 ·exact .inl ((allF_tile s e1).mem t h1)
 ·exact .inr h1
theorem parF_wds{s:ByteArray}{goal:Int}{T:List Tok}{x:Nd}(hO:parF s goal = .inr (T,x)):Wds s T (flat x):=by
 obtain⟨hne,hTT,hg,m,hm⟩:=parF_in hO
 have hw:=parF_well hO
 have hc:=parF_cnt hO
 have hnod:=flat_nod x hw.wel
 have hr:=parF_ok hO
 subst hTT
 refine⟨nestT_sem hne,nestT_len s,hc,?_,well_flat _ x,?_,?_,?_,?_⟩
 ·intro y hy
  obtain⟨_,⟨h1,h2,h3⟩,_,_,h5⟩:=hnod y hy
  have h3':y.to≤(nestT s).length:=h3
  unfold WdP at h5
  rcases h5 with ⟨q,_⟩|⟨q,_⟩<;>omega
 ·intro p hp
  have hz:=nestS_size s hne.1
  obtain⟨y,hy,rfl⟩:=List.mem_map.1 hp
  exact part_ok (inS s) (tokOk_sem hne) (by show s.size≤900000;omega) y (hnod y hy)
 ·rw [lvs_flat x hw.wel]
  have hx:=hw.wel.rng
  have hf:=hw.frm
  rw [hf]
  have hL:(inS s).L=(nestT s).length:=rfl
  have e0:nlL ⟨s,nestT s,[]⟩ 0 (nestT s).length=nlL (inS s) 0 (nestT s).length:=nlN_pair s (nestT s) [] (nestP s) _ _
  rw [e0,nlL_app (inS s) (a:=0) (b:=x.to) (c:=(nestT s).length) (by omega) (by omega),nlL_gap (inS s) (a:=x.to) (b:=(nestT s).length) (by omega) (by omega) (by rw [hw.to,hL]),List.append_nil]
 ·intro y hy hk
  obtain⟨_,⟨h1,h2,h3⟩,_,_,h5⟩:=hnod y hy
  show y.kind=26↔kindT (inS s) y.word=1
  unfold WdP at h5
  rcases h5 with ⟨_,q⟩|⟨q0,⟨q1,q2,q3⟩|⟨q1,q2,q3⟩|⟨q,_⟩⟩
  ·unfold BareK at q;omega
  ·rw [q2.1];exact⟨fun _=>q3,fun _=>q1⟩
  ·rw [q2.1]
   unfold Lit at q3
   constructor<;>intro h<;>omega
  ·rcases hk with e|e<;>(rw [e] at q;exact absurd q (by unfold WdK;simp))
 ·intro t ht
  obtain⟨i,hi,rfl⟩:=List.mem_iff_getElem.1 ht
  have h1:=hr.at (i:=(i:Int)) (by omega) (by show (i:Int)<((nestT s).length:Int);omega)
  have e:getI tokR.dflt (nestT s) (i:Int)=(nestT s)[i]:=by
   unfold getI
   rw [Int.toNat_natCast,List.getD_eq_getElem?_getD,List.getElem?_eq_getElem hi]
   rfl
  show 0≤(nestT s)[i].frm∧_
  rw [←e]
  exact h1
end Go.Ex
namespace Go.Ex
open Go.Proofs
attribute [local irreducible] CH
theorem noneT_any(e a:Int)(h:Heap):CH Tryz.prog 12 #[.agg #[.int .i64 e,.int .i64 a]] h fun v h'=>v=denC (.prop (e=0∧a=0))∧Grows h h':=by
 refine enter (rep:=rep) (m:=1) (ex:=[1,2]) (cu:=[]) tO Tryz.func12 rfl (by decide) (rs:=[.tmp 2]) rfl rfl [.agg [.val (.int .i64 e),.val (.int .i64 a)]] rfl ?_
 ((repeat' ((conv=>whnf);(first|(refine VC.mk (by omega) ?_)|(refine New.mk ?_;intro b hb)|(refine ft_eql ?_)|fail)));all_goals (try (conv=>whnf)))
 all_goals exact⟨fun h' hs=>⟨rfl,hs.grows⟩⟩
abbrev s0:ByteArray:=(⟨#[97,32,43,32,98,32,47,42,32,99,32,42,47]⟩:ByteArray)
theorem par_s0:parF s0 2 = .inr ([⟨1,0,1⟩,⟨8,2,3⟩,⟨1,4,5⟩,⟨9,5,5⟩],.mk 37 1 0 3 [.mk 26 0 0 1 [],.mk 26 2 2 3 []]):=by kernel_rfl
theorem flat_s0:(flat (.mk 37 1 0 3 [.mk 26 0 0 1 [],.mk 26 2 2 3 []])).map (partN ⟨s0,[⟨1,0,1⟩,⟨8,2,3⟩,⟨1,4,5⟩,⟨9,5,5⟩],[]⟩)=[⟨37,2,(⟨#[43]⟩:ByteArray)⟩,⟨26,0,(⟨#[97]⟩:ByteArray)⟩,⟨26,0,(⟨#[98]⟩:ByteArray)⟩]:=by kernel_rfl
theorem pt_eql{κ:KV→Prop}(h:κ (.prop True)):EqK Tryz.prog .eql 51 (.agg [.val (.int .u8 37),.val (.int .i64 2),.val (.string ⟨#[43]⟩)]) (.agg [.val (.int .u8 37),.val (.int .i64 2),.val (.string ⟨#[43]⟩)]) κ:=⟨True,fun u v w=>by
 have e:denC (.prop True) = .bool true:=by simp [denC]
 show (do eqGuard .eql 51 u v (.agg #[.int .u8 37,.int .i64 2,.string ⟨#[43]⟩]) (.agg #[.int .u8 37,.int .i64 2,.string ⟨#[43]⟩]);binOp .eql 51 (.agg #[.int .u8 37,.int .i64 2,.string ⟨#[43]⟩]) (.agg #[.int .u8 37,.int .i64 2,.string ⟨#[43]⟩]):Sem Value).run Tryz.prog w = .ok (denC (.prop True)) w
 rw [e]
 kernel_rfl,h⟩
theorem termS_any(h:Heap)(ht:TabsH h):CH Tryz.prog 16 #[.int .u8 2,.string s0] h fun v h'=>Grows h h'∧∃ B m d,v = .tuple #[.slice B m d,.agg #[.int .i64 0,.int .i64 0]]∧(Held prtR h' [] B m [⟨37,2,(⟨#[43]⟩:ByteArray)⟩,⟨26,0,(⟨#[97]⟩:ByteArray)⟩,⟨26,0,(⟨#[98]⟩:ByteArray)⟩]∧∀ x,0<m→B=some x→h.size≤x.block):=by
 refine (term_any s0 2 h ht (by decide) (fun T x e=>?_)).mono fun v h' h1=>?_
 ·rw [par_s0] at e
  cases e
  exact⟨by decide,by decide⟩
 ·unfold TerP at h1
  rw [par_s0] at h1
  dsimp only at h1
  rw [flat_s0] at h1
  exact h1
theorem awake_any(h:Heap)(ht:TabsH h):CH Tryz.prog 13 #[] h fun v h'=>v = .bool true∧Grows h h':=by
 refine enter (rep:=rep) (m:=0) (ex:=[0,1,2]) (cu:=[]) tO Tryz.func13 rfl (by decide) (rs:=[.tmp 0]) rfl rfl [] rfl ?_
 ((repeat' ((conv=>whnf);(first|(refine VC.mk (by omega) ?_)|(refine Br.mk ?_ ?_<;>intro hb<;>(try replace hb:=Classical.not_not.1 hb)<;>(try (contradiction)))|(refine New.mk ?_;intro b hb)|(refine CK.anewQ (f:=16) (Q:=fun h u h'=>∃ B m d,u = .tuple #[.slice B m d,.agg #[.int .i64 0,.int .i64 0] ]∧(Held prtR h' [] B m [⟨37,2,(⟨#[43]⟩:ByteArray)⟩,⟨26,0,(⟨#[97]⟩:ByteArray)⟩,⟨26,0,(⟨#[98]⟩:ByteArray)⟩]∧∀ x,0<m→B=some x→h.size≤x.block)) (fun h hs=>termS_any h (ht.at hs)) ?_;rintro h1 u h2 hs1 hg ⟨B,m,d,rfl,hP,hf⟩;refine⟨.tup [.val (.slice B m d),.agg [.val (.int .i64 0),.val (.int .i64 0)] ],rfl,?_⟩;have hPf:=hP.freshen hf hs1;have hn:=hP.sl.len_eq;have hpl:PlainA B:=hP.sl.plain (by rw [←hn];decide))|(apply CK.pure;(case hh=>(intro h1 hs;exact noneT_any _ _ h1)))|(refine XLoad.held hPf rfl (by omega) (by omega) rfl ?_)|(refine pt_eql ?_)|fail)));all_goals (try (conv=>whnf)))
 all_goals first
  |exact⟨fun h' hs=>⟨prop_true rfl,(show Later h [] h2 _ from (hs1.later hg).lB).bas.fin hs⟩⟩
  |(exfalso;simp only [List.length_cons,List.length_nil] at hn;omega)
  |(exfalso;simp_all;done)
end Go.Ex
namespace Go.Ex
open Go.Proofs
theorem TabsH.later{h h':Heap}{c:List Nat}(ht:TabsH h)(hl:Later h [] h' c):TabsH h':=ht.congr fun b hb=>hl.same b (Nat.lt_of_lt_of_le hb ht.size) List.not_mem_nil
attribute [local irreducible] CH parF nestT nestP nestE nestA allF
end Go.Ex
namespace Go.Ex
open Go.Proofs
def rep2:Nat→Option RepS
 |9=>some ⟨strR⟩
 |k=>rep k
theorem text5{i:Int}(hi:0≤i∧i<5):(getI strR.dflt opT i).size≤8∧(getI strR.dflt clT i).size≤8∧(getI strR.dflt prT i).size≤8∧(1≤getI (0:Int) gT i∧getI (0:Int) gT i≤3):=by
 have h5:i=0∨i=1∨i=2∨i=3∨i=4:=by omega
 rcases h5 with rfl|rfl|rfl|rfl|rfl<;>exact⟨by decide,by decide,by decide,by decide⟩
theorem nestS_le(o c:ByteArray)(ho:o.size≤8)(hc:c.size≤8)(k:Nat)(hk:k≤110):(nestS o c k).size≤2000:=by
 rw [nestS_size2]
 have:=Nat.mul_le_mul hk (show o.size+c.size≤16 by omega)
 omega
theorem repS_le(p:ByteArray)(hp:p.size≤8)(k:Nat)(hk:k≤3000):(repS p k).size≤24000:=by
 rw [repS_size]
 have:=Nat.mul_le_mul hk hp
 omega
attribute [local irreducible] CH parF
theorem topdeep_any(n q:Int)(h:Heap)(hn:0≤n∧n<65536)(hq:0≤q∧q<256)(ht:TabsH h) :
 CH Tryz.prog 6 #[.int .u16 n,.int .u8 q] h fun v h'=>v = .bool true∧Grows h h':=by
 refine enter (rep:=rep2) (m:=2) (ex:=[0,1,4,5,6,7,8,9,10,11,12,13,14,15,16,17,18,34,48,56,64,70,87,90]) (cu:=[]) tO Tryz.func6 rfl (by decide) (rs:=[.tmp 4]) rfl rfl [.val (.int .u16 n),.val (.int .u8 q)] rfl ?_
 have hi5:0≤q % 5∧q % 5<5:=by omega
 obtain⟨k,hk⟩:∃ k:Nat,n % 110=k:=⟨(n % 110).toNat,by omega⟩
 obtain⟨m,hm⟩:∃ m:Nat,n % 3000=m:=⟨(n % 3000).toNat,by omega⟩
 have hdl:=deep_law (q % 5) hi5 k (by omega)
 have hll:=long_law (q % 5) hi5 m (by omega)
 obtain⟨z1,z2,z3,z4⟩:=text5 hi5
 have hns:=nestS_le _ _ z1 z2
 have hrs:=repS_le _ z3
 have hr2:=repS_le ((⟨#[45,32]⟩:ByteArray)) (by decide)
 have y1:(getI strR.dflt ([(⟨#[40]⟩:ByteArray),(⟨#[97,91]⟩:ByteArray),(⟨#[102,40]⟩:ByteArray),(⟨#[91,93,84,123]⟩:ByteArray),(⟨#[102,117,110,99,40,41,32,123]⟩:ByteArray)]:List ByteArray) (q % 5)).size≤8:=z1
 have y2:(getI strR.dflt ([(⟨#[41]⟩:ByteArray),(⟨#[93]⟩:ByteArray),(⟨#[41]⟩:ByteArray),(⟨#[125]⟩:ByteArray),(⟨#[125]⟩:ByteArray)]:List ByteArray) (q % 5)).size≤8:=z2
 have y3:(getI strR.dflt ([(⟨#[45]⟩:ByteArray),(⟨#[42]⟩:ByteArray),(⟨#[97,58,32]⟩:ByteArray),(⟨#[99,104,97,110,32]⟩:ByteArray),(⟨#[49,32,43,32]⟩:ByteArray)]:List ByteArray) (q % 5)).size≤8:=z3
 have e45:((⟨#[45,32]⟩:ByteArray):ByteArray).size=2:=rfl
 have e120:((⟨#[120]⟩:ByteArray):ByteArray).size=1:=rfl
 have y4:1≤getI (intR .u8).dflt ([2,2,3,1,2]:List Int) (q % 5)∧getI (intR .u8).dflt ([2,2,3,1,2]:List Int) (q % 5)≤3:=z4
 ((repeat' ((conv=>whnf);(first|(refine Ar.fit (by omega) ?_)|(refine VC.mk (by (first|omega|(and_intros<;>first|omega|rfl|(simp only [maxLen];omega)|(simp only [List.length_append,List.length_take,List.length_replicate,List.length_cons,List.length_nil];omega)))) ?_)|(refine Br.mk ?_ ?_<;>intro hb<;>(try replace hb:=Classical.not_not.1 hb)<;>(try (exfalso;omega)))|(refine New.mk ?_;intro b hb)|fail)));all_goals (try (conv=>whnf)))
 refine lgn tO [8,9] (fun i:Nat=>[(8,.val (.string (nestS (getI strR.dflt opT (q % 5)) (getI strR.dflt clT (q % 5)) i))),(9,.val (.int .i64 i))]) (fun _=>⟨h,[],[]⟩) (fun μ i=>i+μ=k) ?_
 conv=>whnf
 refine⟨fun h5 hs=>⟨k,0,Nat.zero_add _,?_,hs.ren [] trivial⟩,?_⟩
 ·(repeat (refine And.intro ⟨_,rfl,by first|rfl|(simp [den,den1,denC];done)⟩ ?_));exact trivial
 rintro μ i hi
 have hs1:=hns i (by omega)
 by_cases hik:i<k
 ·((repeat' ((conv=>whnf);(first|(refine Ar.fit (by omega) ?_)|(refine VC.mk (by (first|omega|(and_intros<;>first|(simp only [ByteArray.size_extract,ByteArray.size_append];omega)))) ?_)|(refine Br.mk ?_ ?_<;>intro hb<;>(try replace hb:=Classical.not_not.1 hb)<;>(try (exfalso;omega)))|fail)));all_goals (try (conv=>whnf)))
  all_goals first
   |(exfalso;omega)
   | (intro h6 hs
      refine⟨μ-1,i+1,by omega,by omega,?_,hs.ren [] trivial⟩
      (repeat (refine And.intro ⟨_,rfl,by first|rfl|(simp [den,den1,denC];done)⟩ ?_));exact trivial)
 obtain rfl:i=k:=by omega
 obtain⟨s,hsE⟩:∃ s,nestS (getI strR.dflt opT (q % 5)) (getI strR.dflt clT (q % 5)) i=s:=⟨_,rfl⟩
 rw [hsE] at hs1 hdl
 obtain⟨s2,hs2E⟩:∃ s2,(if q % 5=0 then repS ((⟨#[45,32]⟩:ByteArray)) m else repS (getI strR.dflt prT (q % 5)) m)++(⟨#[120]⟩:ByteArray)=s2:=⟨_,rfl⟩
 rw [hs2E] at hll
 have cp:=fun h1 (ht:TabsH h1)=>term_any s 2 h1 ht (by omega) (fun T x h=>⟨(parF_wds h).nn,(parF_wds h).wrd⟩)
 unfold TerP at cp
 have hX:∃ e a L,(i≤100→e=0∧a=0)∧(100<i→e=6)∧(∀ h1,TabsH h1→CH Tryz.prog 16 #[.int .u8 2,.string s] h1 fun v h'=>Grows h1 h'∧∃ B m d,v = .tuple #[.slice B m d,.agg #[.int .i64 e,.int .i64 a]]∧(100<i→m=0)∧Held prtR h' [] B m L∧∀ x,0<m→B=some x→h1.size≤x.block)∧(i≤100→Pk.WellL L∧(∀ p∈L,PartW p)∧L.length≤1000000000):=by
  by_cases c:i≤100
  ·rw [if_pos c] at hdl
   obtain⟨T,x,hO⟩:=hdl
   rw [hO] at cp
   have hW:=parF_wds hO
   refine⟨0,0,_,fun _=>⟨rfl,rfl⟩,fun _=>by omega,fun h1 ht=>(cp h1 ht).mono fun v h' ⟨q1,B,m,d,q2,q3,q4⟩=>⟨q1,B,m,d,q2,fun _=>by omega,q3,q4⟩,fun _=>⟨hW.well,hW.part,by rw [List.length_map];exact hW.nn⟩⟩
  ·rw [if_neg c] at hdl
   obtain⟨a,hO⟩:=hdl
   rw [hO] at cp
   refine⟨6,a,[],fun _=>by omega,fun _=>rfl,fun h1 ht=>(cp h1 ht).mono fun v h' ⟨q1,q2⟩=>⟨q1,none,0,0,q2,fun _=>rfl,Held.nil,fun x hx=>absurd hx (Nat.lt_irrefl 0)⟩,fun _=>by omega⟩
 clear cp hdl
 obtain⟨e,a,L,he0,he6,cp,hL⟩:=hX
 obtain⟨T2,x2,hO2,hm2⟩:=hll
 have cp2:=fun h1 (ht:TabsH h1)=>term_any s2 (getI (0:Int) gT (q % 5)) h1 ht (by rw [←hs2E,app_size];split<;>first|(have:=hr2 m (by omega);have e1:((⟨#[120]⟩:ByteArray):ByteArray).size=1:=rfl;omega)|(have:=hrs m (by omega);have e1:((⟨#[120]⟩:ByteArray):ByteArray).size=1:=rfl;omega)) (fun T x h=>⟨(parF_wds h).nn,(parF_wds h).wrd⟩)
 unfold TerP at cp2
 rw [hO2] at cp2
 have hW2:=parF_wds hO2
 have hwell2:=hW2.well
 have hpart2:=hW2.part
 have hnn2:=hW2.nn
 obtain⟨L2,hL2⟩:∃ L2,(flat x2).map (partN ⟨s2,T2,[]⟩)=L2:=⟨_,rfl⟩
 have hLn2:L2.length=(flat x2).length:=by rw [←hL2,List.length_map]
 dsimp only at cp2
 rw [hL2] at cp2 hwell2 hpart2
 clear hW2
 subst hsE
 ((repeat' ((conv=>whnf);(first|(refine Ar.fit (by omega) ?_)|(refine VC.mk (by omega) ?_)|(refine Br.mk ?_ ?_<;>intro hb<;>(try replace hb:=Classical.not_not.1 hb)<;>(try (exfalso;omega)))|(refine New.mk ?_;intro b hb)|(refine CK.anewQ (f:=16) (Q:=fun h1 v h'=>∃ B m d,v = .tuple #[.slice B m d,.agg #[.int .i64 e,.int .i64 a] ]∧(100<i→m=0)∧Held prtR h' [] B m L∧∀ x,0<m→B=some x→h1.size≤x.block) (fun h hs=>cp h (ht.at hs)) ?_;rintro h1 u h2 hs1 hg1 ⟨B,m1,d,rfl,hm0,hP0,hPf⟩;refine⟨.tup [.val (.slice B m1 d),.agg [.val (.int .i64 e),.val (.int .i64 a)] ],rfl,?_⟩;have hl1:Later h [] h2 _:=(hs1.later hg1).lB;have hP1:=hP0.freshen hPf hs1;have hPn:=hP0.sl.len_eq)|(apply CK.pure;(case hh=>(intro h1 hs;exact noneT_any _ _ h1)))|(apply CK.pure;(case hh=>(intro h1 hs;exact tcheck_any B m1 d L h1 (ht.later (hl1.trans hs.lB)) (hP1.at_ hs) (by have:=hL (by omega);omega) (hL (by omega)).1 (hL (by omega)).2.1)))|fail)));all_goals (try (conv=>whnf)))
 all_goals (try (exfalso;simp only [decide_eq_true_eq] at *;omega))
 all_goals
  refine lgn tO [13,14] (fun j:Nat=>[(13,.val (.string (repS (getI strR.dflt prT (q % 5)) j))),(14,.val (.int .i64 j))]) (fun _=>⟨h2,[],[]⟩) (fun ν j=>j+ν=m) ?_
  conv=>whnf
  refine⟨fun h5 hs=>⟨m,0,Nat.zero_add _,?_,hs.ren [] trivial⟩,?_⟩
  ·(repeat (refine And.intro ⟨_,rfl,by first|rfl|(simp [den,den1,denC];done)⟩ ?_));exact trivial
  rintro ν j hj
  have hs5:=hrs j (by omega)
  by_cases hjm:j<m
  ·((repeat' ((conv=>whnf);(first|(refine Ar.fit (by omega) ?_)|(refine VC.mk (by (first|omega|(and_intros<;>first|omega|rfl|(simp only [maxLen];omega)|(simp only [List.length_append,List.length_take,List.length_replicate,List.length_cons,List.length_nil];omega)))) ?_)|(refine Br.mk ?_ ?_<;>intro hb<;>(try replace hb:=Classical.not_not.1 hb)<;>(try (exfalso;omega)))|(refine New.mk ?_;intro b hb)|fail)));all_goals (try (conv=>whnf)))
   all_goals first
    |(exfalso;omega)
    | (intro h6 hs
       refine⟨ν-1,j+1,by omega,by omega,?_,hs.ren [] trivial⟩
       (repeat (refine And.intro ⟨_,rfl,by first|rfl|(simp [den,den1,denC];done)⟩ ?_));exact trivial)
  obtain rfl:j=m:=by omega
  by_cases hq5:q % 5=0
  ·rw [if_pos hq5] at hs2E
   subst hs2E
   ((repeat' ((conv=>whnf);(first|(refine VC.mk (by (first|omega|(and_intros<;>first|omega|rfl|(simp only [maxLen];omega)|(simp only [List.length_append,List.length_take,List.length_replicate,List.length_cons,List.length_nil];omega)))) ?_)|(refine Br.mk ?_ ?_<;>intro hb<;>(try replace hb:=Classical.not_not.1 hb)<;>(try (exfalso;omega)))|(refine New.mk ?_;intro b hb)|fail)));all_goals (try (conv=>whnf)))
   all_goals (try (exfalso;omega))
   refine lgn tO [13,16] (fun k:Nat=>[(13,.val (.string (repS ((⟨#[45,32]⟩:ByteArray)) k))),(16,.val (.int .i64 k))]) (fun _=>⟨h2,[],[]⟩) (fun ν k=>k+ν=j) ?_
   conv=>whnf
   refine⟨fun h5 hs=>⟨j,0,Nat.zero_add _,?_,hs.ren [] trivial⟩,?_⟩
   ·(repeat (refine And.intro ⟨_,rfl,by first|rfl|(simp [den,den1,denC];done)⟩ ?_));exact trivial
   rintro ν k hk3
   have hs6:=hr2 k (by omega)
   by_cases hkj:k<j
   ·((repeat' ((conv=>whnf);(first|(refine Ar.fit (by omega) ?_)|(refine VC.mk (by omega) ?_)|(refine Br.mk ?_ ?_<;>intro hb<;>(try replace hb:=Classical.not_not.1 hb)<;>(try (exfalso;omega)))|fail)));all_goals (try (conv=>whnf)))
    all_goals first
     |(exfalso;omega)
     | (intro h6 hs
        refine⟨ν-1,k+1,by omega,by omega,?_,hs.ren [] trivial⟩
        (repeat (refine And.intro ⟨_,rfl,by first|rfl|(simp [den,den1,denC];done)⟩ ?_));exact trivial)
   obtain rfl:k=j:=by omega
   ((repeat' ((conv=>whnf);(first|(refine VC.mk (by omega) ?_)|(refine Br.mk ?_ ?_<;>intro hb<;>(try replace hb:=Classical.not_not.1 hb)<;>(try (exfalso;omega)))|(refine New.mk ?_;intro b hb)|(refine CK.anewQ (f:=16) (Q:=fun h1 v h'=>∃ B m d,v = .tuple #[.slice B m d,.agg #[.int .i64 0,.int .i64 0] ]∧Held prtR h' [] B m L2∧∀ x,0<m→B=some x→h1.size≤x.block) (fun h hs=>cp2 h (ht.later (hl1.trans hs.lB))) ?_;rintro h3 u h4 hs3 hg3 ⟨B3,m3,d3,rfl,hP3,hPf3⟩;refine⟨.tup [.val (.slice B3 m3 d3),.agg [.val (.int .i64 0),.val (.int .i64 0)] ],rfl,?_⟩;have hl3:Later h [] h4 _:=hl1.trans ((hs3.later hg3).lB);have hP4:=hP3.freshen hPf3 hs3;have hPn3:=hP3.sl.len_eq)|(apply CK.pure;(case hh=>(intro h1 hs;exact noneT_any _ _ h1)))|(apply CK.pure;(case hh=>(intro h1 hs;exact tcheck_any B3 m3 d3 L2 h1 (ht.later (hl3.trans hs.lB)) (hP4.at_ hs) (by omega) hwell2 hpart2)))|(apply CK.pure;(case hh=>(intro h1 hs;exact awake_any h1 (ht.later (hl3.trans hs.lB)))))|fail)));all_goals (try (conv=>whnf)))
   all_goals first
    |exact⟨fun h' hs=>⟨prop_true rfl,hl3.bas.fin hs⟩⟩
    |exact⟨fun h' hs=>⟨rfl,hl3.bas.fin hs⟩⟩
    |(exfalso;apply hb;simp;done)
    |(exfalso;simp only [decide_eq_true_eq] at *;omega)
  ·rw [if_neg hq5] at hs2E
   subst hs2E
   ((repeat' ((conv=>whnf);(first|(refine VC.mk (by (first|omega|(and_intros<;>first|omega|rfl|(simp only [maxLen];omega)|(simp only [List.length_append,List.length_take,List.length_replicate,List.length_cons,List.length_nil];omega)))) ?_)|(refine Br.mk ?_ ?_<;>intro hb<;>(try replace hb:=Classical.not_not.1 hb)<;>(try (exfalso;omega)))|(refine New.mk ?_;intro b hb)|(refine CK.anewQ (f:=16) (Q:=fun h1 v h'=>∃ B m d,v = .tuple #[.slice B m d,.agg #[.int .i64 0,.int .i64 0] ]∧Held prtR h' [] B m L2∧∀ x,0<m→B=some x→h1.size≤x.block) (fun h hs=>cp2 h (ht.later (hl1.trans hs.lB))) ?_;rintro h3 u h4 hs3 hg3 ⟨B3,m3,d3,rfl,hP3,hPf3⟩;refine⟨.tup [.val (.slice B3 m3 d3),.agg [.val (.int .i64 0),.val (.int .i64 0)] ],rfl,?_⟩;have hl3:Later h [] h4 _:=hl1.trans ((hs3.later hg3).lB);have hP4:=hP3.freshen hPf3 hs3;have hPn3:=hP3.sl.len_eq)|(apply CK.pure;(case hh=>(intro h1 hs;exact noneT_any _ _ h1)))|(apply CK.pure;(case hh=>(intro h1 hs;exact tcheck_any B3 m3 d3 L2 h1 (ht.later (hl3.trans hs.lB)) (hP4.at_ hs) (by omega) hwell2 hpart2)))|(apply CK.pure;(case hh=>(intro h1 hs;exact awake_any h1 (ht.later (hl3.trans hs.lB)))))|fail)));all_goals (try (conv=>whnf)))
   all_goals first
    |exact⟨fun h' hs=>⟨prop_true rfl,hl3.bas.fin hs⟩⟩
    |exact⟨fun h' hs=>⟨rfl,hl3.bas.fin hs⟩⟩
    |(exfalso;apply hb;simp;done)
    |(exfalso;simp only [decide_eq_true_eq] at *;omega)
end Go.Ex
