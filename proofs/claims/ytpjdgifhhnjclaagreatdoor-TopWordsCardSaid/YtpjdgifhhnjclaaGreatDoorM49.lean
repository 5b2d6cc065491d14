/-
  Top: TopWords: whatever the input, the law answers true (part 49)
-/
import Derived.Test.YtpjdgifhhnjclaaGreatDoorM48
set_option linter.unusedVariables false
set_option linter.unusedSimpArgs false
set_option maxHeartbeats 4000000
set_option maxRecDepth 10000
namespace Go.Ex
open Go.Proofs
structure Wds(s:ByteArray)(T:List Tok)(N:List Nde):Prop where
 sem:semF s=(T,0,0)
 tn:(T.length:Int)≤65537
 nn:N.length≤1000000000
 wrd:∀ y∈N,-1≤y.word∧y.word<T.length
 well:Pk.WellL (N.map (partN ⟨s,T,[]⟩))
 part:∀ p∈N.map (partN ⟨s,T,[]⟩),PartW p
 lvs:lvs N=nlL ⟨s,T,[]⟩ 0 T.length
 leaf:∀ y∈N,y.kind=26∨y.kind=27→(y.kind=26↔kindT ⟨s,T,[]⟩ y.word=1)
 tok:∀ t∈T,0≤t.frm∧t.frm≤t.to∧t.to≤s.size
theorem nestT_sem{s:ByteArray}(hne:nestE s=0∧nestA s=0):semF s=(nestT s,0,0):=by
 obtain⟨h2,h3⟩:=hne
 have key:(semF s).2.1=0∧(semF s).2.2=0∧nestT s=(semF s).1:=by
  unfold nestE nestF at h2
  unfold nestT nestF
  split at h2
  ·rename_i c
   rw [if_pos c] at *
   split at h2
   ·rename_i c2
    rw [if_pos c2]
    exact⟨c.1,c.2,rfl⟩
   ·rename_i c2
    exact absurd h2 c2
  ·rename_i c
   unfold nestA nestF at h3
   rw [if_neg c] at h3
   exact absurd ⟨h2,h3⟩ c
 rw [key.2.2]
 exact Prod.ext rfl (Prod.ext key.1 key.2.1)
theorem nlN_pair(s:ByteArray)(T:List Tok)(p q:List Int):∀ (k:Nat) (a:Int),nlN ⟨s,T,p⟩ k a=nlN ⟨s,T,q⟩ k a
 |0,a=>rfl
 |k+1,a=>by
  have e:(NL ⟨s,T,p⟩ a)=(NL ⟨s,T,q⟩ a):=rfl
  simp only [nlN]
  rw [nlN_pair s T p q k (a+1)]
  by_cases h:NL ⟨s,T,p⟩ a
  ·rw [if_pos h,if_pos (e▸h)]
  ·rw [if_neg h,if_neg (e▸h)]
theorem tokOk_sem{s:ByteArray}(hne:nestE s=0∧nestA s=0):TokOk (inS s):=by
 have h0:=nestT_sem hne
 obtain⟨e1,e2,e3⟩:=semF_rl s (by rw [h0]) (by rw [h0])
 rw [h0] at e3
 intro t ht
 rcases e3.mem t ht with ⟨h1,h2⟩|h1
 ·exact .inl ((allF_tile s e1).mem t h1)
 ·exact .inr h1
theorem parF_wds{s:ByteArray}{goal:Int}{T:List Tok}{x:Nd}(hO:parF s goal = .inr (T,x)):Wds s T (flat x):=by
 obtain⟨hne,hTT,hg,m,hm⟩:=parF_in hO
 have hw:=parF_well hO
 have hc:=parF_cnt hO
 have hnod:=flat_nod x hw.wel
 have hr:=parF_ok hO
 subst hTT
 refine⟨nestT_sem hne,nestT_len s,hc,?_,well_flat _ x,?_,?_,?_,?_⟩
 ·intro y hy
  obtain⟨_,⟨h1,h2,h3⟩,_,_,h5⟩:=hnod y hy
  have h3':y.to≤(nestT s).length:=h3
  unfold WdP at h5
  rcases h5 with ⟨q,_⟩|⟨q,_⟩<;>omega
 ·intro p hp
  have hz:=nestS_size s hne.1
  obtain⟨y,hy,rfl⟩:=List.mem_map.1 hp
  exact part_ok (inS s) (tokOk_sem hne) (by show s.size≤900000;omega) y (hnod y hy)
 ·rw [lvs_flat x hw.wel]
  have hx:=hw.wel.rng
  have hf:=hw.frm
  rw [hf]
  have hL:(inS s).L=(nestT s).length:=rfl
  have e0:nlL ⟨s,nestT s,[]⟩ 0 (nestT s).length=nlL (inS s) 0 (nestT s).length:=nlN_pair s (nestT s) [] (nestP s) _ _
  rw [e0,nlL_app (inS s) (a:=0) (b:=x.to) (c:=(nestT s).length) (by omega) (by omega),nlL_gap (inS s) (a:=x.to) (b:=(nestT s).length) (by omega) (by omega) (by rw [hw.to,hL]),List.append_nil]
 ·intro y hy hk
  obtain⟨_,⟨h1,h2,h3⟩,_,_,h5⟩:=hnod y hy
  show y.kind=26↔kindT (inS s) y.word=1
  unfold WdP at h5
  rcases h5 with ⟨_,q⟩|⟨q0,⟨q1,q2,q3⟩|⟨q1,q2,q3⟩|⟨q,_⟩⟩
  ·unfold BareK at q;omega
  ·rw [q2.1];exact⟨fun _=>q3,fun _=>q1⟩
  ·rw [q2.1]
   unfold Lit at q3
   constructor<;>intro h<;>omega
  ·rcases hk with e|e<;>(rw [e] at q;exact absurd q (by unfold WdK;simp))
 ·intro t ht
  obtain⟨i,hi,rfl⟩:=List.mem_iff_getElem.1 ht
  have h1:=hr.at (i:=(i:Int)) (by omega) (by show (i:Int)<((nestT s).length:Int);omega)
  have e:getI tokR.dflt (nestT s) (i:Int)=(nestT s)[i]:=by
   unfold getI
   rw [Int.toNat_natCast,List.getD_eq_getElem?_getD,List.getElem?_eq_getElem hi]
   rfl
  show 0≤(nestT s)[i].frm∧_
  rw [←e]
  exact h1
theorem lvs_skip{N:List Nde}{k:Nat}(hk:k<N.length)(h:¬ ((getI ndeR.dflt N (k:Int)).kind=26∨(getI ndeR.dflt N (k:Int)).kind=27)):lvs (N.drop k)=lvs (N.drop (k+1)):=by
 have e:N.drop k=getI ndeR.dflt N (k:Int)::N.drop (k+1):=by
  unfold getI
  rw [Int.toNat_natCast,List.getD_eq_getElem?_getD,List.getElem?_eq_getElem hk]
  exact List.drop_eq_getElem_cons hk
 rw [e]
 unfold lvs
 rw [List.filter_cons,if_neg (by simpa using h)]
theorem lvs_take{N:List Nde}{k:Nat}(hk:k<N.length)(h:(getI ndeR.dflt N (k:Int)).kind=26∨(getI ndeR.dflt N (k:Int)).kind=27):lvs (N.drop k)=(getI ndeR.dflt N (k:Int)).word::lvs (N.drop (k+1)):=by
 have e:N.drop k=getI ndeR.dflt N (k:Int)::N.drop (k+1):=by
  unfold getI
  rw [Int.toNat_natCast,List.getD_eq_getElem?_getD,List.getElem?_eq_getElem hk]
  exact List.drop_eq_getElem_cons hk
 rw [e]
 unfold lvs
 rw [List.filter_cons,if_pos (by simpa using h)]
 rfl
theorem lvs_end(N:List Nde)(k:Nat)(hk:¬ k<N.length):lvs (N.drop k)=[]:=by
 rw [List.drop_eq_nil_of_le (by omega)]
 rfl
theorem nlL_step(I:In)(i n:Int)(h0:i<n):nlL I i n=if NL I i then i::nlL I (i+1) n else nlL I (i+1) n:=by
 unfold nlL
 rw [show (n-i).toNat=(n-(i+1)).toNat+1 by omega]
 rfl
theorem nlL_end(I:In)(i n:Int)(h0:¬ i<n):nlL I i n=[]:=by
 unfold nlL
 rw [show (n-i).toNat=0 by omega]
 rfl
theorem getI_map{α β:Type}(f:α→β)(d:α)(e:β)(l:List α)(i:Int)(h0:0≤i)(h1:i<l.length):getI e (l.map f) i=f (getI d l i):=by
 unfold getI
 have h:i.toNat<l.length:=by omega
 rw [List.getD_eq_getElem?_getD,List.getD_eq_getElem?_getD,List.getElem?_map,List.getElem?_eq_getElem h]
 rfl
theorem kindT_at(s:ByteArray)(T:List Tok)(i:Int)(h0:0≤i)(h1:i<T.length):kindT ⟨s,T,[]⟩ i=(getI tokR.dflt T i).kind:=by
 unfold kindT
 rw [if_neg (by show ¬ (i<0∨(T.length:Int)≤i);omega)]
theorem leaf_word(s:ByteArray)(T:List Tok)(y:Nde)(h0:0≤y.word)(h1:y.word<T.length)(hk:y.kind=26∨y.kind=27)(hn:NL ⟨s,T,[]⟩ y.word):wordP ⟨s,T,[]⟩ y.kind y.word=text8 s (getI tokR.dflt T y.word):=by
 unfold wordP text8 txtI
 unfold NL at hn
 rw [kindT_at s T y.word h0 h1] at hn
 rw [if_neg (by omega),if_pos h0,if_neg (by omega)]
end Go.Ex
namespace Go.Ex
open Go.Proofs
attribute [local irreducible] CH parF nestT nestP nestE nestA allF semF
theorem u4:Tryz.prog.underlying 4=some .bool:=by kernel_rfl
theorem eq4'(d:Nat)(a b:Bool)(w:World):(Op.equalIn (d+1) 4 (.bool a) (.bool b)).run Tryz.prog w = .ok (a == b) w:=by
 simp [Op.equalIn,underlying,u4]
theorem eq4(a b:Bool)(w:World):(Op.equalIn Op.maxDepth 4 (.bool a) (.bool b)).run Tryz.prog w = .ok (a == b) w:=eq4' 9999 a b w
theorem bb_neq{p q:Prop}{κ:KV→Prop}(h:κ (.prop (¬ (p↔q)))):EqK Tryz.prog .neq 4 (.prop p) (.prop q) κ:=⟨_,fun u v w=>by
 show (do eqGuard .neq 4 u v (denC (.prop p)) (denC (.prop q));binOp .neq 4 (denC (.prop p)) (denC (.prop q)):Sem Value).run Tryz.prog w = _
 by_cases hp:p<;>by_cases hq:q<;>simp [eqGuard,binOp,Op.equal,eq4,denC,hp,hq],h⟩
theorem topwords_any(n:Int)(s:ByteArray)(h:Heap)(hn0:0≤n∧n<256)(ht:TabsH h)(hz:s.size≤140737488355328) :
 CH Tryz.prog 5 #[.int .u8 n,.string s] h fun v h'=>v = .bool true∧Grows h h':=by
 refine enter (rep:=rep) (m:=2) (ex:=[0,1,4,5,6,7,8,9,10,30,39,43,67,87,122,144]) (cu:=[]) tO Tryz.func5 rfl (by decide) (rs:=[.tmp 4]) rfl rfl [.val (.int .u8 n),.val (.string s)] rfl ?_
 have cg:=fun h1=>goalT_any n h1 hn0
 obtain⟨goal,hgo⟩:∃ goal,1+n % 4=goal:=⟨_,rfl⟩
 rw [hgo] at cg
 have cp:=fun h1 (ht:TabsH h1)=>term_any s goal h1 ht hz (fun T x h=>⟨(parF_wds h).nn,(parF_wds h).wrd⟩)
 unfold TerP at cp
 have ca:=fun h1 (ht:TabsH h1)=>semi_any s h1 ht hz
 obtain⟨O,hO⟩:∃ O,parF s goal=O:=⟨_,rfl⟩
 rw [hO] at cp
 rcases O with ⟨e,a⟩|⟨T,x⟩
 ·have hne:=parF_ne hO
  dsimp only at cp
  generalize semF s=R at *
  obtain⟨TL,e0,a0⟩:=R
  ((repeat' ((conv=>whnf);(first|(refine VC.mk (by omega) ?_)|(refine Br.mk ?_ ?_<;>intro hb<;>(try replace hb:=Classical.not_not.1 hb))|(refine New.mk ?_;intro b hb)|(apply CK.pure;(case hh=>(intro h1 hs;exact cg h1)))|(refine CK.anewQ (f:=16) (Q:=fun h u h'=>u = .tuple #[.slice none 0 0,.agg #[.int .i64 e,.int .i64 a] ]) (fun h hs=>cp h (ht.at hs)) ?_;rintro h1 u h2 hs1 hg1 rfl;refine⟨.tup [.val (.slice none 0 0),.agg [.val (.int .i64 e),.val (.int .i64 a)] ],rfl,?_⟩;have hl1:Later h [] h2 _:=(hs1.later hg1).lB)|(refine CK.slf (f:=17) (fun h hs=>ca h (ht.later (hl1.trans hs.lB))) ?_;intro h4 A2 n2 c2 hl3 hA2 hfr;have hl3':=hl1.trans hl3)|(apply CK.pure;(case hh=>(intro h1 hs;exact noneT_any _ _ h1)))|(apply CK.pure;(case hh=>(intro h1 hs;exact awake_any h1 (ht.later (hl3'.trans hs.lB)))))|fail)));all_goals (try (conv=>whnf)))
  all_goals first
   |exact⟨fun h' hs=>⟨prop_true rfl,hl3'.bas.fin hs⟩⟩
   |exact⟨fun h' hs=>⟨rfl,hl3'.bas.fin hs⟩⟩
   |(exfalso;simp only [decide_eq_true_eq] at *;omega)
 ·have hW:=parF_wds hO
  dsimp only at cp
  rw [hW.sem] at ca
  clear hO hgo
  generalize flat x=N at *
  have hwell:=hW.well
  have hpart:=hW.part
  have hnn:=hW.nn
  have htn:=hW.tn
  obtain⟨L,hL⟩:∃ L,N.map (partN ⟨s,T,[]⟩)=L:=⟨_,rfl⟩
  have hLn:L.length=N.length:=by rw [←hL,List.length_map]
  rw [hL] at cp hwell hpart
  by_cases hsz:(3000:Int)<s.size
  ·((repeat' ((conv=>whnf);(first|(refine VC.mk (by omega) ?_)|(refine Br.mk ?_ ?_<;>intro hb<;>(try replace hb:=Classical.not_not.1 hb)<;>(try (exfalso;omega)))|(refine New.mk ?_;intro b hb)|(apply CK.pure;(case hh=>(intro h1 hs;exact cg h1)))|(refine CK.anewQ (f:=16) (Q:=fun h u h'=>∃ B m d,u = .tuple #[.slice B m d,.agg #[.int .i64 0,.int .i64 0] ]∧(Held prtR h' [] B m L∧∀ x,0<m→B=some x→h.size≤x.block)) (fun h hs=>cp h (ht.at hs)) ?_;rintro h1 u h2 hs1 hg1 ⟨B,m,d,rfl,hP0,hPf⟩;refine⟨.tup [.val (.slice B m d),.agg [.val (.int .i64 0),.val (.int .i64 0)] ],rfl,?_⟩;have hl1:Later h [] h2 _:=(hs1.later hg1).lB)|(refine CK.slf (f:=17) (fun h hs=>ca h (ht.later (hl1.trans hs.lB))) ?_;intro h4 A2 n2 c2 hl3 hA2 hfr;have hl3':=hl1.trans hl3)|(apply CK.pure;(case hh=>(intro h1 hs;exact noneT_any _ _ h1)))|(apply CK.pure;(case hh=>(intro h1 hs;exact awake_any h1 (ht.later (hl3'.trans hs.lB)))))|fail)));all_goals (try (conv=>whnf)))
   all_goals first
    |exact⟨fun h' hs=>⟨prop_true rfl,hl3'.bas.fin hs⟩⟩
    |exact⟨fun h' hs=>⟨rfl,hl3'.bas.fin hs⟩⟩
    |(exfalso;simp only [decide_eq_true_eq] at *;omega)
  ·((repeat' ((conv=>whnf);(first|(refine VC.mk (by omega) ?_)|(refine Br.mk ?_ ?_<;>intro hb<;>(try replace hb:=Classical.not_not.1 hb)<;>(try (first|(exfalso;omega)|contradiction)))|(refine New.mk ?_;intro b hb)|(apply CK.pure;(case hh=>(intro h1 hs;exact cg h1)))|(refine CK.anewQ (f:=16) (Q:=fun h u h'=>∃ B m d,u = .tuple #[.slice B m d,.agg #[.int .i64 0,.int .i64 0] ]∧(Held prtR h' [] B m L∧∀ x,0<m→B=some x→h.size≤x.block)) (fun h hs=>cp h (ht.at hs)) ?_;rintro h1 u h2 hs1 hg1 ⟨B,m,d,rfl,hP0,hPf⟩;refine⟨.tup [.val (.slice B m d),.agg [.val (.int .i64 0),.val (.int .i64 0)] ],rfl,?_⟩;have hl1:Later h [] h2 _:=(hs1.later hg1).lB;have hP1:=hP0.freshen hPf hs1;have hPn:=hP0.sl.len_eq)|(refine CK.slf (f:=17) (fun h hs=>ca h (ht.later (hl1.trans hs.lB))) ?_;intro h4 A2 n2 c2 hl3 hA2 hfr;have hl3':=hl1.trans hl3)|(apply CK.pure;(case hh=>(intro h1 hs;exact noneT_any _ _ h1)))|(apply CK.pure;(case hh=>(intro h1 hs;exact tcheck_any B m d L h1 (ht.later (hl3'.trans hs.lB)) ((hP1.later hl3).at_ hs) (by omega) hwell hpart)))|fail)));all_goals (try (conv=>whnf)))
   all_goals (try (exfalso;apply hb;simp;done))
   all_goals (try (exfalso;refine absurd (show ¬ (decide ((0:Int)=0∧(0:Int)=0)=true) from ?_) (by simp);assumption))
   rename_i b6 hb6 hb8 hbs hbd hbe
   rename Nat=>b8
   have hPa:Held prtR h4 [b6] B m L:=hP1.later hl3
   have hTa:Held tokR h4 [b6] A2 n2 T:=hA2
   clear hP1 hA2 hP0 hPf hfr cp ca cg
   have hTn:=hTa.sl.len_eq
   have hlv0:=hW.lvs
   have hleaf:=hW.leaf
   have hwrd:=hW.wrd
   have htok:=hW.tok
   refine lgn tO [9,10] (fun x:Nat×Nat=>[(9,.val (.int .i64 x.1)),(10,.val (.int .i64 x.2))]) (fun _=>⟨h4,[b6],[(8,b8,.box 28 [.val (.int .i64 0),.val (.int .i64 0)]),(6,b6,.box 28 [.val (.int .i64 0),.val (.int .i64 0)])]⟩) (fun μ x=>(x.2+μ=T.length∧x.1≤N.length)∧lvs (N.drop x.1)=nlL ⟨s,T,[]⟩ x.2 T.length) ?_
   conv=>whnf
   refine⟨fun h5 hs=>⟨T.length,(0,0),⟨⟨by dsimp only;omega,Nat.zero_le _⟩,by simpa using hlv0⟩,?_,hs.ren [8,6] ⟨⟨_,rfl,by first|exact SC.rfl|exact SC.box rfl⟩,rfl,⟨_,rfl,by first|exact SC.rfl|exact SC.box rfl⟩,rfl,trivial⟩⟩,?_⟩
   ·(repeat (refine And.intro ⟨_,rfl,by first|rfl|(simp [den,den1,denC];done)⟩ ?_));exact trivial
   rintro μ x hφ
   refine hφ.elim fun hφ0 hlv=>hφ0.elim fun hi hk=>?_
   by_cases hii:x.2<T.length
   ·have hplT:PlainA A2:=hTa.sl.plain (by omega)
    have hkt:=kindT_at s T (x.2:Int) (by omega) (by omega)
    have hst:=nlL_step ⟨s,T,[]⟩ (x.2:Int) T.length (by omega)
    by_cases hnl:NL ⟨s,T,[]⟩ (x.2:Int)
    ·rw [if_pos hnl] at hst
     have hnl':(getI tokR.dflt T (x.2:Int)).kind=1∨3≤(getI tokR.dflt T (x.2:Int)).kind∧(getI tokR.dflt T (x.2:Int)).kind≤7:=by
      have q:=hnl
      unfold NL at q
      rw [hkt] at q
      exact q
     have htk:=htok _ (getI_mem tokR.dflt T (x.2:Int) (by omega) (by omega))
     ((repeat' ((conv=>whnf);(first|(refine VC.mk (by omega) ?_)|(refine Br.mk ?_ ?_<;>intro hb<;>(try replace hb:=Classical.not_not.1 hb)<;>(try (exfalso;omega)))|(refine XLoad.held hTa rfl (by omega) (by omega) rfl ?_)|fail)));all_goals (try (conv=>whnf)))
     all_goals (try (exfalso;omega))
     all_goals
      refine lgn tO [9] (fun q:Nat=>[(9,.val (.int .i64 q))]) (fun _=>⟨h4,[b6],[(8,b8,.box 28 [.val (.int .i64 0),.val (.int .i64 0)]),(6,b6,.box 28 [.val (.int .i64 0),.val (.int .i64 0)])]⟩) (fun ν q=>q+ν=N.length∧lvs (N.drop q)=(x.2:Int)::nlL ⟨s,T,[]⟩ ((x.2:Int)+1) T.length) ?_
      conv=>whnf
      refine⟨fun h5 hs=>⟨N.length-x.1,x.1,⟨by omega,by rw [hlv,hst]⟩,?_,hs.ren [8,6] ⟨⟨_,rfl,by first|exact SC.rfl|exact SC.box rfl⟩,rfl,⟨_,rfl,by first|exact SC.rfl|exact SC.box rfl⟩,rfl,trivial⟩⟩,?_⟩
      ·(repeat (refine And.intro ⟨_,rfl,by first|rfl|(simp [den,den1,denC];done)⟩ ?_));exact trivial
      rintro ν q hq
      refine hq.elim fun hq1 hq2=>?_
      by_cases hk2:q<N.length
      ·have hpl2:PlainA B:=hPa.sl.plain (by omega)
       have hlk:getI prtR.dflt L (q:Int)=partN ⟨s,T,[]⟩ (getI ndeR.dflt N (q:Int)):=by rw [←hL];exact getI_map _ _ _ _ _ (by omega) (by omega)
       have hkk:(getI prtR.dflt L (q:Int)).kind=(getI ndeR.dflt N (q:Int)).kind:=by rw [hlk];rfl
       have hmem:=getI_mem ndeR.dflt N (q:Int) (by omega) (by omega)
       by_cases hlf:(getI ndeR.dflt N (q:Int)).kind=26∨(getI ndeR.dflt N (q:Int)).kind=27
       ·have e1:=lvs_take hk2 hlf
        rw [hq2] at e1
        have e2:(x.2:Int)=(getI ndeR.dflt N (q:Int)).word:=(List.cons.inj e1).1
        have e3:nlL ⟨s,T,[]⟩ ((x.2:Int)+1) T.length=lvs (N.drop (q+1)):=(List.cons.inj e1).2
        have hwd:(getI prtR.dflt L (q:Int)).word=text8 s (getI tokR.dflt T (x.2:Int)):=by
         rw [hlk,e2]
         exact leaf_word s T _ (by omega) (by omega) hlf (by rw [←e2];exact hnl)
        have hkd:=hleaf _ hmem hlf
        rw [←e2,hkt,←hkk] at hkd
        rw [←hkk] at hlf
        have hiff:((getI prtR.dflt L (q:Int)).kind=26)=((getI tokR.dflt T (x.2:Int)).kind=1):=propext hkd
        ((repeat' ((conv=>whnf);(first|(refine Ar.fit (by omega) ?_)|(refine VC.mk (by omega) ?_)|(refine Br.mk ?_ ?_<;>intro hb<;>(try replace hb:=Classical.not_not.1 hb)<;>(try (first|(exfalso;omega)|contradiction)))|(refine XLoad.held hTa rfl (by omega) (by omega) rfl ?_)|(refine XLoad.held hPa rfl (by omega) (by omega) rfl ?_)|(refine (drawn tO mixed (by kernel_rfl) ?_))|(apply CallQ.pure;(case hh=>(intro h1 hs;exact text8_any s _ h1 htk)))|(refine bb_neq ?_)|fail)));all_goals (try (conv=>whnf)))
        all_goals first
         |(exfalso;omega)
         |exact absurd hwd hb
         | (intro h6 hs
            refine⟨μ-1,(q+1,x.2+1),⟨⟨by dsimp only;omega,by dsimp only;omega⟩,by dsimp only;rw [←e3];rfl⟩,by omega,?_,hs.ren [8,6] ⟨⟨_,rfl,by first|exact SC.rfl|exact SC.box rfl⟩,rfl,⟨_,rfl,by first|exact SC.rfl|exact SC.box rfl⟩,rfl,trivial⟩⟩
            (repeat (refine And.intro ⟨_,rfl,by first|rfl|(simp [den,den1,denC];done)⟩ ?_));exact trivial)
       ·have e1:=lvs_skip hk2 hlf
        rw [←hkk] at hlf
        ((repeat' ((conv=>whnf);(first|(refine Ar.fit (by omega) ?_)|(refine VC.mk (by omega) ?_)|(refine Br.mk ?_ ?_<;>intro hb<;>(try replace hb:=Classical.not_not.1 hb)<;>(try (exfalso;omega)))|(refine XLoad.held hPa rfl (by omega) (by omega) rfl ?_)|fail)));all_goals (try (conv=>whnf)))
        all_goals first
         |(exfalso;omega)
         | (intro h6 hs
            refine⟨ν-1,q+1,⟨by omega,by rw [←e1];exact hq2⟩,by omega,?_,hs.ren [8,6] ⟨⟨_,rfl,by first|exact SC.rfl|exact SC.box rfl⟩,rfl,⟨_,rfl,by first|exact SC.rfl|exact SC.box rfl⟩,rfl,trivial⟩⟩
            (repeat (refine And.intro ⟨_,rfl,by first|rfl|(simp [den,den1,denC];done)⟩ ?_));exact trivial)
      ·rw [lvs_end N q hk2] at hq2
       cases hq2
    ·rw [if_neg hnl] at hst
     have hnl':¬ ((getI tokR.dflt T (x.2:Int)).kind=1∨3≤(getI tokR.dflt T (x.2:Int)).kind∧(getI tokR.dflt T (x.2:Int)).kind≤7):=by
      intro q
      apply hnl
      unfold NL
      rw [hkt]
      exact q
     ((repeat' ((conv=>whnf);(first|(refine Ar.fit (by omega) ?_)|(refine VC.mk (by omega) ?_)|(refine Br.mk ?_ ?_<;>intro hb<;>(try replace hb:=Classical.not_not.1 hb)<;>(try (exfalso;omega)))|(refine XLoad.held hTa rfl (by omega) (by omega) rfl ?_)|fail)));all_goals (try (conv=>whnf)))
     all_goals first
      |(exfalso;omega)
      | (intro h6 hs
         refine⟨μ-1,(x.1,x.2+1),⟨⟨by dsimp only;omega,hk⟩,by dsimp only;rw [hlv,hst];rfl⟩,by omega,?_,hs.ren [8,6] ⟨⟨_,rfl,by first|exact SC.rfl|exact SC.box rfl⟩,rfl,⟨_,rfl,by first|exact SC.rfl|exact SC.box rfl⟩,rfl,trivial⟩⟩
         (repeat (refine And.intro ⟨_,rfl,by first|rfl|(simp [den,den1,denC];done)⟩ ?_));exact trivial)
   ·rw [nlL_end ⟨s,T,[]⟩ (x.2:Int) T.length (by omega)] at hlv
    ((repeat' ((conv=>whnf);(first|(refine Br.mk ?_ ?_<;>intro hb<;>(try replace hb:=Classical.not_not.1 hb)<;>(try (exfalso;omega)))|fail)));all_goals (try (conv=>whnf)))
    all_goals (try (exfalso;omega))
    refine lgn tO [9] (fun q:Nat=>[(9,.val (.int .i64 q))]) (fun _=>⟨h4,[b6],[(8,b8,.box 28 [.val (.int .i64 0),.val (.int .i64 0)]),(6,b6,.box 28 [.val (.int .i64 0),.val (.int .i64 0)])]⟩) (fun ν q=>q+ν=N.length∧lvs (N.drop q)=[]) ?_
    conv=>whnf
    refine⟨fun h5 hs=>⟨N.length-x.1,x.1,⟨by omega,hlv⟩,?_,hs.ren [8,6] ⟨⟨_,rfl,by first|exact SC.rfl|exact SC.box rfl⟩,rfl,⟨_,rfl,by first|exact SC.rfl|exact SC.box rfl⟩,rfl,trivial⟩⟩,?_⟩
    ·(repeat (refine And.intro ⟨_,rfl,by first|rfl|(simp [den,den1,denC];done)⟩ ?_));exact trivial
    rintro ν q hq
    refine hq.elim fun hq1 hq2=>?_
    by_cases hk2:q<N.length
    ·have hpl2:PlainA B:=hPa.sl.plain (by omega)
     have hlk:getI prtR.dflt L (q:Int)=partN ⟨s,T,[]⟩ (getI ndeR.dflt N (q:Int)):=by rw [←hL];exact getI_map _ _ _ _ _ (by omega) (by omega)
     have hkk:(getI prtR.dflt L (q:Int)).kind=(getI ndeR.dflt N (q:Int)).kind:=by rw [hlk];rfl
     by_cases hlf:(getI ndeR.dflt N (q:Int)).kind=26∨(getI ndeR.dflt N (q:Int)).kind=27
     ·rw [lvs_take hk2 hlf] at hq2
      cases hq2
     ·have e1:=lvs_skip hk2 hlf
      rw [←hkk] at hlf
      ((repeat' ((conv=>whnf);(first|(refine Ar.fit (by omega) ?_)|(refine VC.mk (by omega) ?_)|(refine Br.mk ?_ ?_<;>intro hb<;>(try replace hb:=Classical.not_not.1 hb)<;>(try (exfalso;omega)))|(refine XLoad.held hPa rfl (by omega) (by omega) rfl ?_)|fail)));all_goals (try (conv=>whnf)))
      all_goals first
       |(exfalso;omega)
       | (intro h6 hs
          refine⟨ν-1,q+1,⟨by omega,by rw [←e1];exact hq2⟩,by omega,?_,hs.ren [8,6] ⟨⟨_,rfl,by first|exact SC.rfl|exact SC.box rfl⟩,rfl,⟨_,rfl,by first|exact SC.rfl|exact SC.box rfl⟩,rfl,trivial⟩⟩
          (repeat (refine And.intro ⟨_,rfl,by first|rfl|(simp [den,den1,denC];done)⟩ ?_));exact trivial)
    ·((repeat' ((conv=>whnf);(first|(refine Br.mk ?_ ?_<;>intro hb<;>(try replace hb:=Classical.not_not.1 hb)<;>(try (exfalso;omega)))|(apply CK.pure;(case hh=>(intro h1 hs;exact awake_any h1 (ht.later (hl3'.trans hs.lB)))))|fail)));all_goals (try (conv=>whnf)))
     all_goals first
      |exact⟨fun h' hs=>⟨prop_true rfl,hl3'.bas.fin hs⟩⟩
      |exact⟨fun h' hs=>⟨rfl,hl3'.bas.fin hs⟩⟩
      |(exfalso;omega)
end Go.Ex
