/-
  Top: TopFaults, TopLossless: whatever the input, the law answers true (part 52)
-/
import Derived.Test.YtpjdgifhhnjclaaGreatDoorM51
set_option linter.unusedVariables false
set_option linter.unusedSimpArgs false
set_option maxHeartbeats 4000000
set_option maxRecDepth 10000
namespace Go.Ex
open Go.Proofs
def prevE(T:List Tok)(i:Nat):Int:=if i=0 then -1 else (getI tokR.dflt T ((i:Int)-1)).to
theorem prevE_succ(T:List Tok)(i:Nat):prevE T (i+1)=(getI tokR.dflt T (i:Int)).to:=by
 unfold prevE
 rw [if_neg (by omega),show (((i+1:Nat):Int)-1)=(i:Int) by omega]
structure Less(s:ByteArray)(T al:List Tok)(N:List Nde):Prop where
 rl:Rl (-1) T al
 tile:Tile s al 0 s.size
 lex:∀ t∈al,0≤t.frm∧t.frm<t.to∧t.to≤s.size
 tree:Tr.TreeP (N.map cvN) T.length
 tn:(T.length:Int)≤65537
 an:(al.length:Int)≤65536
 nn:N.length≤1000000000
 out:∀ t:Int,0≤t→t<T.length→¬ Tr.InN (N.map cvN) t 0→(getI tokR.dflt T t).kind=9
theorem parF_less{s:ByteArray}{goal:Int}{T:List Tok}{x:Nd}(hO:parF s goal = .inr (T,x)):((allF s).2.1=0∧(allF s).2.2=0)∧Less s T (allF s).1 (flat x):=by
 obtain⟨hne,hTT,hg,m,hm⟩:=parF_in hO
 have hw:=parF_well hO
 have hc:=parF_cnt hO
 have hsem:(semF s).2.1=0∧(semF s).2.2=0∧nestT s=(semF s).1:=by
  obtain⟨h2,h3⟩:=hne
  unfold nestE nestF at h2
  unfold nestT nestF
  split at h2
  ·rename_i c
   rw [if_pos c] at *
   split at h2
   ·rename_i c2
    rw [if_pos c2]
    exact⟨c.1,c.2,rfl⟩
   ·rename_i c2
    exact absurd h2 c2
  ·rename_i c
   unfold nestA nestF at h3
   rw [if_neg c] at h3
   exact absurd ⟨h2,h3⟩ c
 obtain⟨e1,e2,e3⟩:=semF_rl s hsem.1 hsem.2.1
 rw [←hsem.2.2,←hTT] at e3
 have ha:=allF_ok s
 refine⟨⟨e1,e2⟩,e3,allF_tile s e1,ha.1,?_,?_,ha.2.2.1,hc,?_⟩
 ·rw [hTT]
  exact tree_flat (I:=inS s) (Int.le_refl _) hw.wel
 ·rw [hTT]
  exact nestT_len s
 ·intro t h0 h1 h2
  rw [hTT] at h1 ⊢
  refine word_semi hne (hw.rest t ?_ h1)
  cases x with
  |mk k w f t' l=>
   have h3:¬ (f≤t∧t<t'):=h2
   have h4:f=0:=hw.frm
   show t'≤t
   omega
theorem parF_err{s:ByteArray}{goal:Int}{e a:Int}(hO:parF s goal = .inl (e,a)):¬ (e=0∧a=0):=parF_ne hO
attribute [local irreducible] CH parF nestT nestP nestE nestA allF
theorem lossless_any (n:Int) (s:ByteArray) (h:Heap) (hn0:0≤n∧n<256) (ht:TabsH h) (hz:s.size≤140737488355328) :
 CH Tryz.prog 4 #[.int .u8 n,.string s] h fun v h'=>v = .bool true∧Grows h h':=by
 refine enter (rep:=rep) (m:=2) (ex:=0::1::4::5::6::7::8::9::10::11::[12,13,14,15,16,17,18,19,34,44,75,106,111,123,142,170,184,214,220,224,234,244,260,273,319]) (cu:=[]) tO Tryz.func4 rfl (by decide) (rs:=[.tmp 4]) rfl rfl [.val (.int .u8 n),.val (.string s)] rfl ?_
 have cg:=fun h1=>goalT_any n h1 hn0
 obtain⟨goal,hgo⟩:∃ goal,1+n % 4=goal:=⟨_,rfl⟩
 rw [hgo] at cg
 have cp:=fun h1 (ht:TabsH h1)=>parse_any s goal h1 ht hz (fun T x h=>parF_cnt h)
 unfold ParP at cp
 have ca:=fun h1 (ht:TabsH h1)=>all_any s h1 ht hz
 obtain⟨O,hO⟩:∃ O,parF s goal=O:=⟨_,rfl⟩
 rw [hO] at cp
 rcases O with ⟨e,a⟩|⟨T,x⟩
 ·have hne:=parF_err hO
  dsimp only at cp
  ((repeat' ((conv=>whnf);(first|(refine VC.mk (by omega) ?_)|(refine Br.mk ?_ ?_<;>intro hb<;>(try replace hb:=Classical.not_not.1 hb))|(refine New.mk ?_;intro b hb)|(apply CK.pure;(case hh=>(intro h1 hs;exact cg h1)))|(refine CK.anewQ (f:=8) (Q:=fun h u h'=>u = .tuple #[.agg #[.slice none 0 0,.slice none 0 0],.agg #[.int .i64 e,.int .i64 a] ]∧EaOk s goal (e,a)) (fun h hs=>cp h (ht.at hs)) ?_;rintro h1 u h2 hs1 hg1 ⟨rfl,hEa⟩;refine⟨.tup [.agg [.val (.slice none 0 0),.val (.slice none 0 0)],.agg [.val (.int .i64 e),.val (.int .i64 a)] ],rfl,?_⟩;have hl1:Later h [] h2 _:=(hs1.later hg1).lB)|(apply CK.pure;(case hh=>(intro h1 hs;exact noneT_any _ _ h1)))|(apply CK.pure;(case hh=>(intro h1 hs;exact awake_any h1 (ht.later (hl1.trans hs.lB)))))|fail)));all_goals (try (conv=>whnf)))
  all_goals first
   |exact⟨fun h' hs=>⟨prop_true rfl,hl1.bas.fin hs⟩⟩
   |exact⟨fun h' hs=>⟨rfl,hl1.bas.fin hs⟩⟩
   |(exfalso;simp only [decide_eq_true_eq] at *;omega)
 ·obtain⟨hA,hL⟩:=parF_less hO
  dsimp only at cp
  generalize allF s=R at *
  obtain⟨al,e1,e2⟩:=R
  dsimp only at hA hL
  obtain⟨rfl,rfl⟩:=hA
  clear hO hgo
  generalize flat x=N at *
  by_cases hsz:(3000:Int)<s.size
  ·((repeat' ((conv=>whnf);(first|(refine VC.mk (by omega) ?_)|(refine Br.mk ?_ ?_<;>intro hb<;>(try replace hb:=Classical.not_not.1 hb)<;>(try (exfalso;omega)))|(refine New.mk ?_;intro b hb)|(apply CK.pure;(case hh=>(intro h1 hs;exact cg h1)))|(refine CK.anewQ (f:=8) (Q:=fun h u h'=>∃ A n c B m d,u = .tuple #[.agg #[.slice A n c,.slice B m d],.agg #[.int .i64 0,.int .i64 0] ]∧(Held tokR h' [] A n T∧∀ x,0<n→A=some x→h.size≤x.block)∧(Held ndeR h' [] B m N∧∀ x,0<m→B=some x→h.size≤x.block)) (fun h hs=>cp h (ht.at hs)) ?_;rintro h1 u h2 hs1 hg1 ⟨A,n,c,B,m,d,rfl,⟨hT0,hTf⟩,hN0,hNf⟩;refine⟨.tup [.agg [.val (.slice A n c),.val (.slice B m d)],.agg [.val (.int .i64 0),.val (.int .i64 0)] ],rfl,?_⟩;have hl1:Later h [] h2 _:=(hs1.later hg1).lB)|(apply CK.pure;(case hh=>(intro h1 hs;exact noneT_any _ _ h1)))|(apply CK.pure;(case hh=>(intro h1 hs;exact awake_any h1 (ht.later (hl1.trans hs.lB)))))|fail)));all_goals (try (conv=>whnf)))
   all_goals first
    |exact⟨fun h' hs=>⟨prop_true rfl,hl1.bas.fin hs⟩⟩
    |exact⟨fun h' hs=>⟨rfl,hl1.bas.fin hs⟩⟩
    |(exfalso;simp only [decide_eq_true_eq] at *;omega)
  ·((repeat' ((conv=>whnf);(first|(refine VC.mk (by omega) ?_)|(refine Br.mk ?_ ?_<;>intro hb<;>(try replace hb:=Classical.not_not.1 hb)<;>(try (exfalso;omega)))|(refine New.mk ?_;intro b hb)|(apply CK.pure;(case hh=>(intro h1 hs;exact cg h1)))|(refine CK.anewQ (f:=8) (Q:=fun h u h'=>∃ A n c B m d,u = .tuple #[.agg #[.slice A n c,.slice B m d],.agg #[.int .i64 0,.int .i64 0] ]∧(Held tokR h' [] A n T∧∀ x,0<n→A=some x→h.size≤x.block)∧(Held ndeR h' [] B m N∧∀ x,0<m→B=some x→h.size≤x.block)) (fun h hs=>cp h (ht.at hs)) ?_;rintro h1 u h2 hs1 hg1 ⟨A,n,c,B,m,d,rfl,⟨hT0,hTf⟩,hN0,hNf⟩;refine⟨.tup [.agg [.val (.slice A n c),.val (.slice B m d)],.agg [.val (.int .i64 0),.val (.int .i64 0)] ],rfl,?_⟩;have hl1:Later h [] h2 _:=(hs1.later hg1).lB;have hT1:=hT0.freshen hTf hs1;have hN1:=hN0.freshen hNf hs1)|(apply CK.pure;(case hh=>(intro h1 hs;exact noneT_any _ _ h1)))|(refine CK.slf (f:=11) (fun h hs=>ca h (ht.later (hl1.trans hs.lB))) ?_;intro h4 A2 n2 c2 hl3 hA2 hfr;have hl3':=hl1.trans hl3)|fail)));all_goals (try (conv=>whnf)))
   all_goals (try (exfalso;apply hb;simp;done))
   all_goals (try (exfalso;refine absurd (show ¬ (decide ((0:Int)=0∧(0:Int)=0)=true) from ?_) (by simp);assumption))
   rename_i b5 hb5 b6 hb6 hbd hbs
   rename Nat=>b8
   have hTa:Held tokR h4 [b6,b5] A n T:=hT1.later hl3
   have hNa:Held ndeR h4 [b6,b5] B m N:=hN1.later hl3
   have hAa:Held tokR h4 [b6,b5] A2 n2 al:=hA2
   clear hT1 hN1 hA2 hT0 hN0 hTf hNf hfr cp ca cg
   have hTn:=hTa.sl.len_eq
   have hNn:=hNa.sl.len_eq
   have hAn:=hAa.sl.len_eq
   obtain⟨hp0,hp⟩:=tile_pos hL.tile
   refine lgn tO [9,10] (fun i:Nat=>[(9,.val (.string (sub s 0 (posT s al i)))),(10,.val (.int .i64 i))]) (fun _=>⟨h4,[b6,b5],[(8,b8,.box 28 [.val (.int .i64 0),.val (.int .i64 0)]),(6,b6,.box 28 [.val (.int .i64 0),.val (.int .i64 0)]),(5,b5,.box 25 [.val (.slice A n c),.val (.slice B m d)])]⟩) (fun μ i=>i+μ=al.length) ?_
   conv=>whnf
   refine⟨fun h5 hs=>⟨al.length,0,by omega,?_,hs.ren [8,6,5] ⟨⟨_,rfl,SC.box rfl⟩,rfl,⟨_,rfl,SC.box rfl⟩,rfl,⟨_,rfl,SC.box rfl⟩,rfl,trivial⟩⟩,?_⟩
   ·refine And.intro ⟨_,rfl,by rw [hp0,sub_zero]⟩ ?_
    (repeat (refine And.intro ⟨_,rfl,by first|rfl|(simp [den,den1,denC];done)⟩ ?_));exact trivial
   rintro μ i hi0
   dsimp only at hi0 ⊢
   have hpl:0<n2→PlainA A2:=hAa.sl.plain
   have ham:=hL.an
   by_cases hi:i<al.length
   ·have hx:=hp i hi
    refine hx.elim fun hx1 hx2=>?_
    have hlx:=hL.lex _ (getI_mem tokR.dflt al (i:Int) (by omega) (by omega))
    have hpl2:=hpl (by omega)
    refine (show ∃ f,μ=f+1 from ⟨μ-1,by omega⟩).elim fun f hf=>?_
    ((repeat' ((conv=>whnf);(first|(refine dW (id:=9) tO mixed (.pull 0 [2,3,4,5,6,7,8,9,10,11,12,13,14,15,16,17,18,19,20,21,22,23,24,25,26,27,28] (.pull 1 [2,3,4,5,6,7,8,9,10,11,12,13,14,15,16,17,18,19,20,21,22,23,24,25,26,27,28] (.pull 2 [3,4,5,6,7,8,9,10,11,12,13,14,15,16,17,18,19,20,21,22,23,24,25,26,27,28] (.pull 3 [4,5,6,7,8,9,10,11,12,13,14,15,16,17,18,19,20,21,22,23,24,25,26,27,28] (.pull 4 [5,6,7,8,9,10,11,12,13,14,15,16,17,18,19,20,21,22,23,24,25,26,27,28] (.pull 5 [6,7,8,9,10,11,12,13,14,15,16,17,18,19,20,21,22,23,24,25,26,27,28] (.pull 6 [7,8,9,10,11,12,13,14,15,16,17,18,19,20,21,22,23,24,25,26,27,28] (.pull 7 [9,10,11,14,15,16,17,18,19,20,21,22,23,24,25,26,27,28] (.pull 8 [9,10,11,14,15,16,17,18,19,20,21,22,23,24,25,26,27,28] (.pull 9 [10,11,14,15,16,17,18,19,20,21,22,23,24,25,26,27,28] (.pull 10 [11,14,15,16,17,18,19,20,21,22,23,24,25,26,27,28] (.pull 12 [13,14,15,16,17,18,19,20,21,22,23,24,25,26,27,28] (.pull 13 [14,15,16,17,18,19,20,21,22,23,24,25,26,27,28] (.pull 11 [14,15,16,17,18,19,20,21,22,23,24,25,26,27,28] (.pull 14 [15,16,17,18,19,20,21,22,23,24,25,26,27,28] (.pull 15 [16,17,18,19,20,21,22,23,24,25,26,27,28] (.pull 16 [17,18,19,20,21,22,23,24,25,26,27,28] (.pull 17 [19,20,21,27,28] (.pull 18 [19,20,21,27,28] (.pull 19 [20,21,27,28] (.pull 20 [21,27,28] (.pull 22 [24,25,26,27,28] (.pull 23 [24,25,26,27,28] (.pull 24 [25,26,27,28] (.pull 25 [26,27,28] (.pull 21 [27,28] (.pull 26 [27,28] (.pull 27 [28] (.pull 28 [] .done))))))))))))))))))))))))))))) (by kernel_rfl) (by kernel_rfl) ?_)|(refine dW (id:=11) tO mixed (.pull 0 [13,14] (.pull 1 [12,13,14] (.pull 2 [4,5,6,12,13,14] (.pull 3 [4,5,6,12,13,14] (.pull 4 [5,6,12,13,14] (.pull 5 [6,12,13,14] (.pull 7 [9,10,11,12,13,14] (.pull 8 [9,10,11,12,13,14] (.pull 9 [10,11,12,13,14] (.pull 10 [11,12,13,14] (.pull 6 [12,13,14] (.pull 11 [12,13,14] (.pull 12 [13,14] (.pull 13 [14] (.pull 14 [] .done))))))))))))))) (by kernel_rfl) (by kernel_rfl) ?_)|(refine Ar.fit (by omega) ?_)|(refine VC.mk (by (first|omega|(and_intros<;>first|(simp only [ByteArray.size_extract,ByteArray.size_append];omega)))) ?_)|(refine Br.mk ?_ ?_<;>intro hb<;>(try replace hb:=Classical.not_not.1 hb)<;>(try (exfalso;omega)))|(refine XLoad.held hAa rfl (by omega) (by omega) rfl ?_)|fail)));all_goals (try (conv=>whnf)))
    all_goals first
     |(exfalso;omega)
     | (intro h6 hs
        refine⟨f,i+1,by omega,by omega,?_,hs.ren [8,6,5] ⟨⟨_,rfl,SC.rfl⟩,rfl,⟨_,rfl,SC.rfl⟩,rfl,⟨_,rfl,SC.rfl⟩,rfl,trivial⟩⟩
        refine And.intro ⟨_,rfl,by rw [←hx2,←hx1];exact congrArg Value.string (sub_app s _ _ (by omega) (by omega) (by omega))⟩ ?_
        (repeat (refine And.intro ⟨_,rfl,by first|rfl|(simp [den,den1,denC];done)⟩ ?_));exact trivial)
   ·have hie:i=al.length:=by omega
    have e0:sub s 0 (posT s al i)=s:=by rw [hie];unfold posT;rw [if_neg (Nat.lt_irrefl _)];exact sub_all s
    have hnn:=hL.nn
    have htn:=hL.tn
    have ck:∀ h1,Sl Tr.ndR h1 B m (N.map cvN)→CH Tryz.prog 14 #[.slice B m d,.int .i64 n] h1 fun v h'=>v = .int .i64 0∧Grows h1 h':=fun h1 hs1=>(Tr.check_any B m d (N.map cvN) n h1 hs1 (by omega)).mono fun v h' ⟨q1,q2⟩=>⟨by
     rw [q1,Tr.checkV,if_neg (by omega),if_pos (by rw [←hTn];exact hL.tree)],q2⟩
    ((repeat' ((conv=>whnf);(first|(refine VC.mk (by omega) ?_)|(refine Br.mk ?_ ?_<;>intro hb<;>(try replace hb:=Classical.not_not.1 hb)<;>(try (first|(exfalso;omega)|contradiction)))|(apply CK.pure;(case hh=>(intro h1 hs;exact noneT_any _ _ h1)))|(apply CK.pure;(case hh=>(intro h1 hs;exact ck h1 (hNa.at_ hs).cv)))|fail)));all_goals (try (conv=>whnf)))
    all_goals (try (exfalso;apply hb;simp;done))
    all_goals (try (exact absurd e0 hb))
    refine lgn tO [11,12] (fun x:Nat×Nat=>[(11,.val (.int .i64 x.1)),(12,.val (.int .i64 x.2))]) (fun _=>⟨h4,[b6,b5],[(8,b8,.box 28 [.val (.int .i64 0),.val (.int .i64 0)]),(6,b6,.box 28 [.val (.int .i64 0),.val (.int .i64 0)]),(5,b5,.box 25 [.val (.slice A n c),.val (.slice B m d)])]⟩) (fun μ x=>(x.2+μ=T.length∧x.1≤al.length)∧Rl (prevE T x.2) (T.drop x.2) (al.drop x.1)) ?_
    conv=>whnf
    refine⟨fun h5 hs=>⟨T.length,(0,0),⟨⟨by dsimp only;omega,Nat.zero_le _⟩,hL.rl⟩,?_,hs.ren [8,6,5] ⟨⟨_,rfl,SC.rfl⟩,rfl,⟨_,rfl,SC.rfl⟩,rfl,⟨_,rfl,SC.rfl⟩,rfl,trivial⟩⟩,?_⟩
    ·(repeat (refine And.intro ⟨_,rfl,by first|rfl|(simp [den,den1,denC];done)⟩ ?_));exact trivial
    rintro μ2 x2 hφ
    refine hφ.elim fun hφ0 hrl=>hφ0.elim fun hi2 hk2=>?_
    by_cases hii:x2.2<T.length
    ·have hr:Rl (prevE T x2.2) (getI tokR.dflt T (x2.2:Int)::T.drop (x2.2+1)) (al.drop x2.1):=by rw [←drop_cons T x2.2 hii];exact hrl
     have hplT:PlainA A:=hTa.sl.plain (by omega)
     by_cases hx:(getI tokR.dflt T (x2.2:Int)).frm=(getI tokR.dflt T (x2.2:Int)).to
     ·have hal:∀ t∈al.drop x2.1,t.frm<t.to:=fun t ht=>(hL.lex t (List.mem_of_mem_drop ht)).2.1
      have hq:=hr.semi_inv hal hx
      refine hq.elim fun q1 hq=>hq.elim fun q2 q3=>?_
      have qk:(getI tokR.dflt T (x2.2:Int)).kind=9:=by rw [q1]
      have qf:(getI tokR.dflt T (x2.2:Int)).frm=prevE T x2.2:=by rw [q1]
      have qi:1≤x2.2:=by
       rcases Nat.eq_zero_or_pos x2.2 with e|e
       ·have e2:prevE T 0 = -1:=rfl
        rw [e] at q2;omega
       ·exact e
      have qp:(getI tokR.dflt T ((x2.2:Int)-1)).to=prevE T x2.2:=by unfold prevE;rw [if_neg (by omega)]
      ((repeat' ((conv=>whnf);(first|(refine dW (id:=20) tO mixed (.pull 0 [1,2,3,4,5,6,7,8,9,10,11,12,13,14,15,16,17,18] (.pull 1 [2,3,4,5,6,7,8,9,10,11,12,13,14,15,16,17,18] (.pull 2 [3,4,5,6,7,8,9,10,11,12,13,14,15,16,17,18] (.pull 3 [4,5,6,7,8,9,10,11,12,13,14,15,16,17,18] (.pull 4 [5,6,7,8,9,10,11,12,13,14,15,16,17,18] (.pull 5 [6,7,8,9,10,11,12,13,14,15,16,17,18] (.pull 6 [7,8,9,10,11,12,13,14,15,16,17,18] (.pull 7 [8,9,10,11,12,13,14,15,16,17,18] (.pull 8 [9,12,13,14,17,18] (.pull 10 [11,12,13,14,17,18] (.pull 11 [12,13,14,17,18] (.pull 15 [16,17,18] (.pull 9 [12,13,14,17,18] (.pull 12 [13,14,17,18] (.pull 13 [14,17,18] (.pull 14 [17,18] (.pull 16 [17,18] (.pull 17 [18] (.pull 18 [] .done))))))))))))))))))) (by kernel_rfl) (by kernel_rfl) ?_)|(refine Ar.fit (by omega) ?_)|(refine VC.mk (by omega) ?_)|(refine Br.mk ?_ ?_<;>intro hb<;>(try replace hb:=Classical.not_not.1 hb)<;>(try (exfalso;omega)))|(refine New.mk ?_;intro b hb)|(refine XLoad.held hTa rfl (by omega) (by omega) rfl ?_)|fail)));all_goals (try (conv=>whnf)))
      all_goals first
       |(exfalso;omega)
       | (intro h6 hs
          refine⟨μ2-1,(x2.1,x2.2+1),⟨⟨by dsimp only;omega,hk2⟩,by dsimp only;rw [prevE_succ,q1];exact q3⟩,by omega,?_,hs.ren [8,6,5] ⟨⟨_,rfl,SC.rfl⟩,rfl,⟨_,rfl,SC.rfl⟩,rfl,⟨_,rfl,SC.rfl⟩,rfl,trivial⟩⟩
          (repeat (refine And.intro ⟨_,rfl,by first|rfl|(simp [den,den1,denC];done)⟩ ?_));exact trivial)
     ·((repeat' ((conv=>whnf);(first|(refine VC.mk (by omega) ?_)|(refine Br.mk ?_ ?_<;>intro hb<;>(try replace hb:=Classical.not_not.1 hb)<;>(try (exfalso;omega)))|(refine New.mk ?_;intro b hb)|(refine XLoad.held hTa rfl (by omega) (by omega) rfl ?_)|fail)));all_goals (try (conv=>whnf)))
      all_goals (try (exfalso;omega))
      refine lgn tO [11] (fun q:Nat=>[(11,.val (.int .i64 q))]) (fun _=>⟨h4,[b6,b5],[(13,b,.box 40 [.val (.int .u8 (getI tokR.dflt T (x2.2:Int)).kind),.val (.int .i64 (getI tokR.dflt T (x2.2:Int)).frm),.val (.int .i64 (getI tokR.dflt T (x2.2:Int)).to)]),(8,b8,.box 28 [.val (.int .i64 0),.val (.int .i64 0)]),(6,b6,.box 28 [.val (.int .i64 0),.val (.int .i64 0)]),(5,b5,.box 25 [.val (.slice A n c),.val (.slice B m d)])]⟩) (fun ν q=>q+ν=al.length∧Rl (prevE T x2.2) (getI tokR.dflt T (x2.2:Int)::T.drop (x2.2+1)) (al.drop q)) ?_
      conv=>whnf
      refine⟨fun h5 hs=>⟨al.length-x2.1,x2.1,⟨by omega,hr⟩,?_,hs.ren [13,8,6,5] ⟨⟨_,rfl,by first|exact SC.rfl|exact SC.box rfl⟩,rfl,⟨_,rfl,by first|exact SC.rfl|exact SC.box rfl⟩,rfl,⟨_,rfl,by first|exact SC.rfl|exact SC.box rfl⟩,rfl,⟨_,rfl,by first|exact SC.rfl|exact SC.box rfl⟩,rfl,trivial⟩⟩,?_⟩
      ·(repeat (refine And.intro ⟨_,rfl,by first|rfl|(simp [den,den1,denC];done)⟩ ?_));exact trivial
      rintro ν q hq
      refine hq.elim fun hq1 hq2=>?_
      by_cases hk:q<al.length
      ·have hr2:Rl (prevE T x2.2) (getI tokR.dflt T (x2.2:Int)::T.drop (x2.2+1)) (getI tokR.dflt al (q:Int)::al.drop (q+1)):=by rw [←drop_cons al q hk];exact hq2
       have hplA:PlainA A2:=hpl (by omega)
       by_cases hs:SilP (getI tokR.dflt al (q:Int)).kind
       ·have hs':(getI tokR.dflt al (q:Int)).kind=10∨(getI tokR.dflt al (q:Int)).kind=11∨(getI tokR.dflt al (q:Int)).kind=12:=hs
        have hr3:=hr2.sil_inv hx hs
        ((repeat' ((conv=>whnf);(first|(refine Ar.fit (by omega) ?_)|(refine VC.mk (by omega) ?_)|(refine Br.mk ?_ ?_<;>intro hb<;>(try replace hb:=Classical.not_not.1 hb)<;>(try (exfalso;omega)))|(refine XLoad.held hAa rfl (by omega) (by omega) rfl ?_)|fail)));all_goals (try (conv=>whnf)))
        all_goals first
         |(exfalso;omega)
         | (intro h6 hs
            refine⟨ν-1,q+1,⟨by omega,hr3⟩,by omega,?_,hs.ren [13,8,6,5] ⟨⟨_,rfl,SC.rfl⟩,rfl,⟨_,rfl,SC.rfl⟩,rfl,⟨_,rfl,SC.rfl⟩,rfl,⟨_,rfl,SC.rfl⟩,rfl,trivial⟩⟩
            (repeat (refine And.intro ⟨_,rfl,by first|rfl|(simp [den,den1,denC];done)⟩ ?_));exact trivial)
       ·have hs':¬ ((getI tokR.dflt al (q:Int)).kind=10∨(getI tokR.dflt al (q:Int)).kind=11∨(getI tokR.dflt al (q:Int)).kind=12):=hs
        have hr3:=hr2.tok_inv hx hs
        refine hr3.elim fun hr4 hr5=>?_
        have hq4:(getI tokR.dflt al (q:Int)).kind=(getI tokR.dflt T (x2.2:Int)).kind∧(getI tokR.dflt al (q:Int)).frm=(getI tokR.dflt T (x2.2:Int)).frm∧(getI tokR.dflt al (q:Int)).to=(getI tokR.dflt T (x2.2:Int)).to:=by rw [hr4];exact⟨rfl,rfl,rfl⟩
        ((repeat' ((conv=>whnf);(first|(refine dW (id:=24) tO mixed (.pull 0 [3,4,5,6,7,8,9,10,11] (.pull 1 [2,3,4,5,6,7,8,9,10,11] (.pull 2 [3,4,5,6,7,8,9,10,11] (.pull 3 [4,5,6,7,8,9,10,11] (.pull 4 [5,6,7,8,9,10,11] (.pull 5 [7,8,10,11] (.pull 6 [7,8,10,11] (.pull 7 [8,10,11] (.pull 8 [10,11] (.pull 9 [10,11] (.pull 10 [11] (.pull 11 [] .done)))))))))))) (by kernel_rfl) (by kernel_rfl) ?_)|(refine Ar.fit (by omega) ?_)|(refine VC.mk (by omega) ?_)|(refine Br.mk ?_ ?_<;>intro hb<;>(try replace hb:=Classical.not_not.1 hb)<;>(try (exfalso;omega)))|(refine XLoad.held hAa rfl (by omega) (by omega) rfl ?_)|(refine tk_neq ?_)|fail)));all_goals (try (conv=>whnf)))
        all_goals first
         |(exfalso;omega)
         |(exact absurd hq4 hb)
         | (intro h6 hs
            refine⟨μ2-1,(q+1,x2.2+1),⟨⟨by dsimp only;omega,by dsimp only;omega⟩,by dsimp only;rw [prevE_succ];exact hr5⟩,by omega,?_,hs.ren [8,6,5] ⟨⟨_,rfl,SC.rfl⟩,rfl,⟨_,rfl,SC.rfl⟩,rfl,⟨_,rfl,SC.rfl⟩,rfl,trivial⟩⟩
            (repeat (refine And.intro ⟨_,rfl,by first|rfl|(simp [den,den1,denC];done)⟩ ?_));exact trivial)
      ·have hd:al.drop q=[]:=List.drop_eq_nil_of_le (by omega)
       rw [hd] at hq2
       exact (hq2.not_nil hx).elim
    ·rw [List.drop_eq_nil_of_le (show T.length≤x2.2 by omega)] at hrl
     by_cases h60:(60:Int)<m
     ·((repeat' ((conv=>whnf);(first|(refine VC.mk (by omega) ?_)|(refine Br.mk ?_ ?_<;>intro hb<;>(try (exfalso;omega)))|fail)));all_goals (try (conv=>whnf)))
      refine lgn tO [11] (fun q:Nat=>[(11,.val (.int .i64 q))]) (fun _=>⟨h4,[b6,b5],[(8,b8,.box 28 [.val (.int .i64 0),.val (.int .i64 0)]),(6,b6,.box 28 [.val (.int .i64 0),.val (.int .i64 0)]),(5,b5,.box 25 [.val (.slice A n c),.val (.slice B m d)])]⟩) (fun ν q=>q+ν=al.length∧Rl (prevE T x2.2) [] (al.drop q)) ?_
      conv=>whnf
      refine⟨fun h5 hs=>⟨al.length-x2.1,x2.1,⟨by omega,hrl⟩,?_,hs.ren [8,6,5] ⟨⟨_,rfl,by first|exact SC.rfl|exact SC.box rfl⟩,rfl,⟨_,rfl,by first|exact SC.rfl|exact SC.box rfl⟩,rfl,⟨_,rfl,by first|exact SC.rfl|exact SC.box rfl⟩,rfl,trivial⟩⟩,?_⟩
      ·(repeat (refine And.intro ⟨_,rfl,by first|rfl|(simp [den,den1,denC];done)⟩ ?_));exact trivial
      rintro ν q hq
      refine hq.elim fun hq1 hq2=>?_
      by_cases hk:q<al.length
      ·have hr2:Rl (prevE T x2.2) [] (getI tokR.dflt al (q:Int)::al.drop (q+1)):=by rw [←drop_cons al q hk];exact hq2
       have hplA:PlainA A2:=hpl (by omega)
       have hr3:=hr2.end_inv
       refine hr3.elim fun hs hr4=>?_
       have hs':(getI tokR.dflt al (q:Int)).kind=10∨(getI tokR.dflt al (q:Int)).kind=11∨(getI tokR.dflt al (q:Int)).kind=12:=hs
       ((repeat' ((conv=>whnf);(first|(refine Ar.fit (by omega) ?_)|(refine VC.mk (by omega) ?_)|(refine Br.mk ?_ ?_<;>intro hb<;>(try replace hb:=Classical.not_not.1 hb)<;>(try (exfalso;omega)))|(refine XLoad.held hAa rfl (by omega) (by omega) rfl ?_)|fail)));all_goals (try (conv=>whnf)))
       all_goals first
        |(exfalso;omega)
        | (intro h6 hs
           refine⟨ν-1,q+1,⟨by omega,hr4⟩,by omega,?_,hs.ren [8,6,5] ⟨⟨_,rfl,SC.rfl⟩,rfl,⟨_,rfl,SC.rfl⟩,rfl,⟨_,rfl,SC.rfl⟩,rfl,trivial⟩⟩
           (repeat (refine And.intro ⟨_,rfl,by first|rfl|(simp [den,den1,denC];done)⟩ ?_));exact trivial)
      ·((repeat' ((conv=>whnf);(first|(refine VC.mk (by omega) ?_)|(refine Br.mk ?_ ?_<;>intro hb<;>(try replace hb:=Classical.not_not.1 hb)<;>(try (exfalso;omega)))|(apply CK.pure;(case hh=>(intro h1 hs;exact awake_any h1 (ht.later (hl3'.trans hs.lB)))))|fail)));all_goals (try (conv=>whnf)))
       all_goals first
        |exact⟨fun h' hs=>⟨prop_true rfl,hl3'.bas.fin hs⟩⟩
        |exact⟨fun h' hs=>⟨rfl,hl3'.bas.fin hs⟩⟩
        |(exfalso;omega)
     ·((repeat' ((conv=>whnf);(first|(refine VC.mk (by omega) ?_)|(refine Br.mk ?_ ?_<;>intro hb<;>(try (exfalso;omega)))|fail)));all_goals (try (conv=>whnf)))
      refine lgn tO [11] (fun q:Nat=>[(11,.val (.int .i64 q))]) (fun _=>⟨h4,[b6,b5],[(8,b8,.box 28 [.val (.int .i64 0),.val (.int .i64 0)]),(6,b6,.box 28 [.val (.int .i64 0),.val (.int .i64 0)]),(5,b5,.box 25 [.val (.slice A n c),.val (.slice B m d)])]⟩) (fun ν q=>q+ν=al.length∧Rl (prevE T x2.2) [] (al.drop q)) ?_
      conv=>whnf
      refine⟨fun h5 hs=>⟨al.length-x2.1,x2.1,⟨by omega,hrl⟩,?_,hs.ren [8,6,5] ⟨⟨_,rfl,by first|exact SC.rfl|exact SC.box rfl⟩,rfl,⟨_,rfl,by first|exact SC.rfl|exact SC.box rfl⟩,rfl,⟨_,rfl,by first|exact SC.rfl|exact SC.box rfl⟩,rfl,trivial⟩⟩,?_⟩
      ·(repeat (refine And.intro ⟨_,rfl,by first|rfl|(simp [den,den1,denC];done)⟩ ?_));exact trivial
      rintro ν q hq
      refine hq.elim fun hq1 hq2=>?_
      by_cases hk:q<al.length
      ·have hr2:Rl (prevE T x2.2) [] (getI tokR.dflt al (q:Int)::al.drop (q+1)):=by rw [←drop_cons al q hk];exact hq2
       have hplA:PlainA A2:=hpl (by omega)
       have hr3:=hr2.end_inv
       refine hr3.elim fun hs hr4=>?_
       have hs':(getI tokR.dflt al (q:Int)).kind=10∨(getI tokR.dflt al (q:Int)).kind=11∨(getI tokR.dflt al (q:Int)).kind=12:=hs
       ((repeat' ((conv=>whnf);(first|(refine Ar.fit (by omega) ?_)|(refine VC.mk (by omega) ?_)|(refine Br.mk ?_ ?_<;>intro hb<;>(try replace hb:=Classical.not_not.1 hb)<;>(try (exfalso;omega)))|(refine XLoad.held hAa rfl (by omega) (by omega) rfl ?_)|fail)));all_goals (try (conv=>whnf)))
       all_goals first
        |(exfalso;omega)
        | (intro h6 hs
           refine⟨ν-1,q+1,⟨by omega,hr4⟩,by omega,?_,hs.ren [8,6,5] ⟨⟨_,rfl,SC.rfl⟩,rfl,⟨_,rfl,SC.rfl⟩,rfl,⟨_,rfl,SC.rfl⟩,rfl,trivial⟩⟩
           (repeat (refine And.intro ⟨_,rfl,by first|rfl|(simp [den,den1,denC];done)⟩ ?_));exact trivial)
      ·have htree:=hL.tree
       have hno:0<m:=by
        have:=htree.1
        rw [List.length_map] at this
        omega
       have hlm:(N.map cvN).length=m:=by rw [List.length_map];exact hNn
       have hbm:m*40≤140737488355328:=by omega
       ((repeat' ((conv=>whnf);(first|(refine VC.mk (by (first|omega|(and_intros<;>first|omega|rfl|(simp only [maxLen];omega)))) ?_)|(refine Br.mk ?_ ?_<;>intro hb<;>(try (exfalso;omega)))|(refine New.mk ?_;intro b hb)|fail)));all_goals (try (conv=>whnf)))
       all_goals (try (exfalso;omega))
       rename Nat=>bt
       refine lgn tO [15] (fun x:Nat×List Int=>[(15,.val (.int .i64 x.1))]) (fun x=>⟨h4,[b6,b5],[(229,bt,.arr 3 (intR .i64) x.2 n),(8,b8,.box 28 [.val (.int .i64 0),.val (.int .i64 0)]),(6,b6,.box 28 [.val (.int .i64 0),.val (.int .i64 0)]),(5,b5,.box 25 [.val (.slice A n c),.val (.slice B m d)])]⟩) (fun ν x=>(x.1+ν=m∧x.2.length=n)∧∀ t:Nat,t<n→getI 0 x.2 (t:Int)=occ (N.map cvN) t x.1) ?_
       conv=>whnf
       refine⟨fun h5 hs=>⟨m,(0,List.replicate n 0),⟨⟨by dsimp only;omega,by simp⟩,fun t ht=>getI_rep n 0 0 t (by omega) (by omega)⟩,?_,hs.ren [229,8,6,5] ⟨⟨_,rfl,SC.rfl⟩,rfl,⟨_,rfl,SC.rfl⟩,rfl,⟨_,rfl,SC.rfl⟩,rfl,⟨_,rfl,SC.rfl⟩,rfl,trivial⟩⟩,?_⟩
       ·(repeat (refine And.intro ⟨_,rfl,by first|rfl|(simp [den,den1,denC];done)⟩ ?_));exact trivial
       rintro ξ y hy
       refine hy.elim fun hy1 hy2=>hy1.elim fun hy3 hy4=>?_
       by_cases hym:y.1<m
       ·have hK1:∀ t∈Tr.ownV (N.map cvN) (y.1:Int),0≤t∧t<(n:Int):=fun t ht=>by
         have:=own_lt_n htree (by omega) (by omega) (by omega) ht
         omega
        have hK2:=own_nodup (i:=(y.1:Int)) htree (by omega) (by omega) (by omega)
        have hKl:(Tr.ownV (N.map cvN) (y.1:Int)).length≤131072:=Tr.Has.own_len ⟨TreeP_up htree (by omega),by omega,by omega⟩
        have hK3:∀ t:Nat,occ (N.map cvN) (t:Int) (y.1+1)=occ (N.map cvN) (t:Int) y.1+if (t:Int)∈Tr.ownV (N.map cvN) (y.1:Int) then 1 else 0:=fun t=>rfl
        have ck2:∀ h1,Sl Tr.ndR h1 B m (N.map cvN)→CH Tryz.prog 15 #[.slice B m d,.int .i64 (y.1:Int)] h1 fun v h'=>OwnSl (intR .i64) 3 h1 h' v (Tr.ownV (N.map cvN) (y.1:Int))∧Grows h1 h':=fun h1 hs1=>Tr.own_any B m d (N.map cvN) (y.1:Int) h1 hs1 hbm
        generalize Tr.ownV (N.map cvN) (y.1:Int)=Ko at hK1 hK2 hK3 hKl ck2
        ((repeat' ((conv=>whnf);(first|(refine VC.mk (by omega) ?_)|(refine Br.mk ?_ ?_<;>intro hb<;>(try (exfalso;omega)))|fail)));all_goals (try (conv=>whnf)))
        refine CK.fresh (R:=intR .i64) (T:=3) (L:=Ko) 240 (fun v=>v) (fun kv=>kv) rfl (fun _ _ _=>rfl) (fun h1 hs=>(ck2 h1 (hNa.at_ hs).cv).mono fun v h' ⟨a,b⟩=>⟨v,rfl,a,b⟩) (fun e=>?_) (fun bk ck hbk hck=>?_)
        ·(try (conv=>whnf))
         all_goals (try (exfalso;omega))
         refine lgn tO [17] (fun j:Nat=>[(17,.val (.int .i64 j))]) (fun _=>⟨h4,[b6,b5],[(229,bt,.arr 3 (intR .i64) y.2 n),(8,b8,.box 28 [.val (.int .i64 0),.val (.int .i64 0)]),(6,b6,.box 28 [.val (.int .i64 0),.val (.int .i64 0)]),(5,b5,.box 25 [.val (.slice A n c),.val (.slice B m d)])]⟩) (fun ν j=>j=0) ?_
         conv=>whnf
         refine⟨fun h5 hs=>⟨0,0,rfl,?_,hs.ren [229,8,6,5] ⟨⟨_,rfl,SC.rfl⟩,rfl,⟨_,rfl,SC.rfl⟩,rfl,⟨_,rfl,SC.rfl⟩,rfl,⟨_,rfl,SC.rfl⟩,rfl,trivial⟩⟩,?_⟩
         ·(repeat (refine And.intro ⟨_,rfl,by first|rfl|(simp [den,den1,denC];done)⟩ ?_));exact trivial
         rintro ν j hj
         ((repeat' ((conv=>whnf);(first|(refine Ar.fit (by omega) ?_)|(refine Br.mk ?_ ?_<;>intro hb<;>(try (exfalso;omega)))|fail)));all_goals (try (conv=>whnf)))
         all_goals first
          |(exfalso;omega)
          | (intro h6 hs
             refine⟨ξ-1,(y.1+1,y.2),⟨⟨by dsimp only;omega,hy4⟩,fun t ht=>by dsimp only;rw [hK3,hy2 t ht,e];simp⟩,by omega,?_,hs.ren [229,8,6,5] ⟨⟨_,rfl,SC.rfl⟩,rfl,⟨_,rfl,SC.rfl⟩,rfl,⟨_,rfl,SC.rfl⟩,rfl,⟨_,rfl,SC.rfl⟩,rfl,trivial⟩⟩
             (repeat (refine And.intro ⟨_,rfl,by first|rfl|(simp [den,den1,denC];done)⟩ ?_));exact trivial)
        ·(try (conv=>whnf))
         all_goals (try (exfalso;omega))
         refine lgn tO [17] (fun z:Nat×List Int=>[(17,.val (.int .i64 z.1))]) (fun z=>⟨h4,[b6,b5],[(240,bk,.arr 3 (intR .i64) Ko ck),(229,bt,.arr 3 (intR .i64) z.2 n),(8,b8,.box 28 [.val (.int .i64 0),.val (.int .i64 0)]),(6,b6,.box 28 [.val (.int .i64 0),.val (.int .i64 0)]),(5,b5,.box 25 [.val (.slice A n c),.val (.slice B m d)])]⟩) (fun ν z=>(z.1+ν=Ko.length∧z.2.length=n)∧∀ t:Nat,t<n→getI 0 z.2 (t:Int)=occ (N.map cvN) t y.1+if (t:Int)∈Ko.take z.1 then 1 else 0) ?_
         conv=>whnf
         refine⟨fun h5 hs=>⟨Ko.length,(0,y.2),⟨⟨by dsimp only;omega,hy4⟩,fun t ht=>by dsimp only;rw [hy2 t ht];simp⟩,?_,hs.ren [240,229,8,6,5] ⟨⟨_,rfl,SC.rfl⟩,rfl,⟨_,rfl,SC.rfl⟩,rfl,⟨_,rfl,SC.rfl⟩,rfl,⟨_,rfl,SC.rfl⟩,rfl,⟨_,rfl,SC.rfl⟩,rfl,trivial⟩⟩,?_⟩
         ·(repeat (refine And.intro ⟨_,rfl,by first|rfl|(simp [den,den1,denC];done)⟩ ?_));exact trivial
         rintro ν z hz0
         refine hz0.elim fun hz1 hz2=>hz1.elim fun hz3 hz4=>?_
         by_cases hzk:z.1<Ko.length
         ·have hkr:=hK1 _ (getI_mem 0 Ko (z.1:Int) (by omega) (by omega))
          have hz5:getI (intR .i64).dflt Ko (z.1:Int)=getI 0 Ko (z.1:Int):=rfl
          have hz6:=hz2 (getI 0 Ko (z.1:Int)).toNat (by omega)
          rw [Int.toNat_of_nonneg hkr.1] at hz6
          have hz7:getI (intR .i64).dflt z.2 (getI 0 Ko (z.1:Int))=getI 0 z.2 (getI 0 Ko (z.1:Int)):=rfl
          have hz8:=occ_rng (N.map cvN) (getI 0 Ko (z.1:Int)) y.1
          have hz9:(if (getI 0 Ko (z.1:Int))∈Ko.take z.1 then (1:Int) else 0)≤1∧0≤(if (getI 0 Ko (z.1:Int))∈Ko.take z.1 then (1:Int) else 0):=by split<;>omega
          have hkr':0≤getI (intR .i64).dflt Ko (z.1:Int)∧getI (intR .i64).dflt Ko (z.1:Int)<n:=hkr
          have hzb:0≤getI (intR .i64).dflt z.2 (getI (intR .i64).dflt Ko (z.1:Int))∧getI (intR .i64).dflt z.2 (getI (intR .i64).dflt Ko (z.1:Int))≤1000000001:=by
           show 0≤getI 0 z.2 (getI 0 Ko (z.1:Int))∧getI 0 z.2 (getI 0 Ko (z.1:Int))≤1000000001
           omega
          ((repeat' ((conv=>whnf);(first|(refine Ar.fit (by omega) ?_)|(refine VC.mk (by (first|omega|(and_intros<;>first|omega|rfl))) ?_)|(refine Br.mk ?_ ?_<;>intro hb<;>(try (exfalso;omega)))|fail)));all_goals (try (conv=>whnf)))
          all_goals first
           |(exfalso;omega)
           | (intro h6 hs
              refine⟨ν-1,(z.1+1,z.2.set (getI 0 Ko (z.1:Int)).toNat (getI 0 z.2 (getI 0 Ko (z.1:Int))+1)),⟨⟨by dsimp only;omega,by dsimp only;rw [List.length_set];exact hz4⟩,by dsimp only;exact count_one (g:=fun t=>occ (N.map cvN) t y.1) hz4 hzk hK1 hK2 hz2⟩,by omega,?_,hs.ren [240,229,8,6,5] ⟨⟨_,rfl,SC.rfl⟩,rfl,⟨_,rfl,SC.rfl⟩,rfl,⟨_,rfl,SC.rfl⟩,rfl,⟨_,rfl,SC.rfl⟩,rfl,⟨_,rfl,SC.rfl⟩,rfl,trivial⟩⟩
              (repeat (refine And.intro ⟨_,rfl,by first|rfl|(simp [den,den1,denC];done)⟩ ?_));exact trivial)
         ·have hzt:Ko.take z.1=Ko:=List.take_of_length_le (by omega)
          rw [hzt] at hz2
          ((repeat' ((conv=>whnf);(first|(refine Ar.fit (by omega) ?_)|(refine VC.mk (by omega) ?_)|(refine Br.mk ?_ ?_<;>intro hb<;>(try (exfalso;omega)))|fail)));all_goals (try (conv=>whnf)))
          all_goals first
           |(exfalso;omega)
           | (intro h6 hs
              refine⟨ξ-1,(y.1+1,z.2),⟨⟨by dsimp only;omega,hz4⟩,fun t ht=>by dsimp only;rw [hK3,hz2 t ht]⟩,by omega,?_,hs.ren [229,8,6,5] ⟨⟨_,rfl,SC.rfl⟩,rfl,⟨_,rfl,SC.rfl⟩,rfl,⟨_,rfl,SC.rfl⟩,rfl,⟨_,rfl,SC.rfl⟩,rfl,trivial⟩⟩
              (repeat (refine And.intro ⟨_,rfl,by first|rfl|(simp [den,den1,denC];done)⟩ ?_));exact trivial)
       ·have hym2:y.1=(N.map cvN).length:=by omega
        have hplN:PlainA B:=hNa.sl.plain hno
        have hnd:Tr.nd (N.map cvN) 0=cvN (getI ndeR.dflt N 0):=nd_map N 0 (Int.le_refl _) (by omega)
        ((repeat' ((conv=>whnf);(first|(refine VC.mk (by omega) ?_)|(refine Br.mk ?_ ?_<;>intro hb<;>(try (exfalso;omega)))|fail)));all_goals (try (conv=>whnf)))
        all_goals (try (exfalso;omega))
        refine lgn tO [18] (fun j:Nat=>[(18,.val (.int .i64 j))]) (fun _=>⟨h4,[b6,b5],[(229,bt,.arr 3 (intR .i64) y.2 n),(8,b8,.box 28 [.val (.int .i64 0),.val (.int .i64 0)]),(6,b6,.box 28 [.val (.int .i64 0),.val (.int .i64 0)]),(5,b5,.box 25 [.val (.slice A n c),.val (.slice B m d)])]⟩) (fun ν j=>j+ν=n) ?_
        conv=>whnf
        refine⟨fun h5 hs=>⟨n,0,by omega,?_,hs.ren [229,8,6,5] ⟨⟨_,rfl,SC.rfl⟩,rfl,⟨_,rfl,SC.rfl⟩,rfl,⟨_,rfl,SC.rfl⟩,rfl,⟨_,rfl,SC.rfl⟩,rfl,trivial⟩⟩,?_⟩
        ·(repeat (refine And.intro ⟨_,rfl,by first|rfl|(simp [den,den1,denC];done)⟩ ?_));exact trivial
        rintro ν j hj
        by_cases hjn:j<n
        ·have hplT:PlainA A:=hTa.sl.plain (by omega)
         have hv:getI (intR .i64).dflt y.2 (j:Int)=occ (N.map cvN) (j:Int) y.1:=hy2 j hjn
         have hin:Tr.InN (N.map cvN) (j:Int) 0↔((getI ndeR.dflt N 0).frm≤(j:Int)∧(j:Int)<(getI ndeR.dflt N 0).to):=by
          unfold Tr.InN
          rw [hnd]
          exact Iff.rfl
         by_cases ins:(getI ndeR.dflt N 0).frm≤(j:Int)∧(j:Int)<(getI ndeR.dflt N 0).to
         ·have ho:=occ_in htree (by omega) (hin.2 ins)
          rw [←hym2,←hv] at ho
          ((repeat' ((conv=>whnf);(first|(refine Ar.fit (by omega) ?_)|(refine VC.mk (by (first|omega|(and_intros<;>first|omega|rfl))) ?_)|(refine Br.mk ?_ ?_<;>intro hb<;>(try replace hb:=Classical.not_not.1 hb)<;>(try (exfalso;omega)))|(refine XLoad.held hNa rfl (by omega) (by omega) rfl ?_)|fail)));all_goals (try (conv=>whnf)))
          all_goals first
           |(exfalso;omega)
           | (intro h6 hs
              refine⟨ν-1,j+1,by omega,by omega,?_,hs.ren [229,8,6,5] ⟨⟨_,rfl,SC.rfl⟩,rfl,⟨_,rfl,SC.rfl⟩,rfl,⟨_,rfl,SC.rfl⟩,rfl,⟨_,rfl,SC.rfl⟩,rfl,trivial⟩⟩
              (repeat (refine And.intro ⟨_,rfl,by first|rfl|(simp [den,den1,denC];done)⟩ ?_));exact trivial)
         ·have ho:=occ_out htree (by omega) (fun q=>ins (hin.1 q)) y.1 (by omega)
          rw [←hv] at ho
          have hkd:=hL.out (j:Int) (by omega) (by omega) (fun q=>ins (hin.1 q))
          ((repeat' ((conv=>whnf);(first|(refine Ar.fit (by omega) ?_)|(refine VC.mk (by (first|omega|(and_intros<;>first|omega|rfl))) ?_)|(refine Br.mk ?_ ?_<;>intro hb<;>(try replace hb:=Classical.not_not.1 hb)<;>(try (exfalso;omega)))|(refine XLoad.held hNa rfl (by omega) (by omega) rfl ?_)|(refine XLoad.held hTa rfl (by omega) (by omega) rfl ?_)|fail)));all_goals (try (conv=>whnf)))
          all_goals first
           |(exfalso;omega)
           | (intro h6 hs
              refine⟨ν-1,j+1,by omega,by omega,?_,hs.ren [229,8,6,5] ⟨⟨_,rfl,SC.rfl⟩,rfl,⟨_,rfl,SC.rfl⟩,rfl,⟨_,rfl,SC.rfl⟩,rfl,⟨_,rfl,SC.rfl⟩,rfl,trivial⟩⟩
              (repeat (refine And.intro ⟨_,rfl,by first|rfl|(simp [den,den1,denC];done)⟩ ?_));exact trivial)
        ·((repeat' ((conv=>whnf);(first|(refine VC.mk (by omega) ?_)|(refine Br.mk ?_ ?_<;>intro hb<;>(try replace hb:=Classical.not_not.1 hb)<;>(try (exfalso;omega)))|(apply CK.pure;(case hh=>(intro h1 hs;exact awake_any h1 (ht.later (hl3'.trans hs.lB)))))|fail)));all_goals (try (conv=>whnf)))
         all_goals first
          |exact⟨fun h' hs=>⟨prop_true rfl,hl3'.bas.fin hs⟩⟩
          |exact⟨fun h' hs=>⟨rfl,hl3'.bas.fin hs⟩⟩
          |(exfalso;omega)
end Go.Ex
