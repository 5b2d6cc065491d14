/-
  Top: TopDeep: whatever the input, the law answers true (part 38)
-/
import Derived.Test.YtpjdgifhhnjclaaGreatDoorM29
set_option linter.unusedVariables false
set_option linter.unusedSimpArgs false
set_option maxHeartbeats 4000000
set_option maxRecDepth 10000
namespace Go.Ex
open Go.Proofs
variable {Df:List Deferred}
inductive Plan4 where
 |base (p:Plan)
 |pull (i:Nat) (D:List Nat) (p:Plan4)
 |four (i j k l:Nat) (p q r s:Plan4)
def planB4(md:Region.Mode)(ops:Array Oper):Plan4→Nat→Array Bool→Bool
 |.base p,f,listed=>planB md ops p f listed
 |.pull i D p,f,listed=>match f with
  |0=>false
  |f+1=>match ops[i]? with
   |none=>false
   |some oi=>(Region.ready md ops listed).contains i && !listed.getD i false && !isWr oi.op && pullB md ops i oi D listed && planB4 md ops p f (listed.setIfInBounds i true)
 |.four i j k l p q r s,f,listed=>match f with
  |0=>false
  |f+1=>Region.ready md ops listed == [i,j,k,l] && planB4 md ops p f (listed.setIfInBounds i true) && planB4 md ops q f (listed.setIfInBounds j true) && planB4 md ops r f (listed.setIfInBounds k true) && planB4 md ops s f (listed.setIfInBounds l true)
section
variable {P:Program}{ty:Nat→Option TyI}{rep:Env}{n m:Nat}{ex cu:List Nat}{S:St}{K:Kn}{X:Esc}{κ:Kt}
structure Four(p q r s:Prop):Prop where
 one:p
 two:q
 three:r
 four:s
noncomputable def regW4(P:Program)(ty:Nat→Option TyI)(rep:Env)(n:Nat)(ops:List Oper)(pl:Plan4):Kn→St→Kt→Prop:=Plan4.rec (motive:=fun _=>Kn→St→Kt→Prop)
 (fun p K S κ=>regW P ty rep n ops p K S κ)
 (fun i _ _ ih K S κ=>pullW P ty n ops i K S fun K=>ih K S κ)
 (fun i j k l _ _ _ _ ihp ihq ihr ihs K S κ=>Four (oneW P ty rep n ops i K S fun K S=>ihp K S κ) (oneW P ty rep n ops j K S fun K S=>ihq K S κ) (oneW P ty rep n ops k K S fun K S=>ihr K S κ) (oneW P ty rep n ops l K S fun K S=>ihs K S κ)) pl
theorem regW4_sound(hty:TysOk P ty){ops:Array Oper}(hsel:Region.noSelect ops=true):∀ (pl:Plan4) (f:Nat) (listed:Array Bool) (K:Kn) (S:St),planB4 .any ops pl f listed=true→regW4 P ty rep n ops.toList pl K S κ →
 ∀ (w0:World) a w,Good Df n a K→SE w0 w→HS S w.heap→wpAny P .any ops (lift rep.pan Df n w0 X κ) f listed a w
 |.base p,f,listed,K,S,hB,h,w0,a,w,ha,he,hs=>regW_sound hty hsel p f listed K S hB h w0 a w ha he hs
 |.four i i' i'' i3 p q r s,0,listed,K,S,hB,h,w0,a,w,ha,he,hs=>by simp [planB4] at hB
 |.four i i' i'' i3 p q r s,f+1,listed,K,S,hB,h,w0,a,w,ha,he,hs=>by
  simp only [planB4,Bool.and_eq_true,beq_iff_eq] at hB
  refine⟨fun h0=>(by rw [hB.1.1.1.1] at h0;cases h0),fun j hj=>?_⟩
  rw [hB.1.1.1.1] at hj
  have hji:j=i∨j=i'∨j=i''∨j=i3:=by simpa using hj
  have h:Four (oneW P ty rep n ops.toList i K S fun K S=>regW4 P ty rep n ops.toList p K S κ) (oneW P ty rep n ops.toList i' K S fun K S=>regW4 P ty rep n ops.toList q K S κ) (oneW P ty rep n ops.toList i'' K S fun K S=>regW4 P ty rep n ops.toList r K S κ) (oneW P ty rep n ops.toList i3 K S fun K S=>regW4 P ty rep n ops.toList s K S κ):=h
  rcases hji with rfl|rfl|rfl|rfl
  ·exact oneW_sound hty h.one ha he hs (fun v w' he' hE=>⟨v,rfl,ha.defers,he',hE⟩) fun K S a w ha he hs hk=>regW4_sound hty hsel p f _ K S hB.1.1.1.2 hk w0 a w ha he hs
  ·exact oneW_sound hty h.two ha he hs (fun v w' he' hE=>⟨v,rfl,ha.defers,he',hE⟩) fun K S a w ha he hs hk=>regW4_sound hty hsel q f _ K S hB.1.1.2 hk w0 a w ha he hs
  ·exact oneW_sound hty h.three ha he hs (fun v w' he' hE=>⟨v,rfl,ha.defers,he',hE⟩) fun K S a w ha he hs hk=>regW4_sound hty hsel r f _ K S hB.1.2 hk w0 a w ha he hs
  ·exact oneW_sound hty h.four ha he hs (fun v w' he' hE=>⟨v,rfl,ha.defers,he',hE⟩) fun K S a w ha he hs hk=>regW4_sound hty hsel s f _ K S hB.2 hk w0 a w ha he hs
 |.pull i D p,0,listed,K,S,hB,h,w0,a,w,ha,he,hs=>by simp [planB4] at hB
 |.pull i D p,f+1,listed,K,S,hB,h,w0,a,w,ha,he,hs=>by
  simp only [planB4] at hB
  split at hB
  ·cases hB
  rename_i oi hi
  simp only [Bool.and_eq_true,Bool.not_eq_true'] at hB
  obtain⟨⟨⟨⟨hr,hli⟩,hwr⟩,hc⟩,hB'⟩:=hB
  have hr':i∈Region.ready .any ops listed:=by simpa using hr
  have hQ:∀ ch a d v w,lift rep.pan Df n w0 X κ (.panic ch) (Act.put a d v) w→lift rep.pan Df n w0 X κ (.panic ch) a w:=fun ch a d v w ⟨u,h1,h2,h3,h4⟩=>⟨u,h1,by cases d<;>exact h2,h3,h4⟩
  have h:pullW P ty n ops.toList i K S fun K=>regW4 P ty rep n ops.toList p K S κ:=h
  simp only [pullW] at h
  rw [nthO_eq,Array.getElem?_toList,hi] at h
  simp only at h
  split at h
  ·exact h.elim
  rename_i hd
  have hd:=dstOk_spec hd
  have pull:∀ (v:Value) (K':Kn) (C:World→Prop),(C=(fun _=>True)∧isLoad oi.op=false∨C=(fun x=>HS S x.heap)∧isLoad oi.op=true)→Good Df n (a.put oi.dst v) K'→Yields P ops C oi v a→regW4 P ty rep n ops.toList p K' S κ→wpAny P .any ops (lift rep.pan Df n w0 X κ) (f+1) listed a w:=by
   intro v K' C hC ha' hy hk
   simp only [pullB,Bool.and_eq_true,List.all_eq_true,Bool.not_eq_true'] at hc
   obtain⟨hc1,hc2⟩:=hc
   refine wpAny_pull (C:=C) (D:=D) hi (Region.noSelect_spec hsel) hQ ?_ f listed a w ?_ hli (fun j hj=>(hc1 j hj).1) ?_ hr' hy (regW4_sound hty hsel p f _ K' S hB' hk w0 _ w ha' he hs)
   ·intro j hj oj hoj
    have:=(hc1 j hj).2
    rw [hoj] at this
    obtain⟨e,he1,he2⟩:=Array.any_eq_true'.1 this
    simp only [Bool.and_eq_true,Bool.or_eq_true,beq_iff_eq,List.contains_iff_mem] at he2
    exact⟨e,he1,he2.1,he2.2⟩
   ·rcases hC with ⟨rfl,_⟩|⟨rfl,_⟩
    ·trivial
    ·exact hs
   ·intro j oj hoj hji hjD hun
    have hlt:=(Array.getElem?_eq_some_iff.1 hoj).1
    have:=hc2 j (List.mem_range.2 hlt)
    simp only [Bool.or_eq_true,beq_iff_eq,List.contains_iff_mem,hji,hjD,hun,false_or,or_false,Bool.false_eq_true] at this
    rw [hoj] at this
    simp only [Bool.and_eq_true,Bool.or_eq_true,Bool.not_eq_true'] at this
    refine⟨this.1,?_⟩
    rcases hC with ⟨rfl,hl⟩|⟨rfl,hl⟩
    ·exact fun a w K Q' _ h=>Oper.wp_mono (fun a w h=>⟨trivial,h⟩) h
    ·rcases this.2 with h1|h1
     ·rw [hl] at h1;cases h1
     ·exact tameA_sound h1 S
  have skip:Region.wanted oi (yielded ops a.tmps)=false→∀ K',Good Df n a K'→regW4 P ty rep n ops.toList p (putD K' oi.dst (.val undef)) S κ→wpAny P .any ops (lift rep.pan Df n w0 X κ) (f+1) listed a w:=by
   intro hwt K' ha' hk
   cases hl:isLoad oi.op with
   |false=>exact pull undef _ _ (.inl ⟨rfl,hl⟩) (ha'.put hd (.val undef)) (.inr ⟨hwt,rfl⟩) hk
   |true=>exact pull undef _ _ (.inr ⟨rfl,hl⟩) (ha'.put hd (.val undef)) (.inr ⟨hwt,rfl⟩) hk
  have run:Region.wanted oi (yielded ops a.tmps)=true→∀ K',Good Df n a K'→(opQ P ty oi K' S fun v=>regW4 P ty rep n ops.toList p (putD K' oi.dst v) S κ)→wpAny P .any ops (lift rep.pan Df n w0 X κ) (f+1) listed a w:=by
   intro hwt K' ha' hk
   obtain⟨kv,h1,h2⟩:=opQ_sound hty hk ha'
   cases hl:isLoad oi.op with
   |false=>exact pull (den kv) _ _ (.inl ⟨rfl,hl⟩) (ha'.put hd kv) (.inl ⟨hwt,fun w _=>h2 w fun e=>by rw [hl] at e;cases e⟩) h1
   |true=>exact pull (den kv) _ _ (.inr ⟨rfl,hl⟩) (ha'.put hd kv) (.inl ⟨hwt,fun w' hw'=>h2 w' fun _=>hw'⟩) h1
  split at h
  ·rename_i hg
   exact run (by simp [Region.wanted,hg]) K ha h
  ·rename_i j want hg
   split at h
   ·exact h.elim
   ·rename_i s hs'
    obtain⟨K',ha',h1|h1⟩:=guard_sound h ha
    ·exact run (by rw [wanted_of hg hs' h1.1];simp) K' ha' h1.2
    ·exact skip (wanted_no hg hs' h1.1) K' ha' h1.2
theorem drawnW4(hty:TysOk P ty)(hm:P.follows .mixedOrders=true)(pl:Plan4){id:Nat}{ops:Array Oper}(hsel:Region.noSelect ops=true)(hB:planB4 .any ops pl ops.size (Array.replicate ops.size false)=true)
 (h:regW4 P ty rep n ops.toList pl K S κ):Leaf P n ty rep m ex cu (.region id ops true) X κ K S:=⟨fun Df w0 a w ha he hs=>by
 refine wp_region_any hm ?_
 exact regW4_sound (X:=X) hty hsel pl _ _ K S hB h w0 a { w with drawn:=w.drawn+1 } ha ⟨he.os,he.tape,he.output⟩ hs⟩
end
end Go.Ex
namespace Go.Ex
open Go.Proofs
attribute [local irreducible] CH CsP word kindT
section
variable {I:In}{M:Loc}{g:Gt}{N:Int}{t:Bool}{n:Int}
theorem fors_w0_con(ok:InOk I)(H:Hyp I M g N)(hs0:n<I.L)(w0:word I (n+1)=(⟨#[123]⟩:ByteArray))(hn:0≤n∧n≤I.L)(hN:32*(I.L+1-n)+2≤N):Con I M 205 [] (forsS I g t n) t n 1:=fun br h hs hB=>by
 refine eP (rep:=rep) (m:=1) (ex:=[1,2,3,4,5,6,7,8,9,10,11,24,48,72,88,101,107,115,126]) (cu:=[]) (args:=[.own 900 br 0]) tO Tryz.func205 rfl (by decide) (rs:=[.tmp 2]) rfl rfl rfl hs ?_
 have W:=Wd.start ok hB
 have hl:=ok.len
 ((repeat' ((conv=>whnf);(first|(refine Ar.fit (by omega) ?_)|(refine VC.mk (by (first|omega|(and_intros<;>first|rfl|(simp only [maxLen];omega)))) ?_)|(refine Br.mk ?_ ?_<;>intro hb<;>(try replace hb:=Classical.not_not.1 hb)<;>(try exact absurd hb (show ¬ (ByteArray.mk _=ByteArray.mk _) from by decide))<;>(try (exact absurd rfl hb)))|(refine New.mk ?_;intro b hb)|(refine Two.mk ?_ ?_)|(refine Tri.mk ?_ ?_ ?_)|(apply CK.pure;(case hh=>(intro h1 hs;first|exact next_e W.ok W.base hs rfl (by assumption))))|(refine CK.box 901 _ (fun h1 hs=>open_k hs rfl 65) ?_;intro bo hbo)|(refine CK.sure W (none_con 0 (by decide) ⟨by omega,by omega⟩) rfl rfl ?_;intro bq h';(conv=>whnf);intro W)|(refine CK.con W (H (.block) _ _ (by simp only [need,rank];omega) ⟨by omega,by omega⟩ (by exact trivial)) rfl rfl (fun x hx=>?_) (fun x m bq h' hx hm1 hm2=>?_);rotate_left;(try dsimp only [fstr] at hm1);(conv=>whnf);intro W)|(refine CK.cO 901 W rfl rfl rfl (fun h hs hm=>hs.ne (k:=901) (k':=900) rfl rfl (by decide) (List.mem_singleton.1 hm)) rfl rfl rfl rfl rfl rfl (rC W (by repeat (first|exact List.Mem.head _|apply List.Mem.tail)) (rC W (by repeat (first|exact List.Mem.head _|apply List.Mem.tail)) (rC W (by repeat (first|exact List.Mem.head _|apply List.Mem.tail)) (rC W (by repeat (first|exact List.Mem.head _|apply List.Mem.tail)) (rN))))) (by simp [leK]) (by simp) ?_;intro h';(conv=>whnf);intro W)|(refine drawnW4 (id:=19) tO mixed (.pull 1 [10,11] (.pull 2 [9,10,11] (.pull 3 [4,6,8,9,10,11] (.four 0 4 5 7 (.base (.tri 4 5 7 (.pull 5 [6,8,9,10,11] (.br 6 7 (.pull 7 [8,9,10,11] (.one 8 (.one 9 (.one 10 (.pull 11 [] .done))))) (.one 6 (.one 8 (.one 9 (.one 10 (.pull 11 [] .done))))))) (.br 4 7 (.br 6 7 (.pull 7 [8,9,10,11] (.one 8 (.one 9 (.one 10 (.pull 11 [] .done))))) (.one 6 (.one 8 (.one 9 (.one 10 (.pull 11 [] .done)))))) (.one 4 (.one 6 (.one 8 (.one 9 (.one 10 (.pull 11 [] .done))))))) (.br 4 5 (.pull 5 [6,8,9,10,11] (.one 6 (.one 8 (.one 9 (.one 10 (.pull 11 [] .done)))))) (.one 4 (.one 6 (.one 8 (.one 9 (.one 10 (.pull 11 [] .done))))))))) (.base (.pull 5 [6,8,9,10,11] (.tri 0 6 7 (.br 6 7 (.pull 7 [8,9,10,11] (.one 8 (.one 9 (.one 10 (.pull 11 [] .done))))) (.one 6 (.one 8 (.one 9 (.one 10 (.pull 11 [] .done)))))) (.pull 7 [8,9,10,11] (.br 0 8 (.one 8 (.one 9 (.one 10 (.pull 11 [] .done)))) (.br 0 9 (.one 9 (.one 10 (.pull 11 [] .done))) (.pull 0 [10,11] (.one 10 (.pull 11 [] .done)))))) (.br 0 6 (.one 6 (.one 8 (.one 9 (.one 10 (.pull 11 [] .done))))) (.br 0 8 (.one 8 (.one 9 (.one 10 (.pull 11 [] .done)))) (.br 0 9 (.one 9 (.one 10 (.pull 11 [] .done))) (.pull 0 [10,11] (.one 10 (.pull 11 [] .done))))))))) (.base (.tri 0 4 7 (.br 4 7 (.br 6 7 (.pull 7 [8,9,10,11] (.one 8 (.one 9 (.one 10 (.pull 11 [] .done))))) (.one 6 (.one 8 (.one 9 (.one 10 (.pull 11 [] .done)))))) (.one 4 (.one 6 (.one 8 (.one 9 (.one 10 (.pull 11 [] .done))))))) (.tri 0 6 7 (.br 6 7 (.pull 7 [8,9,10,11] (.one 8 (.one 9 (.one 10 (.pull 11 [] .done))))) (.one 6 (.one 8 (.one 9 (.one 10 (.pull 11 [] .done)))))) (.pull 7 [8,9,10,11] (.br 0 8 (.one 8 (.one 9 (.one 10 (.pull 11 [] .done)))) (.br 0 9 (.one 9 (.one 10 (.pull 11 [] .done))) (.pull 0 [10,11] (.one 10 (.pull 11 [] .done)))))) (.br 0 6 (.one 6 (.one 8 (.one 9 (.one 10 (.pull 11 [] .done))))) (.br 0 8 (.one 8 (.one 9 (.one 10 (.pull 11 [] .done)))) (.br 0 9 (.one 9 (.one 10 (.pull 11 [] .done))) (.pull 0 [10,11] (.one 10 (.pull 11 [] .done))))))) (.br 0 4 (.one 4 (.one 6 (.one 8 (.one 9 (.one 10 (.pull 11 [] .done)))))) (.br 0 6 (.one 6 (.one 8 (.one 9 (.one 10 (.pull 11 [] .done))))) (.br 0 8 (.one 8 (.one 9 (.one 10 (.pull 11 [] .done)))) (.br 0 9 (.one 9 (.one 10 (.pull 11 [] .done))) (.pull 0 [10,11] (.one 10 (.pull 11 [] .done))))))))) (.base (.tri 0 4 5 (.br 4 5 (.pull 5 [6,8,9,10,11] (.one 6 (.one 8 (.one 9 (.one 10 (.pull 11 [] .done)))))) (.one 4 (.one 6 (.one 8 (.one 9 (.one 10 (.pull 11 [] .done))))))) (.pull 5 [6,8,9,10,11] (.br 0 6 (.one 6 (.one 8 (.one 9 (.one 10 (.pull 11 [] .done))))) (.br 0 8 (.one 8 (.one 9 (.one 10 (.pull 11 [] .done)))) (.br 0 9 (.one 9 (.one 10 (.pull 11 [] .done))) (.pull 0 [10,11] (.one 10 (.pull 11 [] .done))))))) (.br 0 4 (.one 4 (.one 6 (.one 8 (.one 9 (.one 10 (.pull 11 [] .done)))))) (.br 0 6 (.one 6 (.one 8 (.one 9 (.one 10 (.pull 11 [] .done))))) (.br 0 8 (.one 8 (.one 9 (.one 10 (.pull 11 [] .done)))) (.br 0 9 (.one 9 (.one 10 (.pull 11 [] .done))) (.pull 0 [10,11] (.one 10 (.pull 11 [] .done))))))))))))) (by kernel_rfl) (by kernel_rfl) ?_)|(refine Four.mk ?_ ?_ ?_ ?_)|fail)));all_goals (try (conv=>whnf)))
 all_goals first|(refine⟨fun h' hs=>W.fin hs rfl (by repeat (first|exact List.Mem.head _|apply List.Mem.tail)) ?_ ⟨by omega,by omega⟩⟩;(simp [forsS,overallS,forLast,forRest,restS,onlyS,bnd,want, *];done))|(simp [forsS,overallS,forLast,forRest,restS,onlyS,bnd,want, *];done)|contradiction
end
end Go.Ex
namespace Go.Ex
open Go.Proofs
attribute [local irreducible] CH CsP word kindT
section
variable {I:In}{M:Loc}{g:Gt}{N:Int}{t:Bool}{n:Int}
theorem fors_w1_con(ok:InOk I)(H:Hyp I M g N)(hs0:n<I.L)(w1:word I (n+1)=(⟨#[114,97,110,103,101]⟩:ByteArray))(hn:0≤n∧n≤I.L)(hN:32*(I.L+1-n)+2≤N):Con I M 205 [] (forsS I g t n) t n 1:=fun br h hs hB=>by
 refine eP (rep:=rep) (m:=1) (ex:=[1,2,3,4,5,6,7,8,9,10,11,24,48,72,88,101,107,115,126]) (cu:=[]) (args:=[.own 900 br 0]) tO Tryz.func205 rfl (by decide) (rs:=[.tmp 2]) rfl rfl rfl hs ?_
 have W:=Wd.start ok hB
 have hl:=ok.len
 ((repeat' ((conv=>whnf);(first|(refine Ar.fit (by omega) ?_)|(refine VC.mk (by (first|omega|(and_intros<;>first|rfl|(simp only [maxLen];omega)))) ?_)|(refine Br.mk ?_ ?_<;>intro hb<;>(try replace hb:=Classical.not_not.1 hb)<;>(try exact absurd hb (show ¬ (ByteArray.mk _=ByteArray.mk _) from by decide))<;>(try (exact absurd rfl hb)))|(refine New.mk ?_;intro b hb)|(apply CK.pure;(case hh=>(intro h1 hs;first|exact next_e W.ok W.base hs rfl (by assumption))))|(refine CK.box 901 _ (fun h1 hs=>open_k hs rfl 65) ?_;intro bo hbo)|(refine CK.sure W (none_con 0 (by decide) ⟨by omega,by omega⟩) rfl rfl ?_;intro bq h';(conv=>whnf);intro W)|(refine CK.con W (H (.block) _ _ (by simp only [need,rank];omega) ⟨by omega,by omega⟩ (by exact trivial)) rfl rfl (fun x hx=>?_) (fun x m bq h' hx hm1 hm2=>?_);rotate_left;(try dsimp only [fstr] at hm1);(conv=>whnf);intro W)|(refine CK.con W (H (.expr) _ _ (by simp only [need,rank];omega) ⟨by omega,by omega⟩ (by exact trivial)) rfl rfl (fun x hx=>?_) (fun x m bq h' hx hm1 hm2=>?_);rotate_left;(try dsimp only [fstr] at hm1);(conv=>whnf);intro W)|(refine CK.want W (by decide) ⟨by omega,by omega⟩ rfl rfl (fun hx=>?_) (fun hx hm=>?_);rotate_left)|(refine CK.cO 901 W rfl rfl rfl (fun h hs hm=>hs.ne (k:=901) (k':=900) rfl rfl (by decide) (List.mem_singleton.1 hm)) rfl rfl rfl rfl rfl rfl (rC W (by repeat (first|exact List.Mem.head _|apply List.Mem.tail)) (rC W (by repeat (first|exact List.Mem.head _|apply List.Mem.tail)) (rC W (by repeat (first|exact List.Mem.head _|apply List.Mem.tail)) (rN)))) (by simp [leK]) (by simp) ?_;intro h';(conv=>whnf);intro W)|(refine CK.inline (rep:=rep) tO Tryz.func222 rfl (by decide) (rs:=[.tmp 4]) rfl 4 [4,5,6] [] rfl rfl rfl ?_)|(refine CK.inline (rep:=rep) tO Tryz.func227 rfl (by decide) (rs:=[.tmp 6]) rfl 4 [6,7] [] rfl rfl rfl ?_)|fail)));all_goals (try (conv=>whnf)))
 all_goals first|(refine⟨fun h' hs=>W.fin hs rfl (by repeat (first|exact List.Mem.head _|apply List.Mem.tail)) ?_ ⟨by omega,by omega⟩⟩;(simp [forsS,overallS,forLast,forRest,restS,onlyS,bnd,want, *];done))|(simp [forsS,overallS,forLast,forRest,restS,onlyS,bnd,want, *];done)|contradiction
end
end Go.Ex
namespace Go.Ex
open Go.Proofs
attribute [local irreducible] CH CsP word kindT
section
variable {I:In}{M:Loc}{g:Gt}{N:Int}{t:Bool}{n:Int}
theorem fors_w2_con(ok:InOk I)(H:Hyp I M g N)(hs0:n<I.L)(w2:word I (n+1)=(⟨#[59]⟩:ByteArray))(hn:0≤n∧n≤I.L)(hN:32*(I.L+1-n)+2≤N):Con I M 205 [] (forsS I g t n) t n 1:=fun br h hs hB=>by
 refine eP (rep:=rep) (m:=1) (ex:=[1,2,3,4,5,6,7,8,9,10,11,24,48,72,88,101,107,115,126]) (cu:=[]) (args:=[.own 900 br 0]) tO Tryz.func205 rfl (by decide) (rs:=[.tmp 2]) rfl rfl rfl hs ?_
 have W:=Wd.start ok hB
 have hl:=ok.len
 ((repeat' ((conv=>whnf);(first|(refine dW (id:=31) tO mixed (.pull 1 [8,9] (.pull 2 [7,8,9] (.pull 3 [7,8,9] (.pull 4 [7,8,9] (.pull 5 [6,7,8,9] (.br 0 6 (.one 6 (.one 7 (.one 8 (.pull 9 [] .done)))) (.br 0 7 (.one 7 (.one 8 (.pull 9 [] .done))) (.pull 0 [8,9] (.one 8 (.pull 9 [] .done)))))))))) (by kernel_rfl) (by kernel_rfl) ?_)|(refine Ar.fit (by omega) ?_)|(refine VC.mk (by (first|omega|(and_intros<;>first|rfl|(simp only [maxLen];omega)))) ?_)|(refine Br.mk ?_ ?_<;>intro hb<;>(try replace hb:=Classical.not_not.1 hb)<;>(try exact absurd hb (show ¬ (ByteArray.mk _=ByteArray.mk _) from by decide))<;>(try (have hlt:=wlt hb (by decide)))<;>(try (exact absurd rfl hb)))|(refine New.mk ?_;intro b hb)|(refine Two.mk ?_ ?_)|(apply CK.pure;(case hh=>(intro h1 hs;first|exact next_e W.ok W.base hs rfl (by assumption)|exact next_k W.ok W.base hs rfl)))|(refine CK.box 901 _ (fun h1 hs=>open_k hs rfl 65) ?_;intro bo hbo)|(refine CK.sure W (none_con 0 (by decide) ⟨by omega,by omega⟩) rfl rfl ?_;intro bq h';(conv=>whnf);intro W)|(refine CK.con W (H (.block) _ _ (by simp only [need,rank];omega) ⟨by omega,by omega⟩ (by exact trivial)) rfl rfl (fun x hx=>?_) (fun x m bq h' hx hm1 hm2=>?_);rotate_left;(try dsimp only [fstr] at hm1);(conv=>whnf);intro W)|(refine CK.con W (H (.expr) _ _ (by simp only [need,rank];omega) ⟨by omega,by omega⟩ (by exact trivial)) rfl rfl (fun x hx=>?_) (fun x m bq h' hx hm1 hm2=>?_);rotate_left;(try dsimp only [fstr] at hm1);(conv=>whnf);intro W)|(refine CK.con W (H (.simple) _ _ (by simp only [need,rank];omega) ⟨by omega,by omega⟩ (by exact trivial)) rfl rfl (fun x hx=>?_) (fun x m bq h' hx hm1 hm2=>?_);rotate_left;(try dsimp only [fstr] at hm1);(conv=>whnf);intro W)|(refine CK.want W (by decide) ⟨by omega,by omega⟩ rfl rfl (fun hx=>?_) (fun hx hm=>?_);rotate_left)|(refine CK.cO 901 W rfl rfl rfl (fun h hs hm=>hs.ne (k:=901) (k':=900) rfl rfl (by decide) (List.mem_singleton.1 hm)) rfl rfl rfl rfl rfl rfl (rC W (by repeat (first|exact List.Mem.head _|apply List.Mem.tail)) (rC W (by repeat (first|exact List.Mem.head _|apply List.Mem.tail)) (rC W (by repeat (first|exact List.Mem.head _|apply List.Mem.tail)) (rC W (by repeat (first|exact List.Mem.head _|apply List.Mem.tail)) (rN))))) (by simp [leK]) (by simp) ?_;intro h';(conv=>whnf);intro W)|(refine CK.inline (rep:=rep) tO Tryz.func222 rfl (by decide) (rs:=[.tmp 4]) rfl 4 [4,5,6] [] rfl rfl rfl ?_)|fail)));all_goals (try (conv=>whnf)))
 all_goals first|(refine⟨fun h' hs=>W.fin hs rfl (by repeat (first|exact List.Mem.head _|apply List.Mem.tail)) ?_ ⟨by omega,by omega⟩⟩;(simp [forsS,overallS,forLast,forRest,restS,onlyS,bnd,want, *];done))|(simp [forsS,overallS,forLast,forRest,restS,onlyS,bnd,want, *];done)|contradiction
end
end Go.Ex
namespace Go.Ex
open Go.Proofs
attribute [local irreducible] CH CsP word kindT
section
variable {P:Program}{ty:Nat→Option TyI}{rep:Env}{n m:Nat}{ex cu:List Nat}{S:St}{K:Kn}{X:Esc}{κ:Kt}
theorem join_same(hty:TysOk P ty){c:Code}(cs:List Nat)(l:Kn)
 (h:dropK cs K [] fun K0=>codeK P ty rep n m ex cu c X (fun K' S'=>S'=S∧HasD K' (l++K0)) K S∧κ (l++K0) S) :
 Leaf P n ty rep m ex cu c X κ K S:=⟨fun Df w0 a w ha he hs=>by
 obtain⟨K0,h1,h2⟩:=drop_sound h
 refine Code.wp_mono ?_ (cks hty c X _ K S h1 Df w0 a w ha he hs)
 intro e a w hq
 cases e with
 |normal=>
  obtain⟨K',S',a1,a2,a3,rfl,b2⟩:=hq
  exact⟨_,_,a1.like b2.get,a2,a3,h2⟩
 |exit i=>exact hq
 |ret=>exact hq
 |panic ch=>exact hq
 |goto l=>exact hq
 |outgrown=>exact hq⟩
end
section
variable {P:Program}{E:Value→Heap→Prop}
theorem q8_lt{I:In}{m:Int}(h:(word I m=(⟨#[61]⟩:ByteArray)∨word I m=(⟨#[58,61]⟩:ByteArray))∧word I (m+1)=(⟨#[114,97,110,103,101]⟩:ByteArray)):0≤m∧m<I.L:=by
 rcases h.1 with e|e<;>exact wlt e (by decide)
theorem CK.meet{f:Nat}{args caps:List KV}{S:St}{κ:KV→St→Prop}{α:Type}(kv:α→KV)(st:α→St)(φ:α→Prop)
 (h1:CK P E f args caps S fun v S'=>∀ h,HS S' h→∃ x,φ x∧den (kv x)=den v∧HS (st x) h) (h2:∀ x,φ x→κ (kv x) (st x)):CK P E f args caps S κ:=
 have k:∀ v h',(∃ k0 S',den k0=v∧HS S' h'∧∀ h,HS S' h→∃ x,φ x∧den (kv x)=den k0∧HS (st x) h)→∃ kv S',den kv=v∧HS S' h'∧κ kv S':=fun v h' ⟨v0,S',e1,e2,e3⟩=>by
  obtain⟨x,a1,a2,a3⟩:=e3 _ e2
  exact⟨_,_,a2.trans e1,a3,h2 x a1⟩
 ⟨fun h hs=>(h1.go h hs).imp (fun q=>q.mono fun v h'=>k v h') fun q=>q.imp (fun q w hw=>(q w hw).imp fun v q=>q.imp fun w' q=>⟨q.1,q.2.1,k _ _ q.2.2⟩) fun q=>q.mono (fun v h' e=>e) fun v h'=>k v h'⟩
end
theorem Wd.names{I:In}{M:Loc}{cE:List Nat}{hE h0:Heap}{k1 k2 k3 k4 k5 b1 b2 b3 b4 b5 bq bz:Nat}{c1 c2 c3 c4 c5:Chunk}{x y:Nd}(W:Wd I M cE hE h0 (blks [(k1,b1,c1),(k2,b2,c2),(k3,b3,c3),(k4,b4,c4),(k5,b5,c5)]) [.one (some ⟨bq,0,none⟩) x,.one (some ⟨bz,0,none⟩) y]) :
 ∃ b1' b3' b4' bz',b1'=b1∧b3'=b3∧b4'=b4∧bz'=bz:=⟨_,_,_,_,rfl,rfl,rfl,rfl⟩
abbrev ptrK(b:Nat):KV:=.val (.pointer (some ⟨b,0,none⟩))
structure FdS where
 h:Heap
 m:Int
 x:Nd
section
variable {I:In}{M:Loc}{g:Gt}{N:Int}{t:Bool}{n:Int}
theorem fors_rest{br b6 b5 bn b1 b2 bl bz:Nat}{hE h0:Heap}{cap:List Nat}{x0 z:Nd}{frm m0:Int}{oC:Out Nd}(ok:InOk I)(H:Hyp I M g N)
 (W:Wd I M [br] hE h0 cap [.one (some ⟨bl,0,none⟩) x0,.one (some ⟨bz,0,none⟩) z]) (hm1:0≤frm∧frm+1+1≤m0) (hm2:m0≤I.L) (hN:32*(I.L+1-frm)+2≤N) (herr:∀ e,restS I g true (frm+1) x0 m0 = .err e→oC = .err e) :
 CK Tryz.prog (ErrE I M br [br] hE oC) 228 [] [.own 1 b1 0,.own 5 b5 0,.own 6 b6 0]
  ⟨h0,cap,[(6,b6,.box 63 [ptrK bl]),(5,b5,.box 63 [.own 902 b2 0]),(902,b2,nodeB 0 (-1) (frm+1) 0 nilS),(901,bn,nodeB 65 (-1) frm 0 nilS),(1,b1,.box 78 [.own 900 br 0]),(900,br,rdB I M true m0)]⟩
  (fun v S'=>∀ h,HS S' h→∃ y:FdS,(Wd I M [br] hE y.h (blks [(6,b6,.box 63 [ptrK bl]),(5,b5,.box 63 [ptrK b2]),(901,bn,nodeB 65 (-1) frm 0 nilS),(1,b1,.box 78 [.own 900 br 0]),(900,br,rdB I M true (y.m))]) [.one (some ⟨b2,0,none⟩) y.x,.one (some ⟨bz,0,none⟩) z]∧(m0≤y.m∧y.m≤I.L)∧restS I g true (frm+1) x0 m0 = .ok y.x y.m)∧den (ptrK b2)=den v∧HS ⟨y.h,blks [(6,b6,.box 63 [ptrK bl]),(5,b5,.box 63 [ptrK b2]),(901,bn,nodeB 65 (-1) frm 0 nilS),(1,b1,.box 78 [.own 900 br 0]),(900,br,rdB I M true (y.m))],[(6,b6,.box 63 [ptrK bl]),(5,b5,.box 63 [ptrK b2]),(901,bn,nodeB 65 (-1) frm 0 nilS),(1,b1,.box 78 [.own 900 br 0]),(900,br,rdB I M true (y.m))]⟩ h):=by
 have hl:=ok.len
 obtain⟨O,hO⟩:∃ O,restS I g true (frm+1) x0 m0=O:=⟨_,rfl⟩
 rw [hO] at herr ⊢
 rw [restS] at hO
 ((repeat' ((conv=>whnf);(first|(refine Ar.fit (by omega) ?_)|(refine VC.mk (by (first|omega|exact Sl.plain (by assumption) (by omega)|(and_intros<;>first|rfl|(simp only [maxLen];omega)))) ?_)|(refine Br.mk ?_ ?_<;>intro hb<;>(try replace hb:=Classical.not_not.1 hb)<;>(try exact absurd hb (show ¬ (ByteArray.mk _=ByteArray.mk _) from by decide))<;>(try (first|have hlt:=wlt hb (by decide)|have hlt:=asg_lt hb))<;>(try (contradiction)))|(refine New.mk ?_;intro b hb)|(apply CK.pure;(case hh=>(intro h1 hs;first|exact next_k W.ok W.base hs rfl)))|(refine CK.inline (rep:=rep) tO Tryz.func228 rfl (by decide) (rs:=[.tmp 3]) rfl 4 [1,2,3,4] [] rfl rfl rfl ?_)|(refine CK.con W (H (.exprs) _ _ (by simp only [need,rank];omega) ⟨by omega,by omega⟩ (by exact trivial)) rfl rfl (fun x hx=>?_) (fun x m bq h' hx hm1 hm2=>?_);rotate_left;(try dsimp only [fstr] at hm1);(conv=>whnf);intro W)|(refine CK.con W (H (.expr) _ _ (by simp only [need,rank];omega) ⟨by omega,by omega⟩ (by exact trivial)) rfl rfl (fun x hx=>?_) (fun x m bq h' hx hm1 hm2=>?_);rotate_left;(try dsimp only [fstr] at hm1);(conv=>whnf);intro W)|(refine CK.says (.prop _) (fun h1 hs=>assigns_any _ h1) ?_)|(refine CK.cO 902 W rfl rfl rfl (fun h hs hm=>hs.ne (k:=902) (k':=900) rfl rfl (by decide) (List.mem_singleton.1 hm)) rfl rfl rfl rfl rfl rfl (rC W (by repeat (first|exact List.Mem.head _|apply List.Mem.tail)) (rC W (by repeat (first|exact List.Mem.head _|apply List.Mem.tail)) (rN))) (by simp [leK]) (by simp) ?_;intro h';(conv=>whnf);intro W)|(refine CK.cO 902 W rfl rfl rfl (fun h hs hm=>hs.ne (k:=902) (k':=900) rfl rfl (by decide) (List.mem_singleton.1 hm)) rfl rfl rfl rfl rfl rfl (rC W (by repeat (first|exact List.Mem.head _|apply List.Mem.tail)) (rN)) (by simp [leK]) (by simp) ?_;intro h';(conv=>whnf);intro W)|(refine CK.fail W rfl rfl ⟨by omega,by omega⟩ ?_)|(refine CK.inline (rep:=rep) tO Tryz.func206 rfl (by decide) (rs:=[.tmp 6]) rfl 4 [6,7,8,12,42,51,52,77] [] rfl rfl rfl ?_)|(refine PLoad.kids (W.one (by repeat (exact List.Mem.head _))) ?_;intro A n1 c1 ps1 hA hTs hnl;subst hnl;have hAs:=hA.sl)|(refine XLoad.kid 0 hA hTs (by omega) ?_;intro bq hT0;have W:=W.kid (by repeat (exact List.Mem.head _)) hT0 (by omega))|fail)));all_goals (try (conv=>whnf)))
 all_goals first
  |(refine herr _ ?_;rw [←hO];first|(simp [bnd, *];done)|(simp [bnd,assignsP, *];done))
  | (simp [bnd, *] at hO
     subst hO
     intro h2 hs
     refine⟨⟨h2,_,_⟩,⟨(W.anew (hs.lB.less (RenC.blks (ks:=[6,5,901,1,900]) (L:=[(6,b6,.box 63 [ptrK bl]),(5,b5,.box 63 [ptrK b2]),(901,bn,nodeB 65 (-1) frm 0 nilS),(1,b1,.box 78 [.own 900 br 0]),(900,br,rdB I M true (_))]) (by show RenC (_::_) (_::_) (_::_);exact⟨⟨_,rfl,SC.rfl⟩,rfl,⟨_,rfl,SC.box rfl⟩,rfl,⟨_,rfl,SC.rfl⟩,rfl,⟨_,rfl,SC.rfl⟩,rfl,⟨_,rfl,SC.rfl⟩,rfl,trivial⟩)))).of (fun e he=>?_),⟨?_,?_⟩,rfl⟩,rfl,hs.again [6,5,901,1,900] (by show RenC (_::_) (_::_) (_::_);exact⟨⟨_,rfl,SC.rfl⟩,rfl,⟨_,rfl,SC.box rfl⟩,rfl,⟨_,rfl,SC.rfl⟩,rfl,⟨_,rfl,SC.rfl⟩,rfl,⟨_,rfl,SC.rfl⟩,rfl,trivial⟩)⟩
     ·simp only [List.mem_cons,List.not_mem_nil,or_false] at he ⊢
      rcases he with rfl|rfl
      all_goals simp
     ·dsimp only;omega
     ·dsimp only;omega)
  | (simp [bnd,assignsP, *] at hO
     subst hO
     intro h2 hs
     refine⟨⟨h2,_,_⟩,⟨(W.anew (hs.lB.less (RenC.blks (ks:=[6,5,901,1,900]) (L:=[(6,b6,.box 63 [ptrK bl]),(5,b5,.box 63 [ptrK b2]),(901,bn,nodeB 65 (-1) frm 0 nilS),(1,b1,.box 78 [.own 900 br 0]),(900,br,rdB I M true (_))]) (by show RenC (_::_) (_::_) (_::_);exact⟨⟨_,rfl,SC.rfl⟩,rfl,⟨_,rfl,SC.box rfl⟩,rfl,⟨_,rfl,SC.rfl⟩,rfl,⟨_,rfl,SC.rfl⟩,rfl,⟨_,rfl,SC.rfl⟩,rfl,trivial⟩)))).of (fun e he=>?_),⟨?_,?_⟩,rfl⟩,rfl,hs.again [6,5,901,1,900] (by show RenC (_::_) (_::_) (_::_);exact⟨⟨_,rfl,SC.rfl⟩,rfl,⟨_,rfl,SC.box rfl⟩,rfl,⟨_,rfl,SC.rfl⟩,rfl,⟨_,rfl,SC.rfl⟩,rfl,⟨_,rfl,SC.rfl⟩,rfl,trivial⟩)⟩
     ·simp only [List.mem_cons,List.not_mem_nil,or_false] at he ⊢
      rcases he with rfl|rfl
      all_goals simp
     ·dsimp only;omega
     ·dsimp only;omega)
  |trace_state
end
end Go.Ex
