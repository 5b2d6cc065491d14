/-
  Top: TopFaults, TopLossless: whatever the input, the law answers true (part 45)
-/
import Derived.Test.YtpjdgifhhnjclaaGreatDoorM44
set_option linter.unusedVariables false
set_option linter.unusedSimpArgs false
set_option maxHeartbeats 4000000
set_option maxRecDepth 10000
namespace Go.Ex
open Go.Proofs
section
variable {P:Program}{ty:Nat→Option TyI}{rep:Env}{n m:Nat}{ex cu:List Nat}{S:St}{K:Kn}{X:Esc}{κ:Kt}
theorem leaf_fn(hty:TysOk P ty){o1 o2:Oper}{id:Nat}(g1:o1.guard=none)(hd:dstOk n o1.dst=true)(h:opK P ty rep o1 K S fun v S'=>∃ v',den v'=den v∧regK P ty rep n [o1,o2] [o2] (putD K o1.dst v') S' κ) :
 Leaf P n ty rep m ex cu (.region id #[o1,o2] false) X κ K S:=⟨fun Df w0 a w ha he hs=>by
 refine wp_region_lit (l:=[o1,o2]) ?_
 unfold wpList
 rw [if_pos (by simp [Region.wanted,g1])]
 refine .inl (opK_sound hty h ha hs (fun v w' he' hE=>⟨v,rfl,ha.defers,he.trans he',hE⟩) fun kv S' w' he' hs' hk=>?_)
 obtain⟨v',e,hk⟩:=hk
 have h2:=regK_sound (X:=X) hty (ops:=[o1,o2]) [o2] _ S' κ hk w0 _ w' (ha.put (dstOk_spec hd) v') (he.trans he') hs'
 rw [e] at h2
 exact h2⟩
end
theorem nestGo_z(s:ByteArray)(T:List Tok):∀ (f:Nat) (x:NsS) (i:Int),(nestGo s T f x i).2.2.1=0→(nestGo s T f x i).2.2.2=0
 |0,x,i,h=>by
  unfold nestGo at h ⊢
  split
  ·rename_i c;rw [if_pos c] at h;dsimp only at h;omega
  ·rfl
 |f+1,x,i,h=>by
  unfold nestGo at h ⊢
  split
  ·rename_i c;rw [if_pos c] at h;exact nestGo_z s T f _ _ h
  ·rename_i c;rw [if_neg c] at h;exact absurd h c
theorem parF_ne{s:ByteArray}{goal:Int}{ea:Int×Int}(h:parF s goal = .inl ea):¬ (ea.1=0∧ea.2=0):=by
 unfold parF at h
 split at h
 ·cases h;simp
 ·split at h
  ·rename_i c;cases h;exact c
  ·split at h
   ·cases h
   ·cases h;simp
def ParP(s:ByteArray)(goal:Int)(h:Heap)(v:Value)(h':Heap):Prop:=
 Grows h h'∧match parF s goal with
  |.inl ea=>v = .tuple #[.agg #[.slice none 0 0,.slice none 0 0],.agg #[.int .i64 ea.1,.int .i64 ea.2]]∧EaOk s goal ea
  |.inr tx=>∃ A n c B m d,v = .tuple #[.agg #[.slice A n c,.slice B m d],.agg #[.int .i64 0,.int .i64 0]]∧(Held tokR h' [] A n tx.1∧∀ x,0<n→A=some x→h.size≤x.block)∧(Held ndeR h' [] B m (flat tx.2)∧∀ x,0<m→B=some x→h.size≤x.block)
attribute [local irreducible] CH parF
theorem parse_any(s:ByteArray)(goal:Int)(h:Heap)(ht:TabsH h)(hz:s.size≤140737488355328)(hc:∀ T x,parF s goal = .inr (T,x)→(flat x).length≤1000000000):CH Tryz.prog 8 #[.int .u8 goal,.string s] h (ParP s goal h):=by
 refine enter (rep:=rep) (m:=1) (ex:=[0,1,4,5,6,7,8,9,10,20]) (cu:=[7]) tO Tryz.func8 rfl (by decide) (rs:=[.cell 4 25,.cell 5 28]) rfl rfl [.val (.int .u8 goal),.val (.string s)] rfl ?_
 have c1:=fun h1 (ht:TabsH h1)=>readT_any s goal h1 ht hz
 unfold ReadP at c1
 unfold ParP
 obtain⟨O,hO⟩:∃ O,parF s goal=O:=⟨_,rfl⟩
 rw [hO] at c1 ⊢
 rcases O with ⟨e,a⟩|⟨T,x⟩
 ·have hne:=parF_ne hO
  dsimp only at hne c1 ⊢
  ((repeat' ((conv=>whnf);(first|(refine dW (id:=3) tO mixed (.pull 0 [2,3] (.br 1 2 (.one 2 (.one 3 .done)) (.pull 1 [3] (.one 3 .done)))) (by kernel_rfl) (by kernel_rfl) ?_)|(refine VC.mk (by omega) ?_)|(refine Br.mk ?_ ?_<;>intro hb<;>(try replace hb:=Classical.not_not.1 hb)<;>(try (exfalso;omega)))|(refine New.mk ?_;intro b hb)|(refine Two.mk ?_ ?_)|(refine CK.anewQ (Q:=fun h u h'=>∃ A n c,u = .tuple #[.slice A n c,.pointer none,.agg #[.int .i64 e,.int .i64 a] ]∧EaOk s goal (e,a)) (fun h hs=>c1 h (ht.at hs)) ?_;rintro h1 u h2 hs1 hg ⟨A,n,c,rfl,hEa⟩;refine⟨.tup [.val (.slice A n c),.val (.pointer none),.agg [.val (.int .i64 e),.val (.int .i64 a)] ],rfl,?_⟩)|(refine ft_neq ?_)|fail)));all_goals (try (conv=>whnf)))
  all_goals exact⟨fun h' hs=>⟨(show Later h [] h2 _ from (hs1.later hg).lB).bas.fin hs,rfl,hEa⟩⟩
 ·have hcx:=hc _ _ hO
  dsimp only at c1 ⊢
  ((repeat' ((conv=>whnf);(first|(refine dW (id:=8) tO mixed (.pull 0 [2,3] (.br 1 2 (.one 2 (.one 3 .done)) (.pull 1 [3] (.one 3 .done)))) (by kernel_rfl) (by kernel_rfl) ?_)|(refine VC.mk (by omega) ?_)|(refine Br.mk ?_ ?_<;>intro hb<;>(try replace hb:=Classical.not_not.1 hb)<;>(try (exfalso;omega)))|(refine New.mk ?_;intro b hb)|(refine Two.mk ?_ ?_)|(refine CK.anewQ (Q:=fun h u h'=>∃ A n c p,u = .tuple #[.slice A n c,.pointer p,.agg #[.int .i64 0,.int .i64 0] ]∧(Held tokR h' [] A n T∧∀ x,0<n→A=some x→h.size≤x.block)∧TrI h.size h' [] p x) (fun h hs=>(c1 h (ht.at hs)).mono fun u h' ⟨a1,A,n,c,p,a2⟩=>⟨a1,A,n,c,p,a2⟩) ?_;rintro h1 u h2 hs1 hg ⟨A,n,c,p,rfl,⟨hT,hf⟩,hTr⟩;refine⟨.tup [.val (.slice A n c),.val (.pointer p),.agg [.val (.int .i64 0),.val (.int .i64 0)] ],rfl,?_⟩)|(refine ft_neq ?_)|(refine leaf_fn tO rfl rfl ?_;(conv=>whnf);refine⟨.val (wkF _ _),rfl,?_⟩)|(refine CK.walk (T:=(A,n,c)) (x:=⟨[],none⟩) (l:=flat x) (r:=[(8,_,_),(5,_,_),(4,_,_)]) ⟨rfl,rfl,rfl,rfl,rfl,rfl,rfl,rfl,rfl,rfl,trivial⟩ (fun h3 hs2 hs3 hsub=>walk24 _ x (Nat.le_refl _) 0 _ _ _ _ h3 _ hs3 ⟨fun _=>rfl,fun b c e=>(by cases e)⟩ (by simpa using hcx) (TrI.later (hs2.lB.less hsub) (Nat.le_refl _) _ (hTr.recap (fun c hm=>.inr (hs1.blks_of hm).1) (Nat.zero_le _)))) (fun x' e1 e2=>?_);obtain⟨L2,o2⟩:=x';obtain⟨e20,e21⟩:=e2;dsimp only at e1 e20 e21;rw [List.nil_append] at e1;rcases o2 with _|⟨b3,c3⟩;(exact absurd (e20 rfl) (by rw [e1];have:=flat_pos x;intro e;rw [e] at this;exact absurd this (Nat.lt_irrefl 0))))|fail)));all_goals (try (conv=>whnf)))
  all_goals
   subst e1
   have hl:Later h [] h2 _:=(hs1.later hg).lB
   exact⟨fun h' hs=>⟨hl.bas.fin hs,A,n,c,some ⟨b3,0,none⟩,(flat x).length,c3,rfl,⟨(hT.freshen hf hs1).endS hs,fun x h0 e=>Nat.le_trans hs1.size (hf x h0 e)⟩,⟨Held.ofC hs (k:=50) rfl rfl,fun a _ ha=>by cases ha;exact freshC hs (k:=50) rfl hl.size hl.bas.cp⟩⟩⟩
end Go.Ex
