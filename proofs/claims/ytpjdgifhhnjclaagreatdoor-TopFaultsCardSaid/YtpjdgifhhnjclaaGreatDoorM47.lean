/-
  Top: TopFaults, TopLossless: whatever the input, the law answers true (part 47)
-/
import Derived.Test.YtpjdgifhhnjclaaGreatDoorCards
import Derived.Test.YtpjdgifhhnjclaaGreatDoorTie
import Derived.HandedShaped
import Derived.Handed
import Derived.ProofKit
import Derived.ChangeMaps5
import Derived.PinnedBridge
import Derived.Lib.LaidU8
import Derived.Shelf.Vars
import Derived.Lay
import Derived.LaidOnce
import Derived.SevenTiedAt
import Derived.Test.YtpjdgifhhnjclaaGreatDoorM16
import Derived.Test.YtpjdgifhhnjclaaGreatDoorM46
set_option linter.unusedVariables false
set_option linter.unusedSimpArgs false
set_option maxHeartbeats 4000000
set_option maxRecDepth 10000
namespace Go.Ex
open Go.Proofs
theorem parF_in{s:ByteArray}{goal:Int}{T:List Tok}{x:Nd}(h:parF s goal = .inr (T,x)):(nestE s=0∧nestA s=0)∧T=nestT s∧(1≤goal∧goal≤4)∧∃ m,treeS (inS s) goal = .ok x m:=by
 unfold parF at h
 split at h
 ·cases h
 ·rename_i c1
  split at h
  ·cases h
  ·rename_i c
   split at h
   ·rename_i x' m' e
    cases h
    exact⟨Classical.not_not.1 c,rfl,by omega,m',e⟩
   ·cases h
theorem parF_ok{s:ByteArray}{goal:Int}{T:List Tok}{x:Nd}(h:parF s goal = .inr (T,x)):InR ⟨s,T,[]⟩:=by
 obtain⟨h1,rfl,_⟩:=parF_in h
 have:=inS_ok s h1.1
 exact⟨this.len,this.size,this.rng⟩
def TerP(s:ByteArray)(goal:Int)(h:Heap)(v:Value)(h':Heap):Prop:=
 Grows h h'∧match parF s goal with
  |.inl ea=>v = .tuple #[.slice none 0 0,.agg #[.int .i64 ea.1,.int .i64 ea.2]]
  |.inr tx=>∃ B m d,v = .tuple #[.slice B m d,.agg #[.int .i64 0,.int .i64 0]]∧(Held prtR h' [] B m ((flat tx.2).map (partN ⟨s,tx.1,[]⟩))∧∀ x,0<m→B=some x→h.size≤x.block)
attribute [local irreducible] CH parF partN
theorem term_any(s:ByteArray)(goal:Int)(h:Heap)(ht:TabsH h)(hz:s.size≤140737488355328)(hc:∀ T x,parF s goal = .inr (T,x)→(flat x).length≤1000000000∧∀ y∈flat x,-1≤y.word∧y.word<T.length):CH Tryz.prog 16 #[.int .u8 goal,.string s] h (TerP s goal h):=by
 refine enter (rep:=rep) (m:=1) (ex:=[0,1,3,4,5,6,7,8,9,10,11,21]) (cu:=[8]) tO Tryz.func16 rfl (by decide) (rs:=[.tmp 4,.cell 5 28]) rfl rfl [.val (.int .u8 goal),.val (.string s)] rfl ?_
 have c1:=fun h1 (ht:TabsH h1)=>readT_any s goal h1 ht hz
 unfold ReadP at c1
 unfold TerP
 obtain⟨O,hO⟩:∃ O,parF s goal=O:=⟨_,rfl⟩
 rw [hO] at c1 ⊢
 rcases O with ⟨e,a⟩|⟨T,x⟩
 ·have hne:=parF_ne hO
  dsimp only at hne c1 ⊢
  ((repeat' ((conv=>whnf);(first|(refine dW (id:=3) tO mixed (.pull 1 [2] (.pull 0 [2] (.one 2 .done))) (by kernel_rfl) (by kernel_rfl) ?_)|(refine VC.mk (by omega) ?_)|(refine Br.mk ?_ ?_<;>intro hb<;>(try replace hb:=Classical.not_not.1 hb)<;>(try (exfalso;omega)))|(refine New.mk ?_;intro b hb)|(refine CK.anewQ (Q:=fun h u h'=>∃ A n c,u = .tuple #[.slice A n c,.pointer none,.agg #[.int .i64 e,.int .i64 a] ]∧EaOk s goal (e,a)) (fun h hs=>c1 h (ht.at hs)) ?_;rintro h1 u h2 hs1 hg ⟨A,n,c,rfl,hEa⟩;refine⟨.tup [.val (.slice A n c),.val (.pointer none),.agg [.val (.int .i64 e),.val (.int .i64 a)] ],rfl,?_⟩)|(refine ft_neq ?_)|fail)));all_goals (try (conv=>whnf)))
  all_goals exact⟨fun h' hs=>⟨(show Later h [] h2 _ from (hs1.later hg).lB).bas.fin hs,rfl⟩⟩
 ·obtain⟨hcx,hwx⟩:=hc _ _ hO
  have hok:=parF_ok hO
  dsimp only at c1 ⊢
  ((repeat' ((conv=>whnf);(first|(refine dW (id:=9) tO mixed (.pull 0 [2,3] (.pull 2 [3] (.pull 1 [3] (.one 3 .done)))) (by kernel_rfl) (by kernel_rfl) ?_)|(refine VC.mk (by (first|omega|rfl)) ?_)|(refine Br.mk ?_ ?_<;>intro hb<;>(try replace hb:=Classical.not_not.1 hb)<;>(try (exfalso;omega)))|(refine New.mk ?_;intro b hb)|(refine CK.anewQ (Q:=fun h u h'=>∃ A n c p,u = .tuple #[.slice A n c,.pointer p,.agg #[.int .i64 0,.int .i64 0] ]∧(Held tokR h' [] A n T∧∀ x,0<n→A=some x→h.size≤x.block)∧TrI h.size h' [] p x) (fun h hs=>(c1 h (ht.at hs)).mono fun u h' ⟨a1,A,n,c,p,a2⟩=>⟨a1,A,n,c,p,a2⟩) ?_;rintro h1 u h2 hs1 hg ⟨A,n,c,p,rfl,⟨hT,hf⟩,hTr⟩;refine⟨.tup [.val (.slice A n c),.val (.pointer p),.agg [.val (.int .i64 0),.val (.int .i64 0)] ],rfl,?_⟩)|(refine ft_neq ?_)|(refine leaf_fn tO rfl rfl ?_;(conv=>whnf);refine⟨.val (.func (.func 30) #[] #[ptr _,ptr _,ptr _,ptr _,ptr _]),rfl,?_⟩)|(refine CK.tk (q:=⟨_,_,_,_,_,_,s,A,n,c⟩) (x:=⟨[],none⟩) (l:=(flat x).map (partN ⟨s,T,[]⟩)) (r:=[(8,_,_),(5,_,_)]) ⟨rfl,rfl,rfl,rfl,rfl,rfl,rfl,rfl,rfl,rfl,rfl,rfl,rfl,rfl,rfl,rfl,trivial⟩ (fun h3 hs2 hs3 hsub=>walk30 _ x (Nat.le_refl _) 0 _ T _ h3 _ hs3 ⟨fun _=>rfl,fun b c e=>(by cases e)⟩ (by simpa using hcx) hok ((hT.freshen hf hs1).later (hs2.lB.less hsub)) hwx (TrI.later (hs2.lB.less hsub) (Nat.le_refl _) _ (hTr.recap (fun c hm=>.inr (hs1.blks_of hm).1) (Nat.zero_le _)))) (fun x' e1 e2=>?_);obtain⟨L2,o2⟩:=x';obtain⟨e20,e21⟩:=e2;dsimp only at e1 e20 e21;rw [List.nil_append] at e1;rcases o2 with _|⟨b3,c3⟩;(exact absurd (e20 rfl) (by rw [e1];have:=flat_pos x;intro e;rw [List.map_eq_nil_iff] at e;rw [e] at this;exact absurd this (Nat.lt_irrefl 0))))|fail)));all_goals (try (conv=>whnf)))
  all_goals
   subst e1
   have hl:Later h [] h2 _:=(hs1.later hg).lB
   exact⟨fun h' hs=>⟨hl.bas.fin hs,some ⟨b3,0,none⟩,((flat x).map (partN ⟨s,T,[]⟩)).length,c3,rfl,⟨Held.ofC hs (k:=50) rfl rfl,fun a _ ha=>by cases ha;exact freshC hs (k:=50) rfl hl.size hl.bas.cp⟩⟩⟩
end Go.Ex
namespace Go.Ex
open Go.Proofs
mutual
theorem flat_cnt:∀ x:Nd,((flat x).length:Int)=cntN x
 |.mk k w f t l=>by
  have h:=flatL_cnt l
  simp only [flat,cntN,List.length_cons]
  omega
theorem flatL_cnt:∀ l:List Nd,((flatL l).length:Int)=cntL l
 |[]=>by simp [flatL,cntL]
 |x::r=>by
  have h1:=flat_cnt x
  have h2:=flatL_cnt r
  simp only [flatL,cntL,List.length_append]
  omega
end
theorem nestT_len(s:ByteArray):((nestT s).length:Int)≤65537:=by
 have h:=(semF_ok s).2.1
 unfold nestT nestF
 split
 ·split
  ·exact h
  ·simp
 ·simp
structure TreeW(I:In)(x:Nd):Prop where
 wel:Wel I x
 frm:x.frm=0
 to:pc I x.to=pc I I.L
 rest:∀ i,x.to≤i→i<I.L→word I i=(⟨#[59]⟩:ByteArray)
 cnt:cntN x≤2000*I.L+200
theorem treeS_well{I:In}{goal:Int}{x:Nd}{m:Int}(hg:1≤goal∧goal≤4)(h:treeS I goal = .ok x m):TreeW I x:=by
 have hL:0≤I.L:=by unfold In.L;omega
 have key:OkP (treeS I goal) fun x m=>TreeW I x:=by
  unfold treeS
  have H:=all_law I (fT I)
  have h3:goal=1∨goal=2∨goal=3∨goal=4:=by omega
  have fin:∀ (x:Nd) (m:Int),Wel I x→x.frm=0→x.to≤m→pc I x.to=pc I m→(∀ i,x.to≤i→i<m→word I i=(⟨#[59]⟩:ByteArray))→cntN x≤2000*m+200→m≤I.L→OkP (if endS I goal m=I.L then .ok x (endS I goal m) else .err (endS I goal m):Out Nd) fun x m=>TreeW I x:=by
   intro x m w f t p r c l
   refine OkP.ite (fun h=>OkP.ok ?_) fun h=>OkP.err
   unfold endS at h
   split at h
   ·rename_i c2
    unfold maybe at h
    split at h
    ·rename_i c3
     have q:=wq I c3 (by decide)
     refine⟨w,f,?_,?_,by omega⟩
     ·rw [←h,q.2.2];exact p
     ·intro i h1 h2
      by_cases h4:i<m
      ·exact r i h1 h4
      ·rw [show i=m by omega];exact c3
    ·omega
   ·exact⟨w,f,by rw [←h];exact p,fun i h1 h2=>r i h1 (by omega),by omega⟩
  rcases h3 with rfl|rfl|rfl|rfl
  ·refine OkP.bnd (H.ex .typ false 0 rfl ⟨by omega,hL⟩ trivial) ?_
   rintro x m ⟨w1,⟨f1,f2⟩,⟨t1,t2⟩,p1,l1,c1⟩;(try simp only [cF,rank] at c1);have r1:=w1.rng
   exact fin x m w1 f1 (by omega) t2 (fun i h1 h2=>by omega) (by omega) l1
  ·refine OkP.bnd (H.ex .expr false 0 rfl ⟨by omega,hL⟩ trivial) ?_
   rintro x m ⟨w1,⟨f1,f2⟩,⟨t1,t2⟩,p1,l1,c1⟩;(try simp only [cF,rank] at c1);have r1:=w1.rng
   exact fin x m w1 f1 (by omega) t2 (fun i h1 h2=>by omega) (by omega) l1
  ·refine OkP.bnd (H.ss false 0 ⟨by omega,hL⟩) ?_
   rintro x m ⟨w1,⟨f1,f2⟩,e1,⟨t1,t2⟩,p1,l1,c1,s1⟩;(try simp only [cF,rank] at c1);have r1:=w1.rng
   exact fin x m w1 f1 (by omega) t2 s1 (by omega) l1
  ·refine OkP.bnd (H.ex .file false 0 rfl ⟨by omega,hL⟩ trivial) ?_
   rintro x m ⟨w1,⟨f1,f2⟩,⟨t1,t2⟩,p1,l1,c1⟩;(try simp only [cF,rank] at c1);have r1:=w1.rng
   exact fin x m w1 f1 (by omega) t2 (fun i h1 h2=>by omega) (by omega) l1
 exact key x m h
theorem parF_well{s:ByteArray}{goal:Int}{T:List Tok}{x:Nd}(h:parF s goal = .inr (T,x)):TreeW (inS s) x:=by
 obtain⟨_,_,hg,m,e⟩:=parF_in h
 exact treeS_well hg e
theorem parF_cnt{s:ByteArray}{goal:Int}{T:List Tok}{x:Nd}(h:parF s goal = .inr (T,x)):(flat x).length≤1000000000:=by
 have h1:=(parF_well h).cnt
 have h2:=flat_cnt x
 have h3:(inS s).L≤65537:=nestT_len s
 omega
end Go.Ex
namespace Go.Proofs.YtpjdgifhhnjclaaGreatDoor
open Go.ChangeShapes Go.WideShapes Go.ChangeAt Go.RowKit Go.Ex Go.ChangeMaps Go.Lib
theorem Tryz.own:ownKnob Tryz.prog.godebug=none:=by kernel_rfl
theorem below_of{w w':World}(h:w'.os=w.os∧w'.tape=w.tape∧w'.output=w.output)(g:Grows w.heap w'.heap):Below w.heap.size w w':=⟨h.1,h.2.1,h.2.2,g.size,g.same⟩
theorem reach_le{H:Type}{ts:List TypeId}{ds:List (DataW H)}(h:(DataW.weightsEach Tryz.prog ts ds).all (·≤reachBytes)=true){j:Nat}{t:TypeId}{d:DataW H}(ht:ts[j]?=some t)(hd:ds[j]?=some d){n:Nat}(hn:n∈d.weights Tryz.prog t):n≤140737488355328:=by
 have:=List.all_eq_true.1 h _ (DataW.weights_mem_each ht hd n hn)
 have h2:=reachBytes_lt
 simp only [decide_eq_true_eq] at this
 omega
theorem text_le{H:Type}{ts:List TypeId}{ds:List (DataW H)}(h:(DataW.weightsEach Tryz.prog ts ds).all (·≤reachBytes)=true){j:Nat}{s:ByteArray}(ht:ts[j]?=some 9)(hd:ds[j]?=some (.lit (.string s.data.toList))):s.size≤140737488355328:=by
 refine reach_le h ht hd ?_
 have e:s.data.toList.length=s.size:=by rw [Array.length_toList];rfl
 simp only [DataW.weights,List.mem_singleton]
 exact e.symm
abbrev laid2 : List (String × DataW Unit) := [("unicode/utf8.acceptRanges", Rows.laid_unicode_utf8_acceptRanges), ("unicode/utf8.first", Rows.laid_unicode_utf8_first)]
theorem acc_eq:(Rows.laid_unicode_utf8_acceptRanges:DataW Unit)=acceptData:=by kernel_rfl
theorem first_eq:Rows.laid_unicode_utf8_first=firstData:=Pinned.utf8First_eq
set_option maxRecDepth 100000 in
theorem tabs_of{W:World}(hsh:W.ShapedOpen Tryz.prog)(hL:laidMet Tryz.prog laid2 W):TabsH W.heap:=by
 obtain⟨m,hm⟩:=cell_of_shapedOpen_int (P:=Tryz.prog) (g:=0) (t:=3) (zero:=#[.int .i64 0]) hsh (of_decide_eq_true (by kernel_rfl)) (by kernel_rfl) rfl (by kernel_rfl) (by kernel_rfl) Tryz.underlying3
 have hT:Lib.Utf8Tabs 1 2 W:=utf8Tabs_of_reads (ρ:=Tryz.lays260_ren) { Tryz.lays260 with } ⟨by kernel_rfl,by kernel_rfl,by kernel_rfl,by kernel_rfl,by kernel_rfl,by kernel_rfl,by kernel_rfl⟩
  (first_eq▸Lib.laidMet.reads hL (.tail _ (.head _))) (acc_eq▸Lib.laidMet.reads hL (.head _))
 exact⟨⟨m,by rw [←cell_of];exact hm⟩,fun c hc=>by rw [←cell_of];exact hT.1 c hc,fun i hi=>by rw [←cell_of,←cell_of];exact hT.2 i hi⟩
set_option maxRecDepth 100000 in
theorem returns_laid{H:Type}{enc:TypeId×Value→H}{os:Os}{f:FuncId}{fn:Func}{s:ChangeSpec}{conds:List PathCond}{apart fresh handsOn again:Bool}
 (started:os.Started) (noInit:Tryz.prog.inits.idxOf? f=none) (hfn:Tryz.prog.funcs[f]?=some fn)
 (witness:∃ (w:World) (tape:Tape) (i:Input),w.os=os∧(w.forCall tape i).Shaped Tryz.prog∧i.vars=[]∧Input.okWide Tryz.prog (w.forCall tape i) .any w.heap.size f i ∧
  ((s.pre enc Tryz.prog fn conds apart (w.forCall tape i).memory i.args∧laidMetH Tryz.prog laid2 (w.forCall tape i).memory)∧sizedMet enc Tryz.prog fn (OpenSpec.ofChange s) apart (w.forCall tape i).memory i.args)∧({}:Assume).holds Tryz.prog (lone (Frame.enter Tryz.prog f i.args .normal) [] (w.forCall tape i)))
 (contract:∀ (W:World) (base:Nat) (args:Array Value) (ds gs:List (DataW H)) (before:List MemPlace),
  (∀ (j:Nat) t v,fn.params[j]?=some t→args[j]?=some v→Value.okWide Tryz.prog W .any base t v) →
  DataW.Whole enc Tryz.prog fn.params.toList s.vars apart W args.toList ds gs before →
  (DataW.weightsEach Tryz.prog (fn.params.toList++s.plain.varTypes Tryz.prog) (ds++gs)).all (·≤reachBytes)=true→TabsH W.heap →
  Calls Tryz.prog f args W fun e W'=>∃ v,e = .returned v∧s.post enc Tryz.prog fn apart fresh handsOn again W args v W') :
 ReturnsInHanded {} Tryz.checked os f .any (fun w args=>(s.pre enc Tryz.prog fn conds apart w args∧laidMetH Tryz.prog laid2 w)∧sizedMet enc Tryz.prog fn (OpenSpec.ofChange s) apart w args) (s.post enc Tryz.prog fn apart fresh handsOn again):=by
 refine returnsInHanded_of_calls (C:=Tryz.checked) Tryz.own started noInit witness ?_
 intro w tape i _ hsh _ hok hpre hholds
 obtain⟨_,_,_,fn',hfn',_,_,_,_,hval⟩:=hok
 have e:fn'=fn:=Option.some.inj (hfn'.symm.trans hfn)
 subst e
 obtain⟨⟨⟨ds,gs,before,hw,hc⟩,hx⟩,hz⟩:=hpre
 have hw':=DataW.Whole.of_heap (w':=w.forCall tape i) (by rfl) hw
 have hL0:laidMetH Tryz.prog laid2 (w.forCall tape i):=hx.of_heap (by rfl)
 rw [MakeChecks.laidMetH_plain _ _ _ (by kernel_rfl)] at hL0
 refine (contract (w.forCall tape i) w.heap.size i.args ds gs before hval hw' (hz.weights hw) (tabs_of hsh hL0)).mono fun e W' ⟨v,he,hp⟩=>?_
 subst he
 exact ChangeSpec.post_blind hp
end Go.Proofs.YtpjdgifhhnjclaaGreatDoor
namespace Go.Ex
open Go.Proofs
attribute [local irreducible] CH
theorem noneT_any(e a:Int)(h:Heap):CH Tryz.prog 12 #[.agg #[.int .i64 e,.int .i64 a]] h fun v h'=>v=denC (.prop (e=0∧a=0))∧Grows h h':=by
 refine enter (rep:=rep) (m:=1) (ex:=[1,2]) (cu:=[]) tO Tryz.func12 rfl (by decide) (rs:=[.tmp 2]) rfl rfl [.agg [.val (.int .i64 e),.val (.int .i64 a)]] rfl ?_
 ((repeat' ((conv=>whnf);(first|(refine VC.mk (by omega) ?_)|(refine New.mk ?_;intro b hb)|(refine ft_eql ?_)|fail)));all_goals (try (conv=>whnf)))
 all_goals exact⟨fun h' hs=>⟨rfl,hs.grows⟩⟩
theorem goalT_any(n:Int)(h:Heap)(hn:0≤n∧n<256):CH Tryz.prog 9 #[.int .u8 n] h fun v h'=>v = .int .u8 (1+n % 4)∧Grows h h':=by
 refine enter (rep:=rep) (m:=1) (ex:=[0,2]) (cu:=[]) tO Tryz.func9 rfl (by decide) (rs:=[.tmp 2]) rfl rfl [.val (.int .u8 n)] rfl ?_
 ((repeat' ((conv=>whnf);(first|(refine Ar.fit (by omega) ?_)|(refine VC.mk (by omega) ?_)|(refine Br.mk ?_ ?_<;>intro hb<;>(try (exfalso;omega)))|fail)));all_goals (try (conv=>whnf)))
 all_goals exact⟨fun h' hs=>⟨by first|rfl|(simp [den,den1,denC];omega),hs.grows⟩⟩
abbrev s0:ByteArray:=(⟨#[97,32,43,32,98,32,47,42,32,99,32,42,47]⟩:ByteArray)
theorem par_s0:parF s0 2 = .inr ([⟨1,0,1⟩,⟨8,2,3⟩,⟨1,4,5⟩,⟨9,5,5⟩],.mk 37 1 0 3 [.mk 26 0 0 1 [],.mk 26 2 2 3 []]):=by kernel_rfl
theorem flat_s0:(flat (.mk 37 1 0 3 [.mk 26 0 0 1 [],.mk 26 2 2 3 []])).map (partN ⟨s0,[⟨1,0,1⟩,⟨8,2,3⟩,⟨1,4,5⟩,⟨9,5,5⟩],[]⟩)=[⟨37,2,(⟨#[43]⟩:ByteArray)⟩,⟨26,0,(⟨#[97]⟩:ByteArray)⟩,⟨26,0,(⟨#[98]⟩:ByteArray)⟩]:=by kernel_rfl
theorem pt_eql{κ:KV→Prop}(h:κ (.prop True)):EqK Tryz.prog .eql 51 (.agg [.val (.int .u8 37),.val (.int .i64 2),.val (.string ⟨#[43]⟩)]) (.agg [.val (.int .u8 37),.val (.int .i64 2),.val (.string ⟨#[43]⟩)]) κ:=⟨True,fun u v w=>by
 have e:denC (.prop True) = .bool true:=by simp [denC]
 show (do eqGuard .eql 51 u v (.agg #[.int .u8 37,.int .i64 2,.string ⟨#[43]⟩]) (.agg #[.int .u8 37,.int .i64 2,.string ⟨#[43]⟩]);binOp .eql 51 (.agg #[.int .u8 37,.int .i64 2,.string ⟨#[43]⟩]) (.agg #[.int .u8 37,.int .i64 2,.string ⟨#[43]⟩]):Sem Value).run Tryz.prog w = .ok (denC (.prop True)) w
 rw [e]
 kernel_rfl,h⟩
theorem termS_any(h:Heap)(ht:TabsH h):CH Tryz.prog 16 #[.int .u8 2,.string s0] h fun v h'=>Grows h h'∧∃ B m d,v = .tuple #[.slice B m d,.agg #[.int .i64 0,.int .i64 0]]∧(Held prtR h' [] B m [⟨37,2,(⟨#[43]⟩:ByteArray)⟩,⟨26,0,(⟨#[97]⟩:ByteArray)⟩,⟨26,0,(⟨#[98]⟩:ByteArray)⟩]∧∀ x,0<m→B=some x→h.size≤x.block):=by
 refine (term_any s0 2 h ht (by decide) (fun T x e=>?_)).mono fun v h' h1=>?_
 ·rw [par_s0] at e
  cases e
  exact⟨by decide,by decide⟩
 ·unfold TerP at h1
  rw [par_s0] at h1
  dsimp only at h1
  rw [flat_s0] at h1
  exact h1
theorem awake_any(h:Heap)(ht:TabsH h):CH Tryz.prog 13 #[] h fun v h'=>v = .bool true∧Grows h h':=by
 refine enter (rep:=rep) (m:=0) (ex:=[0,1,2]) (cu:=[]) tO Tryz.func13 rfl (by decide) (rs:=[.tmp 0]) rfl rfl [] rfl ?_
 ((repeat' ((conv=>whnf);(first|(refine VC.mk (by omega) ?_)|(refine Br.mk ?_ ?_<;>intro hb<;>(try replace hb:=Classical.not_not.1 hb)<;>(try (contradiction)))|(refine New.mk ?_;intro b hb)|(refine CK.anewQ (f:=16) (Q:=fun h u h'=>∃ B m d,u = .tuple #[.slice B m d,.agg #[.int .i64 0,.int .i64 0] ]∧(Held prtR h' [] B m [⟨37,2,(⟨#[43]⟩:ByteArray)⟩,⟨26,0,(⟨#[97]⟩:ByteArray)⟩,⟨26,0,(⟨#[98]⟩:ByteArray)⟩]∧∀ x,0<m→B=some x→h.size≤x.block)) (fun h hs=>termS_any h (ht.at hs)) ?_;rintro h1 u h2 hs1 hg ⟨B,m,d,rfl,hP,hf⟩;refine⟨.tup [.val (.slice B m d),.agg [.val (.int .i64 0),.val (.int .i64 0)] ],rfl,?_⟩;have hPf:=hP.freshen hf hs1;have hn:=hP.sl.len_eq;have hpl:PlainA B:=hP.sl.plain (by rw [←hn];decide))|(apply CK.pure;(case hh=>(intro h1 hs;exact noneT_any _ _ h1)))|(refine XLoad.held hPf rfl (by omega) (by omega) rfl ?_)|(refine pt_eql ?_)|fail)));all_goals (try (conv=>whnf)))
 all_goals first
  |exact⟨fun h' hs=>⟨prop_true rfl,(show Later h [] h2 _ from (hs1.later hg).lB).bas.fin hs⟩⟩
  |(exfalso;simp only [List.length_cons,List.length_nil] at hn;omega)
  |(exfalso;simp_all;done)
end Go.Ex
namespace Go.Ex
open Go.Proofs
theorem nest_all(s:ByteArray)(h:¬ ((allF s).2.1=0∧(allF s).2.2=0)):nestE s=(allF s).2.1∧nestA s=(allF s).2.2:=by
 have h1:semF s=([],(allF s).2):=by unfold semF;rw [if_neg h]
 unfold nestE nestA nestF
 rw [h1]
 dsimp only
 rw [if_neg h]
 exact⟨rfl,rfl⟩
theorem nest_zero(s:ByteArray)(h:¬ (nestE s=0∧nestA s=0)):nestT s=[]:=by
 unfold nestE nestA at h
 unfold nestT
 unfold nestF at h ⊢
 split
 ·rename_i c
  rw [if_pos c] at h
  split
  ·rename_i c2
   rw [if_pos c2] at h
   exact absurd ⟨c2,nestGo_z s _ _ _ _ c2⟩ h
  ·rfl
 ·rfl
theorem par_nest(s:ByteArray)(goal:Int)(hg:1≤goal∧goal≤4)(h:¬ (nestE s=0∧nestA s=0)):parF s goal = .inl (nestE s,nestA s):=by
 unfold parF
 rw [if_neg (by omega),if_pos h]
theorem TabsH.later{h h':Heap}{c:List Nat}(ht:TabsH h)(hl:Later h [] h' c):TabsH h':=ht.congr fun b hb=>hl.same b (Nat.lt_of_lt_of_le hb ht.size) List.not_mem_nil
attribute [local irreducible] CH parF nestT nestP nestE nestA allF
theorem faults_any(n:Int)(s:ByteArray)(h:Heap)(hn0:0≤n∧n<256)(ht:TabsH h)(hz:s.size≤140737488355328)(hc:∀ T x,parF s (1+n % 4) = .inr (T,x)→(flat x).length≤1000000000) :
 CH Tryz.prog 3 #[.int .u8 n,.string s] h fun v h'=>v = .bool true∧Grows h h':=by
 refine enter (rep:=rep) (m:=2) (ex:=[4,5,6,7,9,11,12,13,49,52,60,78]) (cu:=[]) tO Tryz.func3 rfl (by decide) (rs:=[.tmp 4]) rfl rfl [.val (.int .u8 n),.val (.string s)] rfl ?_
 have cg:=fun h1=>goalT_any n h1 hn0
 obtain⟨goal,hgo⟩:∃ goal,1+n % 4=goal:=⟨_,rfl⟩
 have hg:1≤goal∧goal≤4:=by omega
 rw [hgo] at cg hc
 have cp:=fun h1 (ht:TabsH h1)=>parse_any s goal h1 ht hz hc
 unfold ParP at cp
 have cn:=fun h1 (ht:TabsH h1)=>nestO_any s h1 ht hz
 have ca:=fun h1 (ht:TabsH h1)=>all_any s h1 ht hz
 by_cases hG:nestE s=0∧nestA s=0
 ·have hA:(allF s).2.1=0∧(allF s).2.2=0:=Classical.byContradiction fun h0=>by have:=nest_all s h0;omega
  rw [hG.1,hG.2] at cn
  obtain⟨O,hO⟩:∃ O,parF s goal=O:=⟨_,rfl⟩
  rw [hO] at cp
  generalize allF s=al at *
  obtain⟨al,e2,a2⟩:=al
  dsimp only at hA
  obtain⟨rfl,rfl⟩:=hA
  rcases O with ⟨e,a⟩|⟨T,x⟩
  ·have key:EaOk s goal (e,a)→e=7∧(a=s.size∨∃ j:Nat,j<(nestT s).length∧(getI tokR.dflt (nestT s) j).frm=a):=fun h=>by
    obtain⟨x,hx,e1⟩:=h hg hG
    have e2:e=7:=congrArg Prod.fst e1
    have e3:a=atE (inS s) x:=congrArg Prod.snd e1
    refine⟨e2,?_⟩
    rw [e3]
    unfold atE
    split
    ·rename_i hlt
     have hlt':x<(nestT s).length:=hlt
     exact .inr ⟨x.toNat,by omega,by rw [Int.toNat_of_nonneg hx.1];rfl⟩
    ·exact .inl rfl
   dsimp only at cp
   generalize nestT s=T at *
   ((repeat' ((conv=>whnf);(first|(refine VC.mk (by omega) ?_)|(refine Br.mk ?_ ?_<;>intro hb<;>(try replace hb:=Classical.not_not.1 hb)<;>(try (first|(exfalso;omega)|contradiction)))|(refine New.mk ?_;intro b hb)|(apply CK.pure;(case hh=>(intro h1 hs;exact cg h1)))|(refine CK.anewQ (f:=8) (Q:=fun h u h'=>u = .tuple #[.agg #[.slice none 0 0,.slice none 0 0],.agg #[.int .i64 e,.int .i64 a] ]∧EaOk s goal (e,a)) (fun h hs=>cp h (ht.at hs)) ?_;rintro h1 u h2 hs1 hg1 ⟨rfl,hEa⟩;refine⟨.tup [.agg [.val (.slice none 0 0),.val (.slice none 0 0)],.agg [.val (.int .i64 e),.val (.int .i64 a)] ],rfl,?_⟩;obtain⟨he7,hat⟩:=key hEa;have hl1:Later h [] h2 _:=(hs1.later hg1).lB)|(refine CK.nest (f:=10) (fun h hs=>cn h (ht.later (hl1.trans hs.lB))) ?_;intro h3 A1 n1 c1 B1 m1 d1 hl2 hT1 hP1 hf1 hf2;have hn1:=hT1.sl.len_eq;have hl2:=hl1.trans hl2)|(refine CK.slf (f:=11) (fun h hs=>ca h (ht.later (hl2.trans hs.lB))) ?_;intro h4 A2 n2 c2 hl3 hA2 hfr;have hl3':=hl2.trans hl3)|(apply CK.pure;(case hh=>(intro h1 hs;exact noneT_any _ _ h1)))|(apply CK.pure;(case hh=>(intro h1 hs;exact awake_any h1 (ht.later (hl3'.trans hs.lB)))))|(refine ft_neq ?_)|fail)));all_goals (try (conv=>whnf)))
   all_goals first
    |exact⟨fun h' hs=>⟨prop_true rfl,hl3'.bas.fin hs⟩⟩
    |(exfalso;refine absurd (show ¬ (decide ((0:Int)=0∧(0:Int)=0)=true) from ?_) (by simp);(first|assumption|(simp only [decide_eq_true_eq] at *;assumption)))
    |(exfalso;simp only [decide_eq_true_eq] at *;omega)
    |(exfalso;rename_i hbb;rw [decide_eq_true_eq] at hbb;omega)
    |(exfalso;have hbb:decide (e=0∧a=0)=true:=(by assumption);rw [decide_eq_true_eq] at hbb;omega)
    |skip
   rename_i b5 hb5 b6 hb6 hl2o b9 hb9 hb11 c1 c2 c3
   refine lgn tO [12,13] (fun y:Bool×Nat=>[(12,.val (.bool y.1)),(13,.val (.int .i64 y.2))]) (fun y=>⟨h4,[b9,b6,b5],[(11,b,.box 28 [.val (.int .i64 0),.val (.int .i64 0)]),(9,b9,.box 28 [.val (.int .i64 0),.val (.int .i64 0)]),(6,b6,.box 28 [.val (.int .i64 e),.val (.int .i64 a)]),(5,b5,.box 25 [.val (.slice none 0 0),.val (.slice none 0 0)])]⟩) (fun μ y=>(y.1=true∨∃ j:Nat,y.2≤j∧j<T.length∧(getI tokR.dflt T j).frm=a)∧y.2+μ=T.length) ?_
   conv=>whnf
   refine⟨fun h5 hs=>⟨T.length,(decide (a=s.size),0),⟨by rcases hat with h|⟨j,h⟩<;>first|exact .inl (by simpa using h)|exact .inr ⟨j,Nat.zero_le _,h⟩,by simp⟩,?_,hs.ren [11,9,6,5] ⟨⟨_,rfl,SC.box rfl⟩,rfl,⟨_,rfl,SC.box rfl⟩,rfl,⟨_,rfl,SC.box rfl⟩,rfl,⟨_,rfl,SC.box rfl⟩,rfl,trivial⟩⟩,?_⟩
   ·refine And.intro ⟨_,rfl,by first|rfl|(simp [den,den1,denC];done)⟩ ?_
    (repeat (refine And.intro ⟨_,rfl,by first|rfl|(simp [den,den1,denC];done)⟩ ?_));exact trivial
   rintro μ ⟨b1,i⟩ ⟨t1,t2⟩
   dsimp only at t1 t2 ⊢
   have hTk:Held tokR h4 [b9,b6,b5] A1 n1 T:=hT1.later hl3
   have hsm:=hTk.sl.small
   by_cases hi:i<T.length
   ·obtain⟨f,rfl⟩:∃ f,μ=f+1:=⟨μ-1,by omega⟩
    have hpl:PlainA A1:=hTk.sl.plain (by omega)
    have hTn:=hTk.sl.len_eq
    cases b1
    ·((repeat' ((conv=>whnf);(first|(refine dW (id:=14) tO mixed (.pull 0 [1,2,3,4,5,6,7,8,9,10,11] (.pull 1 [2,3,4,5,6,7,8,9,10,11] (.pull 2 [4,5,6,9,10,11] (.pull 3 [4,5,6,9,10,11] (.pull 4 [5,6,9,10,11] (.pull 5 [6,9,10,11] (.pull 7 [8,9,10,11] (.pull 6 [9,10,11] (.pull 8 [9,10,11] (.pull 9 [10,11] (.pull 10 [11] (.pull 11 [] .done)))))))))))) (by kernel_rfl) (by kernel_rfl) ?_)|(refine Ar.fit (by omega) ?_)|(refine VC.mk (by omega) ?_)|(refine Br.mk ?_ ?_<;>intro hb<;>(try replace hb:=Classical.not_not.1 hb)<;>(try (exfalso;omega)))|(refine XLoad.held hTk rfl (by omega) (by omega) rfl ?_)|fail)));all_goals (try (conv=>whnf)))
     all_goals
      intro h6 hs
      refine⟨f,(decide ((getI tokR.dflt T i).frm=a),i+1),⟨?_,by dsimp only;omega⟩,Nat.lt_succ_self f,?_,hs.ren [11,9,6,5] ⟨⟨_,rfl,SC.rfl⟩,rfl,⟨_,rfl,SC.rfl⟩,rfl,⟨_,rfl,SC.rfl⟩,rfl,⟨_,rfl,SC.rfl⟩,rfl,trivial⟩⟩
      ·dsimp only
       rcases t1 with t1|⟨j,t3,t4,t5⟩
       ·cases t1
       ·by_cases hij:j=i
        ·subst hij;exact .inl (by simpa using t5)
        ·exact .inr ⟨j,by omega,t4,t5⟩
      ·refine And.intro ⟨_,rfl,by first|rfl|(simp [den,den1,denC];done)⟩ ?_
       (repeat (refine And.intro ⟨_,rfl,by first|rfl|(simp [den,den1,denC];done)⟩ ?_));exact trivial
    ·((repeat' ((conv=>whnf);(first|(refine dW (id:=14) tO mixed (.pull 0 [1,2,3,4,5,6,7,8,9,10,11] (.pull 1 [2,3,4,5,6,7,8,9,10,11] (.pull 2 [4,5,6,9,10,11] (.pull 3 [4,5,6,9,10,11] (.pull 4 [5,6,9,10,11] (.pull 5 [6,9,10,11] (.pull 7 [8,9,10,11] (.pull 6 [9,10,11] (.pull 8 [9,10,11] (.pull 9 [10,11] (.pull 10 [11] (.pull 11 [] .done)))))))))))) (by kernel_rfl) (by kernel_rfl) ?_)|(refine Ar.fit (by omega) ?_)|(refine Br.mk ?_ ?_<;>intro hb<;>(try replace hb:=Classical.not_not.1 hb)<;>(try (exfalso;omega)))|fail)));all_goals (try (conv=>whnf)))
     all_goals
      intro h6 hs
      refine⟨f,(true,i+1),⟨.inl rfl,by dsimp only;omega⟩,Nat.lt_succ_self f,?_,hs.ren [11,9,6,5] ⟨⟨_,rfl,SC.rfl⟩,rfl,⟨_,rfl,SC.rfl⟩,rfl,⟨_,rfl,SC.rfl⟩,rfl,⟨_,rfl,SC.rfl⟩,rfl,trivial⟩⟩
      refine And.intro ⟨_,rfl,by first|rfl|(simp [den,den1,denC];done)⟩ ?_
      (repeat (refine And.intro ⟨_,rfl,by first|rfl|(simp [den,den1,denC];done)⟩ ?_));exact trivial
   ·have hb1:b1=true:=by rcases t1 with t1|⟨j,t3,t4,t5⟩;exact t1;omega
    subst hb1
    subst he7
    have hTn:=hTk.sl.len_eq
    ((repeat' ((conv=>whnf);(first|(refine VC.mk (by omega) ?_)|(refine Br.mk ?_ ?_<;>intro hb<;>(try replace hb:=Classical.not_not.1 hb)<;>(try (exfalso;omega)))|(apply CK.pure;(case hh=>(intro h1 hs;exact awake_any h1 (ht.later (hl3'.trans hs.lB)))))|fail)));all_goals (try (conv=>whnf)))
    all_goals first
     |exact⟨fun h' hs=>⟨prop_true rfl,hl3'.bas.fin hs⟩⟩
     |exact⟨fun h' hs=>⟨rfl,hl3'.bas.fin hs⟩⟩
  ·have hTT:=(parF_in hO).2.1
   subst hTT
   dsimp only at cp
   generalize nestT s=T at *
   ((repeat' ((conv=>whnf);(first|(refine VC.mk (by omega) ?_)|(refine Br.mk ?_ ?_<;>intro hb<;>(try replace hb:=Classical.not_not.1 hb)<;>(try (first|(exfalso;omega)|contradiction)))|(refine New.mk ?_;intro b hb)|(apply CK.pure;(case hh=>(intro h1 hs;exact cg h1)))|(refine CK.anewQ (f:=8) (Q:=fun h u h'=>∃ A n c B m d,u = .tuple #[.agg #[.slice A n c,.slice B m d],.agg #[.int .i64 0,.int .i64 0] ]∧(Held tokR h' [] A n T∧∀ x,0<n→A=some x→h.size≤x.block)∧(Held ndeR h' [] B m (flat x)∧∀ x,0<m→B=some x→h.size≤x.block)) (fun h hs=>cp h (ht.at hs)) ?_;rintro h1 u h2 hs1 hg1 ⟨A,n,c,B,m,d,rfl,⟨hT0,_⟩,_⟩;have hn0':=hT0.sl.len_eq;refine⟨.tup [.agg [.val (.slice A n c),.val (.slice B m d)],.agg [.val (.int .i64 0),.val (.int .i64 0)] ],rfl,?_⟩;have hl1:Later h [] h2 _:=(hs1.later hg1).lB)|(refine CK.nest (f:=10) (fun h hs=>cn h (ht.later (hl1.trans hs.lB))) ?_;intro h3 A1 n1 c1 B1 m1 d1 hl2 hT1 hP1 hf1 hf2;have hn1:=hT1.sl.len_eq;have hl2:=hl1.trans hl2)|(refine CK.slf (f:=11) (fun h hs=>ca h (ht.later (hl2.trans hs.lB))) ?_;intro h4 A2 n2 c2 hl3 hA2 hfr;have hl3':=hl2.trans hl3)|(apply CK.pure;(case hh=>(intro h1 hs;exact noneT_any _ _ h1)))|(apply CK.pure;(case hh=>(intro h1 hs;exact awake_any h1 (ht.later (hl3'.trans hs.lB)))))|(refine ft_neq ?_)|fail)));all_goals (try (conv=>whnf)))
   all_goals first
    |exact⟨fun h' hs=>⟨prop_true rfl,hl3'.bas.fin hs⟩⟩
    |exact⟨fun h' hs=>⟨rfl,hl3'.bas.fin hs⟩⟩
    |(exfalso;refine absurd (show ¬ (decide ((0:Int)=0∧(0:Int)=0)=true) from ?_) (by simp);(first|assumption|(simp only [decide_eq_true_eq] at *;assumption)))
    |(exfalso;simp only [decide_eq_true_eq] at *;simp only [List.length_nil] at hn1;omega)
    |(exfalso;simp only [decide_eq_true_eq,List.length_nil] at *;omega)
 ·have hO:=par_nest s goal hg hG
  have hT:=nest_zero s hG
  rw [hO] at cp
  rw [hT] at cn
  dsimp only at cp
  have hA:((allF s).2.1=0∧(allF s).2.2=0)∨nestE s=(allF s).2.1∧nestA s=(allF s).2.2:=by
   by_cases h0:(allF s).2.1=0∧(allF s).2.2=0
   ·exact .inl h0
   ·exact .inr (nest_all s h0)
  obtain⟨e,he⟩:∃ e,nestE s=e:=⟨_,rfl⟩
  obtain⟨a,ha⟩:∃ a,nestA s=a:=⟨_,rfl⟩
  rw [he,ha] at cn cp hA hG
  generalize allF s=al at *
  obtain⟨al,e2,a2⟩:=al
  dsimp only at hA
  ((repeat' ((conv=>whnf);(first|(refine VC.mk (by omega) ?_)|(refine Br.mk ?_ ?_<;>intro hb<;>(try replace hb:=Classical.not_not.1 hb)<;>(try (first|(exfalso;omega)|contradiction)))|(refine New.mk ?_;intro b hb)|(apply CK.pure;(case hh=>(intro h1 hs;exact cg h1)))|(refine CK.anewQ (f:=8) (Q:=fun h u h'=>u = .tuple #[.agg #[.slice none 0 0,.slice none 0 0],.agg #[.int .i64 e,.int .i64 a] ]∧EaOk s goal (e,a)) (fun h hs=>cp h (ht.at hs)) ?_;rintro h1 u h2 hs1 hg1 ⟨rfl,hEa⟩;refine⟨.tup [.agg [.val (.slice none 0 0),.val (.slice none 0 0)],.agg [.val (.int .i64 e),.val (.int .i64 a)] ],rfl,?_⟩;have hl1:Later h [] h2 _:=(hs1.later hg1).lB)|(refine CK.nest (f:=10) (fun h hs=>cn h (ht.later (hl1.trans hs.lB))) ?_;intro h3 A1 n1 c1 B1 m1 d1 hl2 hT1 hP1 hf1 hf2;have hn1:=hT1.sl.len_eq;have hl2:=hl1.trans hl2)|(refine CK.slf (f:=11) (fun h hs=>ca h (ht.later (hl2.trans hs.lB))) ?_;intro h4 A2 n2 c2 hl3 hA2 hfr;have hl3':=hl2.trans hl3)|(apply CK.pure;(case hh=>(intro h1 hs;exact noneT_any _ _ h1)))|(apply CK.pure;(case hh=>(intro h1 hs;exact awake_any h1 (ht.later (hl3'.trans hs.lB)))))|(refine ft_neq ?_)|fail)));all_goals (try (conv=>whnf)))
  all_goals first
   |exact⟨fun h' hs=>⟨prop_true rfl,hl3'.bas.fin hs⟩⟩
   |exact⟨fun h' hs=>⟨rfl,hl3'.bas.fin hs⟩⟩
   |(exfalso;refine absurd (show ¬ (decide ((0:Int)=0∧(0:Int)=0)=true) from ?_) (by simp);(first|assumption|(simp only [decide_eq_true_eq] at *;assumption)))
   |(exfalso;simp only [decide_eq_true_eq] at *;simp only [List.length_nil] at hn1;omega)
   |(exfalso;simp only [decide_eq_true_eq,List.length_nil] at *;omega)
end Go.Ex
