/-
  Top: TopDeep: whatever the input, the law answers true (part 46)
-/
import Derived.Test.YtpjdgifhhnjclaaGreatDoorCards
import Derived.Test.YtpjdgifhhnjclaaGreatDoorTie
import Derived.HandedShaped
import Derived.Handed
import Derived.ProofKit
import Derived.ChangeMaps5
import Derived.PinnedBridge
import Derived.Lib.LaidU8
import Derived.Shelf.Vars
import Derived.Lay
import Derived.LaidOnce
import Derived.SevenTiedAt
import Derived.Test.YtpjdgifhhnjclaaGreatDoorM16
import Derived.Test.YtpjdgifhhnjclaaGreatDoorM45
set_option linter.unusedVariables false
set_option linter.unusedSimpArgs false
set_option maxHeartbeats 4000000
set_option maxRecDepth 10000
namespace Go.Ex
open Go.Proofs
theorem parF_in{s:ByteArray}{goal:Int}{T:List Tok}{x:Nd}(h:parF s goal = .inr (T,x)):(nestE s=0∧nestA s=0)∧T=nestT s∧(1≤goal∧goal≤4)∧∃ m,treeS (inS s) goal = .ok x m:=by
 unfold parF at h
 split at h
 ·cases h
 ·rename_i c1
  split at h
  ·cases h
  ·rename_i c
   split at h
   ·rename_i x' m' e
    cases h
    exact⟨Classical.not_not.1 c,rfl,by omega,m',e⟩
   ·cases h
theorem parF_ok{s:ByteArray}{goal:Int}{T:List Tok}{x:Nd}(h:parF s goal = .inr (T,x)):InR ⟨s,T,[]⟩:=by
 obtain⟨h1,rfl,_⟩:=parF_in h
 have:=inS_ok s h1.1
 exact⟨this.len,this.size,this.rng⟩
def TerP(s:ByteArray)(goal:Int)(h:Heap)(v:Value)(h':Heap):Prop:=
 Grows h h'∧match parF s goal with
  |.inl ea=>v = .tuple #[.slice none 0 0,.agg #[.int .i64 ea.1,.int .i64 ea.2]]
  |.inr tx=>∃ B m d,v = .tuple #[.slice B m d,.agg #[.int .i64 0,.int .i64 0]]∧(Held prtR h' [] B m ((flat tx.2).map (partN ⟨s,tx.1,[]⟩))∧∀ x,0<m→B=some x→h.size≤x.block)
attribute [local irreducible] CH parF partN
theorem term_any(s:ByteArray)(goal:Int)(h:Heap)(ht:TabsH h)(hz:s.size≤140737488355328)(hc:∀ T x,parF s goal = .inr (T,x)→(flat x).length≤1000000000∧∀ y∈flat x,-1≤y.word∧y.word<T.length):CH Tryz.prog 16 #[.int .u8 goal,.string s] h (TerP s goal h):=by
 refine enter (rep:=rep) (m:=1) (ex:=[0,1,3,4,5,6,7,8,9,10,11,21]) (cu:=[8]) tO Tryz.func16 rfl (by decide) (rs:=[.tmp 4,.cell 5 28]) rfl rfl [.val (.int .u8 goal),.val (.string s)] rfl ?_
 have c1:=fun h1 (ht:TabsH h1)=>readT_any s goal h1 ht hz
 unfold ReadP at c1
 unfold TerP
 obtain⟨O,hO⟩:∃ O,parF s goal=O:=⟨_,rfl⟩
 rw [hO] at c1 ⊢
 rcases O with ⟨e,a⟩|⟨T,x⟩
 ·have hne:=parF_ne hO
  dsimp only at hne c1 ⊢
  ((repeat' ((conv=>whnf);(first|(refine dW (id:=3) tO mixed (.pull 1 [2] (.pull 0 [2] (.one 2 .done))) (by kernel_rfl) (by kernel_rfl) ?_)|(refine VC.mk (by omega) ?_)|(refine Br.mk ?_ ?_<;>intro hb<;>(try replace hb:=Classical.not_not.1 hb)<;>(try (exfalso;omega)))|(refine New.mk ?_;intro b hb)|(refine CK.anewQ (Q:=fun h u h'=>∃ A n c,u = .tuple #[.slice A n c,.pointer none,.agg #[.int .i64 e,.int .i64 a] ]∧EaOk s goal (e,a)) (fun h hs=>c1 h (ht.at hs)) ?_;rintro h1 u h2 hs1 hg ⟨A,n,c,rfl,hEa⟩;refine⟨.tup [.val (.slice A n c),.val (.pointer none),.agg [.val (.int .i64 e),.val (.int .i64 a)] ],rfl,?_⟩)|(refine ft_neq ?_)|fail)));all_goals (try (conv=>whnf)))
  all_goals exact⟨fun h' hs=>⟨(show Later h [] h2 _ from (hs1.later hg).lB).bas.fin hs,rfl⟩⟩
 ·obtain⟨hcx,hwx⟩:=hc _ _ hO
  have hok:=parF_ok hO
  dsimp only at c1 ⊢
  ((repeat' ((conv=>whnf);(first|(refine dW (id:=9) tO mixed (.pull 0 [2,3] (.pull 2 [3] (.pull 1 [3] (.one 3 .done)))) (by kernel_rfl) (by kernel_rfl) ?_)|(refine VC.mk (by (first|omega|rfl)) ?_)|(refine Br.mk ?_ ?_<;>intro hb<;>(try replace hb:=Classical.not_not.1 hb)<;>(try (exfalso;omega)))|(refine New.mk ?_;intro b hb)|(refine CK.anewQ (Q:=fun h u h'=>∃ A n c p,u = .tuple #[.slice A n c,.pointer p,.agg #[.int .i64 0,.int .i64 0] ]∧(Held tokR h' [] A n T∧∀ x,0<n→A=some x→h.size≤x.block)∧TrI h.size h' [] p x) (fun h hs=>(c1 h (ht.at hs)).mono fun u h' ⟨a1,A,n,c,p,a2⟩=>⟨a1,A,n,c,p,a2⟩) ?_;rintro h1 u h2 hs1 hg ⟨A,n,c,p,rfl,⟨hT,hf⟩,hTr⟩;refine⟨.tup [.val (.slice A n c),.val (.pointer p),.agg [.val (.int .i64 0),.val (.int .i64 0)] ],rfl,?_⟩)|(refine ft_neq ?_)|(refine leaf_fn tO rfl rfl ?_;(conv=>whnf);refine⟨.val (.func (.func 30) #[] #[ptr _,ptr _,ptr _,ptr _,ptr _]),rfl,?_⟩)|(refine CK.tk (q:=⟨_,_,_,_,_,_,s,A,n,c⟩) (x:=⟨[],none⟩) (l:=(flat x).map (partN ⟨s,T,[]⟩)) (r:=[(8,_,_),(5,_,_)]) ⟨rfl,rfl,rfl,rfl,rfl,rfl,rfl,rfl,rfl,rfl,rfl,rfl,rfl,rfl,rfl,rfl,trivial⟩ (fun h3 hs2 hs3 hsub=>walk30 _ x (Nat.le_refl _) 0 _ T _ h3 _ hs3 ⟨fun _=>rfl,fun b c e=>(by cases e)⟩ (by simpa using hcx) hok ((hT.freshen hf hs1).later (hs2.lB.less hsub)) hwx (TrI.later (hs2.lB.less hsub) (Nat.le_refl _) _ (hTr.recap (fun c hm=>.inr (hs1.blks_of hm).1) (Nat.zero_le _)))) (fun x' e1 e2=>?_);obtain⟨L2,o2⟩:=x';obtain⟨e20,e21⟩:=e2;dsimp only at e1 e20 e21;rw [List.nil_append] at e1;rcases o2 with _|⟨b3,c3⟩;(exact absurd (e20 rfl) (by rw [e1];have:=flat_pos x;intro e;rw [List.map_eq_nil_iff] at e;rw [e] at this;exact absurd this (Nat.lt_irrefl 0))))|fail)));all_goals (try (conv=>whnf)))
  all_goals
   subst e1
   have hl:Later h [] h2 _:=(hs1.later hg).lB
   exact⟨fun h' hs=>⟨hl.bas.fin hs,some ⟨b3,0,none⟩,((flat x).map (partN ⟨s,T,[]⟩)).length,c3,rfl,⟨Held.ofC hs (k:=50) rfl rfl,fun a _ ha=>by cases ha;exact freshC hs (k:=50) rfl hl.size hl.bas.cp⟩⟩⟩
end Go.Ex
namespace Go.Ex
open Go.Proofs
mutual
theorem flat_cnt:∀ x:Nd,((flat x).length:Int)=cntN x
 |.mk k w f t l=>by
  have h:=flatL_cnt l
  simp only [flat,cntN,List.length_cons]
  omega
theorem flatL_cnt:∀ l:List Nd,((flatL l).length:Int)=cntL l
 |[]=>by simp [flatL,cntL]
 |x::r=>by
  have h1:=flat_cnt x
  have h2:=flatL_cnt r
  simp only [flatL,cntL,List.length_append]
  omega
end
theorem nestT_len(s:ByteArray):((nestT s).length:Int)≤65537:=by
 have h:=(semF_ok s).2.1
 unfold nestT nestF
 split
 ·split
  ·exact h
  ·simp
 ·simp
structure TreeW(I:In)(x:Nd):Prop where
 wel:Wel I x
 frm:x.frm=0
 to:pc I x.to=pc I I.L
 rest:∀ i,x.to≤i→i<I.L→word I i=(⟨#[59]⟩:ByteArray)
 cnt:cntN x≤2000*I.L+200
theorem treeS_well{I:In}{goal:Int}{x:Nd}{m:Int}(hg:1≤goal∧goal≤4)(h:treeS I goal = .ok x m):TreeW I x:=by
 have hL:0≤I.L:=by unfold In.L;omega
 have key:OkP (treeS I goal) fun x m=>TreeW I x:=by
  unfold treeS
  have H:=all_law I (fT I)
  have h3:goal=1∨goal=2∨goal=3∨goal=4:=by omega
  have fin:∀ (x:Nd) (m:Int),Wel I x→x.frm=0→x.to≤m→pc I x.to=pc I m→(∀ i,x.to≤i→i<m→word I i=(⟨#[59]⟩:ByteArray))→cntN x≤2000*m+200→m≤I.L→OkP (if endS I goal m=I.L then .ok x (endS I goal m) else .err (endS I goal m):Out Nd) fun x m=>TreeW I x:=by
   intro x m w f t p r c l
   refine OkP.ite (fun h=>OkP.ok ?_) fun h=>OkP.err
   unfold endS at h
   split at h
   ·rename_i c2
    unfold maybe at h
    split at h
    ·rename_i c3
     have q:=wq I c3 (by decide)
     refine⟨w,f,?_,?_,by omega⟩
     ·rw [←h,q.2.2];exact p
     ·intro i h1 h2
      by_cases h4:i<m
      ·exact r i h1 h4
      ·rw [show i=m by omega];exact c3
    ·omega
   ·exact⟨w,f,by rw [←h];exact p,fun i h1 h2=>r i h1 (by omega),by omega⟩
  rcases h3 with rfl|rfl|rfl|rfl
  ·refine OkP.bnd (H.ex .typ false 0 rfl ⟨by omega,hL⟩ trivial) ?_
   rintro x m ⟨w1,⟨f1,f2⟩,⟨t1,t2⟩,p1,l1,c1⟩;(try simp only [cF,rank] at c1);have r1:=w1.rng
   exact fin x m w1 f1 (by omega) t2 (fun i h1 h2=>by omega) (by omega) l1
  ·refine OkP.bnd (H.ex .expr false 0 rfl ⟨by omega,hL⟩ trivial) ?_
   rintro x m ⟨w1,⟨f1,f2⟩,⟨t1,t2⟩,p1,l1,c1⟩;(try simp only [cF,rank] at c1);have r1:=w1.rng
   exact fin x m w1 f1 (by omega) t2 (fun i h1 h2=>by omega) (by omega) l1
  ·refine OkP.bnd (H.ss false 0 ⟨by omega,hL⟩) ?_
   rintro x m ⟨w1,⟨f1,f2⟩,e1,⟨t1,t2⟩,p1,l1,c1,s1⟩;(try simp only [cF,rank] at c1);have r1:=w1.rng
   exact fin x m w1 f1 (by omega) t2 s1 (by omega) l1
  ·refine OkP.bnd (H.ex .file false 0 rfl ⟨by omega,hL⟩ trivial) ?_
   rintro x m ⟨w1,⟨f1,f2⟩,⟨t1,t2⟩,p1,l1,c1⟩;(try simp only [cF,rank] at c1);have r1:=w1.rng
   exact fin x m w1 f1 (by omega) t2 (fun i h1 h2=>by omega) (by omega) l1
 exact key x m h
theorem parF_well{s:ByteArray}{goal:Int}{T:List Tok}{x:Nd}(h:parF s goal = .inr (T,x)):TreeW (inS s) x:=by
 obtain⟨_,_,hg,m,e⟩:=parF_in h
 exact treeS_well hg e
theorem parF_cnt{s:ByteArray}{goal:Int}{T:List Tok}{x:Nd}(h:parF s goal = .inr (T,x)):(flat x).length≤1000000000:=by
 have h1:=(parF_well h).cnt
 have h2:=flat_cnt x
 have h3:(inS s).L≤65537:=nestT_len s
 omega
end Go.Ex
namespace Go.Proofs.YtpjdgifhhnjclaaGreatDoor
open Go.ChangeShapes Go.WideShapes Go.ChangeAt Go.RowKit Go.Ex Go.ChangeMaps Go.Lib
theorem Tryz.own:ownKnob Tryz.prog.godebug=none:=by kernel_rfl
theorem below_of{w w':World}(h:w'.os=w.os∧w'.tape=w.tape∧w'.output=w.output)(g:Grows w.heap w'.heap):Below w.heap.size w w':=⟨h.1,h.2.1,h.2.2,g.size,g.same⟩
abbrev laid2 : List (String × DataW Unit) := [("unicode/utf8.acceptRanges", Rows.laid_unicode_utf8_acceptRanges), ("unicode/utf8.first", Rows.laid_unicode_utf8_first)]
theorem acc_eq:(Rows.laid_unicode_utf8_acceptRanges:DataW Unit)=acceptData:=by kernel_rfl
theorem first_eq:Rows.laid_unicode_utf8_first=firstData:=Pinned.utf8First_eq
set_option maxRecDepth 100000 in
theorem tabs_of{W:World}(hsh:W.ShapedOpen Tryz.prog)(hL:laidMet Tryz.prog laid2 W):TabsH W.heap:=by
 obtain⟨m,hm⟩:=cell_of_shapedOpen_int (P:=Tryz.prog) (g:=0) (t:=3) (zero:=#[.int .i64 0]) hsh (of_decide_eq_true (by kernel_rfl)) (by kernel_rfl) rfl (by kernel_rfl) (by kernel_rfl) Tryz.underlying3
 have hT:Lib.Utf8Tabs 1 2 W:=utf8Tabs_of_reads (ρ:=Tryz.lays260_ren) { Tryz.lays260 with } ⟨by kernel_rfl,by kernel_rfl,by kernel_rfl,by kernel_rfl,by kernel_rfl,by kernel_rfl,by kernel_rfl⟩
  (first_eq▸Lib.laidMet.reads hL (.tail _ (.head _))) (acc_eq▸Lib.laidMet.reads hL (.head _))
 exact⟨⟨m,by rw [←cell_of];exact hm⟩,fun c hc=>by rw [←cell_of];exact hT.1 c hc,fun i hi=>by rw [←cell_of,←cell_of];exact hT.2 i hi⟩
set_option maxRecDepth 100000 in
theorem returns_laid{H:Type}{enc:TypeId×Value→H}{os:Os}{f:FuncId}{fn:Func}{s:ChangeSpec}{conds:List PathCond}{apart fresh handsOn again:Bool}
 (started:os.Started) (noInit:Tryz.prog.inits.idxOf? f=none) (hfn:Tryz.prog.funcs[f]?=some fn)
 (witness:∃ (w:World) (tape:Tape) (i:Input),w.os=os∧(w.forCall tape i).Shaped Tryz.prog∧i.vars=[]∧Input.okWide Tryz.prog (w.forCall tape i) .any w.heap.size f i ∧
  ((s.pre enc Tryz.prog fn conds apart (w.forCall tape i).memory i.args∧laidMetH Tryz.prog laid2 (w.forCall tape i).memory)∧sizedMet enc Tryz.prog fn (OpenSpec.ofChange s) apart (w.forCall tape i).memory i.args)∧({}:Assume).holds Tryz.prog (lone (Frame.enter Tryz.prog f i.args .normal) [] (w.forCall tape i)))
 (contract:∀ (W:World) (base:Nat) (args:Array Value) (ds gs:List (DataW H)) (before:List MemPlace),
  (∀ (j:Nat) t v,fn.params[j]?=some t→args[j]?=some v→Value.okWide Tryz.prog W .any base t v) →
  DataW.Whole enc Tryz.prog fn.params.toList s.vars apart W args.toList ds gs before →
  (DataW.weightsEach Tryz.prog (fn.params.toList++s.plain.varTypes Tryz.prog) (ds++gs)).all (·≤reachBytes)=true→TabsH W.heap →
  Calls Tryz.prog f args W fun e W'=>∃ v,e = .returned v∧s.post enc Tryz.prog fn apart fresh handsOn again W args v W') :
 ReturnsInHanded {} Tryz.checked os f .any (fun w args=>(s.pre enc Tryz.prog fn conds apart w args∧laidMetH Tryz.prog laid2 w)∧sizedMet enc Tryz.prog fn (OpenSpec.ofChange s) apart w args) (s.post enc Tryz.prog fn apart fresh handsOn again):=by
 refine returnsInHanded_of_calls (C:=Tryz.checked) Tryz.own started noInit witness ?_
 intro w tape i _ hsh _ hok hpre hholds
 obtain⟨_,_,_,fn',hfn',_,_,_,_,hval⟩:=hok
 have e:fn'=fn:=Option.some.inj (hfn'.symm.trans hfn)
 subst e
 obtain⟨⟨⟨ds,gs,before,hw,hc⟩,hx⟩,hz⟩:=hpre
 have hw':=DataW.Whole.of_heap (w':=w.forCall tape i) (by rfl) hw
 have hL0:laidMetH Tryz.prog laid2 (w.forCall tape i):=hx.of_heap (by rfl)
 rw [MakeChecks.laidMetH_plain _ _ _ (by kernel_rfl)] at hL0
 refine (contract (w.forCall tape i) w.heap.size i.args ds gs before hval hw' (hz.weights hw) (tabs_of hsh hL0)).mono fun e W' ⟨v,he,hp⟩=>?_
 subst he
 exact ChangeSpec.post_blind hp
end Go.Proofs.YtpjdgifhhnjclaaGreatDoor
namespace Go.Ex
open Go.Proofs
theorem readF_of_ascii(s:ByteArray)(a:Int)(ha:0≤a∧a<s.size)(h:byteI s a<128):readF s a=(byteI s a,1):=by
 have e:Utf8.decode s a.toNat=((byteI s a).toNat,1):=by
  have h1:=get_byte s a.toNat
  rw [Int.toNat_of_nonneg ha.1] at h1
  rw [Lib.decode_at]
  generalize (s.get! a.toNat).toNat=b at h1 ⊢
  unfold Lib.decodeN
  rw [if_pos (by omega)]
  rw [show (byteI s a).toNat=b by omega]
 have h0:=byteI_rng s a
 unfold readF
 rw [if_neg (by omega),e]
 dsimp only
 rw [if_neg (by omega),Int.toNat_of_nonneg h0.1]
 rfl
theorem byteI_sub(s:ByteArray)(a b i:Int)(h0:0≤a)(h1:a≤b)(h2:b≤s.size)(h3:0≤i)(h4:i<b-a):byteI (sub s a b) i=byteI s (a+i):=by
 unfold byteI
 have e:(sub s a b).data.toList=(s.data.toList.drop a.toNat).take (b.toNat-a.toNat):=by
  show (s.extract a.toNat b.toNat).data.toList = _
  rw [ByteArray.data_extract,Array.toList_extract]
 rw [e]
 simp only [List.getD_eq_getElem?_getD]
 rw [List.getElem?_take_of_lt (by omega),List.getElem?_drop]
 rw [show (a+i).toNat=a.toNat+i.toNat by omega]
def Tile(s:ByteArray):List Tok→Int→Int→Prop
 |[],a,b=>a=b
 |t::r,a,b=>(0≤a∧a<s.size)∧¬ (lexK s a).1=0∧t=⟨(lexK s a).1,a,(lexK s a).2⟩∧Tile s r t.to b
theorem Tile.snoc{s:ByteArray}{t:Tok}{c:Int}:∀ {l:List Tok} {a b:Int},Tile s l a b→Tile s [t] b c→Tile s (l++[t]) a c
 |[],a,b,h,h1=>by rw [show a=b from h];exact h1
 |x::r,a,b,h,h1=>⟨h.1,h.2.1,h.2.2.1,Tile.snoc h.2.2.2 h1⟩
theorem allGo_tile(s:ByteArray):∀ (f:Nat) (acc:List Tok) (a:Int),0≤a→a≤s.size→Tile s acc 0 a→(allGo s f acc a).2.1=0→Tile s (allGo s f acc a).1 0 s.size
 |0,acc,a,h0,h1,h2,h3=>by simp [allGo] at h3
 |f+1,acc,a,h0,h1,h2,h3=>by
  rw [allGo] at h3 ⊢
  split
  ·rw [show a=s.size by omega] at h2
   exact h2
  ·rename_i h4
   rw [if_neg h4] at h3
   split
   ·rename_i h5;rw [if_pos h5] at h3;cases h3
   ·rename_i h5
    rw [if_neg h5] at h3
    have hr:=lexK_rng s a (by omega) h5
    exact allGo_tile s f _ _ (by omega) (by omega) (h2.snoc ⟨by omega,h5,rfl,rfl⟩) h3
theorem allF_tile(s:ByteArray)(h:(allF s).2.1=0):Tile s (allF s).1 0 s.size:=by
 unfold allF at h ⊢
 split
 ·rename_i c;rw [if_pos c] at h;cases h
 ·rename_i c
  rw [if_neg c] at h
  split
  ·rename_i c2;rw [if_pos c2] at h;cases h
  ·rename_i c2
   rw [if_neg c2] at h
   exact allGo_tile s _ [] 0 (Int.le_refl _) (by omega) rfl h
theorem Tile.get{s:ByteArray}:∀ {l:List Tok} {a b:Int},Tile s l a b→∀ (i:Nat),i<l.length→(if i=0 then (getI tokR.dflt l (i:Int)).frm=a else (getI tokR.dflt l (i:Int)).frm=(getI tokR.dflt l ((i:Int)-1)).to)
 |[],a,b,h,i,hi=>by simp at hi
 |t::r,a,b,h,0,hi=>by
  rw [if_pos rfl]
  show t.frm=a
  rw [h.2.2.1]
 |t::r,a,b,h,i+1,hi=>by
  rw [if_neg (by omega)]
  have h1:=Tile.get h.2.2.2 i (by simpa using hi)
  have e1:getI tokR.dflt (t::r) ((i+1:Nat):Int)=getI tokR.dflt r (i:Int):=by unfold getI;rw [show ((i+1:Nat):Int).toNat=i+1 by omega,show ((i:Nat):Int).toNat=i by omega];rfl
  rw [e1]
  split at h1
  ·rename_i h2
   subst h2
   rw [h1]
   rfl
  ·rename_i h2
   rw [h1]
   congr 1
   unfold getI
   rw [show ((i:Int)-1).toNat=i-1 by omega,show (((i+1:Nat):Int)-1).toNat=(i-1)+1 by omega]
   rfl
theorem Tile.last{s:ByteArray}:∀ {l:List Tok} {a b:Int},Tile s l a b→l≠[]→(l.getLastD tokR.dflt).to=b
 |[],a,b,h,h1=>absurd rfl h1
 |[t],a,b,h,_=>h.2.2.2
 |t::u::r,a,b,h,_=>by
  have h1:=Tile.last h.2.2.2 (List.cons_ne_nil _ _)
  exact h1
inductive Rl:Int→List Tok→List Tok→Prop
 |nil (e:Int):Rl e [] []
 |sil (e:Int) (t:Tok) (T al:List Tok) (hs:SilP t.kind) (h:Rl e T al):Rl e T (t::al)
 |semi (e:Int) (T al:List Tok) (h0:0≤e) (h:Rl e T al):Rl e (⟨9,e,e⟩::T) al
 |tok (e:Int) (t:Tok) (T al:List Tok) (hs:¬ SilP t.kind) (h:Rl t.to T al):Rl e (t::T) (t::al)
theorem flush_yes{acc:List Tok}{e:Int}(h:0≤e):flushS (acc,e)=(acc++[⟨9,e,e⟩],-1):=by
 show (if 0≤e then acc++[⟨9,e,e⟩] else acc,-1) = _
 rw [if_pos h]
theorem flush_no{acc:List Tok}{e:Int}(h:¬ 0≤e):flushS (acc,e)=(acc,-1):=by
 show (if 0≤e then acc++[⟨9,e,e⟩] else acc,-1) = _
 rw [if_neg h]
theorem semL_rl(s:ByteArray):∀ (al acc:List Tok) (e p:Int),(∀ t∈al,0≤t.to)→(e = -1∨e=p∧0≤p)→∃ R,(flushS (al.foldl (semStep s) (acc,e))).1=acc++R∧Rl p R al
 |[],acc,e,p,hal,h=>by
  show ∃ R,(flushS (acc,e)).1=acc++R∧Rl p R []
  rcases h with rfl|⟨rfl,h⟩
  ·rw [flush_no (by omega)]
   exact⟨[],by simp,.nil _⟩
  ·rw [flush_yes h]
   exact⟨[⟨9,e,e⟩],rfl,.semi _ _ _ h (.nil _)⟩
 |t::al,acc,e,p,hal,h=>by
  rw [List.foldl_cons]
  by_cases hs:SilP t.kind
  ·by_cases hn:0≤idxB (sub s t.frm t.to) 10
   ·have e1:semStep s (acc,e) t=flushS (acc,e):=by unfold semStep;rw [if_pos hs,if_pos hn]
    rw [e1]
    by_cases c:0≤e
    ·rw [flush_yes c]
     have hp:e=p∧0≤p:=by omega
     obtain⟨R,h1,h2⟩:=semL_rl s al (acc++[⟨9,e,e⟩]) (-1) p (fun t h=>hal t (List.mem_cons_of_mem _ h)) (.inl rfl)
     refine⟨⟨9,e,e⟩::R,?_,?_⟩
     ·rw [h1]
      simp
     ·rw [hp.1]
      exact .semi _ _ _ hp.2 (.sil _ _ _ _ hs h2)
    ·rw [flush_no c]
     obtain⟨R,h1,h2⟩:=semL_rl s al acc (-1) p (fun t h=>hal t (List.mem_cons_of_mem _ h)) (.inl rfl)
     exact⟨R,h1,.sil _ _ _ _ hs h2⟩
   ·have e1:semStep s (acc,e) t=(acc,e):=by unfold semStep;rw [if_pos hs,if_neg hn]
    rw [e1]
    obtain⟨R,h1,h2⟩:=semL_rl s al acc e p (fun t h=>hal t (List.mem_cons_of_mem _ h)) h
    exact⟨R,h1,.sil _ _ _ _ hs h2⟩
  ·have e1:semStep s (acc,e) t=(acc++[t],if EndsP t.kind (sub s t.frm t.to) then t.to else -1):=by unfold semStep;rw [if_neg hs]
   rw [e1]
   have ht:=hal t List.mem_cons_self
   obtain⟨R,h1,h2⟩:=semL_rl s al (acc++[t]) (if EndsP t.kind (sub s t.frm t.to) then t.to else -1) t.to (fun t h=>hal t (List.mem_cons_of_mem _ h)) (by split<;>omega)
   exact⟨t::R,by rw [h1];simp,.tok _ _ _ _ hs h2⟩
theorem semF_rl(s:ByteArray)(h:(semF s).2.1=0)(h2:(semF s).2.2=0):(allF s).2.1=0∧(allF s).2.2=0∧Rl (-1) (semF s).1 (allF s).1:=by
 unfold semF at h h2 ⊢
 split
 ·rename_i c
  have ha:=allF_ok s
  obtain⟨R,h3,h4⟩:=semL_rl s (allF s).1 [] (-1) (-1) (fun t ht=>by have:=ha.1 t ht;omega) (.inl rfl)
  refine⟨c.1,c.2,?_⟩
  show Rl (-1) (semL s (allF s).1) _
  unfold semL
  rw [h3]
  exact h4
 ·rename_i c
  rw [if_neg c] at h h2
  exact absurd ⟨h,h2⟩ c
theorem Rl.mem{e:Int}{T al:List Tok}(h:Rl e T al):∀ t∈T,t∈al∧¬ SilP t.kind∨∃ e,t=⟨9,e,e⟩:=by
 induction h with
 |nil e=>intro t h;cases h
 |sil e t T al hs h ih=>
  intro x hx
  rcases ih x hx with h|h
  ·exact .inl ⟨List.mem_cons_of_mem _ h.1,h.2⟩
  ·exact .inr h
 |semi e T al h0 h ih=>
  intro x hx
  rcases List.mem_cons.1 hx with rfl|hx
  ·exact .inr ⟨e,rfl⟩
  ·exact ih x hx
 |tok e t T al hs h ih=>
  intro x hx
  rcases List.mem_cons.1 hx with rfl|hx
  ·exact .inl ⟨List.mem_cons_self,hs⟩
  ·rcases ih x hx with h|h
   ·exact .inl ⟨List.mem_cons_of_mem _ h.1,h.2⟩
   ·exact .inr h
theorem Tile.mem{s:ByteArray}:∀ {l:List Tok} {a b:Int},Tile s l a b→∀ t∈l,(0≤t.frm∧t.frm<s.size)∧¬ (lexK s t.frm).1=0∧t=⟨(lexK s t.frm).1,t.frm,(lexK s t.frm).2⟩
 |[],a,b,h,t,ht=>by cases ht
 |x::r,a,b,h,t,ht=>by
  rcases List.mem_cons.1 ht with rfl|ht
  ·obtain⟨h1,h2,h3,_⟩:=h
   have e:t.frm=a:=by rw [h3]
   rw [e]
   exact⟨h1,h2,h3⟩
  ·exact Tile.mem h.2.2.2 t ht
end Go.Ex
