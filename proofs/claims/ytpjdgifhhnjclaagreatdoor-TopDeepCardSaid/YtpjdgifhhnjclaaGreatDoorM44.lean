/-
  Top: TopDeep: whatever the input, the law answers true (part 44)
-/
import Derived.Test.YtpjdgifhhnjclaaGreatDoorM43
set_option linter.unusedVariables false
set_option linter.unusedSimpArgs false
set_option maxHeartbeats 4000000
set_option maxRecDepth 10000
namespace Go.Ex
open Go.Proofs
section
variable {I:In}{M:Loc}{br:Nat}
def Reg0(I:In)(M:Loc)(br:Nat)(h:Heap)(goal:Int)(K:Kn)(S:St):Prop:=
 ∃ b2 b4 b5,lk K 1=some (.val (.int .u8 goal))∧lk K 2=some (.own 2 b2 0)∧lk K 4=some (.own 4 b4 0)∧lk K 5=some (.own 5 b5 0) ∧
  ∀ h',HS S h'→HS ⟨h,[br],[(900,br,rdB I M false 0),(5,b5,.box 28 [.val (.int .i64 0),.val (.int .i64 0)]),(4,b4,.box 63 [.val (.pointer none)]),(2,b2,.box 78 [.own 900 br 0])]⟩ h'
theorem tree_reg0{xb x2 x3 x4:Code}{id0 id1:Nat}{ops0 ops1:Array Oper}(hb:Is40 xb x2 x3 x4 id0 id1 ops0 ops1){h:Heap}{goal:Int} :
 codeK Tryz.prog ty ⟨rep,noPan⟩ 46 1 [1,2,4,5,7,10,14,18,36,41] [] (.region id0 ops0 false) ⟨fun _ _=>False,[]⟩ (Reg0 I M br h goal) (init 0 [.own 900 br 0,.val (.int .u8 goal)]) ⟨h,[br],rdC I M br false 0⟩:=by
 unfold Is40 Tryz.f40 at hb
 cases hb
 ((repeat' ((conv=>whnf);(first|(refine New.mk ?_;intro b hb)|fail)));all_goals (try (conv=>whnf)))
 rename_i b2 hb2 b4 hb4
 exact⟨b2,b4,b,rfl,rfl,rfl,rfl,fun h' hs=>hs.ren [900,5,4,2] ⟨⟨_,rfl,SC.rfl⟩,rfl,⟨_,rfl,SC.box rfl⟩,rfl,⟨_,rfl,SC.box rfl⟩,rfl,⟨_,rfl,SC.rfl⟩,rfl,trivial⟩⟩
theorem tree_ops1{xb x2 x3 x4:Code}{id0 id1:Nat}{ops0 ops1:Array Oper}(hb:Is40 xb x2 x3 x4 id0 id1 ops0 ops1) :
 ops1 = #[{ dst := some 6, op := .makeFunc (.func 52) #[] #[.tmp 2, .tmp 4, .tmp 5], type := 1, pos := "syntax.go:136", after := #[], guard := none },
  { dst := none, op := .defer { callee := .value (.tmp 6), args := #[], argTypes := #[] }, type := 0, pos := "syntax.go:136", after := #[{ on := 0, ground := .data }], guard := none }] := by
 unfold Is40 Tryz.f40 at hb
 cases hb
 rfl
def TreeP(I:In)(M:Loc)(br:Nat)(h:Heap)(goal:Int)(v:Value)(h':Heap):Prop:=
 ∃ t n,HS ⟨h,[br],rdC I M br t n⟩ h'∧((∃ x m p,treeS I goal = .ok x m∧v = .tuple #[.pointer p,.agg #[.int .i64 0,.int .i64 0]]∧TrI h.size h' [br] p x) ∨
  (∃ x,treeS I goal = .err x∧(0≤x∧x≤I.L)∧v = .tuple #[.pointer none,.agg #[.int .i64 7,.int .i64 (atE I x)]]))
theorem envO{w w':World}(h:SE w w'):w'.os=w.os∧w'.tape=w.tape∧w'.output=w.output:=⟨h.os,h.tape,h.output⟩
theorem HS.rd{h hf:Heap}{cap:List Nat}{t:Bool}{n:Int}{r:Chs}(hs:HS ⟨h,cap,rdC I M br t n++r⟩ hf):HS ⟨h,cap,rdC I M br t n⟩ hf:=
 ⟨hs.size,hs.frame,fun e he=>hs.chunk e (List.mem_append.2 (.inl he)),(List.pairwise_append.1 hs.apart).1⟩
theorem tree_any(ok:InOk I)(goal:Int)(hg:1≤goal∧goal≤4){h:Heap}(hs:HS ⟨h,[br],rdC I M br false 0⟩ h)(hB:Base I M h [br]):CH Tryz.prog 40 #[ptr br,.int .u8 goal] h (TreeP I M br h goal):=by
 refine⟨callRuns Tryz.func40 (by decide) rfl,fun w hw=>?_⟩
 subst hw
 obtain⟨xb,x2,x3,x4,id0,id1,ops0,ops1,hb⟩:∃ xb x2 x3 x4 id0 id1 ops0 ops1,Is40 xb x2 x3 x4 id0 id1 ops0 ops1:=⟨_,_,_,_,_,_,_,_,rfl⟩
 refine calls_of_wp_defers Tryz.func40 hb ?_
 refine cutN tO (tree_reg0 (I:=I) (M:=M) (br:=br) hb (h:=w.heap) (goal:=goal)) (good_init (n:=46) (args:=[.own 900 br 0,.val (.int .u8 goal)]) (show 2≤46 by omega)) (SE.refl w) hs fun K S a w1 a1 a2 a3 hq=>?_
 obtain⟨b2,b4,b5,k1,k2,k4,k5,hh⟩:=hq
 have hs1:=hh _ a3
 refine wp_seq (wp_makeDefer (tree_ops1 hb) (by rw [a1.size];decide) (a1.knows _ _ k2) (a1.knows _ _ k4) (a1.knows _ _ k5) ?_)
 have hk:=K4.good a1 ⟨k1,k2,k4,k5⟩
 have a4:Good [{ target:=.fn (.func 52) #[ptr b2,ptr b4,ptr b5],args:=#[] }] 46 { a.put (some 6) (.func (.func 52) #[] #[ptr b2,ptr b4,ptr b5]) with defers:={ target:=.fn (.func 52) #[ptr b2,ptr b4,ptr b5],args:=#[] }::a.defers } [(1,.val (.int .u8 goal)),(2,.own 2 b2 0),(4,.own 4 b4 0),(5,.own 5 b5 0)]:=
  ⟨by simp [Act.put,a1.size],by simp [a1.defers],fun t v hv=>by
   have h6:¬ 6=t:=fun e=>by subst e;exact absurd hv (by intro hv;cases hv)
   show (a.tmps.setIfInBounds 6 _)[t]? = _
   rw [Array.getElem?_setIfInBounds_ne h6]
   exact hk.knows t v hv⟩
 have hkp:=K4.kp a4 ⟨rfl,rfl,rfl,rfl⟩
 -- what a fault leaves
 have hpan:∀ v a w2 (O:Out Nd),(∀ x,O = .err x→treeS I goal = .err x)→a.defers=[{ target:=.fn (.func 52) #[ptr b2,ptr b4,ptr b5],args:=#[] }]→Kp (V45 b4 b5) a→SE w w2→ErrT I M br b2 b4 b5 w.heap O v w2.heap →
  Leaves Tryz.prog Tryz.f40 a.tmps (fun e w'=>(w'.os=w.os∧w'.tape=w.tape∧w'.output=w.output)∧∃ v,e = .returned v∧TreeP I M br w.heap goal v w'.heap) a.defers (.panicking [{ v:=v,recovered:=false }]) w2:=by
  rintro v a w2 O hO hd hk he ⟨x,n,t,p,e1,rfl,hx,e3⟩
  rw [hd]
  refine leaves_cons (f:=52) (args:=#[ptr b2,ptr b4,ptr b5]) (by simp) (by simp [go_sem]) ?_
  refine (tree_catch hB e3 hx (by have:=ok.len;omega)).mono ?_
  rintro e u' w3 ⟨rfl,rfl,d1,d2⟩
  exact⟨_,tree_results hk d1,envO (he.trans d2),_,rfl,t,n,d1.rd,.inr ⟨x,hO x e1,hx,rfl⟩⟩
 -- the rule
 refine cutV tO (tree_keep hb).1 (tree_c1 (b2:=b2) (b4:=b4) (b5:=b5) (o:=G I (fT I) (ruleOf goal) false 0) hb ok (all_con ok (fT I)) (by unfold fT;omega) hg hB rfl) a4 hkp a2 hs1 ?_ ?_
 rotate_left
 ·intro v a w2 c1 c2 c3 c4
  exact hpan v a w2 _ (fun x hx=>by unfold treeS;rw [hx];rfl) c1 c2 c3 c4
 intro K S1 a w2 c1 c2 c3 hq
 obtain⟨x,m,p,e1,e2,hl1,hT,k,hh⟩:=hq
 have hB1:=hB.later hl1
 have htS:treeS I goal=if endS I goal m=I.L then .ok x (endS I goal m) else .err (endS I goal m):=by unfold treeS;rw [e1];rfl
 -- a semicolon
 refine cutN tO (tree_c2 (br:=br) (b2:=b2) (b4:=b4) (b5:=b5) (p:=p) hb ok hg hB1 e2) (K4.good c1 k) c2 (hh _ c3) fun K S a w3 c1 c2 c3 hq=>?_
 obtain⟨k,hh⟩:=hq
 have e3:0≤endS I goal m∧endS I goal m≤I.L:=by
  unfold endS
  split
  ·unfold maybe;split<;>omega
  ·exact e2
 -- the end
 refine cutV tO (tree_keep hb).2 (tree_c3 (br:=br) (b2:=b2) (b4:=b4) (b5:=b5) (p:=p) (goal:=goal) hb ok hB1 e3) (K4.good c1 k) (K4.kp c1 k) c2 (hh _ c3) ?_ ?_
 rotate_left
 ·intro v a w4 c1 c2 c3 c4
  obtain⟨d1,n,t,rfl,d4⟩:=c4
  exact hpan _ a w4 (.err (endS I goal m)) (fun x hx=>by cases hx;rw [htS,if_neg d1]) c1 c2 c3 ⟨_,n,t,p,rfl,rfl,e3,d4.base hl1⟩
 rintro K S a w4 c1 c2 c3 ⟨hm,k,hh⟩
 have h5:=cks tO _ _ _ _ _ (tree_c4 (br:=br) (b2:=b2) (b4:=b4) (b5:=b5) (p:=p) (goal:=goal) (m:=endS I goal m) (I:=I) (M:=M) (h1:=S1.h0) (cap1:=S1.cap) hb) _ _ _ _ (K4.good c1 k) c2 (hh _ c3)
 refine Code.wp_mono ?_ h5
 intro e a w5 hq
 cases e with
 |normal=>obtain⟨K,S,a1,a2,a3,a4⟩:=hq;exact False.elim a4
 |ret=>
  obtain⟨K,S,c1,c2,c3,k,hh⟩:=hq
  have h6:=hh _ c3
  show Leaves _ _ _ _ a.defers .returning w5
  rw [c1.defers]
  refine leaves_cons (f:=52) (args:=#[ptr b2,ptr b4,ptr b5]) (by simp) (by simp [go_sem]) ?_
  refine (tree_idle h6 b2 b4 b5).mono ?_
  rintro e u' w6 ⟨rfl,rfl,d1,d2⟩
  have d3:HS ⟨S1.h0,S1.cap,rdC I M br false (endS I goal m)++trC br b2 b4 b5 p 0 0⟩ w6.heap:=d1
  refine⟨_,tree_results (K4.kp c1 k) d3,envO (c2.trans d2),_,rfl,false,endS I goal m,(d3.base hl1).rd,.inl ⟨x,endS I goal m,p,by rw [htS,if_pos hm],rfl,?_⟩⟩
  have hl:=d3.lB
  exact TrI.later (lo:=w.heap.size) (lo':=w.heap.size) (cap':=[br]) ⟨hl.size,hl.same,fun c hc=>hl.cap c (by rw [List.mem_singleton.1 hc];exact .head _)⟩ (Nat.le_refl _) x hT
 |exit i=>obtain⟨K,S,a1,a2,a3,a4⟩:=hq;exact False.elim a4
 |panic ch=>obtain⟨v,h1,h2,h3,h4⟩:=hq;exact False.elim h4
 |goto l=>exact False.elim hq
 |outgrown=>exact False.elim hq
end
end Go.Ex
namespace Go.Ex
open Go.Proofs
structure NsP(T:List Tok)(x:NsS)(i:Int):Prop where
 pl:x.P.length=T.length
 ol:x.O.length=100
 n:0≤x.n∧x.n≤100
 at_:∀ k:Int,0≤k→k<x.n→0≤getI (intR .i64).dflt x.O k∧getI (intR .i64).dflt x.O k<i
 rng:∀ k:Int,0≤k→k<T.length→-1≤getI (intR .i64).dflt x.P k∧getI (intR .i64).dflt x.P k<T.length
theorem setP{T:List Tok}{P:List Int}(hp:P.length=T.length)(hr:∀ k:Int,0≤k→k<T.length→-1≤getI (intR .i64).dflt P k∧getI (intR .i64).dflt P k<T.length){j v:Int}(hj:0≤j∧j<T.length)(hv : -1≤v∧v<T.length) :
 ∀ k:Int,0≤k→k<T.length→-1≤getI (intR .i64).dflt (P.set j.toNat v) k∧getI (intR .i64).dflt (P.set j.toNat v) k<T.length:=fun k h0 h1=>by
 rw [getI_set P _ j k v hj.1 h0 (by omega)]
 split
 ·exact hv
 ·exact hr k h0 h1
theorem nestStep_ok(s:ByteArray)(T:List Tok)(x:NsS)(i:Int)(hi:0≤i∧i<T.length)(h:NsP T x i)(he:(nestStep s T x i).2.1=0):NsP T (nestStep s T x i).1 (i+1):=by
 obtain⟨h1,h2,h3,h4,h5⟩:=h
 unfold nestStep at he ⊢
 split
 ·exact⟨by simpa using h1,h2,h3,fun k a b=>by dsimp only at b ⊢;have:=h4 k a b;omega,setP h1 h5 hi (by omega)⟩
 rename_i c1
 rw [if_neg c1] at he
 split
 ·rename_i c2
  rw [if_pos c2] at he
  split
  ·rename_i c3
   rw [if_pos c3] at he
   dsimp only at he
   omega
  ·rename_i c3
   refine⟨by simpa using h1,by simpa using h2,by dsimp only;omega,fun k a b=>?_,setP h1 h5 hi (by omega)⟩
   dsimp only at b ⊢
   rw [getI_set _ _ _ _ _ h3.1 a (by omega)]
   split
   ·omega
   ·have:=h4 k a (by omega);omega
 rename_i c2
 rw [if_neg c2] at he
 split
 ·rename_i c3
  rw [if_pos c3] at he
  split
  ·rename_i c4
   rw [if_pos c4] at he
   dsimp only at he
   omega
  ·rename_i c4
   have h6:=h4 (x.n-1) (by omega) (by omega)
   refine⟨by simpa using h1,h2,by dsimp only;omega,fun k a b=>?_,?_⟩
   ·dsimp only at b ⊢
    have:=h4 k a (by omega);omega
   ·refine setP (by simpa using h1) (setP (by simpa using h1) (setP h1 h5 hi (by omega)) hi (by omega)) (by omega) (by omega)
 ·exact⟨by simpa using h1,h2,h3,fun k a b=>by dsimp only at b ⊢;have:=h4 k a b;omega,setP h1 h5 hi (by omega)⟩
theorem nestGo_ok(s:ByteArray)(T:List Tok):∀ (f:Nat) (x:NsS) (i:Int),0≤i→i+f=T.length→NsP T x i→(nestGo s T f x i).2.2.1=0→(nestGo s T f x i).1.length=T.length∧∀ k:Int,0≤k→k<T.length→-1≤getI 0 (nestGo s T f x i).1 k∧getI 0 (nestGo s T f x i).1 k<T.length
 |0,x,i,hi,hf,h,he=>by
  unfold nestGo at he ⊢
  split
  ·rename_i c
   rw [if_pos c] at he
   dsimp only at he
   omega
  ·exact⟨h.pl,h.rng⟩
 |f+1,x,i,hi,hf,h,he=>by
  unfold nestGo at he ⊢
  split
  ·rename_i c
   rw [if_pos c] at he
   exact nestGo_ok s T f _ (i+1) (by omega) (by omega) (nestStep_ok s T x i ⟨hi,by omega⟩ h c) he
  ·rename_i c
   rw [if_neg c] at he
   exact absurd he c
def inS(s:ByteArray):In:=⟨s,nestT s,nestP s⟩
theorem getI_rep(k:Nat)(v d:Int)(i:Int)(h0:0≤i)(h1:i<k):getI d (List.replicate k v) i=v:=by
 unfold getI
 rw [List.getD_eq_getElem?_getD,List.getElem?_eq_getElem (by simp;omega)]
 simp
theorem nestS_size(s:ByteArray)(h:nestE s=0):s.size≤65536:=by
 have h3:=(semF_ok s).2.2
 unfold nestE nestF at h
 split at h
 ·rename_i c;exact h3 c.1
 ·exact h3 h
theorem inS_ok(s:ByteArray)(h:nestE s=0):InOk (inS s):=by
 have hz:=nestS_size s h
 obtain⟨h1,h2,h3⟩:=semF_ok s
 have key:(∀ t∈nestT s,0≤t.frm∧t.frm≤t.to∧t.to≤s.size)∧((nestT s).length:Int)≤65537∧(nestP s).length=(nestT s).length∧∀ k:Int,0≤k→k<(nestT s).length→-1≤getI 0 (nestP s) k∧getI 0 (nestP s) k<(nestT s).length:=by
  unfold nestE at h
  unfold nestT nestP
  unfold nestF at h ⊢
  split
  ·rename_i c
   rw [if_pos c] at h
   split
   ·rename_i c2
    rw [if_pos c2] at h
    dsimp only at h ⊢
    have:=nestGo_ok s (semF s).1 (semF s).1.length ⟨List.replicate (semF s).1.length (intR .i64).dflt,List.replicate 100 (intR .i64).dflt,0,0⟩ 0 (Int.le_refl _) (by omega) ⟨by simp,by simp,by simp,fun k a b=>by dsimp only at b;omega,fun k a b=>by
     dsimp only
     rw [getI_rep _ _ _ _ a b]
     have e:(intR .i64).dflt=0:=rfl
     omega⟩ h
    exact⟨h1,h2,this⟩
   ·dsimp only
    exact⟨(fun t h=>by cases h),by simp,rfl,fun k a b=>by simp at b;omega⟩
  ·dsimp only
   exact⟨(fun t h=>by cases h),by simp,rfl,fun k a b=>by simp at b;omega⟩
 obtain⟨k1,k2,k3,k4⟩:=key
 exact⟨by show ((nestT s).length:Int)≤_;omega,k3,by show s.size≤1000000;omega,k1,k4⟩
end Go.Ex
namespace Go.Ex
open Go.Proofs
section
variable {I:In}{M:Loc}{br:Nat}{E:Value→Heap→Prop}{S:St}{κ:KV→St→Prop}{args:List KV}{r:Chs}
theorem CK.treeC{goal:Int}(ok:InOk I)(hg:1≤goal∧goal≤4)(hB:Base I M S.h0 S.cap)(hc:HasC S.ch (rdC I M br false 0++r))(ha:args.map den1=[ptr br,.int .u8 goal])
 (hk:∀ t n x m p h',treeS I goal = .ok x m→Later S.h0 S.cap h' (blks (rdC I M br t n++r))→TrI S.h0.size h' (blks (rdC I M br t n++r)) p x→κ (.tup [.val (.pointer p),.agg [.val (.int .i64 0),.val (.int .i64 0)]]) ⟨h',blks (rdC I M br t n++r),rdC I M br t n++r⟩)
 (he:∀ t n x h',treeS I goal = .err x→(0≤x∧x≤I.L)→Later S.h0 S.cap h' (blks (rdC I M br t n++r))→κ (.tup [.val (.pointer none),.agg [.val (.int .i64 7),.val (.int .i64 (atE I x))]]) ⟨h',blks (rdC I M br t n++r),rdC I M br t n++r⟩):CK Tryz.prog E 40 args [] S κ:=⟨fun h hs=>.inl (by
 rw [show args.map den1++([]:List KV).map denC=args.map den1 by simp,ha]
 refine (tree_any ok goal hg (hs.part hc) (hB.at hs fun c h1=>?_)).mono fun u h' ⟨t,n,h1,h2⟩=>?_
 ·rw [List.mem_singleton.1 h1]
  exact blks_mem (hc.mem (900,br,rdB I M false 0) (by simp [rdC]))
 have hj:=hs.join hc h1
 rcases h2 with ⟨x,m,p,e1,rfl,hT⟩|⟨x,e1,hx,rfl⟩
 ·refine⟨.tup [.val (.pointer p),.agg [.val (.int .i64 0),.val (.int .i64 0)]],_,rfl,hj.anew,hk t n x m p h' e1 hj.lB (hT.recap (fun c hm=>?_) hs.size)⟩
  obtain⟨e,he1,rfl⟩:=bsp hm
  rcases List.mem_append.1 he1 with he1|he1
  ·left
   have:e=(900,br,rdB I M t n):=List.mem_singleton.1 he1
   rw [this]
   exact List.mem_singleton.2 rfl
  ·right
   exact (hs.chunk e (hc.mem e (List.mem_append.2 (.inr he1)))).1
 ·exact⟨.tup [.val (.pointer none),.agg [.val (.int .i64 7),.val (.int .i64 (atE I x))]],_,rfl,hj.anew,he t n x h' e1 hx hj.lB⟩)⟩
end
def parF(s:ByteArray)(goal:Int):(Int×Int) ⊕ (List Tok×Nd):=
 if goal<1∨4<goal then .inl (1,0) else if ¬ (nestE s=0∧nestA s=0) then .inl (nestE s,nestA s) else match treeS (inS s) goal with
  |.ok x m=>.inr (nestT s,x)
  |.err x=>.inl (7,atE (inS s) x)
def EaOk(s:ByteArray)(goal:Int)(ea:Int×Int):Prop:=(1≤goal∧goal≤4)→(nestE s=0∧nestA s=0)→∃ x,(0≤x∧x≤(inS s).L)∧ea=(7,atE (inS s) x)
def ReadP(s:ByteArray)(goal:Int)(h:Heap)(v:Value)(h':Heap):Prop:=
 Grows h h'∧∃ A n c,match parF s goal with
  |.inl ea=>v = .tuple #[.slice A n c,.pointer none,.agg #[.int .i64 ea.1,.int .i64 ea.2]]∧EaOk s goal ea
  |.inr tx=>∃ p,v = .tuple #[.slice A n c,.pointer p,.agg #[.int .i64 0,.int .i64 0]]∧(Held tokR h' [] A n tx.1∧∀ x,0<n→A=some x→h.size≤x.block)∧TrI h.size h' [] p tx.2
attribute [local irreducible] CH nestF nestT nestP nestE nestA treeS
theorem readT_any(s:ByteArray)(goal:Int)(h:Heap)(ht:TabsH h)(hz:s.size≤140737488355328):CH Tryz.prog 23 #[.int .u8 goal,.string s] h (ReadP s goal h):=by
 refine enter (rep:=rep) (m:=1) (ex:=[0,1,4,5,6,7,8,9,10,11,17,27]) (cu:=[]) tO Tryz.func23 rfl (by decide) (rs:=[.tmp 4,.tmp 5,.cell 6 28]) rfl rfl [.val (.int .u8 goal),.val (.string s)] rfl ?_
 obtain⟨O,hO⟩:∃ O,parF s goal=O:=⟨_,rfl⟩
 unfold ReadP
 rw [hO]
 unfold parF at hO
 have c1:=fun h1 (ht:TabsH h1)=>nestO_any s h1 ht hz
 ((repeat' ((conv=>whnf);(first|(refine dW (id:=5) tO mixed (.pull 1 [2,3] (.pull 2 [3] (.pull 0 [3] (.one 3 .done)))) (by kernel_rfl) (by kernel_rfl) ?_)|(refine dW (id:=8) tO mixed (.pull 0 [3,4,5] (.pull 1 [4,5] (.pull 3 [4,5] (.pull 4 [5] (.pull 2 [5] (.one 5 .done)))))) (by kernel_rfl) (by kernel_rfl) ?_)|(refine VC.mk (by omega) ?_)|(refine Br.mk ?_ ?_<;>intro hb<;>(try replace hb:=Classical.not_not.1 hb))|(refine New.mk ?_;intro b hb)|(refine CK.nest (fun h hs=>c1 h (ht.at hs)) ?_;intro h1 A n c B m d hl hT hP hf1 hf2)|(refine ft_neq ?_)|(refine CK.ren [33,9,6] [(900,_,rdB (inS s) ⟨A,n,c,B,m,d⟩ false 0),(9,_,_),(6,_,_)] ⟨⟨_,rfl,SC.box rfl⟩,rfl,⟨_,rfl,SC.rfl⟩,rfl,⟨_,rfl,SC.rfl⟩,rfl,trivial⟩ ?_;refine CK.treeC (M:=⟨A,n,c,B,m,d⟩) (r:=[(9,_,_),(6,_,_)]) (inS_ok s (by omega)) (by omega) ⟨hT,hP⟩ ⟨rfl,rfl,rfl,rfl,rfl,rfl,trivial⟩ rfl (fun t2 n2 x m2 p h2 e1 hl2 hT2=>?_) (fun t2 n2 x h2 e1 hx hl2=>?_))|fail)));all_goals (try (conv=>whnf)))
 all_goals first
  |(rw [if_pos (by omega)] at hO;subst hO;exact⟨fun h' hs=>⟨(Bas.start h).fin hs,_,_,_,rfl,fun h1=>absurd h1 (by omega)⟩⟩)
  |(rw [if_neg (by omega),if_pos (by assumption)] at hO;subst hO;exact⟨fun h' hs=>⟨(show Later h [] _ _ from hl).bas.fin hs,_,_,_,rfl,fun _ h2=>absurd h2 (by assumption)⟩⟩)
  | (rw [if_neg (by omega),if_neg (by omega),e1] at hO
     subst hO
     have hl3:Later h [] h2 _:=hl.trans hl2
     exact⟨fun h' hs=>⟨hl3.bas.fin hs,_,_,_,p,rfl,⟨(hT.later hl2).endS hs,hf1⟩,TrI.later (lo:=h1.size) (lo':=h.size) (cap':=[]) ⟨hs.lB.size,hs.lB.same,fun c hc=>by cases hc⟩ hl.size x hT2⟩⟩)
  | (rw [if_neg (by omega),if_neg (by omega),e1] at hO
     subst hO
     have hl3:Later h [] h2 _:=hl.trans hl2
     exact⟨fun h' hs=>⟨hl3.bas.fin hs,_,_,_,rfl,fun _ _=>⟨x,hx,rfl⟩⟩⟩)
end Go.Ex
namespace Go.Ex
open Go.Proofs
mutual
def flat:Nd→List Nde
 |.mk k w f t l=>⟨k,l.length,w,f,t⟩::flatL l
def flatL:List Nd→List Nde
 |[]=>[]
 |x::r=>flat x++flatL r
end
theorem flat_pos(x:Nd):0<(flat x).length:=by
 cases x
 simp only [flat,List.length_cons]
 omega
theorem flatL_drop(l:List Nd)(i:Nat)(hi:i<l.length):flatL (l.drop i)=flat (l.getD i nd0)++flatL (l.drop (i+1)):=by
 rw [List.drop_eq_getElem_cons hi,flatL,List.getD_eq_getElem?_getD,List.getElem?_eq_getElem hi]
 rfl
theorem flat_drop_le(l:List Nd):∀ i,(flatL (l.drop i)).length≤(flatL l).length
 |0=>by simp
 |i+1=>by
  by_cases hi:i<l.length
  ·have h1:=flat_drop_le l i
   rw [flatL_drop l i hi,List.length_append] at h1
   omega
  ·rw [List.drop_eq_nil_of_le (by omega)]
   simp [flatL]
theorem flatL_len:∀ l:List Nd,l.length≤(flatL l).length
 |[]=>Nat.le_refl _
 |x::r=>by have:=flat_pos x;have:=flatL_len r;rw [flatL,List.length_append,List.length_cons];omega
attribute [local irreducible] CH
end Go.Ex
namespace Go.Ex
open Go.Proofs
section
variable {P:Program}{ty:Nat→Option TyI}{rep:Env}{n m:Nat}{ex cu:List Nat}{S:St}{K:Kn}{X:Esc}{κ:Kt}
theorem leaf_fn(hty:TysOk P ty){o1 o2:Oper}{id:Nat}(g1:o1.guard=none)(hd:dstOk n o1.dst=true)(h:opK P ty rep o1 K S fun v S'=>∃ v',den v'=den v∧regK P ty rep n [o1,o2] [o2] (putD K o1.dst v') S' κ) :
 Leaf P n ty rep m ex cu (.region id #[o1,o2] false) X κ K S:=⟨fun Df w0 a w ha he hs=>by
 refine wp_region_lit (l:=[o1,o2]) ?_
 unfold wpList
 rw [if_pos (by simp [Region.wanted,g1])]
 refine .inl (opK_sound hty h ha hs (fun v w' he' hE=>⟨v,rfl,ha.defers,he.trans he',hE⟩) fun kv S' w' he' hs' hk=>?_)
 obtain⟨v',e,hk⟩:=hk
 have h2:=regK_sound (X:=X) hty (ops:=[o1,o2]) [o2] _ S' κ hk w0 _ w' (ha.put (dstOk_spec hd) v') (he.trans he') hs'
 rw [e] at h2
 exact h2⟩
end
theorem nestGo_z(s:ByteArray)(T:List Tok):∀ (f:Nat) (x:NsS) (i:Int),(nestGo s T f x i).2.2.1=0→(nestGo s T f x i).2.2.2=0
 |0,x,i,h=>by
  unfold nestGo at h ⊢
  split
  ·rename_i c;rw [if_pos c] at h;dsimp only at h;omega
  ·rfl
 |f+1,x,i,h=>by
  unfold nestGo at h ⊢
  split
  ·rename_i c;rw [if_pos c] at h;exact nestGo_z s T f _ _ h
  ·rename_i c;rw [if_neg c] at h;exact absurd h c
theorem parF_ne{s:ByteArray}{goal:Int}{ea:Int×Int}(h:parF s goal = .inl ea):¬ (ea.1=0∧ea.2=0):=by
 unfold parF at h
 split at h
 ·cases h;simp
 ·split at h
  ·rename_i c;cases h;exact c
  ·split at h
   ·cases h
   ·cases h;simp
attribute [local irreducible] CH parF
end Go.Ex
