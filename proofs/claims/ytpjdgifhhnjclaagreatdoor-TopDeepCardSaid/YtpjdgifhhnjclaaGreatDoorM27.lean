/-
  Top: TopDeep: whatever the input, the law answers true (part 27)
-/
import Derived.Test.YtpjdgifhhnjclaaGreatDoorM26
set_option linter.unusedVariables false
set_option linter.unusedSimpArgs false
set_option maxHeartbeats 4000000
set_option maxRecDepth 10000
namespace Go.Ex
open Go.Proofs
attribute [local irreducible] CH lexK
def allGo(s:ByteArray):Nat→List Tok→Int→List Tok×Int×Int
 |0,acc,a=>([],4,a)
 |f+1,acc,a=>if s.size≤a then (acc,0,0) else if (lexK s a).1=0 then ([],4,a) else allGo s f (acc++[⟨(lexK s a).1,a,(lexK s a).2⟩]) (lexK s a).2
def allF(s:ByteArray):List Tok×Int×Int:=if (65536:Int)<s.size then ([],2,0) else if 0≤cleanF s then ([],3,cleanF s) else allGo s (s.size+1) [] 0
def SlF{τ:Type}(R:Rep τ)(T:Nat)(h:Heap)(r:List τ×Int×Int)(v:Value)(h':Heap):Prop:=
 ∃ A n c,v = .tuple #[.slice A n c,.agg #[.int .i64 r.2.1,.int .i64 r.2.2]]∧Grows h h'∧OwnSl R T h h' (.slice A n c) r.1
structure AllS where
 L:List Tok
 a:Int
 o:Option (Nat×Nat)
def alK(x:AllS):KV:=match x.o with
 |none=>.val (.slice none 0 0)
 |some (b,c)=>.osl 50 b x.L.length c
def alC(x:AllS):Chs:=match x.o with
 |none=>[]
 |some (b,c)=>[(50,b,.arr 40 tokR x.L c)]
theorem all_any(s:ByteArray)(h:Heap)(ht:TabsH h)(hz:s.size≤140737488355328):CH Tryz.prog 11 #[.string s] h (SlF tokR 40 h (allF s)):=by
 refine enter (rep:=rep) (m:=1) (ex:=[0,2,3,4,5,6,7,8,11,16,22,30]) (cu:=[]) tO Tryz.func11 rfl (by decide) (rs:=[.tmp 2,.cell 3 28]) rfl rfl [.val (.string s)] rfl ?_
 obtain⟨R,hR⟩:∃ R,allF s=R:=⟨_,rfl⟩
 rw [hR]
 unfold allF at hR
 have c1:=fun h1 (ht:TabsH h1)=>clean_any s h1 ht (by omega)
 generalize cleanF s=cl at hR c1
 ((repeat' ((conv=>whnf);(first|(refine VC.mk (by omega) ?_)|(refine Br.mk ?_ ?_<;>intro hb)|(refine New.mk ?_;intro b hb)|(apply CK.pure;(case hh=>(intro h1 hs;exact c1 h1 (ht.at hs))))|fail)));all_goals (try (conv=>whnf)))
 all_goals first
  |((repeat (first|rw [if_pos (by assumption)] at hR|rw [if_pos (by omega)] at hR|rw [if_neg (by assumption)] at hR));subst hR;exact⟨fun h' hs=>⟨none,0,0,rfl,hs.grows,OwnSl.nil⟩⟩)
  |skip
 rw [if_neg (by assumption),if_neg (by assumption)] at hR
 refine lgn tO [5,6] (fun x:AllS=>[(5,alK x),(6,.val (.int .i64 x.a))]) (fun x=>⟨h,[],(3,b,.box 28 [.val (.int .i64 0),.val (.int .i64 0)])::alC x⟩) (fun μ x=>allGo s μ x.L x.a=R∧(0≤x.a∧x.a≤s.size)∧x.L.length≤x.a∧s.size+1≤x.a+μ∧(x.o=none→x.L=[])∧∀ b c,x.o=some (b,c)→x.L.length≤c) ?_
 conv=>whnf
 refine⟨fun h1 hs=>⟨s.size+1,⟨[],0,none⟩,⟨hR,⟨by dsimp only;omega,by dsimp only;omega⟩,by dsimp only [List.length_nil];omega,by dsimp only;omega,fun _=>rfl,fun b c e=>by cases e⟩,?_,hs.ren [3] ⟨⟨_,rfl,SC.box rfl⟩,rfl,trivial⟩⟩,?_⟩
 ·refine And.intro ⟨_,rfl,by first|rfl|(simp [den,den1,denC,alK];done)|(simp [den,den1,denC,alK];omega)⟩ ?_
  (repeat (refine And.intro ⟨_,rfl,rfl⟩ ?_));exact trivial
 clear hR
 rintro μ ⟨L,a,o⟩ ⟨t1,t2,t3,t4,t5,t6⟩
 dsimp only at t1 t2 t3 t4 t5 t6 ⊢
 obtain⟨f,rfl⟩:∃ f,μ=f+1:=⟨μ-1,by omega⟩
 simp only [allGo] at t1
 by_cases ha:a<s.size
 ·rw [if_neg (by omega)] at t1
  have hr:=lexK_rng s a ⟨t2.1,ha⟩
  have c2:=fun h1 (ht:TabsH h1)=>lnext_any s a h1 ht (by omega) ⟨t2.1,ha⟩
  unfold tokK at c2
  generalize lexK s a=k at c2 t1 hr
  obtain⟨k1,k2⟩:=k
  dsimp only at c2 t1 hr
  by_cases hk:k1=0
  ·subst hk
   simp only [if_true] at c2 t1
   rcases o with _|⟨b2,c2'⟩
   ·((repeat' ((conv=>whnf);(first|(refine VC.mk (by omega) ?_)|(refine Br.mk ?_ ?_<;>intro hb<;>(try (exfalso;omega)))|(refine New.mk ?_;intro b hb)|(apply CK.pure;(case hh=>(intro h1 hs;exact c2 h1 (ht.at hs))))|fail)));all_goals (try (conv=>whnf)))
    all_goals first
     |(subst t1;exact⟨fun h' hs=>⟨none,0,0,rfl,hs.grows,OwnSl.nil⟩⟩)
   ·((repeat' ((conv=>whnf);(first|(refine VC.mk (by omega) ?_)|(refine Br.mk ?_ ?_<;>intro hb<;>(try (exfalso;omega)))|(refine New.mk ?_;intro b hb)|(apply CK.pure;(case hh=>(intro h1 hs;exact c2 h1 (ht.at hs))))|fail)));all_goals (try (conv=>whnf)))
    all_goals first
     |(subst t1;exact⟨fun h' hs=>⟨none,0,0,rfl,hs.grows,OwnSl.nil⟩⟩)
  ·replace hr:=hr hk
   rw [if_neg hk] at t1
   simp only [if_neg hk] at c2
   rcases o with _|⟨b2,c2'⟩
   ·have t5:=t5 rfl
    subst t5
    ((repeat' ((conv=>whnf);(first|(refine VC.mk (by (first|omega|(and_intros<;>first|omega|rfl|(simp only [maxLen];omega)|(simp only [List.length_append,List.length_take,List.length_replicate,List.length_cons,List.length_nil];omega)))) ?_)|(refine Br.mk ?_ ?_<;>intro hb<;>(try (first|(exfalso;omega)|contradiction)))|(refine New.mk ?_;intro b hb)|(refine New2.mk ?_;intro b c hb hbc)|(refine SR.same ?_)|(apply CK.pure;(case hh=>(intro h1 hs;exact c2 h1 (ht.at hs))))|fail)));all_goals (try (conv=>whnf)))
    all_goals first
     | (intro h2 hs
        refine⟨f,⟨[]++[⟨k1,a,k2⟩],k2,some (_,_)⟩,⟨t1,⟨by dsimp only;omega,by dsimp only;omega⟩,by dsimp only;rw [List.length_append,List.length_singleton];omega,by dsimp only;omega,fun e=>(by cases e),fun b0 c0 e=>by cases e;simpa using hbc⟩,Nat.lt_succ_self f,?_,hs.ren [3,37] ⟨⟨_,rfl,SC.rfl⟩,rfl,⟨_,rfl,SC.arr (by simp)⟩,rfl,trivial⟩⟩
        refine And.intro ⟨_,rfl,by first|rfl|(simp [den,den1,denC,alK];done)|(simp [den,den1,denC,alK];omega)⟩ ?_
        (repeat (refine And.intro ⟨_,rfl,rfl⟩ ?_));exact trivial)
   ·have t6:=t6 _ _ rfl
    ((repeat' ((conv=>whnf);(first|(refine VC.mk (by (first|omega|(and_intros<;>first|omega|rfl|(simp only [maxLen];omega)|(simp only [List.length_append,List.length_take,List.length_replicate,List.length_cons,List.length_nil];omega)))) ?_)|(refine Br.mk ?_ ?_<;>intro hb<;>(try (exfalso;omega)))|(refine New.mk ?_;intro b hb)|(refine NewO.mk ?_;intro b c hb hbc)|(refine SR.same ?_)|(apply CK.pure;(case hh=>(intro h1 hs;exact c2 h1 (ht.at hs))))|fail)));all_goals (try (conv=>whnf)))
    all_goals first
     | (intro h2 hs
        refine⟨f,⟨L++[⟨k1,a,k2⟩],k2,some (_,_)⟩,⟨t1,⟨by dsimp only;omega,by dsimp only;omega⟩,by dsimp only;rw [List.length_append,List.length_singleton];omega,by dsimp only;omega,fun e=>(by cases e),fun b0 c0 e=>by cases e;simpa using hbc⟩,Nat.lt_succ_self f,?_,hs.ren [3,37] ⟨⟨_,rfl,SC.rfl⟩,rfl,⟨_,rfl,SC.arr (by simp)⟩,rfl,trivial⟩⟩
        refine And.intro ⟨_,rfl,by first|rfl|(simp [den,den1,denC,alK];done)|(simp [den,den1,denC,alK];omega)⟩ ?_
        (repeat (refine And.intro ⟨_,rfl,rfl⟩ ?_));exact trivial)
 ·rw [if_pos (by omega)] at t1
  rcases o with _|⟨b2,c2'⟩
  ·have t5:=t5 rfl
   subst t5
   ((repeat' ((conv=>whnf);(first|(refine VC.mk (by omega) ?_)|(refine Br.mk ?_ ?_<;>intro hb<;>(try (exfalso;omega)))|fail)));all_goals (try (conv=>whnf)))
   all_goals (subst t1;exact⟨fun h' hs=>⟨none,0,0,rfl,hs.grows,OwnSl.nil⟩⟩)
  ·((repeat' ((conv=>whnf);(first|(refine VC.mk (by omega) ?_)|(refine Br.mk ?_ ?_<;>intro hb<;>(try (exfalso;omega)))|fail)));all_goals (try (conv=>whnf)))
   all_goals (subst t1;exact⟨fun h' hs=>⟨some ⟨b2,0,none⟩,_,c2',rfl,hs.grows,hs.own (k:=50) rfl rfl⟩⟩)
end Go.Ex
namespace Go.Ex
open Go.Proofs
attribute [local irreducible] CH lexK allF
theorem sih28:Tryz.prog.stoodInHeld 28=false:=by kernel_rfl
theorem egt28:Tryz.prog.eqGuardType Tryz.prog.depth 28=false:=by kernel_rfl
theorem fld28 : Tryz.prog.fieldsOf 28 = #[{ name := "Err", type := 26, offset := 0, embedded := false, tag := "", pkgPath := "", byteOffset := 0 },
 { name := "At", type := 3, offset := 1, embedded := false, tag := "", pkgPath := "", byteOffset := 8 }] := by kernel_rfl
theorem eq28(f1 t1 f2 t2:Int)(w:World):(Op.equalIn 10000 28 (.agg #[.int .i64 f1,.int .i64 t1]) (.agg #[.int .i64 f2,.int .i64 t2])).run Tryz.prog w
 = .ok (@decide (f1=f2∧t1=t2) (Classical.propDecidable _)) w:=by
 have h1:Tryz.prog.underlying 28=some (.struct (Tryz.prog.fieldsOf 28)):=by rw [fld28];exact Tryz.underlying28
 have h3:=Tryz.underlying3
 have h26:=Tryz.underlying26
 rw [run_equalIn_agg _ _ _ _ _ h1 sih28,fld28,dec_eq]
 simp [Op.eqFields,part,isAgg,underlying,h3,h26,run_equalIn_int]
 by_cases a:f1=f2<;>by_cases b:t1=t2<;>simp [a,b]
theorem ft_eql{f1 t1 f2 t2:Int}{κ:KV→Prop}(h:κ (.prop (f1=f2∧t1=t2))) :
 EqK Tryz.prog .eql 28 (.agg [.val (.int .i64 f1),.val (.int .i64 t1)]) (.agg [.val (.int .i64 f2),.val (.int .i64 t2)]) κ:=⟨_,fun u v w=>by
 show (do eqGuard .eql 28 u v (.agg #[.int .i64 f1,.int .i64 t1]) (.agg #[.int .i64 f2,.int .i64 t2]);binOp .eql 28 (.agg #[.int .i64 f1,.int .i64 t1]) (.agg #[.int .i64 f2,.int .i64 t2]):Sem Value).run Tryz.prog w = _
 simp only [Sem.run_bind,run_eqGuard_agg _ _ _ _ _ _ _ egt28,Result.andThen_ok,run_eql_struct,eq28]
 rfl,h⟩
theorem ft_neq{f1 t1 f2 t2:Int}{κ:KV→Prop}(h:κ (.prop (¬ (f1=f2∧t1=t2)))) :
 EqK Tryz.prog .neq 28 (.agg [.val (.int .i64 f1),.val (.int .i64 t1)]) (.agg [.val (.int .i64 f2),.val (.int .i64 t2)]) κ:=⟨_,fun u v w=>by
 show (do eqGuard .neq 28 u v (.agg #[.int .i64 f1,.int .i64 t1]) (.agg #[.int .i64 f2,.int .i64 t2]);binOp .neq 28 (.agg #[.int .i64 f1,.int .i64 t1]) (.agg #[.int .i64 f2,.int .i64 t2]):Sem Value).run Tryz.prog w = _
 simp only [Sem.run_bind,run_eqGuard_agg _ _ _ _ _ _ _ egt28,Result.andThen_ok,run_neq_struct,eq28]
 simp [denC,dec_eq],h⟩
def EndsP(k:Int)(t:ByteArray):Prop:=(k=1∨k=3∨k=4∨k=5∨k=6∨k=7)∨(k=2∧(t=(⟨#[98,114,101,97,107]⟩:ByteArray)∨t=(⟨#[99,111,110,116,105,110,117,101]⟩:ByteArray)∨t=(⟨#[102,97,108,108,116,104,114,111,117,103,104]⟩:ByteArray)∨t=(⟨#[114,101,116,117,114,110]⟩:ByteArray)))∨(k=8∧(t=(⟨#[43,43]⟩:ByteArray)∨t=(⟨#[45,45]⟩:ByteArray)∨t=(⟨#[41]⟩:ByteArray)∨t=(⟨#[93]⟩:ByteArray)∨t=(⟨#[125]⟩:ByteArray)))
instance (k:Int) (t:ByteArray):Decidable (EndsP k t):=by unfold EndsP;exact inferInstance
theorem ends_any(k:Int)(t:ByteArray)(h:Heap):CH Tryz.prog 35 #[.int .u8 k,.string t] h fun v h'=>v=denC (.prop (EndsP k t))∧Grows h h':=by
 refine enter (rep:=rep) (m:=1) (ex:=[0,1,4,5,6,13,29]) (cu:=[]) tO Tryz.func35 rfl (by decide) (rs:=[.tmp 4]) rfl rfl [.val (.int .u8 k),.val (.string t)] rfl ?_
 ((repeat' ((conv=>whnf);(first|(refine Br.mk ?_ ?_<;>intro hb<;>(try (exfalso;omega)))|fail)));all_goals (try (conv=>whnf)))
 all_goals first
  |exact⟨fun h' hs=>⟨by simp [den,den1,denC,EndsP, *],hs.grows⟩⟩
def SilP(k:Int):Prop:=k=10∨k=11∨k=12
instance (k:Int):Decidable (SilP k):=by unfold SilP;exact inferInstance
theorem silent_any(t:Tok)(h:Heap):CH Tryz.prog 32 #[.agg ⟨tokR.cells t⟩] h fun v h'=>v=denC (.prop (SilP t.kind))∧Grows h h':=by
 refine enter (rep:=rep) (m:=1) (ex:=[1,2]) (cu:=[]) tO Tryz.func32 rfl (by decide) (rs:=[.tmp 2]) rfl rfl [.agg [.val (.int .u8 t.kind),.val (.int .i64 t.frm),.val (.int .i64 t.to)]] rfl ?_
 ((repeat' ((conv=>whnf);(first|(refine VC.mk (by omega) ?_)|(refine Br.mk ?_ ?_<;>intro hb)|(refine New.mk ?_;intro b hb)|fail)));all_goals (try (conv=>whnf)))
 all_goals first
  |exact⟨fun h' hs=>⟨by simp [den,den1,denC,SilP, *],hs.grows⟩⟩
end Go.Ex
namespace Go.Ex
open Go.Proofs
theorem allGo_ok(s:ByteArray):∀ (f:Nat) (acc:List Tok) (a:Int),0≤a→(∀ t∈acc,0≤t.frm∧t.frm<t.to∧t.to≤s.size)→(acc.length:Int)≤a→a≤s.size →
 (∀ t∈(allGo s f acc a).1,0≤t.frm∧t.frm<t.to∧t.to≤s.size)∧((allGo s f acc a).1.length:Int)≤s.size
 |0,acc,a,h0,h1,h2,h3=>by simp [allGo]
 |f+1,acc,a,h0,h1,h2,h3=>by
  rw [allGo]
  split
  ·exact⟨h1,by dsimp only;omega⟩
  ·split
   ·simp
   ·rename_i h4 h5
    have hr:=lexK_rng s a (by omega) h5
    refine allGo_ok s f _ _ (by omega) (fun t ht=>?_) (by rw [List.length_append,List.length_singleton];omega) (by omega)
    rcases List.mem_append.1 ht with ht|ht
    ·exact h1 t ht
    ·rw [List.mem_singleton.1 ht];dsimp only;omega
theorem allF_ok(s:ByteArray):(∀ t∈(allF s).1,0≤t.frm∧t.frm<t.to∧t.to≤s.size)∧((allF s).1.length:Int)≤s.size∧((allF s).1.length:Int)≤65536∧((allF s).2.1=0→s.size≤65536):=by
 unfold allF
 split
 ·simp
 ·split
  ·simp
  ·rename_i h1 h2
   have:=allGo_ok s (s.size+1) [] 0 (Int.le_refl _) (fun t h=>by cases h) (by simp) (by omega)
   exact⟨this.1,this.2,by omega,fun _=>by omega⟩
def flushS(x:List Tok×Int):List Tok×Int:=(if 0≤x.2 then x.1++[⟨9,x.2,x.2⟩] else x.1,-1)
def semStep(s:ByteArray)(x:List Tok×Int)(t:Tok):List Tok×Int:=
 if SilP t.kind then (if 0≤idxB (sub s t.frm t.to) 10 then flushS x else x) else (x.1++[t],if EndsP t.kind (sub s t.frm t.to) then t.to else -1)
def semL(s:ByteArray)(l:List Tok):List Tok:=(flushS (l.foldl (semStep s) ([],-1))).1
def semF(s:ByteArray):List Tok×Int×Int:=if (allF s).2.1=0∧(allF s).2.2=0 then (semL s (allF s).1,0,0) else ([],(allF s).2)
theorem newline_any(t:ByteArray)(h:Heap):CH Tryz.prog 34 #[.string t,.string ⟨#[10]⟩] h fun v h'=>v=denC (.prop (0≤idxB t 10))∧Grows h h':=
 (contains1_any t 10 h).mono fun v h' ⟨h1,h2⟩=>⟨h1.trans (by simp only [denC,dec_eq];rfl),h2⟩
theorem CK.slf{P:Program}{E:Value→Heap→Prop}{S:St}{f:Nat}{args:List KV}{κ:KV→St→Prop}{τ:Type}{R:Rep τ}{T:Nat}{L:List τ}{e0 a0:Int}(hh:∀ h,HS S h→CH P f (args.map den1).toArray h (SlF R T h (L,e0,a0)))
 (hk:∀ h' A n c,Later S.h0 S.cap h' (blks S.ch)→Held R h' (blks S.ch) A n L→(∀ a,0<n→A=Option.some a→S.h0.size≤a.block)→κ (.tup [.val (.slice A n c),.agg [.val (.int .i64 e0),.val (.int .i64 a0)]]) ⟨h',blks S.ch,S.ch⟩):CK P E f args [] S κ:=
 ⟨fun h hs=>.inl (by
  have h1:=hh h hs
  rw [show args.map den1++([]:List KV).map denC=args.map den1 by simp]
  refine⟨h1.1,fun w hw=>(h1.2 w hw).mono fun e w' ⟨he,u,h2,⟨A,n,c,h3,h4,h5⟩⟩=>⟨he,u,h2,.tup [.val (.slice A n c),.agg [.val (.int .i64 e0),.val (.int .i64 a0)]],⟨w'.heap,blks S.ch,S.ch⟩,h3.symm,hs.shift h4,?_⟩⟩
  obtain⟨A',n',c',e,hk'⟩:=Held.new h5 hs
  cases e
  refine hk _ _ _ _ (hs.later h4).lB hk' fun a h0 ha=>?_
  cases h5 with
  |nil=>exact absurd h0 (Nat.lt_irrefl 0)
  |arr b cap L hb hlt hat=>cases ha;exact Nat.le_trans hs.size hb)⟩
theorem OwnSl.ofC{S:St}{h hs:Heap}(hS:HS S hs){τ:Type}{k b T cap:Nat}{R:Rep τ}{xs ys:List τ}(hf:findC S.ch k=some (b,.arr T R xs cap))(h0:h.size≤S.h0.size)(hc:∀ c∈S.cap,h.size≤c){n:Nat}(hn:n=xs.length)(hx:xs=ys):OwnSl R T h hs (.slice (some ⟨b,0,none⟩) n cap) ys:=by
 subst hx
 obtain⟨h1,h2,h3⟩:=hS.chunk _ (fM hf)
 rw [hn]
 refine .arr b cap xs ?_ h1 h3
 rcases h2 with h2|h2
 ·exact Nat.le_trans h0 h2
 ·exact hc _ h2
theorem Later.bas{h h1:Heap}{cap:List Nat}(hl:Later h [] h1 cap):Bas h h1 cap:=⟨⟨hl.size,fun b hb=>hl.same b hb List.not_mem_nil⟩,fun c hc=>(hl.cap c hc).elim (fun h=>by cases h) fun h=>h⟩
structure SemS where
 L:List Tok
 e:Int
 i:Int
 o:Option (Nat×Nat)
def smK(x:SemS):KV:=match x.o with
 |none=>.val (.slice none 0 0)
 |some (b,c)=>.osl 50 b x.L.length c
def smC(x:SemS):Chs:=match x.o with
 |none=>[]
 |some (b,c)=>[(50,b,.arr 40 tokR x.L c)]
attribute [local irreducible] CH lexK allF SilP EndsP idxB
theorem semi_any(s:ByteArray)(h:Heap)(ht:TabsH h)(hz:s.size≤140737488355328):CH Tryz.prog 17 #[.string s] h (SlF tokR 40 h (semF s)):=by
 refine enter (rep:=rep) (m:=1) (ex:=[0,2,3,4,5,6,7,8,9,11,12,20,23,24,25,26,37,39,49]) (cu:=[]) tO Tryz.func17 rfl (by decide) (rs:=[.tmp 2,.cell 3 28]) rfl rfl [.val (.string s)] rfl ?_
 obtain⟨ok1,ok2,ok3,ok4⟩:=allF_ok s
 obtain⟨R,hR⟩:∃ R,semF s=R:=⟨_,rfl⟩
 rw [hR]
 unfold semF at hR
 have c1:=fun h1 (ht:TabsH h1)=>all_any s h1 ht hz
 generalize allF s=al at hR c1 ok1 ok2 ok3 ok4
 obtain⟨All,fe,fa⟩:=al
 dsimp only at hR c1 ok1 ok2 ok3 ok4
 ((repeat' ((conv=>whnf);(first|(refine dW (id:=3) tO mixed (.pull 1 [2] (.pull 0 [2] (.one 2 .done))) (by kernel_rfl) (by kernel_rfl) ?_)|(refine VC.mk (by omega) ?_)|(refine Br.mk ?_ ?_<;>intro hb)|(refine New.mk ?_;intro b hb)|(refine CK.slf (fun h hs=>c1 h (ht.at hs)) ?_;intro h1 A n c hl hA hfr)|(refine ft_neq ?_)|fail)));all_goals (try (conv=>whnf)))
 ·rename_i hb0
  rw [if_neg (by assumption)] at hR
  subst hR
  exact⟨fun h' hs=>⟨none,0,0,rfl,hl.bas.fin hs,OwnSl.nil⟩⟩
 rename_i b3 hb3 b5 hb5 hf b7 hb7
 have hf:=Classical.not_not.1 hf
 rw [if_pos hf] at hR
 have hn:=hA.sl.len_eq
 have hz2:=ok4 hf.1
 have hbas:Bas h h1 [b3]:=hl.bas
 replace hA:Held tokR h1 [b3] A n All:=hA
 obtain⟨Q,hQ⟩:∃ Q,All.foldl (semStep s) ([],-1)=Q:=⟨_,rfl⟩
 unfold semL at hR
 rw [hQ] at hR
 refine lgn tO [25,7,8,9] (fun x:SemS=>[(25,.val (.int .i64 x.i)),(7,.own 207 b7 0),(8,.own 208 b 0),(9,.fn 33 [.own 208 b 0,.own 207 b7 0])]) (fun x=>⟨h1,[b3],[(208,b,.box 3 [.val (.int .i64 x.e)]),(207,b7,.box 22 [smK x]),(5,b5,.box 28 [.val (.int .i64 fe),.val (.int .i64 fa)]),(3,b3,.box 28 [.val (.int .i64 0),.val (.int .i64 0)])]++smC x⟩)
  (fun μ x=>(All.drop x.i.toNat).foldl (semStep s) (x.L,x.e)=Q∧(0≤x.i∧x.i+μ=All.length)∧x.L.length≤2*x.i∧(-1≤x.e∧x.e≤s.size)∧(x.o=none→x.L=[])∧∀ b c,x.o=some (b,c)→x.L.length≤c) ?_
 conv=>whnf
 refine⟨fun h2 hs=>⟨All.length,⟨[],-1,0,none⟩,⟨hQ,⟨Int.le_refl _,by simp⟩,by simp,⟨by dsimp only;omega,by dsimp only;omega⟩,fun _=>rfl,fun b c e=>by cases e⟩,?_,hs.ren [8,7,5,3] ⟨⟨_,rfl,SC.rfl⟩,rfl,⟨_,rfl,SC.box rfl⟩,rfl,⟨_,rfl,SC.rfl⟩,rfl,⟨_,rfl,SC.box rfl⟩,rfl,trivial⟩⟩,?_⟩
 ·refine And.intro ⟨_,rfl,by first|rfl|(simp [den,den1,denC];done)⟩ ?_
  (repeat (refine And.intro ⟨_,rfl,rfl⟩ ?_));exact trivial
 rintro μ ⟨L,e,i,o⟩ ⟨t1,⟨t2,t2'⟩,t3,t4,t5,t6⟩
 dsimp only at t1 t2 t2' t3 t4 t5 t6 ⊢
 by_cases hi:i<n
 ·obtain⟨f,rfl⟩:∃ f,μ=f+1:=⟨μ-1,by omega⟩
  rw [drop_get tokR.dflt All i t2 (by omega),List.foldl_cons] at t1
  have hk:=ok1 (getI tokR.dflt All i) (by
   unfold getI
   rw [List.getD_eq_getElem?_getD,List.getElem?_eq_getElem (by omega)]
   exact List.getElem_mem _)
  have hpl:PlainA A:=hA.sl.plain (by omega)
  have c2:=fun h1=>silent_any (getI tokR.dflt All i) h1
  have c3:=fun h1=>newline_any (sub s (getI tokR.dflt All i).frm (getI tokR.dflt All i).to) h1
  have c4:=fun h1=>ends_any (getI tokR.dflt All i).kind (sub s (getI tokR.dflt All i).frm (getI tokR.dflt All i).to) h1
  rcases o with _|⟨b2,cc⟩
  ·have t5:=t5 rfl
   subst t5
   ((repeat' ((conv=>whnf);(first|(refine Ar.fit (by omega) ?_)|(refine VC.mk (by (first|omega|(and_intros<;>first|omega|rfl|(simp only [maxLen];omega)|(simp only [List.length_append,List.length_take,List.length_replicate,List.length_cons,List.length_nil];omega)))) ?_)|(refine Br.mk ?_ ?_<;>intro hb<;>(try (first|(exfalso;omega)|contradiction)))|(refine New.mk ?_;intro b hb)|(refine New2.mk ?_;intro b c hb hbc)|(refine SR.same ?_)|(refine XLoad.held hA rfl (by omega) (by omega) rfl ?_)|(refine CK.says (.prop _) (fun h1 hs=>c2 h1) ?_)|(refine CK.says (.prop _) (fun h1 hs=>c3 h1) ?_)|(refine CK.says (.prop _) (fun h1 hs=>c4 h1) ?_)|(refine CK.inline (rep:=rep) tO Tryz.func33 rfl (by decide) (rs:=[]) rfl 4 [0,1,3] [] rfl rfl rfl ?_)|fail)));all_goals (try (conv=>whnf)))
   all_goals first
    | (intro h2 hs
       rw [semStep,if_pos (by assumption),if_neg (by assumption)] at t1
       refine⟨f,⟨[],e,i+1,none⟩,⟨t1,⟨by dsimp only;omega,by dsimp only;omega⟩,by dsimp only [List.length_nil];omega,⟨t4.1,t4.2⟩,fun _=>rfl,fun b0 c0 e=>by cases e⟩,Nat.lt_succ_self f,?_,hs.ren [208,207,5,3] ⟨⟨_,rfl,SC.box (by first|rfl|(simp [denC,smK];done)|(simp [denC,smK];omega))⟩,rfl,⟨_,rfl,SC.box (by first|rfl|(simp [denC,smK];done)|(simp [denC,smK];omega))⟩,rfl,⟨_,rfl,SC.rfl⟩,rfl,⟨_,rfl,SC.rfl⟩,rfl,trivial⟩⟩
       refine And.intro ⟨_,rfl,by first|rfl|(simp [den,den1,denC,smK];done)|(simp [den,den1,denC,smK];omega)⟩ ?_
       (repeat (refine And.intro ⟨_,rfl,rfl⟩ ?_));exact trivial)
    | (intro h2 hs
       rw [semStep,if_pos (by assumption),if_pos (by assumption),flushS,if_neg (by assumption)] at t1
       refine⟨f,⟨[],-1,i+1,none⟩,⟨t1,⟨by dsimp only;omega,by dsimp only;omega⟩,by dsimp only [List.length_nil];omega,⟨Int.le_refl _,by dsimp only;omega⟩,fun _=>rfl,fun b0 c0 e=>by cases e⟩,Nat.lt_succ_self f,?_,hs.ren [208,207,5,3] ⟨⟨_,rfl,SC.box (by first|rfl|(simp [denC,smK];done)|(simp [denC,smK];omega))⟩,rfl,⟨_,rfl,SC.box (by first|rfl|(simp [denC,smK];done)|(simp [denC,smK];omega))⟩,rfl,⟨_,rfl,SC.rfl⟩,rfl,⟨_,rfl,SC.rfl⟩,rfl,trivial⟩⟩
       refine And.intro ⟨_,rfl,by first|rfl|(simp [den,den1,denC,smK];done)|(simp [den,den1,denC,smK];omega)⟩ ?_
       (repeat (refine And.intro ⟨_,rfl,rfl⟩ ?_));exact trivial)
    | (intro h2 hs
       rw [semStep,if_pos (by assumption),if_pos (by assumption),flushS,if_pos (by assumption)] at t1
       refine⟨f,⟨[]++[⟨9,e,e⟩],-1,i+1,some (_,_)⟩,⟨t1,⟨by dsimp only;omega,by dsimp only;omega⟩,by dsimp only;rw [List.length_append,List.length_singleton];(try dsimp only [List.length_nil]);omega,⟨Int.le_refl _,by dsimp only;omega⟩,fun e=>(by cases e),fun b0 c0 e=>by cases e;simpa using hbc⟩,Nat.lt_succ_self f,?_,hs.ren [208,207,5,3,9] ⟨⟨_,rfl,SC.box (by first|rfl|(simp [denC,smK];done)|(simp [denC,smK];omega))⟩,rfl,⟨_,rfl,SC.box (by first|rfl|(simp [denC,smK];done)|(simp [denC,smK];omega))⟩,rfl,⟨_,rfl,SC.rfl⟩,rfl,⟨_,rfl,SC.rfl⟩,rfl,⟨_,rfl,SC.arr (by simp)⟩,rfl,trivial⟩⟩
       refine And.intro ⟨_,rfl,by first|rfl|(simp [den,den1,denC,smK];done)|(simp [den,den1,denC,smK];omega)⟩ ?_
       (repeat (refine And.intro ⟨_,rfl,rfl⟩ ?_));exact trivial)
    | (intro h2 hs
       rw [semStep,if_neg (by assumption),if_pos (by assumption)] at t1
       refine⟨f,⟨[]++[getI tokR.dflt All i],(getI tokR.dflt All i).to,i+1,some (_,_)⟩,⟨t1,⟨by dsimp only;omega,by dsimp only;omega⟩,by dsimp only;rw [List.length_append,List.length_singleton];(try dsimp only [List.length_nil]);omega,⟨by dsimp only;omega,by dsimp only;omega⟩,fun e=>(by cases e),fun b0 c0 e=>by cases e;simpa using hbc⟩,Nat.lt_succ_self f,?_,hs.ren [208,207,5,3,45] ⟨⟨_,rfl,SC.box (by first|rfl|(simp [denC,smK];done)|(simp [denC,smK];omega))⟩,rfl,⟨_,rfl,SC.box (by first|rfl|(simp [denC,smK];done)|(simp [denC,smK];omega))⟩,rfl,⟨_,rfl,SC.rfl⟩,rfl,⟨_,rfl,SC.rfl⟩,rfl,⟨_,rfl,SC.arr (by simp)⟩,rfl,trivial⟩⟩
       refine And.intro ⟨_,rfl,by first|rfl|(simp [den,den1,denC,smK];done)|(simp [den,den1,denC,smK];omega)⟩ ?_
       (repeat (refine And.intro ⟨_,rfl,rfl⟩ ?_));exact trivial)
    | (intro h2 hs
       rw [semStep,if_neg (by assumption),if_neg (by assumption)] at t1
       refine⟨f,⟨[]++[getI tokR.dflt All i],-1,i+1,some (_,_)⟩,⟨t1,⟨by dsimp only;omega,by dsimp only;omega⟩,by dsimp only;rw [List.length_append,List.length_singleton];(try dsimp only [List.length_nil]);omega,⟨Int.le_refl _,by dsimp only;omega⟩,fun e=>(by cases e),fun b0 c0 e=>by cases e;simpa using hbc⟩,Nat.lt_succ_self f,?_,hs.ren [208,207,5,3,45] ⟨⟨_,rfl,SC.box (by first|rfl|(simp [denC,smK];done)|(simp [denC,smK];omega))⟩,rfl,⟨_,rfl,SC.box (by first|rfl|(simp [denC,smK];done)|(simp [denC,smK];omega))⟩,rfl,⟨_,rfl,SC.rfl⟩,rfl,⟨_,rfl,SC.rfl⟩,rfl,⟨_,rfl,SC.arr (by simp)⟩,rfl,trivial⟩⟩
       refine And.intro ⟨_,rfl,by first|rfl|(simp [den,den1,denC,smK];done)|(simp [den,den1,denC,smK];omega)⟩ ?_
       (repeat (refine And.intro ⟨_,rfl,rfl⟩ ?_));exact trivial)
  ·have t6:=t6 _ _ rfl
   ((repeat' ((conv=>whnf);(first|(refine Ar.fit (by omega) ?_)|(refine VC.mk (by (first|omega|(and_intros<;>first|omega|rfl|(simp only [maxLen];omega)|(simp only [List.length_append,List.length_take,List.length_replicate,List.length_cons,List.length_nil];omega)))) ?_)|(refine Br.mk ?_ ?_<;>intro hb<;>(try (exfalso;omega)))|(refine New.mk ?_;intro b hb)|(refine NewO.mk ?_;intro b c hb hbc)|(refine SR.same ?_)|(refine XLoad.held hA rfl (by omega) (by omega) rfl ?_)|(refine CK.says (.prop _) (fun h1 hs=>c2 h1) ?_)|(refine CK.says (.prop _) (fun h1 hs=>c3 h1) ?_)|(refine CK.says (.prop _) (fun h1 hs=>c4 h1) ?_)|(refine CK.inline (rep:=rep) tO Tryz.func33 rfl (by decide) (rs:=[]) rfl 4 [0,1,3] [] rfl rfl rfl ?_)|fail)));all_goals (try (conv=>whnf)))
   all_goals first
    | (intro h2 hs
       rw [semStep,if_pos (by assumption),if_neg (by assumption)] at t1
       refine⟨f,⟨L,e,i+1,some (b2,cc)⟩,⟨t1,⟨by dsimp only;omega,by dsimp only;omega⟩,by dsimp only [List.length_nil];omega,⟨t4.1,t4.2⟩,fun e=>(by cases e),fun b0 c0 e=>by cases e;exact t6⟩,Nat.lt_succ_self f,?_,hs.ren [208,207,5,3,50] ⟨⟨_,rfl,SC.box (by first|rfl|(simp [denC,smK];done)|(simp [denC,smK];omega))⟩,rfl,⟨_,rfl,SC.box (by first|rfl|(simp [denC,smK];done)|(simp [denC,smK];omega))⟩,rfl,⟨_,rfl,SC.rfl⟩,rfl,⟨_,rfl,SC.rfl⟩,rfl,⟨_,rfl,SC.rfl⟩,rfl,trivial⟩⟩
       refine And.intro ⟨_,rfl,by first|rfl|(simp [den,den1,denC,smK];done)|(simp [den,den1,denC,smK];omega)⟩ ?_
       (repeat (refine And.intro ⟨_,rfl,rfl⟩ ?_));exact trivial)
    | (intro h2 hs
       rw [semStep,if_pos (by assumption),if_pos (by assumption),flushS,if_neg (by assumption)] at t1
       refine⟨f,⟨L,-1,i+1,some (b2,cc)⟩,⟨t1,⟨by dsimp only;omega,by dsimp only;omega⟩,by dsimp only [List.length_nil];omega,⟨Int.le_refl _,by dsimp only;omega⟩,fun e=>(by cases e),fun b0 c0 e=>by cases e;exact t6⟩,Nat.lt_succ_self f,?_,hs.ren [208,207,5,3,50] ⟨⟨_,rfl,SC.box (by first|rfl|(simp [denC,smK];done)|(simp [denC,smK];omega))⟩,rfl,⟨_,rfl,SC.box (by first|rfl|(simp [denC,smK];done)|(simp [denC,smK];omega))⟩,rfl,⟨_,rfl,SC.rfl⟩,rfl,⟨_,rfl,SC.rfl⟩,rfl,⟨_,rfl,SC.rfl⟩,rfl,trivial⟩⟩
       refine And.intro ⟨_,rfl,by first|rfl|(simp [den,den1,denC,smK];done)|(simp [den,den1,denC,smK];omega)⟩ ?_
       (repeat (refine And.intro ⟨_,rfl,rfl⟩ ?_));exact trivial)
    | (intro h2 hs
       rw [semStep,if_pos (by assumption),if_pos (by assumption),flushS,if_pos (by assumption)] at t1
       refine⟨f,⟨L++[⟨9,e,e⟩],-1,i+1,some (_,_)⟩,⟨t1,⟨by dsimp only;omega,by dsimp only;omega⟩,by dsimp only;rw [List.length_append,List.length_singleton];(try dsimp only [List.length_nil]);omega,⟨Int.le_refl _,by dsimp only;omega⟩,fun e=>(by cases e),fun b0 c0 e=>by cases e;simpa using hbc⟩,Nat.lt_succ_self f,?_,hs.ren [208,207,5,3,9] ⟨⟨_,rfl,SC.box (by first|rfl|(simp [denC,smK];done)|(simp [denC,smK];omega))⟩,rfl,⟨_,rfl,SC.box (by first|rfl|(simp [denC,smK];done)|(simp [denC,smK];omega))⟩,rfl,⟨_,rfl,SC.rfl⟩,rfl,⟨_,rfl,SC.rfl⟩,rfl,⟨_,rfl,SC.arr (by simp)⟩,rfl,trivial⟩⟩
       refine And.intro ⟨_,rfl,by first|rfl|(simp [den,den1,denC,smK];done)|(simp [den,den1,denC,smK];omega)⟩ ?_
       (repeat (refine And.intro ⟨_,rfl,rfl⟩ ?_));exact trivial)
    | (intro h2 hs
       rw [semStep,if_neg (by assumption),if_pos (by assumption)] at t1
       refine⟨f,⟨L++[getI tokR.dflt All i],(getI tokR.dflt All i).to,i+1,some (_,_)⟩,⟨t1,⟨by dsimp only;omega,by dsimp only;omega⟩,by dsimp only;rw [List.length_append,List.length_singleton];(try dsimp only [List.length_nil]);omega,⟨by dsimp only;omega,by dsimp only;omega⟩,fun e=>(by cases e),fun b0 c0 e=>by cases e;simpa using hbc⟩,Nat.lt_succ_self f,?_,hs.ren [208,207,5,3,45] ⟨⟨_,rfl,SC.box (by first|rfl|(simp [denC,smK];done)|(simp [denC,smK];omega))⟩,rfl,⟨_,rfl,SC.box (by first|rfl|(simp [denC,smK];done)|(simp [denC,smK];omega))⟩,rfl,⟨_,rfl,SC.rfl⟩,rfl,⟨_,rfl,SC.rfl⟩,rfl,⟨_,rfl,SC.arr (by simp)⟩,rfl,trivial⟩⟩
       refine And.intro ⟨_,rfl,by first|rfl|(simp [den,den1,denC,smK];done)|(simp [den,den1,denC,smK];omega)⟩ ?_
       (repeat (refine And.intro ⟨_,rfl,rfl⟩ ?_));exact trivial)
    | (intro h2 hs
       rw [semStep,if_neg (by assumption),if_neg (by assumption)] at t1
       refine⟨f,⟨L++[getI tokR.dflt All i],-1,i+1,some (_,_)⟩,⟨t1,⟨by dsimp only;omega,by dsimp only;omega⟩,by dsimp only;rw [List.length_append,List.length_singleton];(try dsimp only [List.length_nil]);omega,⟨Int.le_refl _,by dsimp only;omega⟩,fun e=>(by cases e),fun b0 c0 e=>by cases e;simpa using hbc⟩,Nat.lt_succ_self f,?_,hs.ren [208,207,5,3,45] ⟨⟨_,rfl,SC.box (by first|rfl|(simp [denC,smK];done)|(simp [denC,smK];omega))⟩,rfl,⟨_,rfl,SC.box (by first|rfl|(simp [denC,smK];done)|(simp [denC,smK];omega))⟩,rfl,⟨_,rfl,SC.rfl⟩,rfl,⟨_,rfl,SC.rfl⟩,rfl,⟨_,rfl,SC.arr (by simp)⟩,rfl,trivial⟩⟩
       refine And.intro ⟨_,rfl,by first|rfl|(simp [den,den1,denC,smK];done)|(simp [den,den1,denC,smK];omega)⟩ ?_
       (repeat (refine And.intro ⟨_,rfl,rfl⟩ ?_));exact trivial)
 ·have e1:All.drop i.toNat=[]:=drop_all All i (by omega)
  rw [e1,List.foldl_nil] at t1
  subst t1
  unfold flushS at hR
  dsimp only at hR
  rcases o with _|⟨b2,cc⟩
  ·have t5:=t5 rfl
   subst t5
   ((repeat' ((conv=>whnf);(first|(refine VC.mk (by (first|omega|(and_intros<;>first|omega|rfl|(simp only [maxLen];omega)|(simp only [List.length_append,List.length_take,List.length_replicate,List.length_cons,List.length_nil];omega)))) ?_)|(refine Br.mk ?_ ?_<;>intro hb<;>(try (first|(exfalso;omega)|contradiction)))|(refine New.mk ?_;intro b hb)|(refine New2.mk ?_;intro b c hb hbc)|(refine SR.same ?_)|(refine CK.inline (rep:=rep) tO Tryz.func33 rfl (by decide) (rs:=[]) rfl 4 [0,1,3] [] rfl rfl rfl ?_)|fail)));all_goals (try (conv=>whnf)))
   all_goals first
    | (rw [if_pos (by assumption)] at hR
       subst hR
       exact⟨fun h' hs=>⟨some ⟨_,0,none⟩,_,_,rfl,hbas.fin hs,OwnSl.ofC hs (k:=9) rfl hl.size hbas.cp (by first|rfl|(simp;done)|(simp;omega)) (by first|rfl|(simp;done))⟩⟩)
    | (rw [if_neg (by assumption)] at hR
       subst hR
       exact⟨fun h' hs=>⟨none,0,0,rfl,hbas.fin hs,OwnSl.nil⟩⟩)
    | (rw [if_neg (by assumption)] at hR
       subst hR
       exact⟨fun h' hs=>⟨some ⟨b2,0,none⟩,_,cc,rfl,hbas.fin hs,OwnSl.ofC hs (k:=50) rfl hl.size hbas.cp rfl rfl⟩⟩)
  ·have t6:=t6 _ _ rfl
   ((repeat' ((conv=>whnf);(first|(refine VC.mk (by (first|omega|(and_intros<;>first|omega|rfl|(simp only [maxLen];omega)|(simp only [List.length_append,List.length_take,List.length_replicate,List.length_cons,List.length_nil];omega)))) ?_)|(refine Br.mk ?_ ?_<;>intro hb<;>(try (exfalso;omega)))|(refine New.mk ?_;intro b hb)|(refine NewO.mk ?_;intro b c hb hbc)|(refine SR.same ?_)|(refine CK.inline (rep:=rep) tO Tryz.func33 rfl (by decide) (rs:=[]) rfl 4 [0,1,3] [] rfl rfl rfl ?_)|fail)));all_goals (try (conv=>whnf)))
   all_goals first
    | (rw [if_pos (by assumption)] at hR
       subst hR
       exact⟨fun h' hs=>⟨some ⟨_,0,none⟩,_,_,rfl,hbas.fin hs,OwnSl.ofC hs (k:=9) rfl hl.size hbas.cp (by first|rfl|(simp;done)|(simp;omega)) (by first|rfl|(simp;done))⟩⟩)
    | (rw [if_neg (by assumption)] at hR
       subst hR
       exact⟨fun h' hs=>⟨none,0,0,rfl,hbas.fin hs,OwnSl.nil⟩⟩)
    | (rw [if_neg (by assumption)] at hR
       subst hR
       exact⟨fun h' hs=>⟨some ⟨b2,0,none⟩,_,cc,rfl,hbas.fin hs,OwnSl.ofC hs (k:=50) rfl hl.size hbas.cp rfl rfl⟩⟩)
end Go.Ex
