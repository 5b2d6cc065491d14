/-
  Top: TopDeep: whatever the input, the law answers true (part 43)
-/
import Derived.WideLaws
import Derived.Test.YtpjdgifhhnjclaaGreatDoorM30
import Derived.Test.YtpjdgifhhnjclaaGreatDoorM31
import Derived.Test.YtpjdgifhhnjclaaGreatDoorM32
import Derived.Test.YtpjdgifhhnjclaaGreatDoorM34
import Derived.Test.YtpjdgifhhnjclaaGreatDoorM37
import Derived.Test.YtpjdgifhhnjclaaGreatDoorM41
import Derived.Test.YtpjdgifhhnjclaaGreatDoorM42
set_option linter.unusedVariables false
set_option linter.unusedSimpArgs false
set_option maxHeartbeats 4000000
set_option maxRecDepth 10000
namespace Go.Ex
open Go.Proofs
section
variable {I:In}{M:Loc}{g:Gt}{N:Int}{t:Bool}{n:Int}
theorem fors_con(ok:InOk I)(H:Hyp I M g N)(hs0:n<I.L)(hn:0≤n∧n≤I.L)(hN:32*(I.L+1-n)+2≤N):Con I M 205 [] (forsS I g t n) t n 1:=by
 by_cases w0:word I (n+1)=(⟨#[123]⟩:ByteArray)
 ·exact fors_w0_con ok H hs0 w0 hn hN
 by_cases w1:word I (n+1)=(⟨#[114,97,110,103,101]⟩:ByteArray)
 ·exact fors_w1_con ok H hs0 w1 hn hN
 by_cases w2:word I (n+1)=(⟨#[59]⟩:ByteArray)
 ·exact fors_w2_con ok H hs0 w2 hn hN
 exact fors_d_con ok H hs0 w0 w1 w2 hn hN
theorem step_con(ok:InOk I)(H:Hyp I M g N):Hyp I M (step I g) (N+1):=fun F t n hN hn hp=>by
 have hN:need I F n≤N:=by omega
 cases F with
 |binary k=>exact binary_con ok H hp hn hN
 |expr=>exact expr_con ok H hn hN
 |unary=>exact unary_con ok H hn hN
 |operand=>exact operand_con ok H hn hN
 |primary=>exact primary_con ok H hn hN
 |exprs=>exact exprs_con ok H hn hN
 |element=>exact element_con ok H hn hN
 |value=>exact value_con ok H hn hN
 |elements=>exact elements_con ok H hn hN
 |typ=>exact typ_con ok H hn hN
 |anyType=>exact anyType_con ok H hn hN
 |typeName=>exact typeName_con ok H hn hN
 |signature=>exact signature_con ok H hn hN
 |params=>exact params_con ok H hn hN
 |param=>exact param_con ok H hn hN
 |tparams=>exact tparams_con ok H hn hN
 |names=>exact names_con ok H hn hN
 |union=>exact union_con ok H hn hN
 |block=>exact block_con ok H hn hN
 |stmts=>exact stmts_con ok H hn hN
 |anyStmts=>exact anyStmts_con ok H hn hN
 |stmt=>exact stmt_con ok H hn hN
 |simple=>exact simple_con ok H hn hN
 |ifs=>exact ifs_con ok H hp hn hN
 |switches=>exact switches_con ok H hp hn hN
 |selects=>exact selects_con ok H hp hn hN
 |fors=>exact fors_con ok H hp hn hN
 |declared=>exact declared_con ok H hp hn hN
 |started=>exact started_con ok H hp hn hN
 |returned=>exact returned_con ok H hp hn hN
 |branch=>exact branch_con ok H hp hn hN
 |group=>exact group_con ok H hp hn hN
 |valueSpec=>exact valueSpec_con ok H hn hN
 |constSpec=>exact constSpec_con ok H hn hN
 |importSpec=>exact importSpec_con ok H hn hN
 |typeSpec=>exact typeSpec_con ok H hn hN
 |fn=>exact fn_con ok H hn hN
 |file=>exact file_con ok H hn hN
 |field=>exact field_con ok H hn hN
 |elem=>exact elem_con ok H hn hN
 |types=>exact types_con ok H hn hN
theorem all_con(ok:InOk I):∀ f:Nat,Hyp I M (G I f) f
 |0=>fun F t n hN hn hp=>absurd hN (by
  have:0≤rank F:=by cases F<;>simp [rank]
  unfold need
  omega)
 |f+1=>step_con ok (all_con ok f)
end
end Go.Ex
namespace Go.Ex
open Go.Proofs
theorem und20:Tryz.prog.underlying 20=some (.interface (Tryz.prog.methodsAt 20)):=by kernel_rfl
theorem met20:(Tryz.prog.methodsAt 20).isEmpty=true:=by kernel_rfl
theorem nilI_eql{κ:KV→Prop}(h:κ (.prop True)):EqK Tryz.prog .eql 20 (.val .nilIface) (kvLit .nilIface) κ:=⟨True,fun u v w=>by
 show (do eqGuard .eql 20 u v .nilIface .nilIface;binOp .eql 20 .nilIface .nilIface:Sem Value).run Tryz.prog w = _
 have e1:Sem.run Tryz.prog (Op.equalIn Op.maxDepth 20 .nilIface .nilIface) w = .ok true w:=run_equalIn_nil_nil w 9999 20 und20
 have e2:Sem.run Tryz.prog (Op.eqGuardIn Op.maxDepth 20 .nilIface .nilIface) w = .ok false w:=by
  show Sem.run Tryz.prog (Op.eqGuardIn (9999+1) 20 .nilIface .nilIface) w = _
  unfold Op.eqGuardIn
  simp [underlying,und20,met20]
 simp [eqGuard,binOp,go_sem,Op.equal,e1,e2,denC],h⟩
theorem someI_eql{t:Nat}{x:Value}{κ:KV→Prop}(h:κ (.prop False)):EqK Tryz.prog .eql 20 (.val (.iface t x)) (kvLit .nilIface) κ:=⟨False,fun u v w=>by
 show (do eqGuard .eql 20 u v (.iface t x) .nilIface;binOp .eql 20 (.iface t x) .nilIface:Sem Value).run Tryz.prog w = _
 have e1:Sem.run Tryz.prog (Op.equalIn Op.maxDepth 20 (.iface t x) .nilIface) w = .ok false w:=run_equalIn_held_nil w 9999 20 t x und20
 simp [eqGuard,binOp,go_sem,Op.equal,e1,denC],h⟩
theorem HS.base{h h1 hf:Heap}{c c1:List Nat}{ch:Chs}(hl:Later h c h1 c1)(hs:HS ⟨h1,c1,ch⟩ hf):HS ⟨h,c,ch⟩ hf:=
 ⟨Nat.le_trans hl.size hs.size,fun b hb hn=>(hs.frame b (Nat.lt_of_lt_of_le hb hl.size) fun hm=>(hl.cap b hm).elim hn fun h2=>absurd (show b<h.size from hb) (by omega)).trans (hl.same b hb hn),
  fun e he=>by
   obtain⟨h1,h2,h3⟩:=hs.chunk e he
   refine⟨h1,?_,h3⟩
   rcases h2 with h2|h2
   ·exact .inl (Nat.le_trans hl.size h2)
   ·exact (hl.cap _ h2).symm,hs.apart⟩
section
variable {I:In}{M:Loc}{br:Nat}{E:Value→Heap→Prop}{S:St}{κ:KV→St→Prop}{f:Nat}{args:List KV}{r:Chs}
theorem CK.treeR{o:Out Nd}{str:Int}{t:Bool}{n:Int}(hcon:Con I M f [] o t n str)(hB:Base I M S.h0 S.cap)(hc:HasC S.ch (rdC I M br t n++r))(ha:args.map den1=[ptr br])
 (he:∀ x n' t' h',o = .err x→(0≤x∧x≤I.L)→HS ⟨S.h0,S.cap,rdC I M br t' n'++r⟩ h'→E (.iface 118 (.int .i64 x)) h')
 (hk:∀ x n' p h',o = .ok x n'→(n+str≤n'∧n'≤I.L)→Later S.h0 S.cap h' (blks (rdC I M br t n'++r))→TrI S.h0.size h' (blks (rdC I M br t n'++r)) p x→κ (.val (.pointer p)) ⟨h',blks (rdC I M br t n'++r),rdC I M br t n'++r⟩):CK Tryz.prog E f args [] S κ:=by
 refine CK.turnP (rdC I M br t n) r (fun h=>ErrE I M br [br] h o) (fun h u q' h'=>∃ x n' p,o = .ok x n'∧(n+str≤n'∧n'≤I.L)∧u = .pointer p∧q'=rdC I M br t n'∧TrI h.size h' [br] p x) hc (fun h hs hs'=>?_) (fun h v h' hs hs' h1=>?_) (fun h u q' h' hs hs1 hs2 h1=>?_)
 ·rw [show args.map den1++([]:List KV).map denC=args.map den1 by simp,ha]
  refine (hcon br h hs' (hB.at hs fun c h1=>?_)).mono (fun v h' h1=>h1) fun v h' ⟨x,n',p,h1,h2,h3,h4,h5,h6⟩=>⟨_,h5,x,n',p,h1,h2,h4,rfl,h6⟩
  rw [List.mem_singleton.1 h1]
  exact blks_mem (hc.mem (900,br,rdB I M t n) (by simp [rdC]))
 ·obtain⟨x,n',t',h2,h3,h4,h5⟩:=h1
  subst h3
  exact he x n' t' h' h2 h4 (hs.join hc h5)
 ·obtain⟨x,n',p,h2,h3,h4,rfl,h6⟩:=h1
  refine⟨.val (.pointer p),_,h4.symm,hs2.anew,hk x n' p h' h2 h3 hs2.lB (h6.recap (fun c hm=>?_) hs.size)⟩
  obtain⟨e,he1,rfl⟩:=bsp hm
  rcases List.mem_append.1 he1 with he1|he1
  ·left
   have:e=(900,br,rdB I M t n'):=List.mem_singleton.1 he1
   rw [this]
   exact List.mem_singleton.2 rfl
  ·right
   exact (hs.chunk e (hc.mem e (List.mem_append.2 (.inr he1)))).1
theorem CK.failT{t:Bool}{n:Int}(hc:HasC S.ch (rdC I M br t n++r))(ha:args.map den1=[ptr br])(hn:0≤n∧n≤I.L)
 (he:∀ n' t' h',HS ⟨S.h0,S.cap,rdC I M br t' n'++r⟩ h'→E (.iface 118 (.int .i64 n)) h'):CK Tryz.prog E 59 args [] S κ:=by
 refine CK.turnP (rdC I M br t n) r (fun h=>ErrE I M br [br] h (.err n:Out Unit)) (fun h u q' h'=>False) hc (fun h hs hs'=>?_) (fun h v h' hs hs' h1=>?_) (fun h u q' h' hs hs1 hs2 h1=>h1.elim)
 ·rw [show args.map den1++([]:List KV).map denC=args.map den1 by simp,ha]
  exact (fail_any hs' hn).mono (fun v h' h1=>h1) fun v h' h1=>h1.elim
 ·obtain⟨x,n',t',h2,h3,h4,h5⟩:=h1
  cases h2
  subst h3
  exact he n' t' h' (hs.join hc h5)
end
def trC(br b2 b4 b5:Nat)(p:Option Addr)(e a:Int):Chs:=[(5,b5,.box 28 [.val (.int .i64 e),.val (.int .i64 a)]),(4,b4,.box 63 [.val (.pointer p)]),(2,b2,.box 78 [.own 900 br 0])]
theorem tree_idle{w:World}{S:St}(hs:HS S w.heap)(b2 b4 b5:Nat):CallsD Tryz.prog 52 #[ptr b2,ptr b4,ptr b5] .returning w fun e u' w'=>e = .returned (.tuple #[])∧u' = .returning∧HS S w'.heap∧SE w w':=by
 refine callsD_rec (rep:=rep) (m:=1) (ex:=[0,1,2,4,5,6,8,10,11,24]) (cu:=[]) (args:=[.own 2 b2 0,.own 4 b4 0,.own 5 b5 0]) (v:=.val .nilIface) (u1:=.returning) (κ:=fun S'=>S'=S) tO Tryz.func52 rfl rfl rfl (by decide) rfl hs (fun c₀ cs hu=>.inr ⟨by simp [recoverD,hu],rfl,rfl⟩) ?_ (fun S' w' h1 h2 h3=>⟨rfl,rfl,h1▸h2,h3⟩)
 ((repeat' ((conv=>whnf);(first|(refine Br.mk ?_ ?_<;>intro hb<;>(try (contradiction)))|(refine nilI_eql ?_)|fail)));all_goals (try (conv=>whnf)))
def atE(I:In)(x:Int):Int:=if x<I.L then (getI tokR.dflt I.toks x).frm else I.s.size
theorem tree_catch{I:In}{M:Loc}{h:Heap}{w:World}{br b2 b4 b5:Nat}{p:Option Addr}{t:Bool}{n x:Int}(hB:Base I M h [br])(hs:HS ⟨h,[br],rdC I M br t n++trC br b2 b4 b5 p 0 0⟩ w.heap)(hx:0≤x∧x≤I.L)(hl:I.L≤1000000) :
 CallsD Tryz.prog 52 #[ptr b2,ptr b4,ptr b5] (.panicking [{ v:=.iface 118 (.int .i64 x),recovered:=false }]) w fun e u' w'=>e = .returned (.tuple #[])∧u' = .panicking [{ v:=.iface 118 (.int .i64 x),recovered:=true }]∧HS ⟨h,[br],rdC I M br t n++trC br b2 b4 b5 none 7 (atE I x)⟩ w'.heap∧SE w w':=by
 have hT:=hB.toks
 have hn:=hT.sl.len_eq
 have hL:I.L=I.toks.length:=rfl
 refine callsD_rec (rep:=rep) (m:=1) (ex:=[0,1,2,4,5,6,8,10,11,24]) (cu:=[]) (args:=[.own 2 b2 0,.own 4 b4 0,.own 5 b5 0]) (v:=.val (.iface 118 (.int .i64 x))) (u1:=.panicking [{ v:=.iface 118 (.int .i64 x),recovered:=true }]) (κ:=fun S'=>∀ h',HS S' h'→HS ⟨h,[br],rdC I M br t n++trC br b2 b4 b5 none 7 (atE I x)⟩ h') tO Tryz.func52 rfl rfl rfl (by decide) rfl hs (fun c₀ cs hu=>.inl (by simp [recoverD,hu];rfl)) ?_ (fun S' w' h1 h2 h3=>⟨rfl,rfl,h1 _ h2,h3⟩)
 by_cases hxt:x<M.tn
 ·have hpl:=hT.sl.plain (by omega)
  have e:atE I x=(getI tokR.dflt I.toks x).frm:=if_pos (by omega)
  rw [e]
  ((repeat' ((conv=>whnf);(first|(refine VC.mk (by omega) ?_)|(refine Br.mk ?_ ?_<;>intro hb<;>(try (exfalso;omega)))|(refine someI_eql ?_)|(refine XLoad.held hT rfl (by omega) (by omega) rfl ?_)|fail)));all_goals (try (conv=>whnf)))
  all_goals exact fun h' hs=>hs
 ·have e:atE I x=I.s.size:=if_neg (by omega)
  rw [e]
  ((repeat' ((conv=>whnf);(first|(refine VC.mk (by omega) ?_)|(refine Br.mk ?_ ?_<;>intro hb<;>(try (exfalso;omega)))|(refine someI_eql ?_)|fail)));all_goals (try (conv=>whnf)))
  all_goals exact fun h' hs=>hs
end Go.Ex
namespace Go.Ex
open Go.Proofs
def Kp(V:List (Nat×Value))(a:Act):Prop:=a.tmps.size=46∧∀ p∈V,a.tmps[p.1]?=some p.2
def offV(V:List (Nat×Value))(d:Option Nat):Bool:=match d with
 |none=>true
 |some d=>V.all fun p=>!(Nat.beq p.1 d)
theorem Kp.put{V:List (Nat×Value)}{a:Act}(h:Kp V a){d:Option Nat}(hd:offV V d=true)(v:Value):Kp V (a.put d v):=by
 cases d with
 |none=>exact h
 |some d=>
  refine⟨by simp [Act.put,h.1],fun p hp=>?_⟩
  have h1:=List.all_eq_true.1 hd p hp
  simp only [Bool.not_eq_true'] at h1
  have hne:¬ d=p.1:=fun e=>by rw [e,Nat.beq_refl] at h1;cases h1
  show (a.tmps.setIfInBounds d v)[p.1]? = _
  rw [Array.getElem?_setIfInBounds_ne hne]
  exact h.2 p hp
def keepC(V:List (Nat×Value)):Code→Bool
 |.skip=>true
 |.region _ ops false=>ops.toList.all fun o=>offV V o.dst
 |.seq x y=>keepC V x && keepC V y
 |.cond _ x y=>keepC V x && keepC V y
 |.block _ c=>keepC V c
 |.exit _=>true
 |.ret=>true
 |_=>false
def lift2(V:List (Nat×Value))(E:Value→Heap→Prop)(Df:List Deferred)(n:Nat)(w0:World)(X:Esc)(κ:Kt):Exit→Act→World→Prop:=fun e a w=>lift E Df n w0 X κ e a w∧Kp V a
section
variable {Df:List Deferred}{P:Program}{ty:Nat→Option TyI}{rep:Env}{n m:Nat}{ex:List Nat}{X:Esc}{V:List (Nat×Value)}
theorem regK_sound2(hty:TysOk P ty){ops:List Oper}:∀ (l:List Oper) (K:Kn) (S:St) (κ:Kt),(l.all fun o=>offV V o.dst)=true→regK P ty rep n ops l K S κ→∀ (w0:World) a w,Good Df n a K→Kp V a→SE w0 w→HS S w.heap→wpList P ops.toArray (lift2 V rep.pan Df n w0 X κ) l a w
 |[],K,S,κ,hV,h,w0,a,w,ha,hk,he,hs=>⟨⟨K,S,ha,he,hs,h⟩,hk⟩
 |o::r,K,S,κ,hV,h,w0,a,w,ha,hkp,he,hs=>by
  have h:(match dstOk n o.dst with
   |false=>False
   |true=>match o.guard with
    |none=>opK P ty rep o K S fun v S=>regK P ty rep n ops r (putD K o.dst v) S κ
    |some (j,want)=>match dsts ops j with
     |none=>False
     |some s=>guardK s want K (fun K=>opK P ty rep o K S fun v S=>regK P ty rep n ops r (putD K o.dst v) S κ) (fun K=>regK P ty rep n ops r (putD K o.dst (.val undef)) S κ)):=h
  simp only [List.all_cons,Bool.and_eq_true] at hV
  split at h
  ·exact h.elim
  rename_i hd
  have hd:=dstOk_spec hd
  have run:∀ K,Good Df n a K→(opK P ty rep o K S fun v S=>regK P ty rep n ops r (putD K o.dst v) S κ)→o.wp P a w (wpList P ops.toArray (lift2 V rep.pan Df n w0 X κ) r) (lift2 V rep.pan Df n w0 X κ):=fun K ha h=>
   opK_sound hty h ha hs (fun v w' he' hE=>⟨⟨v,rfl,ha.defers,he.trans he',hE⟩,hkp⟩) fun kv S' w' he' hs' hk=>regK_sound2 hty r _ S' κ hV.2 hk w0 _ w' (ha.put hd kv) (hkp.put hV.1 _) (he.trans he') hs'
  split at h
  ·rename_i hg
   unfold wpList
   rw [if_pos (by simp [Region.wanted,hg])]
   exact .inl (run K ha h)
  ·rename_i j want hg
   split at h
   ·exact h.elim
   ·rename_i s hs'
    obtain⟨K',ha',h1|h1⟩:=guard_sound h ha
    ·have hw:Region.wanted o (yielded ops.toArray a.tmps)=true:=by
      have:=h1.1
      rw [dsts_eq] at hs'
      simp [Region.wanted,hg,yielded,hs',this]
     unfold wpList
     rw [if_pos hw]
     exact .inl (run K' ha' h1.2)
    ·have hw:Region.wanted o (yielded ops.toArray a.tmps)=false:=by
      rw [dsts_eq] at hs'
      rcases h1.1 with this|this
      ·simp [Region.wanted,hg,yielded,hs',this]
      ·simp [Region.wanted,hg,yielded,hs',this,undef]
     unfold wpList
     rw [if_neg (by rw [hw];simp)]
     exact regK_sound2 hty r _ S κ hV.2 h1.2 w0 _ w (ha'.put hd (.val undef)) (hkp.put hV.1 _) he hs
theorem codeK_sound2(hty:TysOk P ty):∀ (c:Code) (X:Esc) (κ:Kt) (K:Kn) (S:St),keepC V c=true→codeK P ty rep n m ex [] c X κ K S→∀ (Df:List Deferred) (w0:World) a w,Good Df n a K→Kp V a→SE w0 w→HS S w.heap→c.wp P (lift2 V rep.pan Df n w0 X κ) a w
 |.skip,X,κ,K,S,hV,h=>fun Df w0 a w ha hk he hs=>wp_skip ⟨⟨K,S,ha,he,hs,h⟩,hk⟩
 |.region id ops false,X,κ,K,S,hV,h=>fun Df w0 a w ha hk he hs=>by
  have:=regK_sound2 (X:=X) hty ops.toList K S κ hV h w0 a w ha hk he hs
  exact wp_region_list (by simpa using this)
 |.region id ops true,X,κ,K,S,hV,h=>by simp [keepC] at hV
 |.seq x y,X,κ,K,S,hV,h=>fun Df w0 a w ha hk he hs=>by
  simp only [keepC,Bool.and_eq_true] at hV
  have h1:x.wp P (lift2 V rep.pan Df n w0 X fun K S=>codeK P ty rep n m ex [] y X κ K S) a w:=by
   have h:(match cutAt [] y with
    |true=>trimK m ex K [] fun K=>Leaf P n ty rep m ex [] x X (fun K S=>codeK P ty rep n m ex [] y X κ K S) K S
    |false=>codeK P ty rep n m ex [] x X (fun K S=>codeK P ty rep n m ex [] y X κ K S) K S):=h
   have hc:cutAt [] y=false:=by unfold cutAt;split<;>rfl
   rw [hc] at h
   exact codeK_sound2 hty x X _ K S hV.1 h Df w0 a w ha hk he hs
  refine wp_seq (Code.wp_mono ?_ h1)
  intro e a w hq
  cases e with
  |normal=>obtain⟨⟨K,S,a1,a2,a3,a4⟩,a5⟩:=hq;exact codeK_sound2 hty y X κ K S hV.2 a4 Df w0 a w a1 a5 a2 a3
  |exit i=>exact hq
  |ret=>exact hq
  |panic ch=>exact hq
  |goto l=>exact hq
  |outgrown=>exact hq
 |.cond c x y,X,κ,K,S,hV,h=>fun Df w0 a w ha hk he hs=>by
  simp only [keepC,Bool.and_eq_true] at hV
  have h:(match look K c with
   |some (.val (.bool true))=>trimK m ex K [] fun K=>codeK P ty rep n m ex [] x X κ K S
   |some (.val (.bool false))=>trimK m ex K [] fun K=>codeK P ty rep n m ex [] y X κ K S
   |some (.prop p)=>Br p (trimK m ex K [] fun K=>codeK P ty rep n m ex [] x X κ K S) (trimK m ex K [] fun K=>codeK P ty rep n m ex [] y X κ K S)
   |_=>False):=h
  split at h
  ·rename_i hc
   obtain⟨K',h1,h2⟩:=trim_sound h
   exact wp_cond_true (ha.eval hc) (codeK_sound2 hty x X κ K' S hV.1 h1 Df w0 a w (ha.drop h2) hk he hs)
  ·rename_i hc
   obtain⟨K',h1,h2⟩:=trim_sound h
   exact wp_cond_false (ha.eval hc) (codeK_sound2 hty y X κ K' S hV.2 h1 Df w0 a w (ha.drop h2) hk he hs)
  ·rename_i p hc
   have hv:=ha.eval hc
   by_cases hp:p
   ·obtain⟨K',h1,h2⟩:=trim_sound (h.yes hp)
    exact wp_cond_true (by rw [hv];simp [den,den1,denC,hp]) (codeK_sound2 hty x X κ K' S hV.1 h1 Df w0 a w (ha.drop h2) hk he hs)
   ·obtain⟨K',h1,h2⟩:=trim_sound (h.no hp)
    exact wp_cond_false (by rw [hv];simp [den,den1,denC,hp]) (codeK_sound2 hty y X κ K' S hV.2 h1 Df w0 a w (ha.drop h2) hk he hs)
  ·exact h.elim
 |.block id c,X,κ,K,S,hV,h=>fun Df w0 a w ha hk he hs=>by
  have h1:=codeK_sound2 hty c _ κ K S hV h Df w0 a w ha hk he hs
  refine wp_block (Code.wp_mono ?_ h1)
  intro e a w hq
  cases e with
  |normal=>exact hq
  |exit i=>
   obtain⟨⟨K,S,a1,a2,a3,a4⟩,a5⟩:=hq
   simp only [Exit.inBlock]
   split
   ·rename_i e
    subst e
    rw [exitK_eq] at a4
    exact⟨⟨K,S,a1,a2,a3,a4⟩,a5⟩
   ·rename_i e
    rw [exitK_ne (fun e'=>e e'.symm)] at a4
    exact⟨⟨K,S,a1,a2,a3,a4⟩,a5⟩
  |ret=>exact hq
  |panic ch=>exact hq
  |goto l=>exact hq
  |outgrown=>exact hq
 |.exit id,X,κ,K,S,hV,h=>fun Df w0 a w ha hk he hs=>wp_exit ⟨⟨K,S,ha,he,hs,h⟩,hk⟩
 |.ret,X,κ,K,S,hV,h=>fun Df w0 a w ha hk he hs=>wp_ret ⟨⟨K,S,ha,he,hs,h⟩,hk⟩
 |.loop c,X,κ,K,S,hV,h=>by simp [keepC] at hV
 |.rangeFunc ..,_,_,_,_,hV,h=>by simp [keepC] at hV
 |.goto ..,_,_,_,_,hV,h=>by simp [keepC] at hV
end
end Go.Ex
namespace Go.Ex
open Go.Proofs
def ruleOf(goal:Int):Fn:=if goal=1 then .typ else if goal=2 then .expr else if goal=3 then .stmts else .file
def fT(I:In):Nat:=(32*(I.L+1)+24).toNat
def endS(I:In)(goal m:Int):Int:=if goal≤2∧m=I.L-1 then maybe I (⟨#[59]⟩:ByteArray) m else m
def treeS(I:In)(goal:Int):Out Nd:=bnd (G I (fT I) (ruleOf goal) false 0) fun x m=>if endS I goal m=I.L then .ok x (endS I goal m) else .err (endS I goal m)
section
variable {P:Program}{ty:Nat→Option TyI}{rep:Env}{n m:Nat}{ex:List Nat}{V:List (Nat×Value)}
theorem cutV(hty:TysOk P ty){x z:Code}{κ:Kt}{K:Kn}{S:St}{Df:List Deferred}{w0 w:World}{a:Act}{Q:Exit→Act→World→Prop}(hk:keepC V x=true)(h:codeK P ty rep n m ex [] x ⟨fun _ _=>False,[]⟩ κ K S)
 (ha:Good Df n a K) (hv:Kp V a) (he:SE w0 w) (hs:HS S w.heap) (hn:∀ K S a w1,Good Df n a K→SE w0 w1→HS S w1.heap→κ K S→z.wp P Q a w1)
 (hp:∀ v a w1,a.defers=Df→Kp V a→SE w0 w1→rep.pan v w1.heap→Q (.panic [{ v,recovered:=false }]) a w1):(Code.seq x z).wp P Q a w:=by
 have h1:=codeK_sound2 hty x _ _ K S hk h Df w0 a w ha hv he hs
 refine wp_seq (Code.wp_mono ?_ h1)
 intro e a w1 hq
 cases e with
 |normal=>obtain⟨⟨K,S,a1,a2,a3,a4⟩,a5⟩:=hq;exact hn K S a w1 a1 a2 a3 a4
 |exit i=>obtain⟨⟨K,S,a1,a2,a3,a4⟩,a5⟩:=hq;exact False.elim a4
 |ret=>obtain⟨⟨K,S,a1,a2,a3,a4⟩,a5⟩:=hq;exact False.elim a4
 |panic ch=>obtain⟨⟨v,h1,h2,h3,h4⟩,a5⟩:=hq;subst h1;exact hp v a w1 h2 a5 h3 h4
 |goto l=>exact False.elim hq.1
 |outgrown=>exact False.elim hq.1
theorem cutN(hty:TysOk P ty){x z:Code}{κ:Kt}{K:Kn}{S:St}{Df:List Deferred}{w0 w:World}{a:Act}{Q:Exit→Act→World→Prop}{rp:Nat→Option RepS}(h:codeK P ty ⟨rp,noPan⟩ n m ex [] x ⟨fun _ _=>False,[]⟩ κ K S)
 (ha:Good Df n a K) (he:SE w0 w) (hs:HS S w.heap) (hn:∀ K S a w1,Good Df n a K→SE w0 w1→HS S w1.heap→κ K S→z.wp P Q a w1):(Code.seq x z).wp P Q a w:=by
 have h1:=cks hty x _ _ K S h Df w0 a w ha he hs
 refine wp_seq (Code.wp_mono ?_ h1)
 intro e a w1 hq
 cases e with
 |normal=>obtain⟨K,S,a1,a2,a3,a4⟩:=hq;exact hn K S a w1 a1 a2 a3 a4
 |exit i=>obtain⟨K,S,a1,a2,a3,a4⟩:=hq;exact False.elim a4
 |ret=>obtain⟨K,S,a1,a2,a3,a4⟩:=hq;exact False.elim a4
 |panic ch=>obtain⟨v,h1,h2,h3,h4⟩:=hq;exact False.elim h4
 |goto l=>exact False.elim hq
 |outgrown=>exact False.elim hq
end
section
variable {I:In}{M:Loc}{br b2 b4 b5:Nat}
def V45(b4 b5:Nat):List (Nat×Value):=[(4,ptr b4),(5,ptr b5)]
theorem tree_results{a:Act}{h0:Heap}{cap:List Nat}{t:Bool}{n e x:Int}{p:Option Addr}{w:World}(hv:Kp (V45 b4 b5) a)(hs:HS ⟨h0,cap,rdC I M br t n++trC br b2 b4 b5 p e x⟩ w.heap) :
 (results Tryz.f40 a.tmps).run Tryz.prog w = .ok (.tuple #[.pointer p,.agg #[.int .i64 e,.int .i64 x]]) w:=by
 have h4:=hv.2 (4,ptr b4) (by simp [V45])
 have h5:=hv.2 (5,ptr b5) (by simp [V45])
 have ha':Good a.defers 46 a [(4,.own 4 b4 0),(5,.own 5 b5 0)]:=⟨hv.1,rfl,fun t v hv=>by
  by_cases e4:4=t
  ·subst e4;rw [lk_cons_eq] at hv;cases hv;exact h4
  ·rw [lk_cons_ne e4] at hv
   by_cases e5:5=t
   ·subst e5;rw [lk_cons_eq] at hv;cases hv;exact h5
   ·rw [lk_cons_ne e5] at hv;cases hv⟩
 have hr:resK ty [.cell 4 63,.cell 5 28] [(4,.own 4 b4 0),(5,.own 5 b5 0)] ⟨h0,cap,rdC I M br t n++trC br b2 b4 b5 p e x⟩ [] fun vs=>fk (retV vs) fun kv=>den kv = .tuple #[.pointer p,.agg #[.int .i64 e,.int .i64 x]]:=by
  ((repeat' ((conv=>whnf);(first|(refine VC.mk (by omega) ?_)|fail)));all_goals (try (conv=>whnf)))
  all_goals rfl
 obtain⟨kv,h1,h2⟩:=results_gen (P:=Tryz.prog) tO ha' (fn:=Tryz.f40) (rs:=[.cell 4 63,.cell 5 28]) rfl hr hs
 rw [h1,h2]
theorem wp_makeDefer {a : Act} {w : World} {v2 v4 v5 : Value} {Q : Exit → Act → World → Prop} {id : Nat} {ops : Array Oper} (ho : ops = #[{ dst := some 6, op := .makeFunc (.func 52) #[] #[.tmp 2, .tmp 4, .tmp 5], type := 1, pos := "syntax.go:136", after := #[], guard := none },
 { dst := none, op := .defer { callee := .value (.tmp 6), args := #[], argTypes := #[] }, type := 0, pos := "syntax.go:136", after := #[{ on := 0, ground := .data }], guard := none }])
 (hz:6<a.tmps.size) (h2:a.tmps[2]?=some v2) (h4:a.tmps[4]?=some v4) (h5:a.tmps[5]?=some v5)
 (hQ:Q .normal { a.put (some 6) (.func (.func 52) #[] #[v2,v4,v5]) with defers:={ target:=.fn (.func 52) #[v2,v4,v5],args:=#[] }::a.defers } w):(Code.region id ops false).wp Tryz.prog Q a w:=by
 subst ho
 refine wp_region_lit (l:=[_,_]) ?_
 simp [wpList,go_sem,h2,h4,h5,hz,Oper.upon]
 exact .inl (.inl hQ)
def K4(goal:Int)(b2 b4 b5:Nat)(K:Kn):Prop:=lk K 1=some (.val (.int .u8 goal))∧lk K 2=some (.own 2 b2 0)∧lk K 4=some (.own 4 b4 0)∧lk K 5=some (.own 5 b5 0)
theorem K4.good{Df:List Deferred}{a:Act}{K:Kn}{goal:Int}(ha:Good Df 46 a K)(h:K4 goal b2 b4 b5 K):Good Df 46 a [(1,.val (.int .u8 goal)),(2,.own 2 b2 0),(4,.own 4 b4 0),(5,.own 5 b5 0)]:=ha.drop fun t v hv=>by
 by_cases e1:1=t
 ·subst e1;rw [lk_cons_eq] at hv;cases hv;exact h.1
 rw [lk_cons_ne e1] at hv
 by_cases e1:2=t
 ·subst e1;rw [lk_cons_eq] at hv;cases hv;exact h.2.1
 rw [lk_cons_ne e1] at hv
 by_cases e1:4=t
 ·subst e1;rw [lk_cons_eq] at hv;cases hv;exact h.2.2.1
 rw [lk_cons_ne e1] at hv
 by_cases e1:5=t
 ·subst e1;rw [lk_cons_eq] at hv;cases hv;exact h.2.2.2
 rw [lk_cons_ne e1] at hv
 cases hv
theorem K4.kp{Df:List Deferred}{a:Act}{K:Kn}{goal:Int}(ha:Good Df 46 a K)(h:K4 goal b2 b4 b5 K):Kp (V45 b4 b5) a:=by
 refine⟨ha.size,fun p hp=>?_⟩
 simp only [V45,List.mem_cons,List.not_mem_nil,or_false] at hp
 rcases hp with rfl|rfl
 ·exact ha.knows _ _ h.2.2.1
 ·exact ha.knows _ _ h.2.2.2
def Mid(I:In)(M:Loc)(br b2 b4 b5:Nat)(goal m:Int)(p:Option Addr)(h1:Heap)(cap1:List Nat)(K:Kn)(S:St):Prop:=
 K4 goal b2 b4 b5 K∧∀ h',HS S h'→HS ⟨h1,cap1,[(900,br,rdB I M false m),(5,b5,.box 28 [.val (.int .i64 0),.val (.int .i64 0)]),(4,b4,.box 63 [.val (.pointer p)]),(2,b2,.box 78 [.own 900 br 0])]⟩ h'
def ErrT(I:In)(M:Loc)(br b2 b4 b5:Nat)(h:Heap)(O:Out Nd)(v:Value)(h':Heap):Prop:=
 ∃ x n t p,O = .err x∧v = .iface 118 (.int .i64 x)∧(0≤x∧x≤I.L)∧HS ⟨h,[br],rdC I M br t n++trC br b2 b4 b5 p 0 0⟩ h'
def ErrU(I:In)(M:Loc)(br b2 b4 b5:Nat)(h:Heap)(cap:List Nat)(p:Option Addr)(m:Int)(v:Value)(h':Heap):Prop:=
 ¬ m=I.L∧∃ n t,v = .iface 118 (.int .i64 m)∧HS ⟨h,cap,rdC I M br t n++trC br b2 b4 b5 p 0 0⟩ h'
def Is40(xb x2 x3 x4:Code)(id0 id1:Nat)(ops0 ops1:Array Oper):Prop:=Tryz.f40.body=some (.seq (.region id0 ops0 false) (.seq (.region id1 ops1 false) (.seq xb (.seq x2 (.seq x3 x4)))))
section
variable {xb x2 x3 x4:Code}{id0 id1:Nat}{ops0 ops1:Array Oper}{h:Heap}{N goal m:Int}{p:Option Addr}{g:Gt}
attribute [local irreducible] CH CsP word kindT
theorem tree_keep(hb:Is40 xb x2 x3 x4 id0 id1 ops0 ops1):keepC (V45 b4 b5) xb=true∧keepC (V45 b4 b5) x3=true:=by
 unfold Is40 Tryz.f40 at hb
 cases hb
 exact⟨rfl,rfl⟩
theorem tree_c1(hb:Is40 xb x2 x3 x4 id0 id1 ops0 ops1)(ok:InOk I)(H:Hyp I M g N)(hN:32*(I.L+1)+23<N)(hg:1≤goal∧goal≤4)(hB:Base I M h [br]){o:Out Nd}(ho:g (ruleOf goal) false 0=o) :
 codeK Tryz.prog ty ⟨rep,ErrT I M br b2 b4 b5 h o⟩ 46 1 [1,2,4,5,7,10,14,18,36,41] [] xb ⟨fun _ _=>False,[]⟩ (fun K S=>∃ x m p,o = .ok x m∧(0≤m∧m≤I.L)∧Later h [br] S.h0 S.cap∧TrI h.size S.h0 S.cap p x∧Mid I M br b2 b4 b5 goal m p S.h0 S.cap K S)
  [(1,.val (.int .u8 goal)),(2,.own 2 b2 0),(4,.own 4 b4 0),(5,.own 5 b5 0)] ⟨h,[br],[(900,br,rdB I M false 0),(5,b5,.box 28 [.val (.int .i64 0),.val (.int .i64 0)]),(4,b4,.box 63 [.val (.pointer none)]),(2,b2,.box 78 [.own 900 br 0])]⟩:=by
 unfold Is40 Tryz.f40 at hb
 cases hb
 have hl:=ok.len
 have htn:=hB.tn
 have hL0:0≤I.L:=by unfold In.L;omega
 have hg':goal=1∨goal=2∨goal=3∨goal=4:=by omega
 have hcon:∀ F:Fn,rank F≤23→fpre I F 0→Con I M (fid F) (fargs F) (g F false 0) false 0 (fstr F):=fun F h1 h2=>H F false 0 (by unfold need;omega) ⟨Int.le_refl _,hL0⟩ h2
 rcases hg' with rfl|rfl|rfl|rfl
 ·have hc:=hcon .typ (by decide) trivial
  have ho:g .typ false 0=o:=ho
  ((repeat' ((conv=>whnf);(first|(refine VC.mk (by omega) ?_)|(refine Br.mk ?_ ?_<;>intro hb<;>(try replace hb:=Classical.not_not.1 hb)<;>(try (exfalso;omega)))|(refine CK.treeR hc hB (r:=trC br b2 b4 b5 none 0 0) ⟨rfl,rfl,rfl,rfl,rfl,rfl,rfl,rfl,trivial⟩ rfl (fun x n t h' e1 e2 e3=>⟨x,n,t,none,by rw [←ho,e1],rfl,e2,e3⟩) ?_;intro x m p h1 e1 e2 hl1 hT;have e2:0≤m∧m≤I.L:=⟨by have:=e2.1;simp only [fstr] at this;omega,e2.2⟩)|fail)));all_goals (try (conv=>whnf)))
  all_goals exact⟨x,m,p,by rw [←ho,e1],e2,hl1,hT,⟨rfl,rfl,rfl,rfl⟩,fun h' hs=>hs.ren [900,5,4,2] ⟨⟨_,rfl,SC.rfl⟩,rfl,⟨_,rfl,SC.rfl⟩,rfl,⟨_,rfl,SC.rfl⟩,rfl,⟨_,rfl,SC.rfl⟩,rfl,trivial⟩⟩
 ·have hc:=hcon .expr (by decide) trivial
  have ho:g .expr false 0=o:=ho
  ((repeat' ((conv=>whnf);(first|(refine VC.mk (by omega) ?_)|(refine Br.mk ?_ ?_<;>intro hb<;>(try replace hb:=Classical.not_not.1 hb)<;>(try (exfalso;omega)))|(refine CK.treeR hc hB (r:=trC br b2 b4 b5 none 0 0) ⟨rfl,rfl,rfl,rfl,rfl,rfl,rfl,rfl,trivial⟩ rfl (fun x n t h' e1 e2 e3=>⟨x,n,t,none,by rw [←ho,e1],rfl,e2,e3⟩) ?_;intro x m p h1 e1 e2 hl1 hT;have e2:0≤m∧m≤I.L:=⟨by have:=e2.1;simp only [fstr] at this;omega,e2.2⟩)|fail)));all_goals (try (conv=>whnf)))
  all_goals exact⟨x,m,p,by rw [←ho,e1],e2,hl1,hT,⟨rfl,rfl,rfl,rfl⟩,fun h' hs=>hs.ren [900,5,4,2] ⟨⟨_,rfl,SC.rfl⟩,rfl,⟨_,rfl,SC.rfl⟩,rfl,⟨_,rfl,SC.rfl⟩,rfl,⟨_,rfl,SC.rfl⟩,rfl,trivial⟩⟩
 ·have hc:=hcon .stmts (by decide) trivial
  have ho:g .stmts false 0=o:=ho
  ((repeat' ((conv=>whnf);(first|(refine VC.mk (by omega) ?_)|(refine Br.mk ?_ ?_<;>intro hb<;>(try replace hb:=Classical.not_not.1 hb)<;>(try (exfalso;omega)))|(refine CK.treeR hc hB (r:=trC br b2 b4 b5 none 0 0) ⟨rfl,rfl,rfl,rfl,rfl,rfl,rfl,rfl,trivial⟩ rfl (fun x n t h' e1 e2 e3=>⟨x,n,t,none,by rw [←ho,e1],rfl,e2,e3⟩) ?_;intro x m p h1 e1 e2 hl1 hT;have e2:0≤m∧m≤I.L:=⟨by have:=e2.1;simp only [fstr] at this;omega,e2.2⟩)|fail)));all_goals (try (conv=>whnf)))
  all_goals exact⟨x,m,p,by rw [←ho,e1],e2,hl1,hT,⟨rfl,rfl,rfl,rfl⟩,fun h' hs=>hs.ren [900,5,4,2] ⟨⟨_,rfl,SC.rfl⟩,rfl,⟨_,rfl,SC.rfl⟩,rfl,⟨_,rfl,SC.rfl⟩,rfl,⟨_,rfl,SC.rfl⟩,rfl,trivial⟩⟩
 ·have hc:=hcon .file (by decide) trivial
  have ho:g .file false 0=o:=ho
  ((repeat' ((conv=>whnf);(first|(refine VC.mk (by omega) ?_)|(refine Br.mk ?_ ?_<;>intro hb<;>(try replace hb:=Classical.not_not.1 hb)<;>(try (exfalso;omega)))|(refine CK.treeR hc hB (r:=trC br b2 b4 b5 none 0 0) ⟨rfl,rfl,rfl,rfl,rfl,rfl,rfl,rfl,trivial⟩ rfl (fun x n t h' e1 e2 e3=>⟨x,n,t,none,by rw [←ho,e1],rfl,e2,e3⟩) ?_;intro x m p h1 e1 e2 hl1 hT;have e2:0≤m∧m≤I.L:=⟨by have:=e2.1;simp only [fstr] at this;omega,e2.2⟩)|fail)));all_goals (try (conv=>whnf)))
  all_goals exact⟨x,m,p,by rw [←ho,e1],e2,hl1,hT,⟨rfl,rfl,rfl,rfl⟩,fun h' hs=>hs.ren [900,5,4,2] ⟨⟨_,rfl,SC.rfl⟩,rfl,⟨_,rfl,SC.rfl⟩,rfl,⟨_,rfl,SC.rfl⟩,rfl,⟨_,rfl,SC.rfl⟩,rfl,trivial⟩⟩
theorem tree_c2(hb:Is40 xb x2 x3 x4 id0 id1 ops0 ops1)(ok:InOk I){h1:Heap}{cap1:List Nat}(hg:1≤goal∧goal≤4)(hB1:Base I M h1 cap1)(e2:0≤m∧m≤I.L) :
 codeK Tryz.prog ty ⟨rep,noPan⟩ 46 1 [1,2,4,5,7,10,14,18,36,41] [] x2 ⟨fun _ _=>False,[]⟩ (Mid I M br b2 b4 b5 goal (endS I goal m) p h1 cap1) [(1,.val (.int .u8 goal)),(2,.own 2 b2 0),(4,.own 4 b4 0),(5,.own 5 b5 0)] ⟨h1,cap1,[(900,br,rdB I M false m),(5,b5,.box 28 [.val (.int .i64 0),.val (.int .i64 0)]),(4,b4,.box 63 [.val (.pointer p)]),(2,b2,.box 78 [.own 900 br 0])]⟩:=by
 unfold Is40 Tryz.f40 at hb
 cases hb
 have hl:=ok.len
 have htn:=hB1.tn
 have hL0:0≤I.L:=by unfold In.L;omega
 ((repeat' ((conv=>whnf);(first|(refine dW (id:=10) tO mixed (.pull 0 [1,2,3,4,5,6,7,8,9,10,11,12,13,14] (.pull 1 [2,3,4,5,6,7,8,9,10,11,12,13,14] (.pull 2 [3,4,5,6,7,8,9,10,11,12,13,14] (.br 3 7 (.pull 4 [5,6,13,14] (.pull 5 [6,13,14] (.pull 7 [8,9,10,11,12,13,14] (.pull 8 [9,10,11,12,13,14] (.pull 9 [10,11,12,13,14] (.pull 10 [11,12,13,14] (.pull 11 [12,13,14] (.pull 12 [13,14] (.pull 6 [13,14] (.pull 13 [14] (.pull 14 [] .done))))))))))) (.pull 8 [9,10,11,12,13,14] (.pull 9 [10,11,12,13,14] (.br 3 10 (.pull 4 [5,6,13,14] (.pull 5 [6,13,14] (.pull 10 [11,12,13,14] (.pull 11 [12,13,14] (.pull 12 [13,14] (.pull 6 [13,14] (.pull 13 [14] (.pull 14 [] .done)))))))) (.pull 11 [12,13,14] (.pull 12 [13,14] (.pull 3 [4,5,6,13,14] (.pull 4 [5,6,13,14] (.pull 5 [6,13,14] (.pull 6 [13,14] (.pull 13 [14] (.pull 14 [] .done))))))))))))))) (by kernel_rfl) (by kernel_rfl) ?_)|(refine Ar.fit (by omega) ?_)|(refine VC.mk (by omega) ?_)|(refine Br.mk ?_ ?_<;>intro hb<;>(try replace hb:=Classical.not_not.1 hb))|(refine Two.mk ?_ ?_)|(refine CK.maybe ok hB1 (by decide) rfl rfl (fun hx hm=>?_) (fun hx=>?_))|fail)));all_goals (try (conv=>whnf)))
 all_goals first
  |(refine⟨⟨rfl,rfl,rfl,rfl⟩,?_⟩;(first|(rw [show endS I goal m=m+1 from by (unfold endS maybe;rw [if_pos ⟨by omega,by omega⟩,if_pos (by assumption)])];exact fun h' hs=>hs.ren [900,5,4,2] ⟨⟨_,rfl,SC.rfl⟩,rfl,⟨_,rfl,SC.rfl⟩,rfl,⟨_,rfl,SC.rfl⟩,rfl,⟨_,rfl,SC.rfl⟩,rfl,trivial⟩)|(rw [show endS I goal m=m from by (unfold endS maybe;first|rw [if_neg (fun e=>by omega)]|rw [if_pos ⟨by omega,by omega⟩,if_neg (by assumption)])];exact fun h' hs=>hs.ren [900,5,4,2] ⟨⟨_,rfl,SC.rfl⟩,rfl,⟨_,rfl,SC.rfl⟩,rfl,⟨_,rfl,SC.rfl⟩,rfl,⟨_,rfl,SC.rfl⟩,rfl,trivial⟩)))
theorem tree_c3(hb:Is40 xb x2 x3 x4 id0 id1 ops0 ops1)(ok:InOk I){h1:Heap}{cap1:List Nat}(hB1:Base I M h1 cap1)(e2:0≤m∧m≤I.L) :
 codeK Tryz.prog ty ⟨rep,ErrU I M br b2 b4 b5 h1 cap1 p m⟩ 46 1 [1,2,4,5,7,10,14,18,36,41] [] x3 ⟨fun _ _=>False,[]⟩ (fun K S=>m=I.L∧Mid I M br b2 b4 b5 goal m p h1 cap1 K S) [(1,.val (.int .u8 goal)),(2,.own 2 b2 0),(4,.own 4 b4 0),(5,.own 5 b5 0)] ⟨h1,cap1,[(900,br,rdB I M false m),(5,b5,.box 28 [.val (.int .i64 0),.val (.int .i64 0)]),(4,b4,.box 63 [.val (.pointer p)]),(2,b2,.box 78 [.own 900 br 0])]⟩:=by
 unfold Is40 Tryz.f40 at hb
 cases hb
 have hl:=ok.len
 have htn:=hB1.tn
 have hL0:0≤I.L:=by unfold In.L;omega
 ((repeat' ((conv=>whnf);(first|(refine VC.mk (by omega) ?_)|(refine Br.mk ?_ ?_<;>intro hb<;>(try replace hb:=Classical.not_not.1 hb))|(refine CK.says (.prop _) (fun h1 hs=>ended_k ok hB1 hs rfl) ?_)|(refine CK.failT (r:=trC br b2 b4 b5 p 0 0) ⟨rfl,rfl,rfl,rfl,rfl,rfl,rfl,rfl,trivial⟩ rfl ⟨by omega,by omega⟩ (fun n' t' h' e3=>⟨?_,n',t',rfl,e3⟩))|fail)));all_goals (try (conv=>whnf)))
 all_goals first
  |omega
  |exact⟨by omega,⟨rfl,rfl,rfl,rfl⟩,fun h' hs=>hs.ren [900,5,4,2] ⟨⟨_,rfl,SC.rfl⟩,rfl,⟨_,rfl,SC.rfl⟩,rfl,⟨_,rfl,SC.rfl⟩,rfl,⟨_,rfl,SC.rfl⟩,rfl,trivial⟩⟩
theorem tree_c4(hb:Is40 xb x2 x3 x4 id0 id1 ops0 ops1){h1:Heap}{cap1:List Nat} :
 codeK Tryz.prog ty ⟨rep,noPan⟩ 46 1 [1,2,4,5,7,10,14,18,36,41] [] x4 ⟨Mid I M br b2 b4 b5 goal m p h1 cap1,[]⟩ (fun _ _=>False) [(1,.val (.int .u8 goal)),(2,.own 2 b2 0),(4,.own 4 b4 0),(5,.own 5 b5 0)] ⟨h1,cap1,[(900,br,rdB I M false m),(5,b5,.box 28 [.val (.int .i64 0),.val (.int .i64 0)]),(4,b4,.box 63 [.val (.pointer p)]),(2,b2,.box 78 [.own 900 br 0])]⟩:=by
 unfold Is40 Tryz.f40 at hb
 cases hb
 ((repeat' ((conv=>whnf);(first|(refine dW (id:=14) tO mixed (.pull 0 [2,3] (.br 1 2 (.one 2 (.one 3 .done)) (.pull 1 [3] (.one 3 .done)))) (by kernel_rfl) (by kernel_rfl) ?_)|(refine VC.mk (by omega) ?_)|(refine Two.mk ?_ ?_)|fail)));all_goals (try (conv=>whnf)))
 all_goals first
  |exact⟨⟨rfl,rfl,rfl,rfl⟩,fun h' hs=>hs.ren [900,5,4,2] ⟨⟨_,rfl,SC.rfl⟩,rfl,⟨_,rfl,SC.rfl⟩,rfl,⟨_,rfl,SC.rfl⟩,rfl,⟨_,rfl,SC.rfl⟩,rfl,trivial⟩⟩
end
end
end Go.Ex
