/-
  Top: TopDeep: whatever the input, the law answers true (part 22)
-/
import Derived.Test.YtpjdgifhhnjclaaGreatDoorM12
import Derived.Test.YtpjdgifhhnjclaaGreatDoorM21
set_option linter.unusedVariables false
set_option linter.unusedSimpArgs false
set_option maxHeartbeats 4000000
set_option maxRecDepth 10000
namespace Go.Ex
open Go.Proofs
structure Later(h:Heap)(cap:List Nat)(h':Heap)(cap':List Nat):Prop where
 size:h.size≤h'.size
 same:∀ b,b<h.size→b∉cap→h'[b]?=h[b]?
 cap:∀ c∈cap',c∈cap∨h.size≤c
theorem Later.refl(h:Heap)(cap:List Nat):Later h cap h cap:=⟨Nat.le_refl _,fun _ _ _=>rfl,fun _ h=>.inl h⟩
theorem Later.trans{h h1 h2:Heap}{c c1 c2:List Nat}(a:Later h c h1 c1)(b:Later h1 c1 h2 c2):Later h c h2 c2:=
 ⟨Nat.le_trans a.size b.size,fun i hi hn=>(b.same i (Nat.lt_of_lt_of_le hi a.size) fun hm=>(a.cap i hm).elim hn fun h=>absurd h (by omega)).trans (a.same i hi hn),
  fun x hx=>(b.cap x hx).elim (fun h=>a.cap x h) fun h=>.inr (Nat.le_trans a.size h)⟩
theorem Later.less{h h1:Heap}{c c1 c2:List Nat}(a:Later h c h1 c1)(hc:∀ x∈c2,x∈c1):Later h c h1 c2:=⟨a.size,a.same,fun x hx=>a.cap x (hc x hx)⟩
theorem HS.lB{S:St}{h:Heap}(hs:HS S h):Later S.h0 S.cap h (blks S.ch):=
 ⟨hs.size,hs.frame,fun c hc=>(hs.blks_of hc).2.symm⟩
theorem Held.later{τ:Type}{R:Rep τ}{h h':Heap}{cap cap':List Nat}{A:Option Addr}{n:Nat}{xs:List τ}(hk:Held R h cap A n xs)(hl:Later h cap h' cap'):Held R h' cap' A n xs:=by
 refine⟨⟨hk.sl.len_eq,hk.sl.small,fun h0=>?_⟩,fun h0 a ha=>?_⟩
 ·obtain⟨b,o,e,hb,hc⟩:=hk.sl.at_ h0
  have ho:=(hk.out h0 _ e).2
  exact⟨b,o,e,Nat.lt_of_lt_of_le hb hl.size,fun i hi j v hv=>by rw [hcell,hl.same b hb ho];exact hc i hi j v hv⟩
 ·obtain⟨h1,h2⟩:=hk.out h0 a ha
  exact⟨Nat.lt_of_lt_of_le h1 hl.size,fun hm=>(hl.cap _ hm).elim h2 fun h=>absurd h1 (by omega)⟩
mutual
def TrI(lo:Nat)(h:Heap)(cap:List Nat)(p:Option Addr):Nd→Prop
 |.mk k w f t l=>∃ b A n c ps,p=some ⟨b,0,none⟩∧(lo≤b∧b<h.size∧b∉cap)∧h[b]?=some (.cells #[.int .u8 k,.int .i64 w,.int .i64 f,.int .i64 t,.slice A n c] 69 (0,0))∧Held ptrR h cap A n ps∧(∀ a,0<n→A=some a→lo≤a.block)∧TsI lo h cap ps l
def TsI(lo:Nat)(h:Heap)(cap:List Nat)(ps:List (Option Addr)):List Nd→Prop
 |[]=>ps=[]
 |t::ts=>∃ p r,ps=p::r∧TrI lo h cap p t∧TsI lo h cap r ts
end
mutual
theorem TrI.later{lo lo':Nat}{h h':Heap}{cap cap':List Nat}(hl:Later h cap h' cap')(hlo:lo'≤lo):∀ (x:Nd) {p:Option Addr},TrI lo h cap p x→TrI lo' h' cap' p x
 |.mk k w f t l,p,hT=>by
  simp only [TrI] at hT ⊢
  obtain⟨b,A,n,c,ps,e,⟨b0,b1,b2⟩,hb,hk,ha,ht⟩:=hT
  exact⟨b,A,n,c,ps,e,⟨Nat.le_trans hlo b0,Nat.lt_of_lt_of_le b1 hl.size,fun hm=>(hl.cap _ hm).elim b2 fun h=>absurd b1 (by omega)⟩,by rw [hl.same b b1 b2];exact hb,hk.later hl,fun a h0 e=>Nat.le_trans hlo (ha a h0 e),TsI.later hl hlo l ht⟩
theorem TsI.later{lo lo':Nat}{h h':Heap}{cap cap':List Nat}(hl:Later h cap h' cap')(hlo:lo'≤lo):∀ (l:List Nd) {ps:List (Option Addr)},TsI lo h cap ps l→TsI lo' h' cap' ps l
 |[],ps,hT=>by simp only [TsI] at hT ⊢;exact hT
 |t::ts,ps,hT=>by
  simp only [TsI] at hT ⊢
  obtain⟨p,r,e,h1,h2⟩:=hT
  exact⟨p,r,e,TrI.later hl hlo t h1,TsI.later hl hlo ts h2⟩
end
theorem TsI.nil{lo:Nat}{h:Heap}{cap:List Nat}:TsI lo h cap [] []:=by simp only [TsI]
theorem TsI.cons{lo:Nat}{h:Heap}{cap:List Nat}{p:Option Addr}{ps:List (Option Addr)}{t:Nd}{ts:List Nd}(h1:TrI lo h cap p t)(h2:TsI lo h cap ps ts):TsI lo h cap (p::ps) (t::ts):=by
 simp only [TsI];exact⟨p,ps,rfl,h1,h2⟩
theorem TsI.one{lo:Nat}{h:Heap}{cap:List Nat}{p:Option Addr}{t:Nd}(h1:TsI lo h cap [p] [t]):TrI lo h cap p t:=by
 simp only [TsI] at h1
 obtain⟨q,r,e,h2,_⟩:=h1
 cases e
 exact h2
theorem TsI.append{lo:Nat}{h:Heap}{cap:List Nat}:∀ {ts us:List Nd} {ps qs:List (Option Addr)},TsI lo h cap ps ts→TsI lo h cap qs us→TsI lo h cap (ps++qs) (ts++us)
 |[],us,ps,qs,h1,h2=>by simp only [TsI] at h1;subst h1;exact h2
 |t::ts,us,ps,qs,h1,h2=>by
  simp only [TsI] at h1
  obtain⟨p,r,rfl,h3,h4⟩:=h1
  exact TsI.cons h3 (h4.append h2)
theorem TsI.len{lo:Nat}{h:Heap}{cap:List Nat}:∀ {ts:List Nd} {ps:List (Option Addr)},TsI lo h cap ps ts→ps.length=ts.length
 |[],ps,h1=>by simp only [TsI] at h1;subst h1;rfl
 |t::ts,ps,h1=>by
  simp only [TsI] at h1
  obtain⟨p,r,rfl,h3,h4⟩:=h1
  simp [h4.len]
def leK(k:Int):Nat:=if k=29∨k=30∨k=33∨k=50 then 1 else if k=53 then 2 else 0
mutual
def Wf:Nd→Prop
 |.mk k _ _ _ l=>leK k≤l.length∧WfL l
def WfL:List Nd→Prop
 |[]=>True
 |t::ts=>Wf t∧WfL ts
end
structure Loc where
 tA:Option Addr
 tn:Nat
 tc:Nat
 pA:Option Addr
 pn:Nat
 pc:Nat
structure InOk(I:In):Prop where
 len:I.L≤1000000
 plen:I.pair.length=I.toks.length
 size:I.s.size≤1000000
 rng:∀ x∈I.toks,0≤x.frm∧x.frm≤x.to∧x.to≤I.s.size
 prng:∀ i,0≤i→i<I.L→-1≤getI 0 I.pair i∧getI 0 I.pair i<I.L
structure Base(I:In)(M:Loc)(h:Heap)(cap:List Nat):Prop where
 toks:Held tokR h cap M.tA M.tn I.toks
 pair:Held (intR .i64) h cap M.pA M.pn I.pair
theorem Base.later{I:In}{M:Loc}{h h':Heap}{cap cap':List Nat}(hb:Base I M h cap)(hl:Later h cap h' cap'):Base I M h' cap':=⟨hb.toks.later hl,hb.pair.later hl⟩
theorem Base.tn{I:In}{M:Loc}{h:Heap}{cap:List Nat}(hb:Base I M h cap):(M.tn:Int)=I.L:=by have:=hb.toks.sl.len_eq;unfold In.L;omega
def rdB(I:In)(M:Loc)(t:Bool)(n:Int):Chunk:=.box 80 [.val (.string I.s),.val (.slice M.tA M.tn M.tc),.val (.slice M.pA M.pn M.pc),.val (.int .i64 n),.val (.bool t)]
abbrev rdC(I:In)(M:Loc)(br:Nat)(t:Bool)(n:Int):Chs:=[(900,br,rdB I M t n)]
abbrev ptr(b:Nat):Value:=.pointer (some ⟨b,0,none⟩)
def ErrE(I:In)(M:Loc)(br:Nat)(cap:List Nat)(hE:Heap){α:Type}(o:Out α)(v:Value)(h':Heap):Prop:=
 ∃ x n t,o = .err x∧v = .iface 118 (.int .i64 x)∧(0≤x∧x≤I.L)∧HS ⟨hE,cap,rdC I M br t n⟩ h'
def OkE(I:In)(M:Loc)(br:Nat)(hE:Heap)(t:Bool)(n str:Int)(o:Out Nd)(v:Value)(h':Heap):Prop:=
 ∃ x n' p,o = .ok x n'∧(n+str≤n'∧n'≤I.L)∧Wf x∧v = .pointer p∧HS ⟨hE,[br],rdC I M br t n'⟩ h'∧TrI hE.size h' [br] p x
def Con1(I:In)(M:Loc)(br:Nat)(f:Nat)(av:List Value)(o:Out Nd)(t:Bool)(n str:Int):Prop:=
 ∀ hE,HS ⟨hE,[br],rdC I M br t n⟩ hE→Base I M hE [br]→CsP Tryz.prog (ErrE I M br [br] hE o) f (ptr br::av).toArray hE (OkE I M br hE t n str o)
def Con(I:In)(M:Loc)(f:Nat)(av:List Value)(o:Out Nd)(t:Bool)(n str:Int):Prop:=
 ∀ br hE,HS ⟨hE,[br],rdC I M br t n⟩ hE→Base I M hE [br]→CsP Tryz.prog (ErrE I M br [br] hE o) f (ptr br::av).toArray hE (OkE I M br hE t n str o)
inductive It where
 |one (p:Option Addr) (x:Nd)
 |many (ps:List (Option Addr)) (l:List Nd)
 |sl (A:Option Addr) (n:Nat) (ps:List (Option Addr)) (l:List Nd)
 |bxs (l:List (Nat×Chunk))
def ItOk(lo:Nat)(h:Heap)(cap:List Nat):It→Prop
 |.one p x=>TrI lo h cap p x∧Wf x
 |.many ps l=>TsI lo h cap ps l∧WfL l
 |.sl A n ps l=>Held ptrR h cap A n ps∧(∀ a,0<n→A=some a→lo≤a.block)∧TsI lo h cap ps l∧WfL l
 |.bxs l=>∀ e∈l,e.1<h.size∧e.1∉cap∧ChunkAt h e.1 e.2
theorem ItOk.later{lo:Nat}{h h':Heap}{cap cap':List Nat}(hl:Later h cap h' cap'):∀ {i:It},ItOk lo h cap i→ItOk lo h' cap' i
 |.one p x,hi=>⟨TrI.later hl (Nat.le_refl _) x hi.1,hi.2⟩
 |.many ps l,hi=>⟨TsI.later hl (Nat.le_refl _) l hi.1,hi.2⟩
 |.sl A n ps l,hi=>⟨hi.1.later hl,hi.2.1,TsI.later hl (Nat.le_refl _) l hi.2.2.1,hi.2.2.2⟩
 |.bxs l,hi=>fun e he=>⟨Nat.lt_of_lt_of_le (hi e he).1 hl.size,fun hm=>(hl.cap _ hm).elim (hi e he).2.1 fun h=>absurd (hi e he).1 (by omega),(hi e he).2.2.congr (hl.same _ (hi e he).1 (hi e he).2.1)⟩
structure Wd(I:In)(M:Loc)(cE:List Nat)(hE:Heap)(h0:Heap)(cap:List Nat)(its:List It):Prop where
 ok:InOk I
 base:Base I M h0 cap
 later:Later hE cE h0 cap
 its:∀ e∈its,ItOk hE.size h0 cap e
theorem Wd.start{I:In}{M:Loc}{cE:List Nat}{hE:Heap}(ok:InOk I)(hb:Base I M hE cE):Wd I M cE hE hE cE []:=⟨ok,hb,Later.refl _ _,fun e he=>by cases he⟩
section
variable {I:In}{M:Loc}{cE:List Nat}{hE h0:Heap}{cap:List Nat}{its:List It}
theorem Wd.anew(W:Wd I M cE hE h0 cap its){h':Heap}{cap':List Nat}(hl:Later h0 cap h' cap'):Wd I M cE hE h' cap' its:=
 ⟨W.ok,W.base.later hl,W.later.trans hl,fun e he=>(W.its e he).later hl⟩
theorem Wd.add(W:Wd I M cE hE h0 cap its){i:It}(hi:ItOk hE.size h0 cap i):Wd I M cE hE h0 cap (i::its):=
 ⟨W.ok,W.base,W.later,fun e he=>(List.mem_cons.1 he).elim (fun h=>by rw [h];exact hi) fun h=>W.its e h⟩
theorem Wd.of(W:Wd I M cE hE h0 cap its){its':List It}(hi:∀ e∈its',e∈its):Wd I M cE hE h0 cap its':=⟨W.ok,W.base,W.later,fun e he=>W.its e (hi e he)⟩
theorem Wd.manyOf(W:Wd I M cE hE h0 cap its){ps:List (Option Addr)}{l:List Nd}(hi:It.many ps l∈its):TsI hE.size h0 cap ps l∧WfL l:=W.its _ hi
theorem Wd.one(W:Wd I M cE hE h0 cap its){p:Option Addr}{x:Nd}(hi:It.one p x∈its):TrI hE.size h0 cap p x:=(W.its _ hi).1
theorem Wd.wf(W:Wd I M cE hE h0 cap its){p:Option Addr}{x:Nd}(hi:It.one p x∈its):Wf x:=(W.its _ hi).2
end
theorem rd_at{S:St}{h:Heap}(hs:HS S h){k b:Nat}{c:Chunk}(hf:findC S.ch k=some (b,c)):HS ⟨h,[b],[(k,b,c)]⟩ h:=
 hs.part (q:=[(k,b,c)]) (r:=[]) ⟨hf,rfl,trivial⟩
theorem Base.at{I:In}{M:Loc}{S:St}{h:Heap}(hb:Base I M S.h0 S.cap)(hs:HS S h){c':List Nat}(hc:∀ c∈c',c∈blks S.ch):Base I M h c':=hb.later (hs.lB.less hc)
theorem blk_mem{ch:Chs}{k b:Nat}{c:Chunk}(hf:findC ch k=some (b,c)):b∈blks ch:=blks_mem (fM hf)
theorem Base.at1{I:In}{M:Loc}{S:St}{h:Heap}(hb:Base I M S.h0 S.cap)(hs:HS S h){k b:Nat}{c:Chunk}(hf:findC S.ch k=some (b,c)):Base I M h [b]:=
 hb.at hs fun x hx=>by rw [List.mem_singleton.1 hx];exact blk_mem hf
theorem HS.gB{h h':Heap}{k b T:Nat}{cs:List KV}{ch:Chs}(h1:HS ⟨h,[b],[(k,b,.box T cs)]⟩ h)(h2:HS ⟨h,[b],ch⟩ h')(hf:findC ch k=some (b,.box T cs)):Grows h h':=by
 refine⟨h2.size,fun j hj=>?_⟩
 by_cases e:j=b
 ·subst e
  have e1:ChunkAt h j (.box T cs):=(h1.chunk (k,j,.box T cs) List.mem_cons_self).2.2
  have e2:ChunkAt h' j (.box T cs):=(h2.chunk (k,j,.box T cs) (fM hf)).2.2
  simp only [ChunkAt] at e1 e2
  rw [e1,e2]
 ·exact h2.frame j hj fun hm=>e (List.mem_singleton.1 hm)
theorem SC.arr{τ:Type}{T:Nat}{R:Rep τ}{xs ys:List τ}{c:Nat}(h:xs=ys):SC (.arr T R xs c) (.arr T R ys c):=by subst h;exact SC.rfl
section
variable {P:Program}{ty:Nat→Option TyI}{rep:Env}{n m:Nat}{ex cu:List Nat}{S:St}{K:Kn}{X:Esc}{κ:Kt}{E:Value→Heap→Prop}
theorem HS.anew{h:Heap}(hs:HS S h):HS ⟨h,blks S.ch,S.ch⟩ h:=
 ⟨Nat.le_refl _,fun _ _ _=>rfl,fun e he=>by
  obtain⟨h1,h2,h3⟩:=hs.chunk e he
  exact⟨h1,.inr (blks_mem he),h3⟩,hs.apart⟩
theorem XLoad.held{A:Option Addr}{sz:Nat}{i:Int}{f n:Nat}{agg:Bool}{κ:KV→Prop}{τ:Type}{R:Rep τ}{len:Nat}{xs:List τ}(hs:Held R S.h0 S.cap A len xs)(hsz:R.sz=sz)(h0:0≤i)(h1:i<len)
 {l:List Value} (hl:subN f n (R.cells (getI R.dflt xs i))=some l) (hk:readK agg (mapC l) κ):XLoad S A sz i f n agg κ:=
 ⟨.inl ⟨_,R,len,xs,hs.sl,fun a ha=>(hs.out (by omega) a ha).2,hsz,h0,h1,l,hl,hk⟩⟩
theorem XList.held{τ:Type}{R:Rep τ}{A:Option Addr}{n:Nat}{κ:List τ→Prop}{xs:List τ}(hs:Held R S.h0 S.cap A n xs)(hk:κ xs):XList R S A n κ:=⟨xs,hs.sl,fun h0 a ha=>(hs.out h0 a ha).2,hk⟩
theorem HS.ne{S:St}{h:Heap}(hs:HS S h){k k' b b':Nat}{c c':Chunk}(h1:findC S.ch k=some (b,c))(h2:findC S.ch k'=some (b',c'))(hk:k≠k'):b≠b':=
 apart_of hs.apart (fM h1) (fM h2) (fun e=>hk (congrArg Prod.fst e))
def HasD(K:Kn):Kn→Prop
 |[]=>True
 |(t,v)::r=>(∃ u,lk K t=some u∧den u=den v)∧HasD K r
theorem HasD.get{K:Kn}:∀ {L:Kn},HasD K L→∀ t v,lk L t=some v→∃ u,lk K t=some u∧den u=den v
 |[],_,t,v,h=>by simp [lk] at h
 |(s,u)::r,hh,t,v,h=>by
  by_cases e:s=t
  ·subst e;rw [lk_cons_eq] at h;cases h;exact hh.1
  ·rw [lk_cons_ne e] at h;exact HasD.get hh.2 t v h
theorem Good.like{Df:List Deferred}{n:Nat}{a:Act}{K K':Kn}(h:Good Df n a K)(hs:∀ t v,lk K' t=some v→∃ u,lk K t=some u∧den u=den v):Good Df n a K':=
 ⟨h.size,h.defers,fun t v hv=>by obtain⟨u,h1,h2⟩:=hs t v hv;rw [←h2];exact h.knows t u h1⟩
theorem lgn(hty:TysOk P ty){c:Code}{α:Type}(cs:List Nat)(l:α→Kn)(st:α→St)(φ:Nat→α→Prop)
 (h:dropK cs K [] fun K0=>(∀ h,HS S h→∃ μ x,φ μ x∧HasD K (l x++K0)∧HS (st x) h)∧∀ μ x,φ μ x →
  codeK P ty rep n m ex cu c X (fun K' S'=>∀ h,HS S' h→∃ μ' x',φ μ' x'∧μ' < μ∧HasD K' (l x'++K0)∧HS (st x') h) (l x++K0) (st x)) :
 Leaf P n ty rep m ex cu (.loop c) X κ K S:=⟨fun Df w0 a w ha he hs=>by
 obtain⟨K0,h1,h4⟩:=drop_sound h
 obtain⟨μ0,x0,h3,h5,h6⟩:=h1 _ hs
 refine wp_loop_ghost (fun μ a w=>∃ x,φ μ x∧Good Df n a (l x++K0)∧SE w0 w∧HS (st x) w.heap) μ0 ⟨x0,h3,ha.like h5.get,he,h6⟩ ?_
 rintro μ a w ⟨x,hx,ha,he,hs⟩
 have:=cks hty c X _ _ _ (h4 μ x hx) Df w0 a w ha he hs
 refine Code.wp_mono ?_ this
 intro e a w hq
 cases e with
 |normal=>
  obtain⟨K',S',a1,a2,a3,hq⟩:=hq
  obtain⟨μ',x',b1,b2,b3,b4⟩:=hq _ a3
  exact⟨μ',b2,x',b1,a1.like b3.get,a2,b4⟩
 |exit i=>exact hq
 |ret=>exact hq
 |panic ch=>exact hq
 |goto l=>exact hq
 |outgrown=>exact hq⟩
theorem CsP.mono{E E':Value→Heap→Prop}{f:Nat}{args:Array Value}{h:Heap}{R R':Value→Heap→Prop}(hc:CsP P E f args h R)(he:∀ v h',E v h'→E' v h')(hr:∀ v h',R v h'→R' v h'):CsP P E' f args h R':=
 ⟨hc.1,fun w hw=>(hc.2 w hw).mono fun e w' ⟨h1,h2⟩=>⟨h1,h2.elim (fun⟨v,a,b⟩=>.inl ⟨v,a,hr _ _ b⟩) fun⟨v,a,b⟩=>.inr ⟨v,a,he _ _ b⟩⟩⟩
theorem CK.turnP{f:Nat}{args caps:List KV}{κ:KV→St→Prop}(q r:Chs)(E':Heap→Value→Heap→Prop)(Post:Heap→Value→Chs→Heap→Prop)(hc:HasC S.ch (q++r))
 (hh:∀ h,HS S h→HS ⟨h,blks q,q⟩ h→CsP P (E' h) f (args.map den1++caps.map denC).toArray h fun u h'=>∃ q',HS ⟨h,blks q,q'⟩ h'∧Post h u q' h')
 (he:∀ h v h',HS S h→HS ⟨h,blks q,q⟩ h→E' h v h'→E v h')
 (hk:∀ h u q' h',HS S h→HS ⟨h,blks q,q'⟩ h'→HS ⟨S.h0,S.cap,q'++r⟩ h'→Post h u q' h'→∃ kv S',den kv=u∧HS S' h'∧κ kv S'):CK P E f args caps S κ:=
 ⟨fun h hs=>.inr (.inr (by
  have:=hh h hs (hs.part hc)
  refine this.mono (fun v h' h1=>he h v h' hs (hs.part hc) h1) fun v h' ⟨q',h2,h3⟩=>?_
  exact hk h v q' h' hs h2 (hs.join hc h2) h3))⟩
end
end Go.Ex
namespace Go.Ex
open Go.Proofs
attribute [local irreducible] CH CsP
section
variable {I:In}{M:Loc}{br:Nat}{t:Bool}{n:Int}{h:Heap}
theorem tok_rng(ok:InOk I){i:Int}(h0:0≤i)(h1:i<I.L):0≤(getI tokR.dflt I.toks i).frm∧(getI tokR.dflt I.toks i).frm≤(getI tokR.dflt I.toks i).to∧(getI tokR.dflt I.toks i).to≤I.s.size:=
 ok.rng _ (getI_mem _ _ _ h0 h1)
theorem word_any(ok:InOk I)(hs:HS ⟨h,[br],rdC I M br t n⟩ h)(hB:Base I M h [br])(i:Int):CH Tryz.prog 31 #[ptr br,.int .i64 i] h fun v h'=>v = .string (word I i)∧Grows h h':=by
 refine eIn (rep:=rep) (m:=4) (ex:=[4,5,16,25,26,28]) (cu:=[]) (args:=[.own 900 br 0,.val (.int .i64 i)]) tO Tryz.func31 rfl (by decide) (rs:=[.tmp 4]) rfl rfl rfl hs ?_
 have htn:=hB.tn
 have hsl:=hB.toks.sl
 have hs0:=hs
 by_cases hi:i<0∨I.L≤i
 ·have e:word I i=⟨#[]⟩:=by rw [word,if_pos hi]
  rw [e]
  ((repeat' ((conv=>whnf);(first|(refine VC.mk (by omega) ?_)|(refine Br.mk ?_ ?_<;>intro hb<;>(try (exfalso;omega)))|fail)));all_goals (try (conv=>whnf)))
  all_goals exact⟨fun h' hs=>⟨rfl,hs0.gB hs rfl⟩⟩
 ·have hr:=tok_rng ok (i:=i) (by omega) (by omega)
  obtain⟨w,hw⟩:∃ w,word I i=w:=⟨_,rfl⟩
  rw [hw]
  rw [word,if_neg hi] at hw
  ((repeat' ((conv=>whnf);(first|(refine VC.mk (by (first|omega|exact Sl.plain (by assumption) (by omega))) ?_)|(refine Br.mk ?_ ?_<;>intro hb<;>(try (exfalso;omega)))|(refine New.mk ?_;intro b hb)|(refine drawn tO mixed (by kernel_rfl) ?_)|(refine XLoad.held hB.toks rfl (by omega) (by omega) rfl ?_)|fail)));all_goals (try (conv=>whnf)))
  all_goals exact⟨fun h' hs=>⟨str_eq (by simp_all),hs0.gB hs rfl⟩⟩
theorem kind_tok(ok:InOk I)(hs:HS ⟨h,[br],rdC I M br t n⟩ h)(hB:Base I M h [br])(i:Int):CH Tryz.prog 164 #[ptr br,.int .i64 i] h fun v h'=>v = .int .u8 (kindT I i)∧Grows h h':=by
 refine eIn (rep:=rep) (m:=4) (ex:=[4,15]) (cu:=[]) (args:=[.own 900 br 0,.val (.int .i64 i)]) tO Tryz.func164 rfl (by decide) (rs:=[.tmp 4]) rfl rfl rfl hs ?_
 have htn:=hB.tn
 have hsl:=hB.toks.sl
 have hs0:=hs
 by_cases hi:i<0∨I.L≤i
 ·have e:kindT I i=0:=by rw [kindT,if_pos hi]
  rw [e]
  ((repeat' ((conv=>whnf);(first|(refine VC.mk (by omega) ?_)|(refine Br.mk ?_ ?_<;>intro hb<;>(try (exfalso;omega)))|fail)));all_goals (try (conv=>whnf)))
  all_goals exact⟨fun h' hs=>⟨rfl,hs0.gB hs rfl⟩⟩
 ·have hr:=tok_rng ok (i:=i) (by omega) (by omega)
  have e:kindT I i=(getI tokR.dflt I.toks i).kind:=by rw [kindT,if_neg hi]
  rw [e]
  ((repeat' ((conv=>whnf);(first|(refine VC.mk (by (first|omega|exact Sl.plain (by assumption) (by omega))) ?_)|(refine Br.mk ?_ ?_<;>intro hb<;>(try (exfalso;omega)))|(refine XLoad.held hB.toks rfl (by omega) (by omega) rfl ?_)|fail)));all_goals (try (conv=>whnf)))
  all_goals exact⟨fun h' hs=>⟨rfl,hs0.gB hs rfl⟩⟩
end
section
variable {I:In}{M:Loc}{br:Nat}{t:Bool}{n:Int}{S:St}{h:Heap}
theorem word_k(ok:InOk I)(hb:Base I M S.h0 S.cap)(hs:HS S h)(hf:findC S.ch 900=some (br,rdB I M t n))(i:Int):CH Tryz.prog 31 #[ptr br,.int .i64 i] h fun v h'=>v = .string (word I i)∧Grows h h':=
 word_any ok (rd_at hs hf) (hb.at1 hs hf) i
theorem kind_k(ok:InOk I)(hb:Base I M S.h0 S.cap)(hs:HS S h)(hf:findC S.ch 900=some (br,rdB I M t n))(i:Int):CH Tryz.prog 164 #[ptr br,.int .i64 i] h fun v h'=>v = .int .u8 (kindT I i)∧Grows h h':=
 kind_tok ok (rd_at hs hf) (hb.at1 hs hf) i
end
attribute [local irreducible] word kindT
section
variable {I:In}{M:Loc}{br:Nat}{t:Bool}{n:Int}{h:Heap}
theorem next_any(ok:InOk I)(hs:HS ⟨h,[br],rdC I M br t n⟩ h)(hB:Base I M h [br]):CH Tryz.prog 105 #[ptr br] h fun v h'=>v = .string (word I n)∧Grows h h':=by
 refine eIn (rep:=rep) (m:=4) (ex:=[]) (cu:=[]) (args:=[.own 900 br 0]) tO Tryz.func105 rfl (by decide) (rs:=[.tmp 2]) rfl rfl rfl hs ?_
 have hs0:=hs
 ((repeat' ((conv=>whnf);(first|(refine VC.mk (by omega) ?_)|(apply CK.pure;(case hh=>(intro h1 hs;exact word_k ok hB hs rfl _)))|fail)));all_goals (try (conv=>whnf)))
 all_goals exact⟨fun h' hs=>⟨rfl,hs0.gB hs rfl⟩⟩
theorem named_any(ok:InOk I)(hs:HS ⟨h,[br],rdC I M br t n⟩ h)(hB:Base I M h [br])(i:Int):CH Tryz.prog 133 #[ptr br,.int .i64 i] h fun v h'=>v=denC (.prop (kindT I i=1))∧Grows h h':=by
 refine eIn (rep:=rep) (m:=4) (ex:=[]) (cu:=[]) (args:=[.own 900 br 0,.val (.int .i64 i)]) tO Tryz.func133 rfl (by decide) (rs:=[.tmp 4]) rfl rfl rfl hs ?_
 have hs0:=hs
 ((repeat' ((conv=>whnf);(first|(apply CK.pure;(case hh=>(intro h1 hs;exact kind_k ok hB hs rfl _)))|fail)));all_goals (try (conv=>whnf)))
 all_goals exact⟨fun h' hs=>⟨rfl,hs0.gB hs rfl⟩⟩
theorem quoted_tok(ok:InOk I)(hs:HS ⟨h,[br],rdC I M br t n⟩ h)(hB:Base I M h [br])(i:Int):CH Tryz.prog 187 #[ptr br,.int .i64 i] h fun v h'=>v=denC (.prop (kindT I i=7))∧Grows h h':=by
 refine eIn (rep:=rep) (m:=4) (ex:=[]) (cu:=[]) (args:=[.own 900 br 0,.val (.int .i64 i)]) tO Tryz.func187 rfl (by decide) (rs:=[.tmp 4]) rfl rfl rfl hs ?_
 have hs0:=hs
 ((repeat' ((conv=>whnf);(first|(apply CK.pure;(case hh=>(intro h1 hs;exact kind_k ok hB hs rfl _)))|fail)));all_goals (try (conv=>whnf)))
 all_goals exact⟨fun h' hs=>⟨rfl,hs0.gB hs rfl⟩⟩
theorem literal_any(ok:InOk I)(hs:HS ⟨h,[br],rdC I M br t n⟩ h)(hB:Base I M h [br])(i:Int):CH Tryz.prog 216 #[ptr br,.int .i64 i] h fun v h'=>v=denC (.prop (Lit I i))∧Grows h h':=by
 refine eIn (rep:=rep) (m:=4) (ex:=[]) (cu:=[]) (args:=[.own 900 br 0,.val (.int .i64 i)]) tO Tryz.func216 rfl (by decide) (rs:=[.tmp 4]) rfl rfl rfl hs ?_
 have hs0:=hs
 ((repeat' ((conv=>whnf);(first|(refine Br.mk ?_ ?_<;>intro hb)|(apply CK.pure;(case hh=>(intro h1 hs;exact kind_k ok hB hs rfl _)))|fail)));all_goals (try (conv=>whnf)))
 all_goals first
  |exact⟨fun h' hs=>⟨prop_eq (by simp only [Lit];omega),hs0.gB hs rfl⟩⟩
  |exact⟨fun h' hs=>⟨bool_no (by simp only [Lit];omega),hs0.gB hs rfl⟩⟩
theorem ended_any(ok:InOk I)(hs:HS ⟨h,[br],rdC I M br t n⟩ h)(hB:Base I M h [br]):CH Tryz.prog 58 #[ptr br] h fun v h'=>v=denC (.prop (n=I.L))∧Grows h h':=by
 refine eIn (rep:=rep) (m:=4) (ex:=[]) (cu:=[]) (args:=[.own 900 br 0]) tO Tryz.func58 rfl (by decide) (rs:=[.tmp 2]) rfl rfl rfl hs ?_
 have hs0:=hs
 have htn:=hB.tn
 ((repeat' ((conv=>whnf);(first|(refine VC.mk (by omega) ?_)|(refine drawn tO mixed (by kernel_rfl) ?_)|fail)));all_goals (try (conv=>whnf)))
 all_goals exact⟨fun h' hs=>⟨prop_eq (by omega),hs0.gB hs rfl⟩⟩
end
end Go.Ex
namespace Go.Ex
open Go.Proofs
attribute [local irreducible] CH CsP word kindT
mutual
theorem TrI.recap{lo lo':Nat}{h:Heap}{cap cap':List Nat}(hc:∀ c∈cap',c∈cap∨c<lo)(hlo:lo'≤lo):∀ (x:Nd) {p:Option Addr},TrI lo h cap p x→TrI lo' h cap' p x
 |.mk k w f t l,p,hT=>by
  simp only [TrI] at hT ⊢
  obtain⟨b,A,n,c,ps,e,⟨b0,b1,b2⟩,hb,hk,ha,ht⟩:=hT
  exact⟨b,A,n,c,ps,e,⟨Nat.le_trans hlo b0,b1,fun hm=>(hc _ hm).elim b2 fun h=>by omega⟩,hb,⟨hk.sl,fun h0 a e=>⟨(hk.out h0 a e).1,fun hm=>(hc _ hm).elim (hk.out h0 a e).2 fun h=>by have:=ha a h0 e;omega⟩⟩,fun a h0 e=>Nat.le_trans hlo (ha a h0 e),TsI.recap hc hlo l ht⟩
theorem TsI.recap{lo lo':Nat}{h:Heap}{cap cap':List Nat}(hc:∀ c∈cap',c∈cap∨c<lo)(hlo:lo'≤lo):∀ (l:List Nd) {ps:List (Option Addr)},TsI lo h cap ps l→TsI lo' h cap' ps l
 |[],ps,hT=>by simp only [TsI] at hT ⊢;exact hT
 |t::ts,ps,hT=>by
  simp only [TsI] at hT ⊢
  obtain⟨p,r,e,h1,h2⟩:=hT
  exact⟨p,r,e,TrI.recap hc hlo t h1,TsI.recap hc hlo ts h2⟩
end
theorem TrI.ptr{lo:Nat}{h:Heap}{cap:List Nat}{p:Option Addr}:∀ {x:Nd},TrI lo h cap p x→∃ b,p=some ⟨b,0,none⟩
 |.mk ..,hT=>by simp only [TrI] at hT;obtain⟨b,_,_,_,_,e,_⟩:=hT;exact⟨b,e⟩
theorem HS.back{hE h h':Heap}{cE c1:List Nat}{S:St}{ch:Chs}(hl:Later hE cE S.h0 S.cap)(hs:HS S h)(h1:HS ⟨h,c1,ch⟩ h')(hc:∀ c∈c1,c∈blks S.ch)(he:∀ e∈ch,e.2.1∈c1∨h.size≤e.2.1):HS ⟨hE,cE,ch⟩ h':=by
 have l1:=hl.trans (hs.lB.less hc)
 have l2:Later h c1 h' c1:=⟨h1.size,h1.frame,fun c hc=>.inl hc⟩
 have l3:=l1.trans l2
 refine⟨l3.size,l3.same,fun e hm=>?_,h1.apart⟩
 obtain⟨a1,_,a3⟩:=h1.chunk e hm
 exact⟨a1,(he e hm).elim (fun h=>(l1.cap _ h).symm) (fun h=>.inl (Nat.le_trans l1.size h)),a3⟩
section
variable {I:In}{M:Loc}{br:Nat}{cE:List Nat}{hE:Heap}{its:List It}{S:St}{t:Bool}{n:Int}{α:Type}{oC:Out α}{f:Nat}{args caps:List KV}{κ:KV→St→Prop}
theorem ErrE.up{β:Type}{o:Out β}{h h':Heap}{v:Value}(W:Wd I M cE hE S.h0 S.cap its)(hs:HS S h){c1:List Nat}(hc:∀ c∈c1,c∈blks S.ch)(hb:br∈c1)(he:ErrE I M br c1 h o v h')(hx:∀ x,o = .err x→oC = .err x):ErrE I M br cE hE oC v h':=by
 obtain⟨x,m,u,h1,h2,h3,h4⟩:=he
 exact⟨x,m,u,hx x h1,h2,h3,HS.back W.later hs h4 hc fun e hm=>.inl (by rw [List.mem_singleton.1 hm];exact hb)⟩
theorem blk1{ch:Chs}{k b:Nat}{c:Chunk}(hf:findC ch k=some (b,c)):∀ x∈[b],x∈blks ch:=fun x hx=>by rw [List.mem_singleton.1 hx];exact blk_mem hf
theorem CK.con1(W:Wd I M cE hE S.h0 S.cap its){av:List Value}{o:Out Nd}{str:Int}(hcon:Con1 I M br f av o t n str)(ha:args.map den1++caps.map denC=ptr br::av)(hf:findC S.ch 900=some (br,rdB I M t n))
 (herr:∀ x,o = .err x→oC = .err x)
 (hk:∀ x m b h',o = .ok x m→n+str≤m→m≤I.L→updC S.ch 900 (rdB I M t m) fun ch=>Wd I M cE hE h' (blks ch) (.one (some ⟨b,0,none⟩) x::its)→κ (.val (.pointer (some ⟨b,0,none⟩))) ⟨h',blks ch,ch⟩) :
 CK Tryz.prog (ErrE I M br cE hE oC) f args caps S κ:=
 ⟨fun h hs=>.inr (.inr (by
  rw [ha]
  have hr:=rd_at hs hf
  have hcl:=hcon h hr (W.base.at1 hs hf)
  refine hcl.mono (fun v h' he=>he.up W hs (blk1 hf) List.mem_cons_self herr) fun v h' hok=>?_
  obtain⟨x,m,p,h1,⟨h2,h3⟩,h4,rfl,h6,h7⟩:=hok
  obtain⟨b,rfl⟩:=h7.ptr
  obtain⟨l,r,b',c0,e1,e2,h8⟩:=updC_sound (hk x m b h' h1 h2 h3)
  rw [hf] at e2
  cases e2
  have h9:HS ⟨S.h0,S.cap,l++(900,br,rdB I M t m)::r⟩ h':=hs.upd e1 h6.size (fun j hj hlt=>h6.frame j hlt fun hm=>hj (List.mem_singleton.1 hm)) (h6.chunk _ List.mem_cons_self).2.2
  have l9:=h9.lB
  refine⟨_,_,rfl,h9.anew,h8 ((W.anew l9).add ⟨?_,h4⟩)⟩
  refine TrI.recap (fun c hc=>.inr ?_) (Nat.le_trans W.later.size hs.size) x h7
  obtain⟨e,he,rfl⟩:=bsp hc
  rcases List.mem_append.1 he with he|he
  ·exact (hs.chunk e (by rw [e1];exact List.mem_append.2 (.inl he))).1
  ·rcases List.mem_cons.1 he with rfl|he
   ·exact (hs.chunk _ (fM hf)).1
   ·exact (hs.chunk e (by rw [e1];exact List.mem_append.2 (.inr (List.mem_cons_of_mem _ he)))).1))⟩
theorem CK.con(W:Wd I M cE hE S.h0 S.cap its){av:List Value}{o:Out Nd}{str:Int}(hcon:Con I M f av o t n str)(ha:args.map den1++caps.map denC=ptr br::av)(hf:findC S.ch 900=some (br,rdB I M t n))
 (herr:∀ x,o = .err x→oC = .err x)
 (hk:∀ x m b h',o = .ok x m→n+str≤m→m≤I.L→updC S.ch 900 (rdB I M t m) fun ch=>Wd I M cE hE h' (blks ch) (.one (some ⟨b,0,none⟩) x::its)→κ (.val (.pointer (some ⟨b,0,none⟩))) ⟨h',blks ch,ch⟩) :
 CK Tryz.prog (ErrE I M br cE hE oC) f args caps S κ:=CK.con1 W (hcon br) ha hf herr hk
theorem CK.sure(W:Wd I M cE hE S.h0 S.cap its){av:List Value}{x:Nd}{m:Int}{str:Int}(hcon:Con I M f av (.ok x m) t n str)(ha:args.map den1++caps.map denC=ptr br::av)(hf:findC S.ch 900=some (br,rdB I M t n))
 (hk:∀ b h',updC S.ch 900 (rdB I M t m) fun ch=>Wd I M cE hE h' (blks ch) (.one (some ⟨b,0,none⟩) x::its)→κ (.val (.pointer (some ⟨b,0,none⟩))) ⟨h',blks ch,ch⟩) :
 CK Tryz.prog (ErrE I M br cE hE oC) f args caps S κ:=
 CK.con W hcon ha hf (fun x h=>by cases h) fun x' m' b h' e _ _=>by cases e;exact hk b h'
theorem Wd.fin(W:Wd I M [br] hE S.h0 S.cap its){h':Heap}(hs:HS S h'){n0 m str:Int}(hf:findC S.ch 900=some (br,rdB I M t m)){o:Out Nd}{b:Nat}{x:Nd}(hm:It.one (some ⟨b,0,none⟩) x∈its)(ho:o = .ok x m)(hr:n0+str≤m∧m≤I.L) :
 OkE I M br hE t n0 str o (den (.val (.pointer (some ⟨b,0,none⟩)))) h':=by
 obtain⟨h1,h2⟩:=W.its _ hm
 have hr1:=rd_at hs hf
 refine⟨x,m,_,ho,hr,h2,rfl,HS.back W.later hs hr1 (blk1 hf) (fun e he=>.inl (by rw [List.mem_singleton.1 he];exact List.mem_cons_self)),?_⟩
 exact TrI.later (hs.lB.less (blk1 hf)) (Nat.le_refl _) x h1
theorem fail_any{h:Heap}(hs:HS ⟨h,[br],rdC I M br t n⟩ h)(hn:0≤n∧n≤I.L):CsP Tryz.prog (ErrE I M br [br] h (.err n:Out Unit)) 59 #[ptr br] h fun _ _=>False:=by
 refine eP (rep:=rep) (m:=4) (ex:=[]) (cu:=[]) (args:=[.own 900 br 0]) tO Tryz.func59 rfl (by decide) (rs:=[]) rfl rfl rfl hs ?_
 ((repeat' ((conv=>whnf);(first|(refine VC.mk (by omega) ?_)|fail)));all_goals (try (conv=>whnf)))
 exact⟨fun h' hs=>⟨n,n,t,rfl,rfl,hn,hs⟩⟩
theorem CK.fail(W:Wd I M cE hE S.h0 S.cap its)(ha:args.map den1++caps.map denC=[ptr br])(hf:findC S.ch 900=some (br,rdB I M t n))(hn:0≤n∧n≤I.L)(ho:oC = .err n):CK Tryz.prog (ErrE I M br cE hE oC) 59 args caps S κ:=
 ⟨fun h hs=>.inr (.inr (by
  rw [ha]
  refine (fail_any (rd_at hs hf) hn).mono (fun v h' he=>he.up W hs (blk1 hf) List.mem_cons_self fun x hx=>by cases hx;exact ho) fun v h' hf=>hf.elim))⟩
end
end Go.Ex
namespace Go.Ex
open Go.Proofs
attribute [local irreducible] CH lexK
def tokK(s:ByteArray)(a:Int):Tok:=if (lexK s a).1=0 then ⟨0,0,0⟩ else ⟨(lexK s a).1,a,(lexK s a).2⟩
theorem lnext_any(s:ByteArray)(a:Int)(h:Heap)(ht:TabsH h)(hz:s.size≤1048576)(ha:0≤a∧a<s.size) :
 CH Tryz.prog 27 #[.string s,.int .i64 a] h fun v h'=>v = .tuple #[.agg ⟨tokR.cells (tokK s a)⟩,.int .i64 (if (lexK s a).1=0 then 4 else 0)]∧Grows h h':=by
 refine enter (rep:=rep) (m:=6) (ex:=[0,1,4,5,6,19]) (cu:=[]) tO Tryz.func27 rfl (by decide) (rs:=[.cell 4 40,.tmp 5]) rfl rfl [.val (.string s),.val (.int .i64 a)] rfl ?_
 have c1:=fun h1 (ht:TabsH h1)=>kind_any2 s a h1 ht hz ha
 unfold tokK
 generalize lexK s a=k at c1
 obtain⟨k1,k2⟩:=k
 dsimp only at c1 ⊢
 ((repeat' ((conv=>whnf);(first|(refine VC.mk (by omega) ?_)|(refine Br.mk ?_ ?_<;>intro hb)|(refine New.mk ?_;intro b hb)|(apply CK.pure;(case hh=>(intro h1 hs;exact c1 h1 (ht.at hs))))|fail)));all_goals (try (conv=>whnf)))
 all_goals first
  |(rw [if_pos (by assumption),if_pos (by assumption)];exact⟨fun h' hs=>⟨rfl,hs.grows⟩⟩)
  |(rw [if_neg (by assumption),if_neg (by assumption)];exact⟨fun h' hs=>⟨rfl,hs.grows⟩⟩)
end Go.Ex
