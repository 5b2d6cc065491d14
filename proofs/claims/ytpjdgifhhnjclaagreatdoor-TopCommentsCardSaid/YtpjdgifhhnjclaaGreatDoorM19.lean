/-
  Top: TopComments: whatever the input, the law answers true (part 19)
-/
import Derived.Test.YtpjdgifhhnjclaaGreatDoorM10
import Derived.Test.YtpjdgifhhnjclaaGreatDoorM18
set_option linter.unusedVariables false
set_option linter.unusedSimpArgs false
set_option maxHeartbeats 4000000
set_option maxRecDepth 10000
namespace Go.Ex
open Go.Proofs
structure G1(h:A3)(cap:List Nat)(h':A3)(cap':List Nat):Prop where
 size:h.size≤h'.size
 same:∀ b,b<h.size→b∉cap→h'[b]?=h[b]?
 cap:∀ c∈cap',c∈cap∨h.size≤c
theorem G1.refl(h:A3)(cap:List Nat):G1 h cap h cap:=⟨Nat.le_refl _,fun _ _ _=>rfl,fun _ h=>.inl h⟩
theorem G1.trans{h h1 h2:A3}{c c1 c2:List Nat}(a:G1 h c h1 c1)(b:G1 h1 c1 h2 c2):G1 h c h2 c2:=
 ⟨Nat.le_trans a.size b.size,fun i hi hn=>(b.same i (Nat.lt_of_lt_of_le hi a.size) fun hm=>(a.cap i hm).elim hn fun h=>absurd h (by omega)).trans (a.same i hi hn),
  fun x hx=>(b.cap x hx).elim (fun h=>a.cap x h) fun h=>.inr (Nat.le_trans a.size h)⟩
theorem G1.less{h h1:A3}{c c1 c2:List Nat}(a:G1 h c h1 c1)(hc:∀ x∈c2,x∈c1):G1 h c h1 c2:=⟨a.size,a.same,fun x hx=>a.cap x (hc x hx)⟩
theorem HS.lB{S:St}{h:A3}(hs:HS S h):G1 S.h0 S.cap h (blks S.ch):=
 ⟨hs.size,hs.frame,fun c hc=>(hs.blks_of hc).2.symm⟩
theorem D3.later{τ:Type}{R:Y7 τ}{h h':A3}{cap cap':List Nat}{A:Option Addr}{n:Nat}{xs:List τ}(hk:D3 R h cap A n xs)(hl:G1 h cap h' cap'):D3 R h' cap' A n xs:=by
 refine⟨⟨hk.sl.len_eq,hk.sl.small,fun h0=>?_⟩,fun h0 a ha=>?_⟩
 ·obtain⟨b,o,e,hb,hc⟩:=hk.sl.at_ h0
  have ho:=(hk.out h0 _ e).2
  exact⟨b,o,e,Nat.lt_of_lt_of_le hb hl.size,fun i hi j v hv=>by rw [K5,hl.same b hb ho];exact hc i hi j v hv⟩
 ·obtain⟨h1,h2⟩:=hk.out h0 a ha
  exact⟨Nat.lt_of_lt_of_le h1 hl.size,fun hm=>(hl.cap _ hm).elim h2 fun h=>absurd h1 (by omega)⟩
mutual
def Q2(lo:Nat)(h:A3)(cap:List Nat)(p:Option Addr):Nd→Prop
 |.mk k w f t l=>∃ b A n c ps,p=some ⟨b,0,none⟩∧(lo≤b∧b<h.size∧b∉cap)∧h[b]?=some (.cells #[.int .u8 k,.int .i64 w,.int .i64 f,.int .i64 t,.slice A n c] 69 (0,0))∧D3 E1 h cap A n ps∧(∀ a,0<n→A=some a→lo≤a.block)∧L3 lo h cap ps l
def L3(lo:Nat)(h:A3)(cap:List Nat)(ps:List (Option Addr)):List Nd→Prop
 |[]=>ps=[]
 |t::ts=>∃ p r,ps=p::r∧Q2 lo h cap p t∧L3 lo h cap r ts
end
mutual
theorem Q2.later{lo lo':Nat}{h h':A3}{cap cap':List Nat}(hl:G1 h cap h' cap')(hlo:lo'≤lo):∀ (x:Nd) {p:Option Addr},Q2 lo h cap p x→Q2 lo' h' cap' p x
 |.mk k w f t l,p,hT=>by
  simp only [Q2] at hT ⊢
  obtain⟨b,A,n,c,ps,e,⟨b0,b1,b2⟩,hb,hk,ha,ht⟩:=hT
  exact⟨b,A,n,c,ps,e,⟨Nat.le_trans hlo b0,Nat.lt_of_lt_of_le b1 hl.size,fun hm=>(hl.cap _ hm).elim b2 fun h=>absurd b1 (by omega)⟩,by rw [hl.same b b1 b2];exact hb,hk.later hl,fun a h0 e=>Nat.le_trans hlo (ha a h0 e),L3.later hl hlo l ht⟩
theorem L3.later{lo lo':Nat}{h h':A3}{cap cap':List Nat}(hl:G1 h cap h' cap')(hlo:lo'≤lo):∀ (l:List Nd) {ps:List (Option Addr)},L3 lo h cap ps l→L3 lo' h' cap' ps l
 |[],ps,hT=>by simp only [L3] at hT ⊢;exact hT
 |t::ts,ps,hT=>by
  simp only [L3] at hT ⊢
  obtain⟨p,r,e,h1,h2⟩:=hT
  exact⟨p,r,e,Q2.later hl hlo t h1,L3.later hl hlo ts h2⟩
end
theorem L3.nil{lo:Nat}{h:A3}{cap:List Nat}:L3 lo h cap [] []:=by simp only [L3]
theorem L3.cons{lo:Nat}{h:A3}{cap:List Nat}{p:Option Addr}{ps:List (Option Addr)}{t:Nd}{ts:List Nd}(h1:Q2 lo h cap p t)(h2:L3 lo h cap ps ts):L3 lo h cap (p::ps) (t::ts):=by
 simp only [L3];exact⟨p,ps,rfl,h1,h2⟩
theorem L3.append{lo:Nat}{h:A3}{cap:List Nat}:∀ {ts us:List Nd} {ps qs:List (Option Addr)},L3 lo h cap ps ts→L3 lo h cap qs us→L3 lo h cap (ps++qs) (ts++us)
 |[],us,ps,qs,h1,h2=>by simp only [L3] at h1;subst h1;exact h2
 |t::ts,us,ps,qs,h1,h2=>by
  simp only [L3] at h1
  obtain⟨p,r,rfl,h3,h4⟩:=h1
  exact L3.cons h3 (h4.append h2)
theorem L3.len{lo:Nat}{h:A3}{cap:List Nat}:∀ {ts:List Nd} {ps:List (Option Addr)},L3 lo h cap ps ts→ps.length=ts.length
 |[],ps,h1=>by simp only [L3] at h1;subst h1;rfl
 |t::ts,ps,h1=>by
  simp only [L3] at h1
  obtain⟨p,r,rfl,h3,h4⟩:=h1
  simp [h4.len]
def O5(k:Int):Nat:=if k=29∨k=30∨k=33∨k=50 then 1 else if k=53 then 2 else 0
mutual
def Wf:Nd→Prop
 |.mk k _ _ _ l=>O5 k≤l.length∧fL l
def fL:List Nd→Prop
 |[]=>True
 |t::ts=>Wf t∧fL ts
end
structure O6 where
 tA:Option Addr
 tn:Nat
 tc:Nat
 pA:Option Addr
 pn:Nat
 pc:Nat
structure C6(I:In):Prop where
 len:I.L≤1000000
 plen:I.pair.length=I.toks.length
 size:I.s.size≤1000000
 rng:∀ x∈I.toks,0≤x.frm∧x.frm≤x.to∧x.to≤I.s.size
 prng:∀ i,0≤i→i<I.L→-1≤B1 0 I.pair i∧B1 0 I.pair i<I.L
structure J4(I:In)(M:O6)(h:A3)(cap:List Nat):Prop where
 toks:D3 C4 h cap M.tA M.tn I.toks
 pair:D3 (E9 .i64) h cap M.pA M.pn I.pair
theorem J4.later{I:In}{M:O6}{h h':A3}{cap cap':List Nat}(hb:J4 I M h cap)(hl:G1 h cap h' cap'):J4 I M h' cap':=⟨hb.toks.later hl,hb.pair.later hl⟩
theorem J4.tn{I:In}{M:O6}{h:A3}{cap:List Nat}(hb:J4 I M h cap):(M.tn:Int)=I.L:=by have:=hb.toks.sl.len_eq;unfold In.L;omega
def H5(I:In)(M:O6)(t:Bool)(n:Int):D8:=.box 80 [.val (.string I.s),.val (.slice M.tA M.tn M.tc),.val (.slice M.pA M.pn M.pc),.val (.int .i64 n),.val (.bool t)]
abbrev G5(I:In)(M:O6)(br:Nat)(t:Bool)(n:Int):L8:=[(900,br,H5 I M t n)]
abbrev ptr(b:Nat):Value:=.pointer (some ⟨b,0,none⟩)
def bN(I:In)(M:O6)(br:Nat)(cap:List Nat)(hE:A3){α:Type}(o:G3 α)(v:Value)(h':A3):Prop:=
 ∃ x n t,o = .err x∧v = .iface 118 (.int .i64 x)∧(0≤x∧x≤I.L)∧HS ⟨hE,cap,G5 I M br t n⟩ h'
def CR(I:In)(M:O6)(br:Nat)(hE:A3)(t:Bool)(n str:Int)(o:G3 Nd)(v:Value)(h':A3):Prop:=
 ∃ x n' p,o = .ok x n'∧(n+str≤n'∧n'≤I.L)∧Wf x∧v = .pointer p∧HS ⟨hE,[br],G5 I M br t n'⟩ h'∧Q2 hE.size h' [br] p x
def CW(I:In)(M:O6)(br:Nat)(f:Nat)(av:List Value)(o:G3 Nd)(t:Bool)(n str:Int):Prop:=
 ∀ hE,HS ⟨hE,[br],G5 I M br t n⟩ hE→J4 I M hE [br]→X2 Tryz.prog (bN I M br [br] hE o) f (ptr br::av).toArray hE (CR I M br hE t n str o)
def N3(I:In)(M:O6)(f:Nat)(av:List Value)(o:G3 Nd)(t:Bool)(n str:Int):Prop:=
 ∀ br hE,HS ⟨hE,[br],G5 I M br t n⟩ hE→J4 I M hE [br]→X2 Tryz.prog (bN I M br [br] hE o) f (ptr br::av).toArray hE (CR I M br hE t n str o)
inductive It where
 |one (p:Option Addr) (x:Nd)
 |many (ps:List (Option Addr)) (l:List Nd)
 |sl (A:Option Addr) (n:Nat) (ps:List (Option Addr)) (l:List Nd)
 |bxs (l:List (Nat×D8))
def Ej(lo:Nat)(h:A3)(cap:List Nat):It→Prop
 |.one p x=>Q2 lo h cap p x∧Wf x
 |.many ps l=>L3 lo h cap ps l∧fL l
 |.sl A n ps l=>D3 E1 h cap A n ps∧(∀ a,0<n→A=some a→lo≤a.block)∧L3 lo h cap ps l∧fL l
 |.bxs l=>∀ e∈l,e.1<h.size∧e.1∉cap∧C7 h e.1 e.2
theorem Ej.later{lo:Nat}{h h':A3}{cap cap':List Nat}(hl:G1 h cap h' cap'):∀ {i:It},Ej lo h cap i→Ej lo h' cap' i
 |.one p x,hi=>⟨Q2.later hl (Nat.le_refl _) x hi.1,hi.2⟩
 |.many ps l,hi=>⟨L3.later hl (Nat.le_refl _) l hi.1,hi.2⟩
 |.sl A n ps l,hi=>⟨hi.1.later hl,hi.2.1,L3.later hl (Nat.le_refl _) l hi.2.2.1,hi.2.2.2⟩
 |.bxs l,hi=>fun e he=>⟨Nat.lt_of_lt_of_le (hi e he).1 hl.size,fun hm=>(hl.cap _ hm).elim (hi e he).2.1 fun h=>absurd (hi e he).1 (by omega),(hi e he).2.2.congr (hl.same _ (hi e he).1 (hi e he).2.1)⟩
structure Wd(I:In)(M:O6)(cE:List Nat)(hE:A3)(h0:A3)(cap:List Nat)(its:List It):Prop where
 ok:C6 I
 base:J4 I M h0 cap
 later:G1 hE cE h0 cap
 its:∀ e∈its,Ej hE.size h0 cap e
theorem Wd.start{I:In}{M:O6}{cE:List Nat}{hE:A3}(ok:C6 I)(hb:J4 I M hE cE):Wd I M cE hE hE cE []:=⟨ok,hb,G1.refl _ _,fun e he=>by cases he⟩
section
variable {I:In}{M:O6}{cE:List Nat}{hE h0:A3}{cap:List Nat}{its:List It}
theorem Wd.anew(W:Wd I M cE hE h0 cap its){h':A3}{cap':List Nat}(hl:G1 h0 cap h' cap'):Wd I M cE hE h' cap' its:=
 ⟨W.ok,W.base.later hl,W.later.trans hl,fun e he=>(W.its e he).later hl⟩
theorem Wd.add(W:Wd I M cE hE h0 cap its){i:It}(hi:Ej hE.size h0 cap i):Wd I M cE hE h0 cap (i::its):=
 ⟨W.ok,W.base,W.later,fun e he=>(List.mem_cons.1 he).elim (fun h=>by rw [h];exact hi) fun h=>W.its e h⟩
theorem Wd.of(W:Wd I M cE hE h0 cap its){its':List It}(hi:∀ e∈its',e∈its):Wd I M cE hE h0 cap its':=⟨W.ok,W.base,W.later,fun e he=>W.its e (hi e he)⟩
theorem Wd.manyOf(W:Wd I M cE hE h0 cap its){ps:List (Option Addr)}{l:List Nd}(hi:It.many ps l∈its):L3 hE.size h0 cap ps l∧fL l:=W.its _ hi
theorem Wd.one(W:Wd I M cE hE h0 cap its){p:Option Addr}{x:Nd}(hi:It.one p x∈its):Q2 hE.size h0 cap p x:=(W.its _ hi).1
theorem Wd.wf(W:Wd I M cE hE h0 cap its){p:Option Addr}{x:Nd}(hi:It.one p x∈its):Wf x:=(W.its _ hi).2
end
theorem L9{S:St}{h:A3}(hs:HS S h){k b:Nat}{c:D8}(hf:B3 S.ch k=some (b,c)):HS ⟨h,[b],[(k,b,c)]⟩ h:=
 hs.part (q:=[(k,b,c)]) (r:=[]) ⟨hf,rfl,trivial⟩
theorem J4.at{I:In}{M:O6}{S:St}{h:A3}(hb:J4 I M S.h0 S.cap)(hs:HS S h){c':List Nat}(hc:∀ c∈c',c∈blks S.ch):J4 I M h c':=hb.later (hs.lB.less hc)
theorem J0{ch:L8}{k b:Nat}{c:D8}(hf:B3 ch k=some (b,c)):b∈blks ch:=G9 (fM hf)
theorem J4.at1{I:In}{M:O6}{S:St}{h:A3}(hb:J4 I M S.h0 S.cap)(hs:HS S h){k b:Nat}{c:D8}(hf:B3 S.ch k=some (b,c)):J4 I M h [b]:=
 hb.at hs fun x hx=>by rw [List.mem_singleton.1 hx];exact J0 hf
theorem HS.gB{h h':A3}{k b T:Nat}{cs:List KV}{ch:L8}(h1:HS ⟨h,[b],[(k,b,.box T cs)]⟩ h)(h2:HS ⟨h,[b],ch⟩ h')(hf:B3 ch k=some (b,.box T cs)):A5 h h':=by
 refine⟨h2.size,fun j hj=>?_⟩
 by_cases e:j=b
 ·subst e
  have e1:C7 h j (.box T cs):=(h1.chunk (k,j,.box T cs) List.mem_cons_self).2.2
  have e2:C7 h' j (.box T cs):=(h2.chunk (k,j,.box T cs) (fM hf)).2.2
  simp only [C7] at e1 e2
  rw [e1,e2]
 ·exact h2.frame j hj fun hm=>e (List.mem_singleton.1 hm)
theorem SC.arr{τ:Type}{T:Nat}{R:Y7 τ}{xs ys:List τ}{c:Nat}(h:xs=ys):SC (.arr T R xs c) (.arr T R ys c):=by subst h;exact SC.rfl
section
variable {P:Program}{ty:Nat→Option gS}{rep:Jj}{n m:Nat}{ex cu:List Nat}{S:St}{K:Kn}{X:Hj}{κ:Kt}{E:Value→A3→Prop}
theorem HS.anew{h:A3}(hs:HS S h):HS ⟨h,blks S.ch,S.ch⟩ h:=
 ⟨Nat.le_refl _,fun _ _ _=>rfl,fun e he=>by
  obtain⟨h1,h2,h3⟩:=hs.chunk e he
  exact⟨h1,.inr (G9 he),h3⟩,hs.apart⟩
theorem C1.held{A:Option Addr}{sz:Nat}{i:Int}{f n:Nat}{agg:Bool}{κ:KV→Prop}{τ:Type}{R:Y7 τ}{len:Nat}{xs:List τ}(hs:D3 R S.h0 S.cap A len xs)(hsz:R.sz=sz)(h0:0≤i)(h1:i<len)
 {l:List Value} (hl:kB f n (R.cells (B1 R.dflt xs i))=some l) (hk:G8 agg (O7 l) κ):C1 S A sz i f n agg κ:=
 ⟨.inl ⟨_,R,len,xs,hs.sl,fun a ha=>(hs.out (by omega) a ha).2,hsz,h0,h1,l,hl,hk⟩⟩
theorem If.held{τ:Type}{R:Y7 τ}{A:Option Addr}{n:Nat}{κ:List τ→Prop}{xs:List τ}(hs:D3 R S.h0 S.cap A n xs)(hk:κ xs):If R S A n κ:=⟨xs,hs.sl,fun h0 a ha=>(hs.out h0 a ha).2,hk⟩
theorem HS.ne{S:St}{h:A3}(hs:HS S h){k k' b b':Nat}{c c':D8}(h1:B3 S.ch k=some (b,c))(h2:B3 S.ch k'=some (b',c'))(hk:k≠k'):b≠b':=
 K6 hs.apart (fM h1) (fM h2) (fun e=>hk (congrArg Prod.fst e))
def Fj(K:Kn):Kn→Prop
 |[]=>True
 |(t,v)::r=>(∃ u,lk K t=some u∧B0 u=B0 v)∧Fj K r
theorem Fj.get{K:Kn}:∀ {L:Kn},Fj K L→∀ t v,lk L t=some v→∃ u,lk K t=some u∧B0 u=B0 v
 |[],_,t,v,h=>by simp [lk] at h
 |(s,u)::r,hh,t,v,h=>by
  by_cases e:s=t
  ·subst e;rw [K9] at h;cases h;exact hh.1
  ·rw [J3 e] at h;exact Fj.get hh.2 t v h
theorem H9.like{Df:List Deferred}{n:Nat}{a:Act}{K K':Kn}(h:H9 Df n a K)(hs:∀ t v,lk K' t=some v→∃ u,lk K t=some u∧B0 u=B0 v):H9 Df n a K':=
 ⟨h.size,h.defers,fun t v hv=>by obtain⟨u,h1,h2⟩:=hs t v hv;rw [←h2];exact h.knows t u h1⟩
theorem gG(hty:H6 P ty){c:Code}{α:Type}(cs:List Nat)(l:α→Kn)(st:α→St)(φ:Nat→α→Prop)
 (h:mR cs K [] fun K0=>(∀ h,HS S h→∃ μ x,φ μ x∧Fj K (l x++K0)∧HS (st x) h)∧∀ μ x,φ μ x →
  J8 P ty rep n m ex cu c X (fun K' S'=>∀ h,HS S' h→∃ μ' x',φ μ' x'∧μ' < μ∧Fj K' (l x'++K0)∧HS (st x') h) (l x++K0) (st x)) :
 nB P n ty rep m ex cu (.loop c) X κ K S:=⟨fun Df w0 a w ha he hs=>by
 obtain⟨K0,h1,h4⟩:=X9 h
 obtain⟨μ0,x0,h3,h5,h6⟩:=h1 _ hs
 refine wp_loop_ghost (fun μ a w=>∃ x,φ μ x∧H9 Df n a (l x++K0)∧SE w0 w∧HS (st x) w.heap) μ0 ⟨x0,h3,ha.like h5.get,he,h6⟩ ?_
 rintro μ a w ⟨x,hx,ha,he,hs⟩
 have:=Ba hty c X _ _ _ (h4 μ x hx) Df w0 a w ha he hs
 refine Code.wp_mono ?_ this
 intro e a w hq
 cases e with
 |normal=>
  obtain⟨K',S',a1,a2,a3,hq⟩:=hq
  obtain⟨μ',x',b1,b2,b3,b4⟩:=hq _ a3
  exact⟨μ',b2,x',b1,a1.like b3.get,a2,b4⟩
 |exit i=>exact hq
 |ret=>exact hq
 |panic ch=>exact hq
 |goto l=>exact hq
 |outgrown=>exact hq⟩
theorem X2.mono{E E':Value→A3→Prop}{f:Nat}{args:Array Value}{h:A3}{R R':Value→A3→Prop}(hc:X2 P E f args h R)(he:∀ v h',E v h'→E' v h')(hr:∀ v h',R v h'→R' v h'):X2 P E' f args h R':=
 ⟨hc.1,fun w hw=>(hc.2 w hw).mono fun e w' ⟨h1,h2⟩=>⟨h1,h2.elim (fun⟨v,a,b⟩=>.inl ⟨v,a,hr _ _ b⟩) fun⟨v,a,b⟩=>.inr ⟨v,a,he _ _ b⟩⟩⟩
theorem CK.turnP{f:Nat}{args caps:List KV}{κ:KV→St→Prop}(q r:L8)(E':A3→Value→A3→Prop)(Post:A3→Value→L8→A3→Prop)(hc:X1 S.ch (q++r))
 (hh:∀ h,HS S h→HS ⟨h,blks q,q⟩ h→X2 P (E' h) f (args.map A1++caps.map A0).toArray h fun u h'=>∃ q',HS ⟨h,blks q,q'⟩ h'∧Post h u q' h')
 (he:∀ h v h',HS S h→HS ⟨h,blks q,q⟩ h→E' h v h'→E v h')
 (hk:∀ h u q' h',HS S h→HS ⟨h,blks q,q'⟩ h'→HS ⟨S.h0,S.cap,q'++r⟩ h'→Post h u q' h'→∃ kv S',B0 kv=u∧HS S' h'∧κ kv S'):CK P E f args caps S κ:=
 ⟨fun h hs=>.inr (.inr (by
  have:=hh h hs (hs.part hc)
  refine this.mono (fun v h' h1=>he h v h' hs (hs.part hc) h1) fun v h' ⟨q',h2,h3⟩=>?_
  exact hk h v q' h' hs h2 (hs.join hc h2) h3))⟩
end
end Go.Ex
namespace Go.Ex
open Go.Proofs
attribute [local irreducible] CH X2
section
variable {I:In}{M:O6}{br:Nat}{t:Bool}{n:Int}{h:A3}
theorem Tj(ok:C6 I){i:Int}(h0:0≤i)(h1:i<I.L):0≤(B1 C4.dflt I.toks i).frm∧(B1 C4.dflt I.toks i).frm≤(B1 C4.dflt I.toks i).to∧(B1 C4.dflt I.toks i).to≤I.s.size:=
 ok.rng _ (W8 _ _ _ h0 h1)
theorem Xq(ok:C6 I)(hs:HS ⟨h,[br],G5 I M br t n⟩ h)(hB:J4 I M h [br])(i:Int):CH Tryz.prog 31 #[ptr br,.int .i64 i] h fun v h'=>v = .string (word I i)∧A5 h h':=by
 refine hX 4 [4,5,16,25,26,28] [] [.own 900 br 0,.val (.int .i64 i)] Tryz.func31 rfl hs ?_
 have htn:=hB.tn
 have hsl:=hB.toks.sl
 have hs0:=hs
 by_cases hi:i<0∨I.L≤i
 ·have e:word I i=⟨#[]⟩:=by rw [word,if_pos hi]
  rw [e]
  ((repeat' (conv=>whnf);first|(refine VC.mk (by omega) ?_)|(refine Br.mk ?_ ?_<;>intro hb<;>(try omega))|fail);all_goals try conv=>whnf)
  all_goals exact⟨fun h' hs=>⟨rfl,hs0.gB hs rfl⟩⟩
 ·have hr:=Tj ok (i:=i) (by omega) (by omega)
  obtain⟨w,hw⟩:∃ w,word I i=w:=⟨_,rfl⟩
  rw [hw]
  rw [word,if_neg hi] at hw
  ((repeat' (conv=>whnf);first|(refine VC.mk (by (first|omega|exact Sl.plain (by assumption) (by omega))) ?_)|(refine Br.mk ?_ ?_<;>intro hb<;>(try omega))|(refine E5.mk ?_;intro b hb)|(refine drawn tO mixed (by kernel_rfl) ?_)|(refine C1.held hB.toks rfl (by omega) (by omega) rfl ?_)|fail);all_goals try conv=>whnf)
  all_goals exact⟨fun h' hs=>⟨yD (by simp_all),hs0.gB hs rfl⟩⟩
theorem Mt(ok:C6 I)(hs:HS ⟨h,[br],G5 I M br t n⟩ h)(hB:J4 I M h [br])(i:Int):CH Tryz.prog 164 #[ptr br,.int .i64 i] h fun v h'=>v = .int .u8 (B9 I i)∧A5 h h':=by
 refine hX 4 [4,15] [] [.own 900 br 0,.val (.int .i64 i)] Tryz.func164 rfl hs ?_
 have htn:=hB.tn
 have hsl:=hB.toks.sl
 have hs0:=hs
 by_cases hi:i<0∨I.L≤i
 ·have e:B9 I i=0:=by rw [B9,if_pos hi]
  rw [e]
  ((repeat' (conv=>whnf);first|(refine VC.mk (by omega) ?_)|(refine Br.mk ?_ ?_<;>intro hb<;>(try omega))|fail);all_goals try conv=>whnf)
  all_goals exact⟨fun h' hs=>⟨rfl,hs0.gB hs rfl⟩⟩
 ·have hr:=Tj ok (i:=i) (by omega) (by omega)
  have e:B9 I i=(B1 C4.dflt I.toks i).kind:=by rw [B9,if_neg hi]
  rw [e]
  ((repeat' (conv=>whnf);first|(refine VC.mk (by (first|omega|exact Sl.plain (by assumption) (by omega))) ?_)|(refine Br.mk ?_ ?_<;>intro hb<;>(try omega))|(refine C1.held hB.toks rfl (by omega) (by omega) rfl ?_)|fail);all_goals try conv=>whnf)
  all_goals exact⟨fun h' hs=>⟨rfl,hs0.gB hs rfl⟩⟩
end
section
variable {I:In}{M:O6}{br:Nat}{t:Bool}{n:Int}{S:St}{h:A3}
theorem T1(ok:C6 I)(hb:J4 I M S.h0 S.cap)(hs:HS S h)(hf:B3 S.ch 900=some (br,H5 I M t n))(i:Int):CH Tryz.prog 31 #[ptr br,.int .i64 i] h fun v h'=>v = .string (word I i)∧A5 h h':=
 Xq ok (L9 hs hf) (hb.at1 hs hf) i
theorem Xh(ok:C6 I)(hb:J4 I M S.h0 S.cap)(hs:HS S h)(hf:B3 S.ch 900=some (br,H5 I M t n))(i:Int):CH Tryz.prog 164 #[ptr br,.int .i64 i] h fun v h'=>v = .int .u8 (B9 I i)∧A5 h h':=
 Mt ok (L9 hs hf) (hb.at1 hs hf) i
end
attribute [local irreducible] word B9
section
variable {I:In}{M:O6}{br:Nat}{t:Bool}{n:Int}{h:A3}
theorem Xs(ok:C6 I)(hs:HS ⟨h,[br],G5 I M br t n⟩ h)(hB:J4 I M h [br]):CH Tryz.prog 105 #[ptr br] h fun v h'=>v = .string (word I n)∧A5 h h':=by
 refine hX 4 [] [] [.own 900 br 0] Tryz.func105 rfl hs ?_
 have hs0:=hs
 ((repeat' (conv=>whnf);first|(refine VC.mk (by omega) ?_)|(refine A7 ?_ fun h1 hs=>T1 ok hB hs rfl _)|fail);all_goals try conv=>whnf)
 all_goals exact⟨fun h' hs=>⟨rfl,hs0.gB hs rfl⟩⟩
theorem Eo(ok:C6 I)(hs:HS ⟨h,[br],G5 I M br t n⟩ h)(hB:J4 I M h [br])(i:Int):CH Tryz.prog 133 #[ptr br,.int .i64 i] h fun v h'=>v=A0 (.prop (B9 I i=1))∧A5 h h':=by
 refine hX 4 [] [] [.own 900 br 0,.val (.int .i64 i)] Tryz.func133 rfl hs ?_
 have hs0:=hs
 ((repeat' (conv=>whnf);first|(refine A7 ?_ fun h1 hs=>Xh ok hB hs rfl _)|fail);all_goals try conv=>whnf)
 all_goals exact⟨fun h' hs=>⟨rfl,hs0.gB hs rfl⟩⟩
theorem Ch(ok:C6 I)(hs:HS ⟨h,[br],G5 I M br t n⟩ h)(hB:J4 I M h [br])(i:Int):CH Tryz.prog 187 #[ptr br,.int .i64 i] h fun v h'=>v=A0 (.prop (B9 I i=7))∧A5 h h':=by
 refine hX 4 [] [] [.own 900 br 0,.val (.int .i64 i)] Tryz.func187 rfl hs ?_
 have hs0:=hs
 ((repeat' (conv=>whnf);first|(refine A7 ?_ fun h1 hs=>Xh ok hB hs rfl _)|fail);all_goals try conv=>whnf)
 all_goals exact⟨fun h' hs=>⟨rfl,hs0.gB hs rfl⟩⟩
theorem Bd(ok:C6 I)(hs:HS ⟨h,[br],G5 I M br t n⟩ h)(hB:J4 I M h [br])(i:Int):CH Tryz.prog 216 #[ptr br,.int .i64 i] h fun v h'=>v=A0 (.prop (La I i))∧A5 h h':=by
 refine hX 4 [] [] [.own 900 br 0,.val (.int .i64 i)] Tryz.func216 rfl hs ?_
 have hs0:=hs
 ((repeat' (conv=>whnf);first|(refine Br.mk ?_ ?_<;>intro hb)|(refine A7 ?_ fun h1 hs=>Xh ok hB hs rfl _)|fail);all_goals try conv=>whnf)
 all_goals first
  |exact⟨fun h' hs=>⟨C3 (by simp only [La];omega),hs0.gB hs rfl⟩⟩
  |exact⟨fun h' hs=>⟨C0 (by simp only [La];omega),hs0.gB hs rfl⟩⟩
theorem Tp(ok:C6 I)(hs:HS ⟨h,[br],G5 I M br t n⟩ h)(hB:J4 I M h [br]):CH Tryz.prog 58 #[ptr br] h fun v h'=>v=A0 (.prop (n=I.L))∧A5 h h':=by
 refine hX 4 [] [] [.own 900 br 0] Tryz.func58 rfl hs ?_
 have hs0:=hs
 have htn:=hB.tn
 ((repeat' (conv=>whnf);first|(refine VC.mk (by omega) ?_)|(refine drawn tO mixed (by kernel_rfl) ?_)|fail);all_goals try conv=>whnf)
 all_goals exact⟨fun h' hs=>⟨C3 (by omega),hs0.gB hs rfl⟩⟩
end
end Go.Ex
namespace Go.Ex
open Go.Proofs
attribute [local irreducible] CH X2 word B9
mutual
theorem Q2.recap{lo lo':Nat}{h:A3}{cap cap':List Nat}(hc:∀ c∈cap',c∈cap∨c<lo)(hlo:lo'≤lo):∀ (x:Nd) {p:Option Addr},Q2 lo h cap p x→Q2 lo' h cap' p x
 |.mk k w f t l,p,hT=>by
  simp only [Q2] at hT ⊢
  obtain⟨b,A,n,c,ps,e,⟨b0,b1,b2⟩,hb,hk,ha,ht⟩:=hT
  exact⟨b,A,n,c,ps,e,⟨Nat.le_trans hlo b0,b1,fun hm=>(hc _ hm).elim b2 fun h=>by omega⟩,hb,⟨hk.sl,fun h0 a e=>⟨(hk.out h0 a e).1,fun hm=>(hc _ hm).elim (hk.out h0 a e).2 fun h=>by have:=ha a h0 e;omega⟩⟩,fun a h0 e=>Nat.le_trans hlo (ha a h0 e),L3.recap hc hlo l ht⟩
theorem L3.recap{lo lo':Nat}{h:A3}{cap cap':List Nat}(hc:∀ c∈cap',c∈cap∨c<lo)(hlo:lo'≤lo):∀ (l:List Nd) {ps:List (Option Addr)},L3 lo h cap ps l→L3 lo' h cap' ps l
 |[],ps,hT=>by simp only [L3] at hT ⊢;exact hT
 |t::ts,ps,hT=>by
  simp only [L3] at hT ⊢
  obtain⟨p,r,e,h1,h2⟩:=hT
  exact⟨p,r,e,Q2.recap hc hlo t h1,L3.recap hc hlo ts h2⟩
end
theorem Q2.ptr{lo:Nat}{h:A3}{cap:List Nat}{p:Option Addr}:∀ {x:Nd},Q2 lo h cap p x→∃ b,p=some ⟨b,0,none⟩
 |.mk ..,hT=>by simp only [Q2] at hT;obtain⟨b,_,_,_,_,e,_⟩:=hT;exact⟨b,e⟩
theorem HS.back{hE h h':A3}{cE c1:List Nat}{S:St}{ch:L8}(hl:G1 hE cE S.h0 S.cap)(hs:HS S h)(h1:HS ⟨h,c1,ch⟩ h')(hc:∀ c∈c1,c∈blks S.ch)(he:∀ e∈ch,e.2.1∈c1∨h.size≤e.2.1):HS ⟨hE,cE,ch⟩ h':=by
 have l1:=hl.trans (hs.lB.less hc)
 have l2:G1 h c1 h' c1:=⟨h1.size,h1.frame,fun c hc=>.inl hc⟩
 have l3:=l1.trans l2
 refine⟨l3.size,l3.same,fun e hm=>?_,h1.apart⟩
 obtain⟨a1,_,a3⟩:=h1.chunk e hm
 exact⟨a1,(he e hm).elim (fun h=>(l1.cap _ h).symm) (fun h=>.inl (Nat.le_trans l1.size h)),a3⟩
section
variable {I:In}{M:O6}{br:Nat}{cE:List Nat}{hE:A3}{its:List It}{S:St}{t:Bool}{n:Int}{α:Type}{oC:G3 α}{f:Nat}{args caps:List KV}{κ:KV→St→Prop}
theorem bN.up{β:Type}{o:G3 β}{h h':A3}{v:Value}(W:Wd I M cE hE S.h0 S.cap its)(hs:HS S h){c1:List Nat}(hc:∀ c∈c1,c∈blks S.ch)(hb:br∈c1)(he:bN I M br c1 h o v h')(hx:∀ x,o = .err x→oC = .err x):bN I M br cE hE oC v h':=by
 obtain⟨x,m,u,h1,h2,h3,h4⟩:=he
 exact⟨x,m,u,hx x h1,h2,h3,HS.back W.later hs h4 hc fun e hm=>.inl (by rw [List.mem_singleton.1 hm];exact hb)⟩
theorem oI{ch:L8}{k b:Nat}{c:D8}(hf:B3 ch k=some (b,c)):∀ x∈[b],x∈blks ch:=fun x hx=>by rw [List.mem_singleton.1 hx];exact J0 hf
theorem CK.con1(W:Wd I M cE hE S.h0 S.cap its){av:List Value}{o:G3 Nd}{str:Int}(hcon:CW I M br f av o t n str)(ha:args.map A1++caps.map A0=ptr br::av)(hf:B3 S.ch 900=some (br,H5 I M t n))
 (herr:∀ x,o = .err x→oC = .err x)
 (hk:∀ x m b h',o = .ok x m→n+str≤m→m≤I.L→dF S.ch 900 (H5 I M t m) fun ch=>Wd I M cE hE h' (blks ch) (.one (some ⟨b,0,none⟩) x::its)→κ (.val (.pointer (some ⟨b,0,none⟩))) ⟨h',blks ch,ch⟩) :
 CK Tryz.prog (bN I M br cE hE oC) f args caps S κ:=
 ⟨fun h hs=>.inr (.inr (by
  rw [ha]
  have hr:=L9 hs hf
  have hcl:=hcon h hr (W.base.at1 hs hf)
  refine hcl.mono (fun v h' he=>he.up W hs (oI hf) List.mem_cons_self herr) fun v h' hok=>?_
  obtain⟨x,m,p,h1,⟨h2,h3⟩,h4,rfl,h6,h7⟩:=hok
  obtain⟨b,rfl⟩:=h7.ptr
  obtain⟨l,r,b',c0,e1,e2,h8⟩:=K7 (hk x m b h' h1 h2 h3)
  rw [hf] at e2
  cases e2
  have h9:HS ⟨S.h0,S.cap,l++(900,br,H5 I M t m)::r⟩ h':=hs.upd e1 h6.size (fun j hj hlt=>h6.frame j hlt fun hm=>hj (List.mem_singleton.1 hm)) (h6.chunk _ List.mem_cons_self).2.2
  have l9:=h9.lB
  refine⟨_,_,rfl,h9.anew,h8 ((W.anew l9).add ⟨?_,h4⟩)⟩
  refine Q2.recap (fun c hc=>.inr ?_) (Nat.le_trans W.later.size hs.size) x h7
  obtain⟨e,he,rfl⟩:=oH hc
  rcases List.mem_append.1 he with he|he
  ·exact (hs.chunk e (by rw [e1];exact List.mem_append.2 (.inl he))).1
  ·rcases List.mem_cons.1 he with rfl|he
   ·exact (hs.chunk _ (fM hf)).1
   ·exact (hs.chunk e (by rw [e1];exact List.mem_append.2 (.inr (List.mem_cons_of_mem _ he)))).1))⟩
theorem CK.con(W:Wd I M cE hE S.h0 S.cap its){av:List Value}{o:G3 Nd}{str:Int}(hcon:N3 I M f av o t n str)(ha:args.map A1++caps.map A0=ptr br::av)(hf:B3 S.ch 900=some (br,H5 I M t n))
 (herr:∀ x,o = .err x→oC = .err x)
 (hk:∀ x m b h',o = .ok x m→n+str≤m→m≤I.L→dF S.ch 900 (H5 I M t m) fun ch=>Wd I M cE hE h' (blks ch) (.one (some ⟨b,0,none⟩) x::its)→κ (.val (.pointer (some ⟨b,0,none⟩))) ⟨h',blks ch,ch⟩) :
 CK Tryz.prog (bN I M br cE hE oC) f args caps S κ:=CK.con1 W (hcon br) ha hf herr hk
theorem F2(W:Wd I M cE hE S.h0 S.cap its){av:List Value}{o:G3 Nd}{str:Int}(hcon:N3 I M f av o t n str)(ha:args.map A1++caps.map A0=ptr br::av)(hf:B3 S.ch 900=some (br,H5 I M t n))
 (hk:∀ x m b h',o = .ok x m→n+str≤m→m≤I.L→dF S.ch 900 (H5 I M t m) fun ch=>Wd I M cE hE h' (blks ch) (.one (some ⟨b,0,none⟩) x::its)→κ (.val (.pointer (some ⟨b,0,none⟩))) ⟨h',blks ch,ch⟩)(herr:∀ x,o = .err x→oC = .err x) :
 CK Tryz.prog (bN I M br cE hE oC) f args caps S κ:=CK.con W hcon ha hf herr hk
theorem CK.sure(W:Wd I M cE hE S.h0 S.cap its){av:List Value}{x:Nd}{m:Int}{str:Int}(hcon:N3 I M f av (.ok x m) t n str)(ha:args.map A1++caps.map A0=ptr br::av)(hf:B3 S.ch 900=some (br,H5 I M t n))
 (hk:∀ b h',dF S.ch 900 (H5 I M t m) fun ch=>Wd I M cE hE h' (blks ch) (.one (some ⟨b,0,none⟩) x::its)→κ (.val (.pointer (some ⟨b,0,none⟩))) ⟨h',blks ch,ch⟩) :
 CK Tryz.prog (bN I M br cE hE oC) f args caps S κ:=
 CK.con W hcon ha hf (fun x h=>by cases h) fun x' m' b h' e _ _=>by cases e;exact hk b h'
theorem Wd.fin(W:Wd I M [br] hE S.h0 S.cap its){h':A3}(hs:HS S h'){n0 m str:Int}(hf:B3 S.ch 900=some (br,H5 I M t m)){o:G3 Nd}{b:Nat}{x:Nd}(hm:It.one (some ⟨b,0,none⟩) x∈its)(ho:o = .ok x m)(hr:n0+str≤m∧m≤I.L) :
 CR I M br hE t n0 str o (B0 (.val (.pointer (some ⟨b,0,none⟩)))) h':=by
 obtain⟨h1,h2⟩:=W.its _ hm
 have hr1:=L9 hs hf
 refine⟨x,m,_,ho,hr,h2,rfl,HS.back W.later hs hr1 (oI hf) (fun e he=>.inl (by rw [List.mem_singleton.1 he];exact List.mem_cons_self)),?_⟩
 exact Q2.later (hs.lB.less (oI hf)) (Nat.le_refl _) x h1
theorem Wd.fn(W:Wd I M [br] hE S.h0 S.cap its){n0 m str:Int}(hf:B3 S.ch 900=some (br,H5 I M t m)){o:G3 Nd}{b:Nat}{x:Nd}(hm:It.one (some ⟨b,0,none⟩) x∈its)(ho:o = .ok x m)(hr:n0+str≤m∧m≤I.L):Fin S (.val (.pointer (some ⟨b,0,none⟩))) (CR I M br hE t n0 str o):=⟨fun _ hs=>W.fin hs hf hm ho hr⟩
theorem Ae{h:A3}(hs:HS ⟨h,[br],G5 I M br t n⟩ h)(hn:0≤n∧n≤I.L):X2 Tryz.prog (bN I M br [br] h (.err n:G3 Unit)) 59 #[ptr br] h fun _ _=>False:=by
 refine O9 4 [] [] [.own 900 br 0] Tryz.func59 rfl hs ?_
 ((repeat' (conv=>whnf);first|(refine VC.mk (by omega) ?_)|fail);all_goals try conv=>whnf)
 exact⟨fun h' hs=>⟨n,n,t,rfl,rfl,hn,hs⟩⟩
theorem CK.fail(W:Wd I M cE hE S.h0 S.cap its)(ha:args.map A1++caps.map A0=[ptr br])(hf:B3 S.ch 900=some (br,H5 I M t n))(hn:0≤n∧n≤I.L)(ho:oC = .err n):CK Tryz.prog (bN I M br cE hE oC) 59 args caps S κ:=
 ⟨fun h hs=>.inr (.inr (by
  rw [ha]
  refine (Ae (L9 hs hf) hn).mono (fun v h' he=>he.up W hs (oI hf) List.mem_cons_self fun x hx=>by cases hx;exact ho) fun v h' hf=>hf.elim))⟩
end
end Go.Ex
namespace Go.Ex
open Go.Proofs
attribute [local irreducible] CH H0
def Nz(s:ByteArray)(a:Int):M7:=if (H0 s a).1=0 then ⟨0,0,0⟩ else ⟨(H0 s a).1,a,(H0 s a).2⟩
theorem Lo(s:ByteArray)(a:Int)(h:A3)(ht:D2 h)(hz:s.size≤1048576)(ha:0≤a∧a<s.size) :
 CH Tryz.prog 27 #[.string s,.int .i64 a] h fun v h'=>v = .tuple #[.agg ⟨C4.cells (Nz s a)⟩,.int .i64 (if (H0 s a).1=0 then 4 else 0)]∧A5 h h':=by
 refine Q0 6 [0,1,4,5,6,19] [] [.val (.string s),.val (.int .i64 a)] Tryz.func27 rfl ?_
 have c1:=fun h1 (ht:D2 h1)=>Ro s a h1 ht hz ha
 unfold Nz
 generalize H0 s a=k at c1
 obtain⟨k1,k2⟩:=k
 dsimp only at c1 ⊢
 ((repeat' (conv=>whnf);first|(refine VC.mk (by omega) ?_)|(refine Br.mk ?_ ?_<;>intro hb)|(refine E5.mk ?_;intro b hb)|(refine A7 ?_ fun h1 hs=>c1 h1 (ht.at hs))|fail);all_goals try conv=>whnf)
 all_goals first
  |(rw [if_pos (by assumption),if_pos (by assumption)];exact⟨fun h' hs=>⟨rfl,hs.grows⟩⟩)
  |(rw [if_neg (by assumption),if_neg (by assumption)];exact⟨fun h' hs=>⟨rfl,hs.grows⟩⟩)
end Go.Ex
