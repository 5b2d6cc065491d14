/-
  Top: TopComments: whatever the input, the law answers true (part 24)
-/
import Derived.Defers
import Derived.Recover
import Derived.Test.YtpjdgifhhnjclaaGreatDoorM23
set_option linter.unusedVariables false
set_option linter.unusedSimpArgs false
set_option maxHeartbeats 4000000
set_option maxRecDepth 10000
namespace Go.Ex
open Go.Proofs
theorem CK.anewQ{P:Program}{E:Value→A3→Prop}{S:St}{f:Nat}{args:List KV}{κ:KV→St→Prop}{Q:A3→Value→A3→Prop}(hh:∀ h,HS S h→CH P f (args.map A1).toArray h fun u h'=>A5 h h'∧Q h u h')
 (hk:∀ h u h',HS S h→A5 h h'→Q h u h'→∃ kv,B0 kv=u∧κ kv ⟨h',blks S.ch,S.ch⟩):CK P E f args [] S κ:=
 ⟨fun h hs=>.inl (by
  rw [show args.map A1++([]:List KV).map A0=args.map A1 by simp]
  refine⟨(hh h hs).1,fun w hw=>((hh h hs).2 w hw).mono fun e w' ⟨he,u,h1,h2,h3⟩=>?_⟩
  obtain⟨kv,h4,h5⟩:=hk _ _ _ hs h2 h3
  exact⟨he,u,h1,kv,_,h4,hs.shift h2,h5⟩)⟩
theorem D3.freshen{τ:Type}{R:Y7 τ}{S:St}{h h':A3}{A:Option Addr}{n:Nat}{xs:List τ}(hk:D3 R h' [] A n xs)(hf:∀ a,0<n→A=some a→h.size≤a.block)(hs:HS S h):D3 R h' (blks S.ch) A n xs:=
 ⟨hk.sl,fun h0 a ha=>⟨(hk.out h0 a ha).1,fun hm=>by have h1:=(hs.blks_of hm).1;have h2:=hf a h0 ha;omega⟩⟩
def Ez(h:A3)(T:List M7)(P:List Int)(e a:Int)(v:Value)(h':A3):Prop:=
 ∃ A n c B m d,v = .tuple #[.slice A n c,.slice B m d,.agg #[.int .i64 e,.int .i64 a]]∧(D3 C4 h' [] A n T∧∀ x,0<n→A=some x→h.size≤x.block)∧(D3 (E9 .i64) h' [] B m P∧∀ x,0<m→B=some x→h.size≤x.block)
def F0(s:ByteArray):List M7:=(W4 s).1
def bV(s:ByteArray):List Int:=(W4 s).2.1
def W5(s:ByteArray):Int:=(W4 s).2.2.2.1
def bH(s:ByteArray):Int:=(W4 s).2.2.2.2
theorem CK.nest{E:Value→A3→Prop}{S:St}{f:Nat}{args:List KV}{κ:KV→St→Prop}{T:List M7}{P:List Int}{e a:Int}(hh:∀ h,HS S h→CH Tryz.prog f (args.map A1).toArray h fun u h'=>A5 h h'∧Ez h T P e a u h')
 (hk:∀ h' A n c B m d,G1 S.h0 S.cap h' (blks S.ch)→D3 C4 h' (blks S.ch) A n T→D3 (E9 .i64) h' (blks S.ch) B m P→(∀ x,0<n→A=Option.some x→S.h0.size≤x.block)→(∀ x,0<m→B=Option.some x→S.h0.size≤x.block) →
  κ (.tup [.val (.slice A n c),.val (.slice B m d),.agg [.val (.int .i64 e),.val (.int .i64 a)]]) ⟨h',blks S.ch,S.ch⟩):CK Tryz.prog E f args [] S κ:=
 CK.anewQ hh fun h u h' hs hg ⟨A,n,c,B,m,d,h1,⟨h2,h3⟩,h4,h5⟩=>⟨.tup [.val (.slice A n c),.val (.slice B m d),.agg [.val (.int .i64 e),.val (.int .i64 a)]],h1.symm,
  hk _ _ _ _ _ _ _ (hs.later hg).lB (h2.freshen h3 hs) (h4.freshen h5 hs) (fun x h0 e=>Nat.le_trans hs.size (h3 x h0 e)) (fun x h0 e=>Nat.le_trans hs.size (h5 x h0 e))⟩
attribute [local irreducible] CH W4
theorem Bo(s:ByteArray)(h:A3)(ht:D2 h)(hz:s.size≤140737488355328):CH Tryz.prog 10 #[.string s] h fun v h'=>A5 h h'∧Ez h (F0 s) (bV s) (W5 s) (bH s) v h':=by
 refine Q0 1 [0,2,3,4,5,6,8] [] [.val (.string s)] Tryz.func10 rfl ?_
 have c1:=fun h1 (ht:D2 h1)=>Dr s h1 ht hz
 unfold F0 bV W5 bH
 generalize W4 s=r at c1
 obtain⟨T,P,m0,fe,fa⟩:=r
 dsimp only at c1 ⊢
 ((repeat' (conv=>whnf);first|(refine C2 (id:=2) (.pl [0,1,3,4,2] (.on [5] .e)) (by kernel_rfl) ?_)|(refine VC.mk (by omega) ?_)|(refine E5.mk ?_;intro b hb)|(refine CK.anewQ (Q:=fun h u h'=>∃ A n c B m d,u = .tuple #[.slice A n c,.slice B m d,.int .i64 m0,.agg #[.int .i64 fe,.int .i64 fa] ]∧(D3 C4 h' [] A n T∧∀ x,0<n→A=some x→h.size≤x.block)∧(D3 (E9 .i64) h' [] B m P∧∀ x,0<m→B=some x→h.size≤x.block)) (fun h hs=>(c1 h (ht.at hs)).mono fun u h' ⟨A,n,c,B,m,d,h1,h2,h3,h4⟩=>⟨h2,A,n,c,B,m,d,h1,h3,h4⟩) ?_;rintro h1 u h2 hs1 hg ⟨A,n,c,B,m,d,rfl,⟨k1,k2⟩,k3,k4⟩;refine⟨.tup [.val (.slice A n c),.val (.slice B m d),.val (.int .i64 m0),.agg [.val (.int .i64 fe),.val (.int .i64 fa)] ],rfl,?_⟩)|fail);all_goals try conv=>whnf)
 all_goals
  have hl:G1 h [] h2 _:=(hs1.later hg).lB
  have hk1:=k1.freshen k2 hs1
  have hk3:=k3.freshen k4 hs1
  exact⟨fun h' hs=>⟨hl.bas.fin hs,A,n,c,B,m,d,rfl,⟨hk1.endS hs,fun x h0 e=>Nat.le_trans hs1.size (k2 x h0 e)⟩,hk3.endS hs,fun x h0 e=>Nat.le_trans hs1.size (k4 x h0 e)⟩⟩
end Go.Ex
namespace Go.Ex
open Go.Proofs
theorem tP{P:Program}{ty:Nat→Option gS}{rep:Nat→Option oP}{m:Nat}{ex cu:List Nat}(hty:H6 P ty){f:FuncId}{fn:Func}{id dst typ:Nat}{pos:String}{C:Code}(hf:P.funcs[f]?=some fn)
 (hb:fn.body=some (.seq (.region id #[{ dst:=some dst,op:=.call { callee:=.builtin .recover,args:=#[],argTypes:=#[] },type:=typ,pos:=pos,after:=#[],guard:=none }] false) C)) (hres:fn.results = #[]) {n:Nat} (hnt:fn.ntmps=n) (hd:dst<n)
 {args:List KV} (hlen:Nat.ble args.length n=true) {u u1:FrameMode} {v:KV} {w:World} {S:St} (hs:HS S w.heap)
 (hrec:∀ (c₀:Frame) (cs:List Frame),c₀.mode=u→recoverD (c₀::cs)=some (B0 v,{ c₀ with mode:=u1 }::cs)∨(recoverD (c₀::cs)=none∧B0 v = .nilIface∧u1=u))
 {R:Ending→FrameMode→World→Prop} {κ:St→Prop}
 (hk:J8 P ty ⟨rep,lY⟩ n m ex cu C ⟨fun K S=>κ S,[]⟩ (fun K S=>κ S) (W2 (mC 0 args) (some dst) v) S)
 (hR:∀ S' w',κ S'→HS S' w'.heap→SE w w'→R (.returned (.tuple #[])) u1 w'):CallsD P f (args.map B0).toArray u w R:=by
 refine callsD_of_wpS hf hb fun c₀ cs hu=>?_
 apply wpS_seq
 apply wpS_region
 have hlen:=Nat.le_of_ble_eq_true hlen
 have ha:=fA (n:=n) hlen
 have hsz:(args.map B0).toArray.size=args.length:=by simp
 rw [hnt,hsz]
 generalize ha0:({ tmps:=(args.map B0).toArray++Array.replicate (n-args.length) undef,defers:=[] }:Act)=a0 at ha
 have fin:∀ cs':List Frame,cs' = { c₀ with mode:=u1 }::cs→C.wpS P (bodyPostS P fn c₀ cs R) (a0.put (some dst) (B0 v)) cs' w:=fun cs' hcs=>by
  refine wpS_of_wp ?_
  have h1:=Ba hty C _ _ _ _ hk [] w _ w (ha.put (d:=some dst) (fun x hx=>by cases hx;exact hd) v) (SE.refl w) hs
  refine Code.wp_mono ?_ h1
  intro e a w' hq
  have res:(results fn a.tmps).run P w' = .ok (.tuple #[]) w':=by simp [results,hres]
  have done:(∃ K S',H9 [] n a K∧SE w w'∧HS S' w'.heap∧κ S')→a.defers=[]∧∃ u',cs' = { c₀ with mode:=u' }::cs∧∃ v,(results fn a.tmps).run P w' = .ok v w'∧R (.returned v) u' w':=fun⟨K,S',a1,a2,a3,a4⟩=>⟨a1.defers,u1,hcs,_,res,hR S' w' a4 a3 a2⟩
  cases e with
  |normal=>exact done hq
  |ret=>exact done hq
  |exit i=>obtain⟨K,S,a1,a2,a3,a4⟩:=hq;exact False.elim a4
  |panic ch=>obtain⟨v,h1,h2,h3,h4⟩:=hq;exact False.elim h4
  |goto l=>exact False.elim hq
  |outgrown=>exact False.elim hq
 show wpOpsS P _ _ [0] a0 (c₀::cs) w
 unfold wpOpsS
 simp only [List.getElem?_toArray,List.getElem?_cons_zero]
 rw [if_pos (by simp [Region.wanted])]
 have hx:∀ o:Oper,o.op = .call { callee:=.builtin .recover,args:=#[],argTypes:=#[] }→(execOp a0.eval o).run P w = .ok .recover w:=fun o ho=>by
  unfold execOp
  rw [ho]
  simp [go_sem]
 rw [hx _ rfl]
 rcases hrec c₀ cs hu with h1|⟨h1,h2,h3⟩
 ·simp only [h1]
  unfold wpOpsS
  exact fin _ rfl
 ·simp only [h1]
  unfold wpOpsS
  have:({ c₀ with mode:=u1 }:Frame)=c₀:=by rw [h3,←hu]
  rw [←h2]
  exact fin _ (by rw [this])
end Go.Ex
namespace Go.Ex
open Go.Proofs
attribute [local irreducible] CH X2 word B9
section
variable {I:In}{M:O6}{br:Nat}{cE:List Nat}{hE:A3}{its:List It}{S:St}{t:Bool}{n:Int}{α:Type}{oC:G3 α}{f:Nat}{args caps:List KV}{κ:KV→St→Prop}{E:Value→A3→Prop}
theorem N3.toQ{fo:Nat}{one:Int→G3 Nd}{w:Int}(h:N3 I M fo [] (one n) t n 1):Rq I M br fo [ptr br] none [] (pl one) t w n:=fun hE hs hB _=>by
 refine (h br hE hs hB).mono (fun v h' ⟨x,m,u,h1,h2,h3,h4⟩=>⟨x,m,u,by rw [pl,h1];rfl,h2,h3,h4⟩) fun v h' ⟨x,n',p,h1,h2,h3,h4,h5,h6⟩=>⟨x,w,n',p,by rw [pl,h1];rfl,h2,h3,h4,h5,h6⟩
theorem CK.rowsB(W:Wd I M cE hE S.h0 S.cap its){bx:List (Nat×D8)}{r:G3 (List Nd×Int)}{w:Int}{av:List Value}(hcon:Ky I M br f av none bx r t w n)(ha:args.map A1++caps.map A0=av)(hf:B3 S.ch 900=some (br,H5 I M t n))
 (hbx:∀ h,HS S h→aN bx h [br]) (herr:∀ x,r = .err x→oC = .err x)
 (hk:∀ l w' m A len c ps h',r = .ok (l,w') m→n+1≤m→m≤I.L→(l.length:Int)≤m-n→dF S.ch 900 (H5 I M t m) fun ch=>Wd I M cE hE h' (blks ch) (.sl A len ps l::its)→κ (.val (.slice A len c)) ⟨h',blks ch,ch⟩) :
 CK Tryz.prog (bN I M br cE hE oC) f args caps S κ:=
 ⟨fun h hs=>.inr (.inr (by
  rw [ha]
  have hr:=L9 hs hf
  refine (hcon h hr (W.base.at1 hs hf) (hbx h hs)).mono (fun v h' he=>he.up W hs (oI hf) List.mem_cons_self herr) fun v h' hok=>?_
  obtain⟨l0,w',m,A,len,c,ps,h1,⟨h2,h3,h3'⟩,h4,e5,h6,h7,h8,h9⟩:=hok
  subst e5
  obtain⟨l,r',b',c0,e1,e2,h10⟩:=K7 (hk l0 w' m A len c ps h' h1 h2 h3 h3')
  rw [hf] at e2
  cases e2
  have h11:HS ⟨S.h0,S.cap,l++(900,br,H5 I M t m)::r'⟩ h':=hs.upd e1 h6.size (fun j hj hlt=>h6.frame j hlt fun hm=>hj (List.mem_singleton.1 hm)) (h6.chunk _ List.mem_cons_self).2.2
  have hlt:∀ c∈blks (l++(900,br,H5 I M t m)::r'),c<h.size:=fun c hc=>by
   obtain⟨e,he,rfl⟩:=oH hc
   rcases List.mem_append.1 he with he|he
   ·exact (hs.chunk e (by rw [e1];exact List.mem_append.2 (.inl he))).1
   ·rcases List.mem_cons.1 he with rfl|he
    ·exact (hs.chunk _ (fM hf)).1
    ·exact (hs.chunk e (by rw [e1];exact List.mem_append.2 (.inr (List.mem_cons_of_mem _ he)))).1
  have hlo:=Nat.le_trans W.later.size hs.size
  refine⟨_,_,rfl,h11.anew,h10 ((W.anew h11.lB).add ⟨⟨h7.sl,fun h0 a e=>⟨(h7.out h0 a e).1,fun hm=>?_⟩⟩,fun a h0 e=>Nat.le_trans hlo (h8 a h0 e),L3.recap (fun c hc=>.inr (hlt c hc)) hlo _ h9,h4⟩)⟩
  have:=hlt _ hm
  have:=h8 a h0 e
  omega))⟩
theorem CK.rowsP(W:Wd I M cE hE S.h0 S.cap its){op mark shut:ByteArray}{fo:Nat}{one:Int→G3 Nd}(h1:¬ op=⟨#[]⟩)(h2:¬ mark=⟨#[]⟩)(hn:0≤n∧n≤I.L)(Hone:∀ m,n+1≤m→m≤I.L→N3 I M fo [] (one m) t m 1)
 (ha:args.map A1++caps.map A0=[ptr br,.string op,.string mark,.string shut,.func (.func fo) ⟨[ptr br]⟩ ⟨[]⟩]) (hf:B3 S.ch 900=some (br,H5 I M t n))
 (herr:∀ x,T5 I op mark shut (pl one) (-1) n = .err x→oC = .err x)
 (hk:∀ l w' m A len c ps h',T5 I op mark shut (pl one) (-1) n = .ok (l,w') m→n+1≤m→m≤I.L→(l.length:Int)≤m-n→dF S.ch 900 (H5 I M t m) fun ch=>Wd I M cE hE h' (blks ch) (.sl A len ps l::its)→κ (.val (.slice A len c)) ⟨h',blks ch,ch⟩) :
 CK Tryz.prog (bN I M br cE hE oC) 150 args caps S κ:=
 CK.rowsB W (wD W.ok [] op mark shut h1 h2 fo [ptr br] [] (pl one) hn (fun w m a b=>(Hone m a b).toQ)) ha hf (fun _ _ e he=>by cases he) herr hk
theorem CK.rowsN(W:Wd I M cE hE S.h0 S.cap its)(kn:Nat)(r0:L8){nx:Nx}{bx:List (Nat×D8)}{r:G3 (List Nd×Int)}{w:Int}{av:List Value}(hcon:Ky I M br f av (some nx) bx r t w n)(ha:args.map A1++caps.map A0=av)(hkn:Nat.beq kn 900=false)
 (hc:X1 S.ch ([(900,br,H5 I M t n),(kn,nx.bn,D6 nx.k w nx.f nx.to nx.l)]++r0))
 (hbx:∀ h,HS S h→aN bx h [br,nx.bn]) (herr:∀ x,r = .err x→oC = .err x)
 (hk:∀ l w' m A len c ps h',r = .ok (l,w') m→n+1≤m→m≤I.L→(l.length:Int)≤m-n→Wd I M cE hE h' (br::nx.bn::blks r0) (.sl A len ps l::its)→κ (.val (.slice A len c)) ⟨h',br::nx.bn::blks r0,(900,br,H5 I M t m)::(kn,nx.bn,D6 nx.k w' nx.f nx.to nx.l)::r0⟩) :
 CK Tryz.prog (bN I M br cE hE oC) f args caps S κ:=
 ⟨fun h hs=>.inr (.inr (by
  rw [ha]
  have hkn:=lA hkn
  have hf:B3 S.ch 900=some (br,H5 I M t n):=hc.1
  have hfn:B3 S.ch kn=some (nx.bn,D6 nx.k w nx.f nx.to nx.l):=hc.2.2.1
  have hr:HS ⟨h,[br,nx.bn],[(900,br,H5 I M t n),(901,nx.bn,D6 nx.k w nx.f nx.to nx.l)]⟩ h:=hs.two hf hfn hkn.symm 900 901
  have hsub:∀ x∈[br,nx.bn],x∈blks S.ch:=fun x hx=>by
   simp only [mL,or_false] at hx
   rcases hx with rfl|rfl
   ·exact J0 hf
   ·exact J0 hfn
  refine (hcon h hr (W.base.later (hs.lB.less hsub)) (hbx h hs)).mono (fun v h' he=>he.up W hs hsub List.mem_cons_self herr) fun v h' hok=>?_
  obtain⟨l0,w',m,A,len,c,ps,h1,⟨h2,h3,h3'⟩,h4,e5,h6,h7,h8,h9⟩:=hok
  subst e5
  have h6':HS ⟨h,blks [(900,br,H5 I M t n),(kn,nx.bn,D6 nx.k w nx.f nx.to nx.l)],[(900,br,H5 I M t m),(kn,nx.bn,D6 nx.k w' nx.f nx.to nx.l)]⟩ h':=h6.ren [900,901] (B4 rfl rfl (B4 rfl rfl E8))
  have h11:=hs.join hc h6'
  have hlt:∀ c∈br::nx.bn::blks r0,c<h.size:=fun c hc'=>by
   rcases List.mem_cons.1 hc' with rfl|hc'
   ·exact (hs.chunk _ (fM hf)).1
   ·rcases List.mem_cons.1 hc' with rfl|hc'
    ·exact (hs.chunk _ (fM hfn)).1
    ·obtain⟨e,he,rfl⟩:=oH hc'
     exact (hs.chunk e (hc.mem e (List.mem_append.2 (.inr he)))).1
  have hlo:=Nat.le_trans W.later.size hs.size
  refine⟨_,_,rfl,h11.anew,hk l0 w' m A len c ps h' h1 h2 h3 h3' ((W.anew h11.lB).add ⟨⟨h7.sl,fun h0 a e=>⟨(h7.out h0 a e).1,fun hm=>?_⟩⟩,fun a h0 e=>Nat.le_trans hlo (h8 a h0 e),L3.recap (fun c hc=>.inr (hlt c hc)) hlo _ h9,h4⟩)⟩
  have:=hlt _ hm
  have:=h8 a h0 e
  omega))⟩
def Ov(I:In)(M:O6)(br:Nat)(f:Nat)(av:List Value)(bx:List (Nat×D8))(o:G3 Nd)(t:Bool)(n str:Int):Prop:=
 ∀ hE,HS ⟨hE,[br],G5 I M br t n⟩ hE→J4 I M hE [br]→aN bx hE [br]→X2 Tryz.prog (bN I M br [br] hE o) f av.toArray hE (CR I M br hE t n str o)
theorem CK.conB(W:Wd I M cE hE S.h0 S.cap its){av:List Value}{bx:List (Nat×D8)}{o:G3 Nd}{str:Int}(hcon:Ov I M br f av bx o t n str)(ha:args.map A1++caps.map A0=av)(hf:B3 S.ch 900=some (br,H5 I M t n))(hbx:∀ h,HS S h→aN bx h [br])
 (herr:∀ x,o = .err x→oC = .err x)
 (hk:∀ x m b h',o = .ok x m→n+str≤m→m≤I.L→dF S.ch 900 (H5 I M t m) fun ch=>Wd I M cE hE h' (blks ch) (.one (some ⟨b,0,none⟩) x::its)→κ (.val (.pointer (some ⟨b,0,none⟩))) ⟨h',blks ch,ch⟩) :
 CK Tryz.prog (bN I M br cE hE oC) f args caps S κ:=
 ⟨fun h hs=>.inr (.inr (by
  rw [ha]
  have hr:=L9 hs hf
  refine (hcon h hr (W.base.at1 hs hf) (hbx h hs)).mono (fun v h' he=>he.up W hs (oI hf) List.mem_cons_self herr) fun v h' hok=>?_
  obtain⟨x,m,p,h1,⟨h2,h3⟩,h4,rfl,h6,h7⟩:=hok
  obtain⟨b,rfl⟩:=h7.ptr
  obtain⟨l,r,b',c0,e1,e2,h8⟩:=K7 (hk x m b h' h1 h2 h3)
  rw [hf] at e2
  cases e2
  have h9:HS ⟨S.h0,S.cap,l++(900,br,H5 I M t m)::r⟩ h':=hs.upd e1 h6.size (fun j hj hlt=>h6.frame j hlt fun hm=>hj (List.mem_singleton.1 hm)) (h6.chunk _ List.mem_cons_self).2.2
  refine⟨_,_,rfl,h9.anew,h8 ((W.anew h9.lB).add ⟨?_,h4⟩)⟩
  refine Q2.recap (fun c hc=>.inr ?_) (Nat.le_trans W.later.size hs.size) x h7
  obtain⟨e,he,rfl⟩:=oH hc
  rcases List.mem_append.1 he with he|he
  ·exact (hs.chunk e (by rw [e1];exact List.mem_append.2 (.inl he))).1
  ·rcases List.mem_cons.1 he with rfl|he
   ·exact (hs.chunk _ (fM hf)).1
   ·exact (hs.chunk e (by rw [e1];exact List.mem_append.2 (.inr (List.mem_cons_of_mem _ he)))).1))⟩
theorem aN.one{bx:List (Nat×D8)}{h:A3}(hs:HS S h){kb b:Nat}{c c' c0:D8}(hb:B3 S.ch kb=some (b,c))(hf:B3 S.ch 900=some (br,c0))(hk:Nat.beq kb 900=false)(hc:SC c c')(hr:aN bx h [br]):aN ((b,c')::bx) h [br]:=fun e he=>by
 rcases List.mem_cons.1 he with rfl|he
 ·obtain⟨a1,_,a3⟩:=hs.chunk _ (fM hb)
  exact⟨a1,fun hm=>hs.ne hb hf (lA hk) (List.mem_singleton.1 hm),hc _ _ a3⟩
 ·exact hr e he
theorem aN.nil{h:A3}:aN [] h [br]:=fun e he=>by cases he
theorem A9.box{κ:KV→Prop}{bx:List (Nat×D8)}{b T:Nat}{v:Value}(W:Wd I M cE hE S.h0 S.cap its)(hi:It.bxs bx∈its)(hb:(b,D8.box T [.val v])∈bx)(hk:G8 false (O7 [v]) κ):A9 S ⟨b,0,none⟩ 1 false κ:=by
 obtain⟨a1,a2,a3⟩:=(W.its _ hi) _ hb
 refine⟨.inl ⟨a1,a2,rfl,[v],rfl,fun i u hi=>?_,_,N9 _,hk⟩⟩
 cases i with
 |zero=>
  cases hi
  simp only [C7] at a3
  simp only [K5,a3]
  rfl
 |succ i=>cases hi
theorem A9.boxO(kv:KV){κ:KV→Prop}{bx:List (Nat×D8)}{b T:Nat}{v:Value}(W:Wd I M cE hE S.h0 S.cap its)(hi:It.bxs bx∈its)(hb:(b,D8.box T [.val v])∈bx)(hd:A0 kv=v)(hk:G8 false [kv] κ):A9 S ⟨b,0,none⟩ 1 false κ:=by
 obtain⟨a1,a2,a3⟩:=(W.its _ hi) _ hb
 refine⟨.inl ⟨a1,a2,rfl,[v],rfl,fun i u hi=>?_,[kv],by rw [List.map_cons,List.map_nil,hd],hk⟩⟩
 cases i with
 |zero=>
  cases hi
  simp only [C7] at a3
  simp only [K5,a3]
  rfl
 |succ i=>cases hi
end
end Go.Ex
namespace Go.Ex
open Go.Proofs
attribute [local irreducible] CH X2 word B9
theorem wQ(w:ByteArray)(h:A3):CH Tryz.prog 142 #[.string w] h fun v h'=>v = .int .i64 (X6 w)∧A5 h h':=by
 refine Q0 1 [0,2,3,4,6,8,15,20] [] [.val (.string w)] Tryz.func142 rfl ?_
 simp only [X6]
 ((repeat' (conv=>whnf);first|(refine Br.mk ?_ ?_<;>intro hb<;>(try (contradiction)))|fail);all_goals try conv=>whnf)
 all_goals exact⟨fun h' hs=>⟨P9 (by simp [*]),hs.grows⟩⟩
theorem pO(w:ByteArray)(h:A3):CH Tryz.prog 229 #[.string w] h fun v h'=>v=A0 (.prop (M4 w))∧A5 h h':=by
 refine Q0 1 [0,2,3,4] [] [.val (.string w)] Tryz.func229 rfl ?_
 ((repeat' (conv=>whnf);first|(refine Br.mk ?_ ?_<;>intro hb<;>(try (contradiction)))|fail);all_goals try conv=>whnf)
 all_goals first
  |exact⟨fun h' hs=>⟨B8 (by simp [M4, *]),hs.grows⟩⟩
  |exact⟨fun h' hs=>⟨C0 (by simp [M4, *]),hs.grows⟩⟩
theorem Hv{I:In}{n:Int}(h:M4 (word I n)):0≤n∧n<I.L:=I7 fun e=>by
 rw [e] at h
 revert h
 decide
section
variable {I:In}{M:O6}{br:Nat}{t:Bool}{n:Int}{h:A3}{S:St}
theorem Rn(ok:C6 I)(hs:HS ⟨h,[br],G5 I M br t n⟩ h)(hB:J4 I M h [br]):CH Tryz.prog 172 #[ptr br] h fun v h'=>v=A0 (.prop (bS I n))∧A5 h h':=by
 refine hX 1 [0,2] [] [.own 900 br 0] Tryz.func172 rfl hs ?_
 have hs0:=hs
 have W:=Wd.start ok hB
 ((repeat' (conv=>whnf);first|(refine Br.mk ?_ ?_<;>intro hb<;>(try replace hb:=nN hb)<;>(try exact absurd hb (by decide))<;>(try (have hlt:=T9 hb (by decide))))|(refine A7 ?_ fun h1 hs=>E0 W.ok W.base hs rfl)|(refine CK.says (.prop _) (fun h1 hs=>mM W.ok W.base hs rfl) ?_)|fail);all_goals try conv=>whnf)
 all_goals first
  |exact⟨fun h' hs=>⟨B8 (by simp [bS, *]),hs0.gB hs rfl⟩⟩
  |exact⟨fun h' hs=>⟨C0 (by simp [bS, *]),hs0.gB hs rfl⟩⟩
  |exact⟨fun h' hs=>⟨C3 (by simp [bS, *]),hs0.gB hs rfl⟩⟩
theorem Bk(ok:C6 I)(hb:J4 I M S.h0 S.cap)(hs:HS S h)(hf:B3 S.ch 900=some (br,H5 I M t n)):CH Tryz.prog 172 #[ptr br] h fun v h'=>v=A0 (.prop (bS I n))∧A5 h h':=Rn ok (L9 hs hf) (hb.at1 hs hf)
theorem uE(ok:C6 I)(hs:HS ⟨h,[br],G5 I M br t n⟩ h)(hB:J4 I M h [br])(i:Int)(hi:i≤2000000):CH Tryz.prog 189 #[ptr br,.int .i64 i] h fun v h'=>(V6 I i→v = .tuple #[.int .i64 (aG I i),.bool true])∧(¬ V6 I i→v = .tuple #[.int .i64 0,.bool false])∧A5 h h':=by
 refine hX 2 [0,1,4,5,21] [] [.own 900 br 0,.val (.int .i64 i)] Tryz.func189 rfl hs ?_
 have hs0:=hs
 have W:=Wd.start ok hB
 have hl:=ok.len
 have hpn:(M.pn:Int)=I.L:=by have:=hB.pair.sl.len_eq;have:=ok.plen;unfold In.L;omega
 have hsl:=hB.pair.sl
 by_cases hw:word I i=(⟨#[91]⟩:ByteArray)
 ·have hlt:=I7 (I:=I) (n:=i) (by rw [hw];decide)
  have hpr : -1≤B1 (E9 .i64).dflt I.pair i∧B1 (E9 .i64).dflt I.pair i<I.L:=ok.prng i hlt.1 hlt.2
  ((repeat' (conv=>whnf);first|(refine Ar.fit (by omega) ?_)|(refine VC.mk (by (first|omega|exact Sl.plain (by assumption) (by omega))) ?_)|(refine Br.mk ?_ ?_<;>intro hb<;>(try replace hb:=nN hb)<;>(try exact absurd hb (by decide))<;>(try (exact absurd rfl hb)))|(refine A7 ?_ fun h1 hs=>qW W.ok W.base hs rfl (by assumption))|(refine C1.held hB.pair rfl (by omega) (by omega) rfl ?_)|fail);all_goals try conv=>whnf)
  ·exact⟨fun h' hs=>⟨fun h=>absurd hb h.2,fun _=>rfl,hs0.gB hs rfl⟩⟩
  ·exact⟨fun h' hs=>⟨fun _=>rfl,fun h=>absurd ⟨hw,hb⟩ h,hs0.gB hs rfl⟩⟩
 ·((repeat' (conv=>whnf);first|(refine Br.mk ?_ ?_<;>intro hb<;>(try replace hb:=nN hb)<;>(try exact absurd hb (by decide))<;>(try (have hlt:=T9 hb (by decide)))<;>(try (contradiction)))|(refine A7 ?_ fun h1 hs=>T1 W.ok W.base hs rfl _)|fail);all_goals try conv=>whnf)
  all_goals exact⟨fun h' hs=>⟨fun h=>absurd h.1 hw,fun _=>rfl,hs0.gB hs rfl⟩⟩
theorem Gf(ok:C6 I)(hb:J4 I M S.h0 S.cap)(hs:HS S h)(hf:B3 S.ch 900=some (br,H5 I M t n)){i:Int}(hi:i≤2000000)(ha:V6 I i):CH Tryz.prog 189 #[ptr br,.int .i64 i] h fun v h'=>v = .tuple #[.int .i64 (aG I i),.bool true]∧A5 h h':=
 (uE ok (L9 hs hf) (hb.at1 hs hf) i hi).mono fun v h' ⟨a,_,c⟩=>⟨a ha,c⟩
theorem Hf(ok:C6 I)(hb:J4 I M S.h0 S.cap)(hs:HS S h)(hf:B3 S.ch 900=some (br,H5 I M t n)){i:Int}(hi:i≤2000000)(ha:¬ V6 I i):CH Tryz.prog 189 #[ptr br,.int .i64 i] h fun v h'=>v = .tuple #[.int .i64 0,.bool false]∧A5 h h':=
 (uE ok (L9 hs hf) (hb.at1 hs hf) i hi).mono fun v h' ⟨_,b,c⟩=>⟨b ha,c⟩
theorem Gv(ok:C6 I)(hs:HS ⟨h,[br],G5 I M br t n⟩ h)(hB:J4 I M h [br])(hn:0≤n∧n≤I.L):CH Tryz.prog 208 #[ptr br] h fun v h'=>v=A0 (.prop (fH I n))∧A5 h h':=by
 refine hX 1 [0,2,3,4,11,18,19] [] [.own 900 br 0] Tryz.func208 rfl hs ?_
 have hs0:=hs
 have W:=Wd.start ok hB
 have hl:=ok.len
 by_cases ha:V6 I (n+1)
 ·((repeat' (conv=>whnf);first|(refine Ar.fit (by omega) ?_)|(refine VC.mk (by omega) ?_)|(refine Br.mk ?_ ?_<;>intro hb<;>(try replace hb:=nN hb)<;>(try exact absurd hb (by decide))<;>(try (first|have hlt:=T9 hb (by decide)|have hlt:=pW hb (by decide)))<;>(try (first|exact absurd rfl hb|contradiction)))|(refine A7 ?_ fun h1 hs=>T1 W.ok W.base hs rfl _)|(refine CK.says (.prop _) (fun h1 hs=>I8 W.ok W.base hs rfl _) ?_)|(refine A7 ?_ fun h1 hs=>Gf W.ok W.base hs rfl (by omega) ha)|fail);all_goals try conv=>whnf)
  all_goals first
   |exact⟨fun h' hs=>⟨B8 (by simp [fH, *]),hs0.gB hs rfl⟩⟩
   |exact⟨fun h' hs=>⟨C0 (by simp [fH, *]),hs0.gB hs rfl⟩⟩
   |exact⟨fun h' hs=>⟨C3 (by simp [fH, *]),hs0.gB hs rfl⟩⟩
 ·((repeat' (conv=>whnf);first|(refine Ar.fit (by omega) ?_)|(refine VC.mk (by omega) ?_)|(refine Br.mk ?_ ?_<;>intro hb<;>(try replace hb:=nN hb)<;>(try exact absurd hb (by decide))<;>(try (first|have hlt:=T9 hb (by decide)|have hlt:=pW hb (by decide)))<;>(try (first|exact Bool.noConfusion hb|contradiction)))|(refine A7 ?_ fun h1 hs=>T1 W.ok W.base hs rfl _)|(refine CK.says (.prop _) (fun h1 hs=>I8 W.ok W.base hs rfl _) ?_)|(refine A7 ?_ fun h1 hs=>Hf W.ok W.base hs rfl (by omega) ha)|fail);all_goals try conv=>whnf)
  all_goals first
   |exact⟨fun h' hs=>⟨B8 (by simp [fH, *]),hs0.gB hs rfl⟩⟩
   |exact⟨fun h' hs=>⟨C0 (by simp [fH, *]),hs0.gB hs rfl⟩⟩
theorem AW(ok:C6 I)(hb:J4 I M S.h0 S.cap)(hs:HS S h)(hf:B3 S.ch 900=some (br,H5 I M t n))(hn:0≤n∧n≤I.L):CH Tryz.prog 208 #[ptr br] h fun v h'=>v=A0 (.prop (fH I n))∧A5 h h':=Gv ok (L9 hs hf) (hb.at1 hs hf) hn
theorem Od(ok:C6 I)(hs:HS ⟨h,[br],G5 I M br t n⟩ h)(hB:J4 I M h [br])(hn:0≤n∧n≤I.L):CH Tryz.prog 176 #[ptr br] h fun v h'=>v=A0 (.prop (U5 I n))∧A5 h h':=by
 refine hX 1 [0,2,15,22,23] [] [.own 900 br 0] Tryz.func176 rfl hs ?_
 have hs0:=hs
 have W:=Wd.start ok hB
 have hl:=ok.len
 ((repeat' (conv=>whnf);first|(refine Ar.fit (by omega) ?_)|(refine VC.mk (by omega) ?_)|(refine Br.mk ?_ ?_<;>intro hb<;>(try replace hb:=nN hb)<;>(try exact absurd hb (by decide))<;>(try (first|have hlt:=T9 hb (by decide)|have hlt:=pW hb (by decide)))<;>(try (contradiction)))|(apply CK.pure;case hh=>intro h1 hs;first|exact E0 W.ok W.base hs rfl|exact T1 W.ok W.base hs rfl _)|(refine CK.says (.prop _) (fun h1 hs=>I8 W.ok W.base hs rfl _) ?_)|fail);all_goals try conv=>whnf)
 all_goals first
  |exact⟨fun h' hs=>⟨B8 (by simp [U5, *]),hs0.gB hs rfl⟩⟩
  |exact⟨fun h' hs=>⟨C0 (by simp [U5, *]),hs0.gB hs rfl⟩⟩
  |exact⟨fun h' hs=>⟨C3 (by simp [U5, *]),hs0.gB hs rfl⟩⟩
theorem Ep(ok:C6 I)(hb:J4 I M S.h0 S.cap)(hs:HS S h)(hf:B3 S.ch 900=some (br,H5 I M t n))(hn:0≤n∧n≤I.L):CH Tryz.prog 176 #[ptr br] h fun v h'=>v=A0 (.prop (U5 I n))∧A5 h h':=Od ok (L9 hs hf) (hb.at1 hs hf) hn
theorem Fw(ok:C6 I)(hn:0≤n∧n≤I.L):N3 I M 166 [] (rB I n) t n 0:=fun br h hs hB=>by
 refine O9 1 [0,2,8] [] [.own 900 br 0] Tryz.func166 rfl hs ?_
 have W:=Wd.start ok hB
 have hl:=ok.len
 ((repeat' (conv=>whnf);first|(refine VC.mk (by omega) ?_)|(refine Br.mk ?_ ?_<;>intro hb<;>(try replace hb:=nN hb)<;>(try exact absurd hb (by decide))<;>(try (have hlt:=pW hb (by decide))))|(refine CK.says (.prop _) (fun h1 hs=>lV W.ok W.base hs rfl _) ?_)|(refine CK.con W (Vj ok (by omega)) rfl rfl (fun x hx=>?_) (fun x m bq h' hx hm1 hm2=>?_);rotate_left;(conv=>whnf);intro W)|(refine CK.sure W (G0 0 (by decide) (by omega)) rfl rfl ?_;intro bq h';(conv=>whnf);intro W)|fail);all_goals try conv=>whnf)
 all_goals first|(refine W.fn rfl (by repeat constructor) ?_ (by omega);(simp [rB,bnd,want, *];done))|(simp [rB,bnd,want, *];done)|contradiction
end
end Go.Ex
namespace Go.Ex
open Go.Proofs
attribute [local irreducible] CH X2 word B9
section
variable {I:In}{M:O6}{g:Gt}{N:Int}{t:Bool}{n:Int}
theorem Ku(ok:C6 I)(H:O8 I M g N)(hn:0≤n∧n≤I.L)(hN:32*(I.L+1-n)+10≤N):N3 I M 54 [] (xG g t n) t n 1:=fun br h hs hB=>by
 refine O9 1 [0,2] [] [.own 900 br 0] Tryz.func54 rfl hs ?_
 have W:=Wd.start ok hB
 have hl:=ok.len
 ((repeat' (conv=>whnf);first|(refine CK.con W (H (.binary 1) _ _ (by simp only [C5,A6];omega) (by omega) (by (simp only [bL];omega))) rfl rfl (fun x hx=>?_) (fun x m bq h' hx hm1 hm2=>?_);rotate_left;(try dsimp only [D1] at hm1);(conv=>whnf);intro W)|fail);all_goals try conv=>whnf)
 all_goals first|(refine W.fn rfl (by repeat constructor) ?_ (by omega);(simp [xG,bnd,want, *];done))|(simp [xG,bnd,want, *];done)|contradiction
theorem Wv(ok:C6 I)(H:O8 I M g N)(hn:0≤n∧n≤I.L)(hN:32*(I.L+1-n)+4≤N):N3 I M 53 [] (Cm g t n) t n 1:=fun br h hs hB=>by
 refine O9 1 [0,2] [] [.own 900 br 0] Tryz.func53 rfl hs ?_
 have W:=Wd.start ok hB
 have hl:=ok.len
 ((repeat' (conv=>whnf);first|(refine VC.mk (by omega) ?_)|(refine F2 W (H .anyType _ _ (by simp only [C5,A6];omega) (by omega) trivial) rfl rfl (fun x m bq h' hx hm1 hm2=>?_) fun x hx=>?_;(try dsimp only [D1] at hm1);(conv=>whnf);intro W)|(refine CK.inline (rep:=rep) tO Tryz.func98 rfl (by decide) (rs:=[.tmp 4]) rfl 4 [4,5,6] [] rfl rfl rfl ?_)|fail);all_goals try conv=>whnf)
 all_goals first|(refine W.fn rfl (by repeat constructor) ?_ (by omega);(simp [Cm,bnd,want, *];done))|(simp [Cm,bnd,want, *];done)|contradiction
theorem Pm(ok:C6 I)(H:O8 I M g N)(hn:0≤n∧n≤I.L)(hN:32*(I.L+1-n)+22≤N):N3 I M 55 [] (nJ g t n) t n 0:=fun br h hs hB=>by
 refine O9 1 [0,2] [] [.own 900 br 0] Tryz.func55 rfl hs ?_
 have W:=Wd.start ok hB
 have hl:=ok.len
 ((repeat' (conv=>whnf);first|(refine VC.mk (by omega) ?_)|(refine F2 W (H .anyStmts _ _ (by simp only [C5,A6];omega) (by omega) trivial) rfl rfl (fun x m bq h' hx hm1 hm2=>?_) fun x hx=>?_;(try dsimp only [D1] at hm1);(conv=>whnf);intro W)|(refine CK.inline (rep:=rep) tO Tryz.func98 rfl (by decide) (rs:=[.tmp 4]) rfl 4 [4,5,6] [] rfl rfl rfl ?_)|fail);all_goals try conv=>whnf)
 all_goals first|(refine W.fn rfl (by repeat constructor) ?_ (by omega);(simp [nJ,bnd,want, *];done))|(simp [nJ,bnd,want, *];done)|contradiction
theorem Iq(ok:C6 I)(H:O8 I M g N)(hn:0≤n∧n≤I.L)(hN:32*(I.L+1-n)+1≤N):N3 I M 153 [] (gP I g t n) t n 1:=fun br h hs hB=>by
 refine O9 1 [0,2,3,4] [] [.own 900 br 0] Tryz.func153 rfl hs ?_
 have W:=Wd.start ok hB
 have hl:=ok.len
 ((repeat' (conv=>whnf);first|(refine VC.mk (by (first|omega|(and_intros<;>first|rfl|(simp only [maxLen];omega)))) ?_)|(refine E5.mk ?_;intro b hb)|(refine CK.box 901 _ (fun h1 hs=>D9 hs rfl 58) ?_;intro bo hbo)|(refine CK.want W (by decide) (by omega) rfl rfl (fun hx=>?_) (fun hx hm=>?_);rotate_left)|(refine F2 W (H .stmts _ _ (by simp only [C5,A6];omega) (by omega) trivial) rfl rfl (fun x m bq h' hx hm1 hm2=>?_) fun x hx=>?_;(try dsimp only [D1] at hm1);(conv=>whnf);intro W)|(refine CK.cO 901 W rfl rfl rfl (fun h hs hm=>hs.ne (k:=901) (k':=900) rfl rfl (by decide) (List.mem_singleton.1 hm)) rfl rfl rfl rfl rfl rfl (rC W (by repeat constructor) (rN)) (by simp [O5]) (by simp) ?_;intro h';(conv=>whnf);intro W)|fail);all_goals try conv=>whnf)
 all_goals first|(refine W.fn rfl (by repeat constructor) ?_ (by omega);(simp [gP,bnd,want, *];done))|(simp [gP,bnd,want, *];done)|contradiction
theorem zX(ok:C6 I)(H:O8 I M g N)(hs0:n<I.L)(hn:0≤n∧n≤I.L)(hN:32*(I.L+1-n)+3≤N):N3 I M 198 [] (cQ g t n) t n 1:=fun br h hs hB=>by
 refine O9 1 [0,2,3] [] [.own 900 br 0] Tryz.func198 rfl hs ?_
 have W:=Wd.start ok hB
 have hl:=ok.len
 ((repeat' (conv=>whnf);first|(refine VC.mk (by (first|omega|(and_intros<;>first|rfl|(simp only [maxLen];omega)))) ?_)|(refine E5.mk ?_;intro b hb)|(refine CK.box 901 _ (fun h1 hs=>D9 hs rfl 68) ?_;intro bo hbo)|(refine CK.con W (H (.group) _ _ (by simp only [C5,A6];omega) (by omega) (by (simp only [bL];omega))) rfl rfl (fun x hx=>?_) (fun x m bq h' hx hm1 hm2=>?_);rotate_left;(try dsimp only [D1] at hm1);(conv=>whnf);intro W)|(refine CK.cO 901 W rfl rfl rfl (fun h hs hm=>hs.ne (k:=901) (k':=900) rfl rfl (by decide) (List.mem_singleton.1 hm)) rfl rfl rfl rfl rfl rfl (rC W (by repeat constructor) (rN)) (by simp [O5]) (by simp) ?_;intro h';(conv=>whnf);intro W)|fail);all_goals try conv=>whnf)
 all_goals first|(refine W.fn rfl (by repeat constructor) ?_ (by omega);(simp [cQ,bnd,want, *];done))|(simp [cQ,bnd,want, *];done)|contradiction
theorem Nb(ok:C6 I)(H:O8 I M g N)(hs0:n<I.L)(hn:0≤n∧n≤I.L)(hN:32*(I.L+1-n)+1≤N):N3 I M 199 [] (Z3 I g t n) t n 1:=fun br h hs hB=>by
 refine O9 1 [0,2,3,8] [] [.own 900 br 0] Tryz.func199 rfl hs ?_
 have W:=Wd.start ok hB
 have hl:=ok.len
 ((repeat' (conv=>whnf);first|(refine Ar.fit (by omega) ?_)|(refine VC.mk (by (first|omega|(and_intros<;>first|rfl|(simp only [maxLen];omega)))) ?_)|(refine Br.mk ?_ ?_<;>intro hb<;>(try replace hb:=nN hb)<;>(try exact absurd hb (by decide))<;>(try (have hlt:=T9 hb (by decide))))|(refine E5.mk ?_;intro b hb)|(refine A7 ?_ fun h1 hs=>E0 W.ok W.base hs rfl)|(refine CK.box 901 _ (fun h1 hs=>D9 hs rfl 54) ?_;intro bo hbo)|(refine F2 W (H .expr _ _ (by simp only [C5,A6];omega) (by omega) trivial) rfl rfl (fun x m bq h' hx hm1 hm2=>?_) fun x hx=>?_;(try dsimp only [D1] at hm1);(conv=>whnf);intro W)|(refine CK.cO 901 W rfl rfl rfl (fun h hs hm=>hs.ne (k:=901) (k':=900) rfl rfl (by decide) (List.mem_singleton.1 hm)) rfl rfl rfl rfl rfl rfl (rC W (by repeat constructor) (rN)) (by simp [O5]) (by simp) ?_;intro h';(conv=>whnf);intro W)|fail);all_goals try conv=>whnf)
 all_goals first|(refine W.fn rfl (by repeat constructor) ?_ (by omega);(simp [Z3,bnd,want, *];done))|(simp [Z3,bnd,want, *];done)|contradiction
theorem Gh(ok:C6 I)(H:O8 I M g N)(hn:0≤n∧n≤I.L)(hN:32*(I.L+1-n)+1≤N):N3 I M 151 [] (cG I g t n) t n 1:=fun br h hs hB=>by
 refine O9 1 [0,2,3,4] [] [.own 900 br 0] Tryz.func151 rfl hs ?_
 have W:=Wd.start ok hB
 have hl:=ok.len
 ((repeat' (conv=>whnf);first|(refine CK.box 901 _ (fun h1 hs=>D9 hs rfl 14) ?_;intro bo hbo)|(refine CK.want W (by decide) (by omega) rfl rfl (fun hx=>?_) (fun hx hm=>?_);rotate_left)|(refine CK.rowsP W (by decide) (by decide) (by omega) (fun m hm1 hm2=>H .param _ m (by simp only [C5,A6];omega) ⟨by omega,hm2⟩ trivial) rfl rfl (fun x hx=>?_) (fun l w' m A len c ps h' hx hm1 hm2 hm3=>?_);rotate_left;(conv=>whnf);intro W)|(refine CK.cH 901 W rfl rfl rfl (fun h hs hm=>hs.ne (k:=901) (k':=900) rfl rfl (by decide) (List.mem_singleton.1 hm)) rfl rfl (by repeat constructor) (by decide) (by omega) ?_;intro h';(conv=>whnf);intro W)|fail);all_goals try conv=>whnf)
 all_goals first|(refine W.fn rfl (by repeat constructor) ?_ (by omega);(simp [cG,bnd,want, *];done))|(simp [cG,bnd,want, *];done)|contradiction
end
end Go.Ex
