/-
  Top: TopDeep: whatever the input, the law answers true (part 9)
-/
import Derived.Test.YtpjdgifhhnjclaaGreatDoorM08
set_option linter.unusedVariables false
set_option linter.unusedSimpArgs false
set_option maxHeartbeats 4000000
set_option maxRecDepth 10000
namespace Go.Ex
variable {E:Value→Heap→Prop}
section
variable {P:Program}{S:St}
theorem CK.fresh{f:Nat}{args caps:List KV}{κ:KV→St→Prop}{τ:Type}{R:Rep τ}{T:Nat}{L:List τ}(k:Nat)(g:Value→Value)(mk:KV→KV)
 (h0:den (mk (.val (.slice none 0 0)))=g (.slice none 0 0)) (h1:∀ b n c,den (mk (.osl k b n c))=g (den (.osl k b n c)))
 (hh:∀ h,HS S h→CH P f (args.map den1++caps.map denC).toArray h fun u h'=>∃ x,u=g x∧OwnSl R T h h' x L∧Grows h h')
 (hn:L=[]→κ (mk (.val (.slice none 0 0))) S) (ha:∀ b c,S.h0.size≤b→L.length≤c→κ (mk (.osl k b (L.length:Int) c)) ⟨S.h0,S.cap,(k,b,.arr T R L c)::S.ch⟩):CK P E f args caps S κ:=
 ⟨fun h hs=>by
  left
  refine⟨(hh h hs).1,fun w hw=>((hh h hs).2 w hw).mono fun e w' ⟨he,u,q1,x,q2,q3,q4⟩=>⟨he,u,q1,?_⟩⟩
  subst q2
  cases q3 with
  |nil=>exact⟨_,S,h0,hs.later q4,hn rfl⟩
  |arr b cap _ hb hlt hat=>
   refine⟨_,_,?_,hs.new (List.Sublist.refl _) hb hlt q4.same hat,ha b cap (Nat.le_trans hs.size hb) ?_⟩
   ·rw [h1]
    simp [den,den1,denC]
   ·obtain⟨_,_,_,hle,_⟩:=hat
    exact hle⟩
def blks:Chs→List Nat
 |[]=>[]
 |(_,b,_)::r=>b::blks r
theorem blks_mem:∀ {ch:Chs} {e:Nat×Nat×Chunk},e∈ch→e.2.1∈blks ch
 |[],e,h=>by cases h
 |(k,b,c)::r,e,h=>by
  rcases List.mem_cons.1 h with rfl|h
  ·exact List.mem_cons_self
  ·exact List.mem_cons_of_mem _ (blks_mem h)
theorem HS.shift{h h':Heap}(hs:HS S h)(hg:Grows h h'):HS ⟨h',blks S.ch,S.ch⟩ h':=by
 refine⟨Nat.le_refl _,fun _ _ _=>rfl,fun e he=>?_,hs.apart⟩
 obtain⟨h1,h2,h3⟩:=hs.chunk e he
 exact⟨Nat.lt_of_lt_of_le h1 hg.size,.inr (blks_mem he),h3.congr (hg.same _ h1)⟩
theorem CK.shift{f:Nat}{args caps:List KV}{κ:KV→St→Prop}{Q:Heap→Value→Heap→Prop}(hh:∀ h,HS S h→CH P f (args.map den1++caps.map denC).toArray h fun u h'=>Q h u h'∧Grows h h')
 (hk:∀ h u h',HS S h→Q h u h'→Grows h h'→fk (kvOf u) fun kv=>κ kv ⟨h',blks S.ch,S.ch⟩):CK P E f args caps S κ:=
 ⟨fun h hs=>by
  left
  refine⟨(hh h hs).1,fun w hw=>((hh h hs).2 w hw).mono fun e w' ⟨he,u,h1,h2,h3⟩=>⟨he,u,h1,_,_,den_kvOf u,hs.shift h3,fk_iff (hk h u _ hs h2 h3)⟩⟩⟩
theorem HS.grows_cap{h h0 hf:Heap}{cap:List Nat}{ch:Chs}(hs:HS ⟨h0,cap,ch⟩ hf)(hg:Grows h h0)(hc:∀ c∈cap,h.size≤c):Grows h hf:=
 ⟨Nat.le_trans hg.size hs.size,fun b hb=>(hs.frame b (Nat.lt_of_lt_of_le hb hg.size) (fun hm=>by have:=hc b hm;omega)).trans (hg.same b hb)⟩
end
theorem HS.blks_of{S:St}{h:Heap}(hs:HS S h){c:Nat}(hc:c∈blks S.ch):c<h.size∧(S.h0.size≤c∨c∈S.cap):=by
 have key:∀ ch:Chs,c∈blks ch→∃ e∈ch,e.2.1=c:=by
  intro ch
  induction ch with
  |nil=>intro h;cases h
  |cons e r ih=>
   intro h
   obtain⟨k,b,x⟩:=e
   rcases List.mem_cons.1 h with rfl|h
   ·exact⟨_,List.mem_cons_self,rfl⟩
   ·obtain⟨e,he,h2⟩:=ih h;exact⟨e,List.mem_cons_of_mem _ he,h2⟩
 obtain⟨e,he,rfl⟩:=key _ hc
 obtain⟨h1,h2,_⟩:=hs.chunk e he
 exact⟨h1,h2⟩
structure Held{τ:Type}(R:Rep τ)(h0:Heap)(cap:List Nat)(A:Option Addr)(n:Nat)(xs:List τ):Prop where
 sl:Sl R h0 A n xs
 out:0<n→∀ a,A=some a→a.block<h0.size∧a.block∉cap
theorem Held.start{τ:Type}{R:Rep τ}{h:Heap}{A:Option Addr}{n:Nat}{xs:List τ}(hs:Sl R h A n xs):Held R h [] A n xs:=
 ⟨hs,fun h0 a ha=>by obtain⟨b,o,e,hb,_⟩:=hs.at_ h0;rw [ha] at e;cases e;exact⟨hb,List.not_mem_nil⟩⟩
theorem Held.at_{τ:Type}{R:Rep τ}{S:St}{A:Option Addr}{n:Nat}{xs:List τ}(hk:Held R S.h0 S.cap A n xs){h:Heap}(hs:HS S h):Sl R h A n xs:=by
 refine⟨hk.sl.len_eq,hk.sl.small,fun h0=>?_⟩
 obtain⟨b,o,e,hb,hc⟩:=hk.sl.at_ h0
 have ho:=(hk.out h0 _ e).2
 refine⟨b,o,e,Nat.lt_of_lt_of_le hb hs.size,fun i hi j v hv=>?_⟩
 exact hs.sl_cell hb ho (hc i hi j v hv)
theorem Held.shift{τ:Type}{R:Rep τ}{S:St}{A:Option Addr}{n:Nat}{xs:List τ}(hk:Held R S.h0 S.cap A n xs){h h':Heap}(hs:HS S h)(hg:Grows h h'):Held R h' (blks S.ch) A n xs:=
 ⟨(hk.at_ hs).grows hg,fun h0 a ha=>by
   obtain⟨h1,h2⟩:=hk.out h0 a ha
   refine⟨Nat.lt_of_lt_of_le h1 (Nat.le_trans hs.size hg.size),fun hm=>?_⟩
   rcases (hs.blks_of hm).2 with h3|h3
   ·omega
   ·exact h2 h3⟩
theorem Held.new{τ:Type}{R:Rep τ}{T:Nat}{S:St}{h h':Heap}{v:Value}{U:List τ}(ho:OwnSl R T h h' v U)(hs:HS S h):∃ A n c,v = .slice A n c∧Held R h' (blks S.ch) A n U:=by
 cases ho with
 |nil=>exact⟨none,0,0,rfl,Sl.nil _ _ _,fun h=>absurd h (Nat.lt_irrefl 0)⟩
 |arr b cap L hb hlt hat=>
  have hs':HS ⟨#[],[],[(0,b,.arr T R U cap)]⟩ h':=⟨Nat.zero_le _,fun j hj _=>absurd hj (Nat.not_lt_zero _),fun e he=>by
   have:=List.mem_singleton.1 he;subst this;exact⟨hlt,.inl (Nat.zero_le _),hat⟩,List.pairwise_singleton _ _⟩
  have hsl:=hs'.sl (k:=0) (b:=b) rfl (Nat.le_refl U.length)
  rw [List.take_length] at hsl
  refine⟨_,_,_,rfl,hsl,fun _ a ha=>?_⟩
  cases ha
  exact⟨hlt,fun hm=>by have:=(hs.blks_of hm).1;simp only at this;omega⟩
structure Bas(h h0:Heap)(cap:List Nat):Prop where
 gr:Grows h h0
 cp:∀ c∈cap,h.size≤c
theorem Bas.start(h:Heap):Bas h h []:=⟨Grows.refl h,fun c hc=>by cases hc⟩
theorem Bas.fin{h:Heap}{S:St}(hb:Bas h S.h0 S.cap){hf:Heap}(hs:HS S hf):Grows h hf:=HS.grows_cap hs hb.gr hb.cp
theorem Bas.shift{h:Heap}{S:St}(hb:Bas h S.h0 S.cap){h1 h':Heap}(hs:HS S h1)(hg:Grows h1 h'):Bas h h' (blks S.ch):=
 ⟨(hb.fin hs).trans hg,fun c hc=>by
   rcases (hs.blks_of hc).2 with h3|h3
   ·exact Nat.le_trans hb.gr.size h3
   ·exact hb.cp c h3⟩
theorem OwnSl.base{τ:Type}{R:Rep τ}{T:Nat}{h h1 h':Heap}{v:Value}{L:List τ}(ho:OwnSl R T h1 h' v L)(hg:Grows h h1):OwnSl R T h h' v L:=by
 cases ho with
 |nil=>exact .nil
 |arr b cap L hb hlt hat=>exact .arr b cap L (Nat.le_trans hg.size hb) hlt hat
theorem OwnSl.at_{τ:Type}{R:Rep τ}{T:Nat}{h h':Heap}{v:Value}{L:List τ}(ho:OwnSl R T h h' v L):∃ A len cap,v = .slice A len cap∧Sl R h' A len L∧∀ a,A=some a→h.size≤a.block∧a.block<h'.size:=by
 obtain⟨A,len,cap,hv,hs⟩:=ho.sl
 refine⟨A,len,cap,hv,hs,fun a ha=>?_⟩
 subst ha
 cases ho with
 |nil=>cases hv
 |arr b cap L hb hlt hat=>cases hv;exact⟨hb,hlt⟩
end Go.Ex
namespace Go.Ex
variable {E:Value→Heap→Prop}
section
variable {P:Program}{S:St}
theorem bsp:∀ {ch:Chs} {b:Nat},b∈blks ch→∃ e∈ch,e.2.1=b
 |[],b,h=>by cases h
 |(k,b',c)::r,b,h=>by
  rcases List.mem_cons.1 h with rfl|h
  ·exact⟨_,List.mem_cons_self,rfl⟩
  ·obtain⟨e,he,h2⟩:=bsp h;exact⟨e,List.mem_cons_of_mem _ he,h2⟩
theorem HS.part{q r:Chs}{h:Heap}(hs:HS S h)(hc:HasC S.ch (q++r)):HS ⟨h,blks q,q⟩ h:=by
 have h1:=hc.hs hs
 refine⟨Nat.le_refl _,fun _ _ _=>rfl,fun e he=>?_,(List.pairwise_append.1 h1.apart).1⟩
 obtain⟨a1,a2,a3⟩:=h1.chunk e (List.mem_append.2 (.inl he))
 exact⟨a1,.inr (blks_mem he),a3⟩
theorem HS.join{q r q':Chs}{h h':Heap}(hs:HS S h)(hc:HasC S.ch (q++r))(hs':HS ⟨h,blks q,q'⟩ h'):HS ⟨S.h0,S.cap,q'++r⟩ h':=by
 have h1:=hc.hs hs
 have hap:=List.pairwise_append.1 h1.apart
 have hbk:∀ b,b∈blks q→b<h.size∧(S.h0.size≤b∨b∈S.cap):=fun b hb=>by
  obtain⟨e,he,rfl⟩:=bsp hb
  obtain⟨a1,a2,_⟩:=h1.chunk e (List.mem_append.2 (.inl he))
  exact⟨a1,a2⟩
 have hrq:∀ e∈r,e.2.1∉blks q:=fun e he hm=>by
  obtain⟨e',he',h3⟩:=bsp hm
  exact hap.2.2 e' he' e he h3
 refine⟨Nat.le_trans hs.size hs'.size,fun b hb hn=>?_,fun e he=>?_,?_⟩
 ·have hb:b<S.h0.size:=hb
  refine (hs'.frame b (Nat.lt_of_lt_of_le hb hs.size) fun hm=>?_).trans (hs.frame b hb hn)
  rcases (hbk b hm).2 with h2|h2
  ·exact absurd h2 (by omega)
  ·exact hn h2
 ·rcases List.mem_append.1 he with he|he
  ·obtain⟨a1,a2,a3⟩:=hs'.chunk e he
   refine⟨a1,?_,a3⟩
   rcases a2 with a2|a2
   ·left;exact Nat.le_trans hs.size a2
   ·exact (hbk _ a2).2
  ·obtain⟨a1,a2,a3⟩:=h1.chunk e (List.mem_append.2 (.inr he))
   exact⟨Nat.lt_of_lt_of_le a1 hs'.size,a2,a3.congr (hs'.frame _ a1 (hrq e he))⟩
 ·refine List.pairwise_append.2 ⟨hs'.apart,hap.2.1,fun a ha e he=>?_⟩
  obtain⟨a1,a2,_⟩:=hs'.chunk a ha
  intro e'
  rcases a2 with a2|a2
  ·have:=(h1.chunk e (List.mem_append.2 (.inr he))).1
   have a2:h.size≤a.2.1:=a2
   omega
  ·exact hrq e he (by rw [←e'];exact a2)
theorem CK.mut{f:Nat}{args caps:List KV}{κ:KV→St→Prop}(q r:Chs)(Post:KV→Chs→Prop)(hc:HasC S.ch (q++r))
 (hh:∀ h,HS S h→HS ⟨h,blks q,q⟩ h→CH P f (args.map den1++caps.map denC).toArray h fun u h'=>∃ kv q',den kv=u∧HS ⟨h,blks q,q'⟩ h'∧Post kv q')
 (hk:∀ kv q',Post kv q'→κ kv ⟨S.h0,S.cap,q'++r⟩):CK P E f args caps S κ:=
 ⟨fun h hs=>.inl (by
  have:=hh h hs (hs.part hc)
  refine⟨this.1,fun w hw=>(this.2 w hw).mono fun e w' ⟨he,u,h1,kv,q',h2,h3,h4⟩=>⟨he,u,h1,kv,_,h2,hs.join hc h3,hk kv q' h4⟩⟩)⟩
def SC(c c':Chunk):Prop:=∀ h b,ChunkAt h b c→ChunkAt h b c'
theorem SC.rfl{c:Chunk}:SC c c:=fun _ _ h=>h
theorem SC.box{T:Nat}{cs cs':List KV}(h:cs.map denC=cs'.map denC):SC (.box T cs) (.box T cs'):=fun hp b hc=>by
 simp only [ChunkAt] at hc ⊢;rw [←h];exact hc
def notInN(k:Nat):List Nat→Bool
 |[]=>true
 |j::r=>!(Nat.beq k j) && notInN k r
def RenC(ch:Chs):List Nat→Chs→Prop
 |[],[]=>True
 |k::ks,(_,b,c)::r=>(∃ c0,findC ch k=some (b,c0)∧SC c0 c)∧notInN k ks=true∧RenC ch ks r
 |_,_=>False
theorem notInN_spec:∀ {r:List Nat} {k:Nat},notInN k r=true→∀ e∈r,e≠k
 |[],k,h,e,he=>by simp at he
 |j::r,k,h,e,he=>by
  simp only [notInN,Bool.and_eq_true,Bool.not_eq_true'] at h
  rcases List.mem_cons.1 he with rfl|he
  ·exact fun e'=>nbF h.1 e'.symm
  ·exact notInN_spec h.2 e he
theorem RenC.mem:∀ {ch:Chs} {ks:List Nat} {L:Chs},RenC ch ks L→∀ e∈L,∃ k c0,k∈ks∧(k,e.2.1,c0)∈ch∧SC c0 e.2.2
 |ch,[],[],h,e,he=>by cases he
 |ch,k::ks,(j,b,c)::r,h,e,he=>by
  rcases List.mem_cons.1 he with rfl|he
  ·obtain⟨c0,h1,h2⟩:=h.1
   exact⟨k,c0,List.mem_cons_self,fM h1,h2⟩
  ·obtain⟨k',c0,h1,h2⟩:=RenC.mem h.2.2 e he
   exact⟨k',c0,List.mem_cons_of_mem _ h1,h2⟩
theorem RenC.apart:∀ {ch:Chs} {ks:List Nat} {L:Chs},RenC ch ks L→(ch.Pairwise fun e e'=>e.2.1≠e'.2.1)→L.Pairwise fun e e'=>e.2.1≠e'.2.1
 |ch,[],[],h,hp=>.nil
 |ch,k::ks,(j,b,c)::r,h,hp=>by
  refine List.pairwise_cons.2 ⟨fun e he=>?_,RenC.apart h.2.2 hp⟩
  obtain⟨c0,h1,_⟩:=h.1
  obtain⟨k',c1,h2,h3,_⟩:=RenC.mem h.2.2 e he
  have hne:=notInN_spec h.2.1 k' h2
  exact apart_of (x:=(k,b,c0)) (y:=(k',e.2.1,c1)) hp (fM h1) h3 (fun e'=>hne (congrArg Prod.fst e').symm)
theorem HS.ren{h:Heap}(hs:HS S h)(ks:List Nat){L:Chs}(hL:RenC S.ch ks L):HS ⟨S.h0,S.cap,L⟩ h:=
 ⟨hs.size,hs.frame,fun e he=>by
  obtain⟨k,c0,_,h1,h2⟩:=hL.mem e he
  obtain⟨a1,a2,a3⟩:=hs.chunk _ h1
  exact⟨a1,a2,h2 _ _ a3⟩,hL.apart hs.apart⟩
def Row(P:Program)(t:Nat)(name:String)(f:Nat)(ptr:Bool):Prop:=
 (P.info? t).map (fun x=>(x.methods.find? (·.name == name)).map fun m=>(m.path.toList.isEmpty,m.path.isEmpty,m.func))=some (some (true,true,some (f,ptr)))
theorem Row.get{t:Nat}{name:String}{f:Nat}{ptr:Bool}(h:Row P t name f ptr):∃ x m,P.info? t=some x∧x.methods.find? (·.name == name)=some m∧m.path.toList=[]∧m.path.isEmpty=true∧m.func=some (f,ptr):=by
 unfold Row at h
 cases hx:P.info? t with
 |none=>rw [hx] at h;cases h
 |some x=>
  rw [hx] at h
  simp only [Option.map_some,Option.some.injEq] at h
  cases hm:x.methods.find? (·.name == name) with
  |none=>rw [hm] at h;cases h
  |some m=>
   rw [hm] at h
   simp only [Option.map_some,Option.some.injEq,Prod.mk.injEq,List.isEmpty_iff] at h
   exact⟨x,m,rfl,hm,h.1,h.2.1,h.2.2⟩
theorem MethodIs.ptr{t e f b j:Nat}{name:String}{k:Nat}(hr:Row P t name f true)(hu:P.underlying t=some (.pointer e)):MethodIs P t (.pointer (some ⟨b,j,none⟩)) name S f (.own k b j):=by
 intro w hs
 obtain⟨x,m,h1,h2,h3,h4,h5⟩:=hr.get
 rw [show P.types.size+Made.depth=(P.types.size+99)+1 from rfl]
 have e1:(typeInfo t).run P w = .ok x w:=by simp [typeInfo,h1]
 have e2:(underlying t).run P w = .ok (.pointer e) w:=by simp [underlying,hu]
 unfold method
 rw [Sem.run_bind,e1,Result.andThen_ok,h2]
 simp only
 rw [h3]
 simp only [follow,Sem.run_bind,Sem.run_pure,Result.andThen_ok,h5,receiverAt,e2,Place.get]
 rfl
theorem CK.says{f:Nat}{args caps:List KV}{κ:KV→St→Prop}(kv:KV)(hh:∀ h,HS S h→CH P f (args.map den1++caps.map denC).toArray h fun u h'=>u=den kv∧Grows h h')(hk:κ kv S):CK P E f args caps S κ:=
 ⟨fun h hs=>.inl (by
  refine⟨(hh h hs).1,fun w hw=>((hh h hs).2 w hw).mono fun e w' ⟨he,u,h1,h2,h3⟩=>⟨he,u,h1,kv,S,h2.symm,hs.later h3,hk⟩⟩)⟩
end
end Go.Ex
