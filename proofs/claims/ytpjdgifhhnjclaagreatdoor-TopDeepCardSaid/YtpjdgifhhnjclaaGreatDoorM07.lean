/-
  Top: TopDeep: whatever the input, the law answers true (part 7)
-/
import Derived.Test.YtpjdgifhhnjclaaGreatDoorM06
set_option linter.unusedVariables false
set_option linter.unusedSimpArgs false
set_option maxHeartbeats 4000000
set_option maxRecDepth 10000
namespace Go.Ex
variable {E:Value→Heap→Prop}
structure Grows(h h':Heap):Prop where
 size:h.size≤h'.size
 same:∀ b,b<h.size→h'[b]?=h[b]?
theorem Grows.refl(h:Heap):Grows h h:=⟨Nat.le_refl _,fun _ _=>rfl⟩
theorem Grows.trans{a b c:Heap}(h:Grows a b)(k:Grows b c):Grows a c:=⟨Nat.le_trans h.size k.size,fun i hi=>(k.same i (Nat.lt_of_lt_of_le hi h.size)).trans (h.same i hi)⟩
theorem HS.grows{h0 h:Heap}{ch:Chs}(hs:HS ⟨h0,[],ch⟩ h):Grows h0 h:=⟨hs.size,fun b hb=>hs.frame b hb List.not_mem_nil⟩
theorem HS.later{S:St}{h h':Heap}(hs:HS S h)(hg:Grows h h'):HS S h':=by
 refine⟨Nat.le_trans hs.size hg.size,fun b h1 h2=>(hg.same b (Nat.lt_of_lt_of_le h1 hs.size)).trans (hs.frame b h1 h2),fun e he=>?_,hs.apart⟩
 obtain⟨h1,h2,h3⟩:=hs.chunk e he
 exact⟨Nat.lt_of_lt_of_le h1 hg.size,h2,h3.congr (hg.same _ h1)⟩
theorem Sl.grows{τ:Type}{R:Rep τ}{h h':Heap}{A:Option Addr}{n:Nat}{xs:List τ}(hs:Sl R h A n xs)(hg:Grows h h'):Sl R h' A n xs:=by
 refine⟨hs.len_eq,hs.small,fun h0=>?_⟩
 obtain⟨b,o,e,hb,hc⟩:=hs.at_ h0
 exact⟨b,o,e,Nat.lt_of_lt_of_le hb hg.size,fun i hi j v hv=>by
  have:=hc i hi j v hv
  simpa [hcell,hg.same b hb] using this⟩
theorem Sl.plain{τ:Type}{R:Rep τ}{h:Heap}{A:Option Addr}{n:Nat}{xs:List τ}(hs:Sl R h A n xs)(h0:0<n):PlainA A:=by
 obtain⟨b,o,e,_⟩:=hs.at_ h0
 exact⟨b,o,e⟩
theorem Sl.nil{τ:Type}(R:Rep τ)(h:Heap)(A:Option Addr):Sl R h A 0 []:=⟨rfl,by decide,fun h=>absurd h (Nat.lt_irrefl 0)⟩
theorem HS.sl{S:St}{h:Heap}(hs:HS S h){k b T cap:Nat}{τ:Type}{R:Rep τ}{xs:List τ}(hf:findC S.ch k=some (b,.arr T R xs cap)){n:Nat}(hn:n≤xs.length):Sl R h (some ⟨b,0,none⟩) n (xs.take n):=by
 have hch:=(hs.chunk _ (fM hf)).2.2
 refine⟨by rw [List.length_take];omega,by obtain⟨_,_,_,h1,h2,_⟩:=hch;simp only [maxLen] at h2;omega,fun h0=>⟨b,0,rfl,(hs.chunk _ (fM hf)).1,fun i hi j v hv=>?_⟩⟩
 rw [Nat.zero_add]
 refine hs.arr hf (by omega) ?_
 rw [show xs.getD i R.dflt=(xs.take n).getD i R.dflt by simp [List.getD,List.getElem?_take_of_lt hi]]
 exact hv
inductive OwnSl {τ:Type}(R:Rep τ)(T:Nat)(h h':Heap):Value→List τ→Prop
 |nil:OwnSl R T h h' (.slice none 0 0) []
 |arr (b cap:Nat) (L:List τ) (hb:h.size≤b) (hlt:b<h'.size) (hat:ChunkAt h' b (.arr T R L cap)):OwnSl R T h h' (.slice (some ⟨b,0,none⟩) L.length cap) L
theorem OwnSl.sl{τ:Type}{R:Rep τ}{T:Nat}{h h':Heap}{v:Value}{L:List τ}(ho:OwnSl R T h h' v L):∃ A len cap,v = .slice A len cap∧Sl R h' A len L:=by
 cases ho with
 |nil=>exact⟨none,0,0,rfl,Sl.nil _ _ _⟩
 |arr b cap L hb hlt hat=>
  have hs:HS ⟨#[],[],[(0,b,.arr T R L cap)]⟩ h':=⟨Nat.zero_le _,fun j hj _=>absurd hj (Nat.not_lt_zero _),fun e he=>by
   have:=List.mem_singleton.1 he;subst this;exact⟨hlt,.inl (Nat.zero_le _),hat⟩,List.pairwise_singleton _ _⟩
  have:=hs.sl (k:=0) (b:=b) rfl (Nat.le_refl L.length)
  rw [List.take_length] at this
  exact⟨_,_,_,rfl,this⟩
theorem HS.own{h0 h:Heap}{ch:Chs}(hs:HS ⟨h0,[],ch⟩ h){τ:Type}{k b T cap:Nat}{R:Rep τ}{xs:List τ}(hf:findC ch k=some (b,.arr T R xs cap)){n:Int}(hn:n=xs.length):OwnSl R T h0 h (den (.osl k b n cap)) xs:=by
 obtain⟨h1,h2,h3⟩:=hs.chunk _ (fM hf)
 have e:den (.osl k b n cap) = .slice (some ⟨b,0,none⟩) xs.length cap:=by simp [den,den1,denC,hn]
 rw [e]
 refine .arr b cap xs ?_ h1 h3
 rcases h2 with h2|h2
 ·exact h2
 ·cases h2
section
variable {P:Program}{S:St}
theorem CK.epoch{f:Nat}{args caps:List KV}{κ:KV→St→Prop}{Q:Heap→Value→Heap→Prop}(hh:∀ h,HS S h→CH P f (args.map den1++caps.map denC).toArray h fun u h'=>Q h u h')
 (hk:∀ h u h',HS S h→Q h u h'→fk (kvOf u) fun kv=>κ kv ⟨h',[],[]⟩):CK P E f args caps S κ:=
 ⟨fun h hs=>.inl (by
  refine⟨(hh h hs).1,fun w hw=>((hh h hs).2 w hw).mono fun e w' ⟨he,u,h1,h2⟩=>⟨he,u,h1,_,_,den_kvOf u,HS.start _,fk_iff (hk h u _ hs h2)⟩⟩)⟩
theorem XLoad.of{A:Option Addr}{sz:Nat}{i:Int}{f n:Nat}{agg:Bool}{κ:KV→Prop}{τ:Type}{R:Rep τ}{len:Nat}{xs:List τ}(hs:Sl R S.h0 A len xs)(hc:S.cap=[])(hsz:R.sz=sz)(h0:0≤i)(h1:i<len)
 {l:List Value} (hl:subN f n (R.cells (getI R.dflt xs i))=some l) (hk:readK agg (mapC l) κ):XLoad S A sz i f n agg κ:=
 ⟨.inl ⟨_,R,len,xs,hs,fun a _=>by rw [hc];exact List.not_mem_nil,hsz,h0,h1,l,hl,hk⟩⟩
theorem CK.pure{f:Nat}{args caps:List KV}{κ:KV→St→Prop}(v:Value)(hh:∀ h,HS S h→CH P f (args.map den1++caps.map denC).toArray h fun u h'=>u=v∧Grows h h')(hk:fk (kvOf v) fun kv=>κ kv S):CK P E f args caps S κ:=
 ⟨fun h hs=>.inl (by
  refine⟨(hh h hs).1,fun w hw=>((hh h hs).2 w hw).mono fun e w' ⟨he,u,h1,h2,h3⟩=>⟨he,u,h1,_,S,?_,hs.later h3,fk_iff hk⟩⟩
  rw [den_kvOf,h2])⟩
theorem CK.ext{f:Nat}{args caps:List KV}{κ:KV→St→Prop}(v:Value)(hh:∀ w:World,(callFunc f (args.map den1++caps.map denC).toArray).run P w = .ok (.value v) w)(hk:fk (kvOf v) fun kv=>κ kv S):CK P E f args caps S κ:=
 ⟨fun h hs=>.inr (.inl fun w hw=>⟨v,w,hh w,⟨rfl,rfl,rfl⟩,_,S,den_kvOf v,by rw [hw];exact hs,fk_iff hk⟩)⟩
theorem CallQ.pure{f:Nat}{args caps:List KV}{κ:KV→Prop}(v:Value)(hh:∀ h,HS S h→CH P f (args.map den1++caps.map denC).toArray h fun u h'=>u=v∧Grows h h')(hk:fk (kvOf v) fun kv=>κ kv):CallQ P f args caps S κ:=
 ⟨_,fun h' hs=>by
  refine⟨(hh h' hs).1,fun w hw=>((hh h' hs).2 w hw).mono fun e w' ⟨he,u,h1,h2,h3⟩=>⟨he,u,h1,?_,hs.later h3⟩⟩
  rw [den_kvOf,h2],fk_iff hk⟩
theorem CH.mono{f:Nat}{args:Array Value}{h:Heap}{R R':Value→Heap→Prop}(hc:CH P f args h R)(hr:∀ v h',R v h'→R' v h'):CH P f args h R':=
 ⟨hc.1,fun w hw=>(hc.2 w hw).mono fun e w' ⟨he,v,h1,h2⟩=>⟨he,v,h1,hr _ _ h2⟩⟩
end
theorem drop_get{α:Type}(d:α)(L:List α)(i:Int)(h0:0≤i)(h1:i<L.length):L.drop i.toNat=getI d L i::L.drop (i+1).toNat:=by
 have:i.toNat<L.length:=by omega
 rw [List.drop_eq_getElem_cons this,show (i+1).toNat=i.toNat+1 by omega]
 simp [getI,List.getD,this]
theorem getI_mem{α:Type}(d:α)(L:List α)(i:Int)(h0:0≤i)(h1:i<L.length):getI d L i∈L:=by
 have:i.toNat<L.length:=by omega
 simp [getI,List.getD,this]
theorem drop_all{α:Type}(L:List α)(i:Int)(h1:¬ i<L.length):L.drop i.toNat=[]:=List.drop_eq_nil_of_le (by omega)
theorem bool_no{p:Prop}(h:¬ p):den (.val (.bool false))=denC (.prop p):=by simp [den,den1,denC,h]
theorem bool_yes{p:Prop}(h:p):den (.val (.bool true))=denC (.prop p):=by simp [den,den1,denC,h]
theorem prop_eq{p q:Prop}(h:p↔q):den (.prop p)=denC (.prop q):=by rw [propext h];rfl
theorem int_eq{k:IntKind}{a b:Int}(h:a=b):den (.val (.int k a)) = .int k b:=by rw [h];rfl
end Go.Ex
