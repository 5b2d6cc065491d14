/-
  Top: TopComments: whatever the input, the law answers true (part 8)
-/
import Derived.Test.YtpjdgifhhnjclaaGreatDoorProg
import Derived.KernelRfl
import Derived.Shelf.Strings.Builder1
import Derived.Shelf.Strings.Builder2
import Derived.Shelf.Strings.Trim
import Derived.Shelf.Small.Utf8
import Derived.Shelf.Small.Strs
import Derived.Shelf.Strings.Search1
import Derived.Shelf.Strings.Search2
import Derived.Shelf.Strings.Search3
import Derived.Shelf.Strings.Count
import Derived.Shelf.LaysM
import Derived.Shelf.Strings.Shaped
import Derived.Shelf.Strings.Prefix
import Derived.Shelf.Strings.Split
import Derived.Shelf.Strings.Replace
import Derived.Shelf.Unicode.Decode
import Derived.Shelf.Strings.Runes
import Derived.Shelf.Strings.AsciiSet
import Derived.Shelf.Unicode.DecodeSlow
import Derived.Shelf.Unicode.DecodeAny
import Derived.Test.YtpjdgifhhnjclaaGreatDoorM07
set_option linter.unusedVariables false
set_option linter.unusedSimpArgs false
set_option maxHeartbeats 4000000
set_option maxRecDepth 10000
namespace Go.Ex
variable {E:Value→A3→Prop}
section
variable {P:Program}{S:St}
def blks:L8→List Nat
 |[]=>[]
 |(_,b,_)::r=>b::blks r
theorem G9:∀ {ch:L8} {e:Nat×Nat×D8},e∈ch→e.2.1∈blks ch
 |[],e,h=>by cases h
 |(k,b,c)::r,e,h=>by
  rcases List.mem_cons.1 h with rfl|h
  ·exact List.mem_cons_self
  ·exact List.mem_cons_of_mem _ (G9 h)
theorem HS.shift{h h':A3}(hs:HS S h)(hg:A5 h h'):HS ⟨h',blks S.ch,S.ch⟩ h':=by
 refine⟨Nat.le_refl _,fun _ _ _=>rfl,fun e he=>?_,hs.apart⟩
 obtain⟨h1,h2,h3⟩:=hs.chunk e he
 exact⟨Nat.lt_of_lt_of_le h1 hg.size,.inr (G9 he),h3.congr (hg.same _ h1)⟩
theorem HS.grows_cap{h h0 hf:A3}{cap:List Nat}{ch:L8}(hs:HS ⟨h0,cap,ch⟩ hf)(hg:A5 h h0)(hc:∀ c∈cap,h.size≤c):A5 h hf:=
 ⟨Nat.le_trans hg.size hs.size,fun b hb=>(hs.frame b (Nat.lt_of_lt_of_le hb hg.size) (fun hm=>by have:=hc b hm;omega)).trans (hg.same b hb)⟩
end
theorem HS.blks_of{S:St}{h:A3}(hs:HS S h){c:Nat}(hc:c∈blks S.ch):c<h.size∧(S.h0.size≤c∨c∈S.cap):=by
 have key:∀ ch:L8,c∈blks ch→∃ e∈ch,e.2.1=c:=by
  intro ch
  induction ch with
  |nil=>intro h;cases h
  |cons e r ih=>
   intro h
   obtain⟨k,b,x⟩:=e
   rcases List.mem_cons.1 h with rfl|h
   ·exact⟨_,List.mem_cons_self,rfl⟩
   ·obtain⟨e,he,h2⟩:=ih h;exact⟨e,List.mem_cons_of_mem _ he,h2⟩
 obtain⟨e,he,rfl⟩:=key _ hc
 obtain⟨h1,h2,_⟩:=hs.chunk e he
 exact⟨h1,h2⟩
structure D3{τ:Type}(R:Y7 τ)(h0:A3)(cap:List Nat)(A:Option Addr)(n:Nat)(xs:List τ):Prop where
 sl:Sl R h0 A n xs
 out:0<n→∀ a,A=some a→a.block<h0.size∧a.block∉cap
theorem D3.start{τ:Type}{R:Y7 τ}{h:A3}{A:Option Addr}{n:Nat}{xs:List τ}(hs:Sl R h A n xs):D3 R h [] A n xs:=
 ⟨hs,fun h0 a ha=>by obtain⟨b,o,e,hb,_⟩:=hs.at_ h0;rw [ha] at e;cases e;exact⟨hb,List.not_mem_nil⟩⟩
theorem D3.at_{τ:Type}{R:Y7 τ}{S:St}{A:Option Addr}{n:Nat}{xs:List τ}(hk:D3 R S.h0 S.cap A n xs){h:A3}(hs:HS S h):Sl R h A n xs:=by
 refine⟨hk.sl.len_eq,hk.sl.small,fun h0=>?_⟩
 obtain⟨b,o,e,hb,hc⟩:=hk.sl.at_ h0
 have ho:=(hk.out h0 _ e).2
 refine⟨b,o,e,Nat.lt_of_lt_of_le hb hs.size,fun i hi j v hv=>?_⟩
 exact hs.sl_cell hb ho (hc i hi j v hv)
theorem D3.new{τ:Type}{R:Y7 τ}{T:Nat}{S:St}{h h':A3}{v:Value}{U:List τ}(ho:S8 R T h h' v U)(hs:HS S h):∃ A n c,v = .slice A n c∧D3 R h' (blks S.ch) A n U:=by
 cases ho with
 |nil=>exact⟨none,0,0,rfl,Sl.nil _ _ _,fun h=>absurd h (Nat.lt_irrefl 0)⟩
 |arr b cap L hb hlt hat=>
  have hs':HS ⟨#[],[],[(0,b,.arr T R U cap)]⟩ h':=⟨Nat.zero_le _,fun j hj _=>absurd hj (Nat.not_lt_zero _),fun e he=>by
   have:=List.mem_singleton.1 he;subst this;exact⟨hlt,.inl (Nat.zero_le _),hat⟩,List.pairwise_singleton _ _⟩
  have hsl:=hs'.sl (k:=0) (b:=b) rfl (Nat.le_refl U.length)
  rw [List.take_length] at hsl
  refine⟨_,_,_,rfl,hsl,fun _ a ha=>?_⟩
  cases ha
  exact⟨hlt,fun hm=>by have:=(hs.blks_of hm).1;simp only at this;omega⟩
structure Gz(h h0:A3)(cap:List Nat):Prop where
 gr:A5 h h0
 cp:∀ c∈cap,h.size≤c
theorem Gz.start(h:A3):Gz h h []:=⟨A5.refl h,fun c hc=>by cases hc⟩
theorem Gz.fin{h:A3}{S:St}(hb:Gz h S.h0 S.cap){hf:A3}(hs:HS S hf):A5 h hf:=HS.grows_cap hs hb.gr hb.cp
theorem S8.at_{τ:Type}{R:Y7 τ}{T:Nat}{h h':A3}{v:Value}{L:List τ}(ho:S8 R T h h' v L):∃ A len cap,v = .slice A len cap∧Sl R h' A len L∧∀ a,A=some a→h.size≤a.block∧a.block<h'.size:=by
 obtain⟨A,len,cap,hv,hs⟩:=ho.sl
 refine⟨A,len,cap,hv,hs,fun a ha=>?_⟩
 subst ha
 cases ho with
 |nil=>cases hv
 |arr b cap L hb hlt hat=>cases hv;exact⟨hb,hlt⟩
end Go.Ex
namespace Go.Ex
variable {E:Value→A3→Prop}
section
variable {P:Program}{S:St}
theorem oH:∀ {ch:L8} {b:Nat},b∈blks ch→∃ e∈ch,e.2.1=b
 |[],b,h=>by cases h
 |(k,b',c)::r,b,h=>by
  rcases List.mem_cons.1 h with rfl|h
  ·exact⟨_,List.mem_cons_self,rfl⟩
  ·obtain⟨e,he,h2⟩:=oH h;exact⟨e,List.mem_cons_of_mem _ he,h2⟩
theorem HS.part{q r:L8}{h:A3}(hs:HS S h)(hc:X1 S.ch (q++r)):HS ⟨h,blks q,q⟩ h:=by
 have h1:=hc.hs hs
 refine⟨Nat.le_refl _,fun _ _ _=>rfl,fun e he=>?_,(List.pairwise_append.1 h1.apart).1⟩
 obtain⟨a1,a2,a3⟩:=h1.chunk e (List.mem_append.2 (.inl he))
 exact⟨a1,.inr (G9 he),a3⟩
theorem HS.join{q r q':L8}{h h':A3}(hs:HS S h)(hc:X1 S.ch (q++r))(hs':HS ⟨h,blks q,q'⟩ h'):HS ⟨S.h0,S.cap,q'++r⟩ h':=by
 have h1:=hc.hs hs
 have hap:=List.pairwise_append.1 h1.apart
 have hbk:∀ b,b∈blks q→b<h.size∧(S.h0.size≤b∨b∈S.cap):=fun b hb=>by
  obtain⟨e,he,rfl⟩:=oH hb
  obtain⟨a1,a2,_⟩:=h1.chunk e (List.mem_append.2 (.inl he))
  exact⟨a1,a2⟩
 have hrq:∀ e∈r,e.2.1∉blks q:=fun e he hm=>by
  obtain⟨e',he',h3⟩:=oH hm
  exact hap.2.2 e' he' e he h3
 refine⟨Nat.le_trans hs.size hs'.size,fun b hb hn=>?_,fun e he=>?_,?_⟩
 ·have hb:b<S.h0.size:=hb
  refine (hs'.frame b (Nat.lt_of_lt_of_le hb hs.size) fun hm=>?_).trans (hs.frame b hb hn)
  rcases (hbk b hm).2 with h2|h2
  ·exact absurd h2 (by omega)
  ·exact hn h2
 ·rcases List.mem_append.1 he with he|he
  ·obtain⟨a1,a2,a3⟩:=hs'.chunk e he
   refine⟨a1,?_,a3⟩
   rcases a2 with a2|a2
   ·left;exact Nat.le_trans hs.size a2
   ·exact (hbk _ a2).2
  ·obtain⟨a1,a2,a3⟩:=h1.chunk e (List.mem_append.2 (.inr he))
   exact⟨Nat.lt_of_lt_of_le a1 hs'.size,a2,a3.congr (hs'.frame _ a1 (hrq e he))⟩
 ·refine List.pairwise_append.2 ⟨hs'.apart,hap.2.1,fun a ha e he=>?_⟩
  obtain⟨a1,a2,_⟩:=hs'.chunk a ha
  intro e'
  rcases a2 with a2|a2
  ·have:=(h1.chunk e (List.mem_append.2 (.inr he))).1
   have a2:h.size≤a.2.1:=a2
   omega
  ·exact hrq e he (by rw [←e'];exact a2)
theorem CK.mut{f:Nat}{args caps:List KV}{κ:KV→St→Prop}(q r:L8)(Post:KV→L8→Prop)(hc:X1 S.ch (q++r))
 (hh:∀ h,HS S h→HS ⟨h,blks q,q⟩ h→CH P f (args.map A1++caps.map A0).toArray h fun u h'=>∃ kv q',B0 kv=u∧HS ⟨h,blks q,q'⟩ h'∧Post kv q')
 (hk:∀ kv q',Post kv q'→κ kv ⟨S.h0,S.cap,q'++r⟩):CK P E f args caps S κ:=
 ⟨fun h hs=>.inl (by
  have:=hh h hs (hs.part hc)
  refine⟨this.1,fun w hw=>(this.2 w hw).mono fun e w' ⟨he,u,h1,kv,q',h2,h3,h4⟩=>⟨he,u,h1,kv,_,h2,hs.join hc h3,hk kv q' h4⟩⟩)⟩
def SC(c c':D8):Prop:=∀ h b,C7 h b c→C7 h b c'
theorem SC.rfl{c:D8}:SC c c:=fun _ _ h=>h
theorem SC.box{T:Nat}{cs cs':List KV}(h:cs.map A0=cs'.map A0):SC (.box T cs) (.box T cs'):=fun hp b hc=>by
 simp only [C7] at hc ⊢;rw [←h];exact hc
def kL(k:Nat):List Nat→Bool
 |[]=>true
 |j::r=>!(Nat.beq k j) && kL k r
def F3(ch:L8):List Nat→L8→Prop
 |[],[]=>True
 |k::ks,(_,b,c)::r=>(∃ c0,B3 ch k=some (b,c0)∧SC c0 c)∧kL k ks=true∧F3 ch ks r
 |_,_=>False
theorem E8{ch:L8}:F3 ch [] []:=trivial
theorem F9{ch:L8}{k b k':Nat}{ks:List Nat}{c0 c:D8}{r:L8}(h:B3 ch k=some (b,c0))(s:SC c0 c)(n:kL k ks=true)(q:F3 ch ks r):F3 ch (k::ks) ((k',b,c)::r):=⟨⟨_,h,s⟩,n,q⟩
theorem B4{ch:L8}{k b k':Nat}{ks:List Nat}{c:D8}{r:L8}(h:B3 ch k=some (b,c))(n:kL k ks=true)(q:F3 ch ks r):F3 ch (k::ks) ((k',b,c)::r):=⟨⟨_,h,SC.rfl⟩,n,q⟩
theorem pB:∀ {r:List Nat} {k:Nat},kL k r=true→∀ e∈r,e≠k
 |[],k,h,e,he=>by simp at he
 |j::r,k,h,e,he=>by
  simp only [kL,Bool.and_eq_true,Bool.not_eq_true'] at h
  rcases List.mem_cons.1 he with rfl|he
  ·exact fun e'=>lA h.1 e'.symm
  ·exact pB h.2 e he
theorem F3.mem:∀ {ch:L8} {ks:List Nat} {L:L8},F3 ch ks L→∀ e∈L,∃ k c0,k∈ks∧(k,e.2.1,c0)∈ch∧SC c0 e.2.2
 |ch,[],[],h,e,he=>by cases he
 |ch,k::ks,(j,b,c)::r,h,e,he=>by
  rcases List.mem_cons.1 he with rfl|he
  ·obtain⟨c0,h1,h2⟩:=h.1
   exact⟨k,c0,List.mem_cons_self,fM h1,h2⟩
  ·obtain⟨k',c0,h1,h2⟩:=F3.mem h.2.2 e he
   exact⟨k',c0,List.mem_cons_of_mem _ h1,h2⟩
theorem F3.apart:∀ {ch:L8} {ks:List Nat} {L:L8},F3 ch ks L→(ch.Pairwise fun e e'=>e.2.1≠e'.2.1)→L.Pairwise fun e e'=>e.2.1≠e'.2.1
 |ch,[],[],h,hp=>.nil
 |ch,k::ks,(j,b,c)::r,h,hp=>by
  refine List.pairwise_cons.2 ⟨fun e he=>?_,F3.apart h.2.2 hp⟩
  obtain⟨c0,h1,_⟩:=h.1
  obtain⟨k',c1,h2,h3,_⟩:=F3.mem h.2.2 e he
  have hne:=pB h.2.1 k' h2
  exact K6 (x:=(k,b,c0)) (y:=(k',e.2.1,c1)) hp (fM h1) h3 (fun e'=>hne (congrArg Prod.fst e').symm)
theorem HS.ren{h:A3}(hs:HS S h)(ks:List Nat){L:L8}(hL:F3 S.ch ks L):HS ⟨S.h0,S.cap,L⟩ h:=
 ⟨hs.size,hs.frame,fun e he=>by
  obtain⟨k,c0,_,h1,h2⟩:=hL.mem e he
  obtain⟨a1,a2,a3⟩:=hs.chunk _ h1
  exact⟨a1,a2,h2 _ _ a3⟩,hL.apart hs.apart⟩
theorem CK.says{f:Nat}{args caps:List KV}{κ:KV→St→Prop}(kv:KV)(hh:∀ h,HS S h→CH P f (args.map A1++caps.map A0).toArray h fun u h'=>u=B0 kv∧A5 h h')(hk:κ kv S):CK P E f args caps S κ:=
 ⟨fun h hs=>.inl (by
  refine⟨(hh h hs).1,fun w hw=>((hh h hs).2 w hw).mono fun e w' ⟨he,u,h1,h2,h3⟩=>⟨he,u,h1,kv,S,h2.symm,hs.later h3,hk⟩⟩)⟩
theorem H2{f:Nat}{args caps:List KV}{κ:KV→St→Prop}{p:Prop}(hk:κ (.prop p) S)(hh:∀ h,HS S h→CH P f (args.map A1++caps.map A0).toArray h fun u h'=>u=B0 (.prop p)∧A5 h h'):CK P E f args caps S κ:=CK.says _ hh hk
end
end Go.Ex
namespace Go.Ex
open Go.Proofs
def Ef:TypeDesc→Bool
 |.struct _=>true
 |.array _ _=>true
 |_=>false
def BS(P:Program)(t:Nat):Nat:=((P.info? t).map (·.size)).getD 0
def Ox(P:Program)(f:Field):Bool:=match P.underlying f.type with
 |some u=>(P.info? f.type).isSome && (if Ef u then BS P f.type != 0 else BS P f.type == 1)
 |none=>false
def Hp(P:Program)(f:Field):Nat×Option Nat:=(f.offset,if ((P.underlying f.type).map Ef).getD false then some (BS P f.type) else none)
def Qy(P:Program):TypeDesc→TK×Bool
 |.int k=>(.int k,true)
 |.bool=>(.bool,true)
 |.string=>(.str,true)
 |.slice e=>(.slice e,true)
 |.struct fs=>(.struct (fs.toList.map (Hp P)),fs.toList.all (Ox P))
 |.pointer _=>(.ptr,true)
 |.array n e=>(.arr n e,true)
 |_=>(.other,true)
theorem Hl{P:Program}{t:Nat}{u:TypeDesc}(h:P.underlying t=some u)(w:World):(isAgg t).run P w = .ok (Ef u) w:=by
 cases u<;>simp [isAgg,underlying,h,Ef]
theorem Sr{P:Program}{t:Nat}(h:(P.info? t).isSome=true)(w:World):(sizeOf t).run P w = .ok (BS P t) w:=by
 obtain⟨x,hx⟩:=Option.isSome_iff_exists.1 h
 simp [sizeOf,typeInfo,hx,BS]
theorem AN{P:Program}{f:Field}(h:Ox P f=true):nD P f (Hp P f):=by
 unfold Ox at h
 split at h
 ·rename_i u hu
  simp only [Bool.and_eq_true] at h
  have hs:=Sr h.1
  have ha:=Hl hu
  refine⟨rfl,fun w=>?_,fun w=>?_,?_⟩
  ·rw [ha w];simp [Hp,hu];cases Ef u<;>rfl
  ·rw [hs w];have:=h.2;revert this;cases hd:Ef u<;>simp [Hp,hu,hd]
  ·have:=h.2;revert this;cases hd:Ef u<;>simp [Hp,hu,hd]
 ·cases h
theorem Zk{P:Program}:∀ (l:List Field),l.all (Ox P)=true→aI P l (l.map (Hp P))
 |[],_=>trivial
 |f::l,h=>by
  simp only [List.all_cons,Bool.and_eq_true] at h
  exact⟨AN h.1,Zk l h.2⟩
theorem BP{P:Program}{t:Nat}{i:gS}(h1:(P.info? t).map (fun x=>(x.zero,x.size,x.bytes))=some (some (eH i),i.sz,i.bytes))(h2:(P.underlying t).map (fun u=>(Ef u,Qy P u))=some (i.agg,i.k,true))
 (h3:i.zero.length=i.sz) (h4:(eH i).cells=i.zero.toArray) (h5:(i.agg || Nat.beq i.sz 1)=true):mZ P t i:=by
 obtain⟨sz,by',ag,z,k⟩:=i
 cases hu:P.underlying t with
 |none=>rw [hu] at h2;cases h2
 |some u=>
  rw [hu] at h2
  simp only [Option.map_some,Option.some.injEq,Prod.mk.injEq] at h2
  obtain⟨rfl,h2⟩:=h2
  refine⟨h1,Hl hu,?_,h3,h4,fun e=>?_,by rw [hu];rfl⟩
  ·cases u<;>simp only [Qy,Prod.mk.injEq] at h2<;>obtain⟨rfl,h2⟩:=h2<;>first|exact hu|exact⟨_,hu⟩|exact⟨_,hu,Zk _ h2⟩|trivial
  ·simp only at e h5
   rw [e] at h5
   exact Nat.eq_of_beq_eq_true h5
def ty:Nat→Option gS
 |2|3|26|118=>some ⟨1,8,false,[.int .i64 0],.int .i64⟩
 |4=>some ⟨1,1,false,[.bool false],.bool⟩
 |5|6|213|214=>some ⟨1,1,false,[.int .u8 0],.int .u8⟩
 |7|8=>some ⟨4,24,true,[.int .i64 0,.int .i64 0,.bool false,.int .u8 0],.struct [(0,none),(1,none),(2,none),(3,none)]⟩
 |9|10|11=>some ⟨1,16,false,[.string ⟨#[]⟩],.str⟩
 |12|156=>some ⟨1,8,false,[.int .u64 0],.int .u64⟩
 |13|14=>some ⟨2,24,true,[.string ⟨#[]⟩,.int .u64 0],.struct [(0,none),(1,none)]⟩
 |15|16|17|63|78|97|112|148|159|186|198=>some ⟨1,8,false,[.pointer none],.ptr⟩
 |18|19=>some ⟨1,8,true,[.pointer none],.struct [(0,none)]⟩
 |21|216|217=>some ⟨1,4,false,[.int .i32 0],.int .i32⟩
 |22=>some ⟨1,24,false,[.slice none 0 0],.slice 40⟩
 |23=>some ⟨1,24,false,[.slice none 0 0],.slice 45⟩
 |24|25=>some ⟨2,48,true,[.slice none 0 0,.slice none 0 0],.struct [(0,none),(1,none)]⟩
 |27|28=>some ⟨2,16,true,[.int .i64 0,.int .i64 0],.struct [(0,none),(1,none)]⟩
 |32=>some ⟨1,24,false,[.slice none 0 0],.slice 3⟩
 |39|40=>some ⟨3,24,true,[.int .u8 0,.int .i64 0,.int .i64 0],.struct [(0,none),(1,none),(2,none)]⟩
 |44|45=>some ⟨5,40,true,[.int .u8 0,.int .i64 0,.int .i64 0,.int .i64 0,.int .i64 0],.struct [(0,none),(1,none),(2,none),(3,none),(4,none)]⟩
 |46=>some ⟨1,24,false,[.slice none 0 0],.slice 51⟩
 |50|51=>some ⟨3,32,true,[.int .u8 0,.int .i64 0,.string ⟨#[]⟩],.struct [(0,none),(1,none),(2,none)]⟩
 |53=>some ⟨1,2,false,[.int .u16 0],.int .u16⟩
 |54=>some ⟨1,24,false,[.slice none 0 0],.slice 9⟩
 |55=>some ⟨1,24,false,[.slice none 0 0],.slice 5⟩
 |57=>some ⟨1,24,false,[.slice none 0 0],.slice 90⟩
 |66|113|119=>some ⟨1,8,false,[.nilFunc],.other⟩
 |67=>some ⟨1,24,false,[.slice none 0 0],.slice 63⟩
 |68|69=>some ⟨5,56,true,[.int .u8 0,.int .i64 0,.int .i64 0,.int .i64 0,.slice none 0 0],.struct [(0,none),(1,none),(2,none),(3,none),(4,none)]⟩
 |79|80=>some ⟨5,80,true,[.string ⟨#[]⟩,.slice none 0 0,.slice none 0 0,.int .i64 0,.bool false],.struct [(0,none),(1,none),(2,none),(3,none),(4,none)]⟩
 |89|90=>some ⟨2,16,true,[.int .u8 0,.int .i64 0],.struct [(0,none),(1,none)]⟩
 |93=>some ⟨100,800,true,[.int .i64 0,.int .i64 0,.int .i64 0,.int .i64 0,.int .i64 0,.int .i64 0,.int .i64 0,.int .i64 0,.int .i64 0,.int .i64 0,.int .i64 0,.int .i64 0,.int .i64 0,.int .i64 0,.int .i64 0,.int .i64 0,.int .i64 0,.int .i64 0,.int .i64 0,.int .i64 0,.int .i64 0,.int .i64 0,.int .i64 0,.int .i64 0,.int .i64 0,.int .i64 0,.int .i64 0,.int .i64 0,.int .i64 0,.int .i64 0,.int .i64 0,.int .i64 0,.int .i64 0,.int .i64 0,.int .i64 0,.int .i64 0,.int .i64 0,.int .i64 0,.int .i64 0,.int .i64 0,.int .i64 0,.int .i64 0,.int .i64 0,.int .i64 0,.int .i64 0,.int .i64 0,.int .i64 0,.int .i64 0,.int .i64 0,.int .i64 0,.int .i64 0,.int .i64 0,.int .i64 0,.int .i64 0,.int .i64 0,.int .i64 0,.int .i64 0,.int .i64 0,.int .i64 0,.int .i64 0,.int .i64 0,.int .i64 0,.int .i64 0,.int .i64 0,.int .i64 0,.int .i64 0,.int .i64 0,.int .i64 0,.int .i64 0,.int .i64 0,.int .i64 0,.int .i64 0,.int .i64 0,.int .i64 0,.int .i64 0,.int .i64 0,.int .i64 0,.int .i64 0,.int .i64 0,.int .i64 0,.int .i64 0,.int .i64 0,.int .i64 0,.int .i64 0,.int .i64 0,.int .i64 0,.int .i64 0,.int .i64 0,.int .i64 0,.int .i64 0,.int .i64 0,.int .i64 0,.int .i64 0,.int .i64 0,.int .i64 0,.int .i64 0,.int .i64 0,.int .i64 0,.int .i64 0,.int .i64 0],.arr 100 3⟩
 |96=>some ⟨1,24,false,[.slice none 0 0],.slice 99⟩
 |98|99=>some ⟨3,24,true,[.int .i64 0,.int .i64 0,.int .i64 0],.struct [(0,none),(1,none),(2,none)]⟩
 |108=>some ⟨1,24,false,[.slice none 0 0],.slice 115⟩
 |110=>some ⟨1,24,false,[.slice none 0 0],.slice 112⟩
 |114|115=>some ⟨2,16,true,[.int .u8 0,.nilFunc],.struct [(0,none),(1,none)]⟩
 |116|117=>some ⟨7,80,true,[.int .u8 0,.int .i64 0,.string ⟨#[]⟩,.int .i64 0,.pointer none,.int .i64 0,.slice none 0 0],.struct [(0,some 3),(3,none),(4,none),(5,none),(6,none)]⟩
 |149|150=>some ⟨2,8,true,[.int .i32 0,.int .i32 0],.struct [(0,none),(1,none)]⟩
 |151=>some ⟨66,264,true,[.int .i32 0,.int .i32 0,.int .i32 0,.int .i32 0,.int .i32 0,.int .i32 0,.int .i32 0,.int .i32 0,.int .i32 0,.int .i32 0,.int .i32 0,.int .i32 0,.int .i32 0,.int .i32 0,.int .i32 0,.int .i32 0,.int .i32 0,.int .i32 0,.int .i32 0,.int .i32 0,.int .i32 0,.int .i32 0,.int .i32 0,.int .i32 0,.int .i32 0,.int .i32 0,.int .i32 0,.int .i32 0,.int .i32 0,.int .i32 0,.int .i32 0,.int .i32 0,.int .i32 0,.int .i32 0,.int .i32 0,.int .i32 0,.int .i32 0,.int .i32 0,.int .i32 0,.int .i32 0,.int .i32 0,.int .i32 0,.int .i32 0,.int .i32 0,.int .i32 0,.int .i32 0,.int .i32 0,.int .i32 0,.int .i32 0,.int .i32 0,.int .i32 0,.int .i32 0,.int .i32 0,.int .i32 0,.int .i32 0,.int .i32 0,.int .i32 0,.int .i32 0,.int .i32 0,.int .i32 0,.int .i32 0,.int .i32 0,.int .i32 0,.int .i32 0,.int .i32 0,.int .i32 0],.arr 33 150⟩
 |157=>some ⟨5,20,true,[.int .i32 0,.int .i32 0,.int .i32 0,.int .i32 0,.int .i32 0],.arr 5 21⟩
 |160|161=>some ⟨5,64,true,[.string ⟨#[]⟩,.int .i64 0,.int .u8 0,.slice none 0 0,.bool false],.struct [(0,none),(1,none),(2,none),(3,none),(4,none)]⟩
 |171=>some ⟨1,4,false,[.int .u32 0],.int .u32⟩
 |182|183=>some ⟨2,2,true,[.int .u8 0,.int .u8 0],.struct [(0,none),(1,none)]⟩
 |184=>some ⟨32,32,true,[.int .u8 0,.int .u8 0,.int .u8 0,.int .u8 0,.int .u8 0,.int .u8 0,.int .u8 0,.int .u8 0,.int .u8 0,.int .u8 0,.int .u8 0,.int .u8 0,.int .u8 0,.int .u8 0,.int .u8 0,.int .u8 0,.int .u8 0,.int .u8 0,.int .u8 0,.int .u8 0,.int .u8 0,.int .u8 0,.int .u8 0,.int .u8 0,.int .u8 0,.int .u8 0,.int .u8 0,.int .u8 0,.int .u8 0,.int .u8 0,.int .u8 0,.int .u8 0],.arr 16 183⟩
 |187|188=>some ⟨2,32,true,[.pointer none,.slice none 0 0],.struct [(0,none),(1,none)]⟩
 |207|208=>some ⟨4,40,true,[.pointer none,.pointer none,.pointer none,.string ⟨#[]⟩],.struct [(0,none),(1,none),(2,none),(3,none)]⟩
 |_=>none
theorem tO:H6 Tryz.prog ty:=by
 intro t i h
 unfold ty at h
 split at h<;>cases h<;>exact BP (by kernel_rfl) (by kernel_rfl) rfl rfl rfl
theorem mixed:Tryz.prog.follows .mixedOrders=true:=by kernel_rfl
theorem C2{n m:Nat}{ex cu:List Nat}{X:Hj}{S:St}{K:Kn}{κ:Kt}{rep:Jj}(pl:aM){id:Nat}{ops:Array Oper}(h:(Region.noSelect ops && aQ .any ops pl false ops.size (Array.replicate ops.size false))=true)(hk:Cc Tryz.prog ty rep n ops.toList pl K S κ):nB Tryz.prog n ty rep m ex cu (.region id ops true) X κ K S:=by
 rw [Bool.and_eq_true] at h
 exact dW tO mixed pl h.1 h.2 hk
end Go.Ex
namespace Go.Proofs
open Go.Shelf
def Tryz.lays161_ren:Go.Shelf.Ren:=⟨fun|161=>62|231=>111|227=>112|233=>113|235=>114|228=>155|197=>110|151=>156|260=>154|152=>179|137=>64|119=>209|224=>121|225=>120|217=>116|266=>157|n=>n,fun|9=>9|4=>4|3=>3|5=>5|117=>145|116=>144|0=>0|124=>148|105=>120|21=>21|119=>181|46=>156|139=>184|138=>183|n=>n,fun|3=>1|4=>2|n=>n⟩
theorem Tryz.lays161:Go.Proofs.Lays.n161 Tryz.prog Tryz.lays161_ren:={
 mixed:=by kernel_rfl
 f119:=Tryz.func209.trans (congrArg some (by kernel_rfl))
 f137:=Tryz.func64.trans (congrArg some (by kernel_rfl))
 f151:=Tryz.func156.trans (congrArg some (by kernel_rfl))
 f152:=Tryz.func179.trans (congrArg some (by kernel_rfl))
 f161:=Tryz.func62.trans (congrArg some (by kernel_rfl))
 f197:=Tryz.func110.trans (congrArg some (by kernel_rfl))
 f217:=Tryz.func116.trans (congrArg some (by kernel_rfl))
 f224:=Tryz.func121.trans (congrArg some (by kernel_rfl))
 f225:=Tryz.func120.trans (congrArg some (by kernel_rfl))
 f227:=Tryz.func112.trans (congrArg some (by kernel_rfl))
 f228:=Tryz.func155.trans (congrArg some (by kernel_rfl))
 f231:=Tryz.func111.trans (congrArg some (by kernel_rfl))
 f233:=Tryz.func113.trans (congrArg some (by kernel_rfl))
 f235:=Tryz.func114.trans (congrArg some (by kernel_rfl))
 f260:=Tryz.func154.trans (congrArg some (by kernel_rfl))
 f266:=Tryz.func157.trans (congrArg some (by kernel_rfl))
 t0:=Tryz.underlying0
 a0:=Tryz.isAgg0
 z0:=Tryz.sizeOf0
 v0:=Tryz.zeroValue0
 t3:=Tryz.underlying3
 a3:=Tryz.isAgg3
 z3:=Tryz.sizeOf3
 v3:=Tryz.zeroValue3
 t4:=Tryz.underlying4
 a4:=Tryz.isAgg4
 z4:=Tryz.sizeOf4
 v4:=Tryz.zeroValue4
 t5:=Tryz.underlying5
 a5:=Tryz.isAgg5
 z5:=Tryz.sizeOf5
 v5:=Tryz.zeroValue5
 t9:=Tryz.underlying9
 a9:=Tryz.isAgg9
 z9:=Tryz.sizeOf9
 v9:=Tryz.zeroValue9
 t21:=Tryz.underlying21
 a21:=Tryz.isAgg21
 z21:=Tryz.sizeOf21
 v21:=Tryz.zeroValue21
 t46:=Tryz.underlying156
 a46:=Tryz.isAgg156
 z46:=Tryz.sizeOf156
 v46:=Tryz.zeroValue156
 t105:=Tryz.underlying120
 a105:=Tryz.isAgg120
 z105:=Tryz.sizeOf120
 v105:=Tryz.zeroValue120
 t116:=Tryz.underlying144
 a116:=Tryz.isAgg144
 z116:=Tryz.sizeOf144
 t117:=Tryz.underlying145
 a117:=Tryz.isAgg145
 z117:=Tryz.sizeOf145
 v117:=Tryz.zeroValue145
 t119:=Tryz.underlying181
 a119:=Tryz.isAgg181
 z119:=Tryz.sizeOf181
 t124:=Tryz.underlying148
 a124:=Tryz.isAgg148
 z124:=Tryz.sizeOf148
 v124:=Tryz.zeroValue148
 t138:=Tryz.underlying183
 a138:=Tryz.isAgg183
 z138:=Tryz.sizeOf183
 v138:=Tryz.zeroValue183
 t139:=Tryz.underlying184
 a139:=Tryz.isAgg184
 z139:=Tryz.sizeOf184
 v139:=Tryz.zeroValue184
 g3:=by kernel_rfl
 g4:=by kernel_rfl }
def Tryz.lays119_ren:Go.Shelf.Ren:=⟨fun|119=>209|n=>n,fun|21=>21|4=>4|n=>n,fun|n=>n⟩
theorem Tryz.lays119:Go.Proofs.Lays.n119 Tryz.prog Tryz.lays119_ren:={
 mixed:=by kernel_rfl
 f119:=Tryz.func209.trans (congrArg some (by kernel_rfl))
 t4:=Tryz.underlying4
 a4:=Tryz.isAgg4
 z4:=Tryz.sizeOf4
 v4:=Tryz.zeroValue4
 t21:=Tryz.underlying21
 a21:=Tryz.isAgg21
 z21:=Tryz.sizeOf21
 v21:=Tryz.zeroValue21 }
theorem Tryz.utf8_ValidRune(r:Int)(w:World) :
 Calls Tryz.prog 209 #[.int .i32 r] w fun e w'=>e = .returned (.bool (Lib.validRune r))∧w'=w:=Any.utf8_ValidRune Tryz.lays119 r w
def Tryz.lays143_ren:Go.Shelf.Ren:=⟨fun|143=>44|219=>70|217=>116|225=>120|224=>121|267=>122|266=>157|314=>158|n=>n,fun|9=>9|3=>3|4=>4|5=>5|46=>156|146=>172|51=>171|n=>n,fun|1=>0|n=>n⟩
theorem Tryz.lays143:Go.Proofs.Lays.n143 Tryz.prog Tryz.lays143_ren:={
 mixed:=by kernel_rfl
 f143:=Tryz.func44.trans (congrArg some (by kernel_rfl))
 f217:=Tryz.func116.trans (congrArg some (by kernel_rfl))
 f219:=Tryz.func70.trans (congrArg some (by kernel_rfl))
 f224:=Tryz.func121.trans (congrArg some (by kernel_rfl))
 f225:=Tryz.func120.trans (congrArg some (by kernel_rfl))
 f266:=Tryz.func157.trans (congrArg some (by kernel_rfl))
 f267:=Tryz.func122.trans (congrArg some (by kernel_rfl))
 f314:=Tryz.func158.trans (congrArg some (by kernel_rfl))
 t3:=Tryz.underlying3
 a3:=Tryz.isAgg3
 z3:=Tryz.sizeOf3
 v3:=Tryz.zeroValue3
 t4:=Tryz.underlying4
 a4:=Tryz.isAgg4
 z4:=Tryz.sizeOf4
 v4:=Tryz.zeroValue4
 t5:=Tryz.underlying5
 a5:=Tryz.isAgg5
 z5:=Tryz.sizeOf5
 v5:=Tryz.zeroValue5
 t9:=Tryz.underlying9
 a9:=Tryz.isAgg9
 z9:=Tryz.sizeOf9
 v9:=Tryz.zeroValue9
 t46:=Tryz.underlying156
 a46:=Tryz.isAgg156
 z46:=Tryz.sizeOf156
 v46:=Tryz.zeroValue156
 t51:=Tryz.underlying171
 a51:=Tryz.isAgg171
 z51:=Tryz.sizeOf171
 v51:=Tryz.zeroValue171
 t146:=Tryz.underlying172
 a146:=Tryz.isAgg172
 z146:=Tryz.sizeOf172
 v146:=Tryz.zeroValue172
 g1:=by kernel_rfl }
open Go.RowKit Go.Lib in
theorem Tryz.strings_Index(s sub:ByteArray)(m:Int)(w:World)(hs:s.size<4294967281)(hm:w.cell? ⟨0,0,none⟩=some (.int .i64 m)) :
 Calls Tryz.prog 44 #[.string s,.string sub] w fun e w'=>e = .returned (.int .i64 (Lib.index s.data.toList sub.data.toList))∧w'=w:=Any.strings_Index Tryz.lays143 s sub m w hs hm
def Tryz.lays144_ren:Go.Shelf.Ren:=⟨fun|144=>34|143=>44|219=>70|217=>116|225=>120|224=>121|267=>122|266=>157|314=>158|n=>n,fun|9=>9|4=>4|3=>3|5=>5|46=>156|146=>172|51=>171|n=>n,fun|1=>0|n=>n⟩
theorem Tryz.lays144:Go.Proofs.Lays.n144 Tryz.prog Tryz.lays144_ren:={
 mixed:=by kernel_rfl
 f143:=Tryz.func44.trans (congrArg some (by kernel_rfl))
 f144:=Tryz.func34.trans (congrArg some (by kernel_rfl))
 f217:=Tryz.func116.trans (congrArg some (by kernel_rfl))
 f219:=Tryz.func70.trans (congrArg some (by kernel_rfl))
 f224:=Tryz.func121.trans (congrArg some (by kernel_rfl))
 f225:=Tryz.func120.trans (congrArg some (by kernel_rfl))
 f266:=Tryz.func157.trans (congrArg some (by kernel_rfl))
 f267:=Tryz.func122.trans (congrArg some (by kernel_rfl))
 f314:=Tryz.func158.trans (congrArg some (by kernel_rfl))
 t3:=Tryz.underlying3
 a3:=Tryz.isAgg3
 z3:=Tryz.sizeOf3
 v3:=Tryz.zeroValue3
 t4:=Tryz.underlying4
 a4:=Tryz.isAgg4
 z4:=Tryz.sizeOf4
 v4:=Tryz.zeroValue4
 t5:=Tryz.underlying5
 a5:=Tryz.isAgg5
 z5:=Tryz.sizeOf5
 v5:=Tryz.zeroValue5
 t9:=Tryz.underlying9
 a9:=Tryz.isAgg9
 z9:=Tryz.sizeOf9
 v9:=Tryz.zeroValue9
 t46:=Tryz.underlying156
 a46:=Tryz.isAgg156
 z46:=Tryz.sizeOf156
 v46:=Tryz.zeroValue156
 t51:=Tryz.underlying171
 a51:=Tryz.isAgg171
 z51:=Tryz.sizeOf171
 v51:=Tryz.zeroValue171
 t146:=Tryz.underlying172
 a146:=Tryz.isAgg172
 z146:=Tryz.sizeOf172
 v146:=Tryz.zeroValue172
 g1:=by kernel_rfl }
open Go.RowKit Go.Lib in
theorem Tryz.strings_Contains_one(s:ByteArray)(c:UInt8)(w:World) :
 Calls Tryz.prog 34 #[.string s,.string ⟨#[c]⟩] w fun e w'=>e = .returned (.bool (decide (0≤Lib.indexByte s.data.toList c)))∧w'=w:=Any.strings_Contains_one Tryz.lays144 s c w
open Go.RowKit Go.Lib in
theorem Tryz.strings_Contains(s sub:ByteArray)(m:Int)(w:World)(hs:s.size<4294967281)(hm:w.cell? ⟨0,0,none⟩=some (.int .i64 m)) :
 Calls Tryz.prog 34 #[.string s,.string sub] w fun e w'=>e = .returned (.bool (Lib.contains s.data.toList sub.data.toList))∧w'=w:=Any.strings_Contains Tryz.lays144 s sub m w hs hm
def Tryz.lays155_ren:Go.Shelf.Ren:=⟨fun|155=>123|154=>159|138=>180|165=>181|143=>44|166=>182|197=>110|169=>183|195=>210|218=>211|240=>212|241=>213|219=>70|260=>154|276=>230|277=>231|217=>116|225=>120|224=>121|267=>122|266=>157|314=>158|n=>n,fun|9=>9|3=>3|4=>4|72=>188|0=>0|76=>191|105=>120|21=>21|5=>5|70=>186|20=>20|37=>55|75=>190|127=>198|164=>204|46=>156|119=>181|139=>184|138=>183|146=>172|51=>171|80=>138|n=>n,fun|1=>0|3=>1|4=>2|n=>n⟩
theorem Tryz.lays155:Go.Proofs.Lays.n155 Tryz.prog Tryz.lays155_ren:={
 mixed:=by kernel_rfl
 f138:=Tryz.func180.trans (congrArg some (by kernel_rfl))
 f143:=Tryz.func44.trans (congrArg some (by kernel_rfl))
 f154:=Tryz.func159.trans (congrArg some (by kernel_rfl))
 f155:=Tryz.func123.trans (congrArg some (by kernel_rfl))
 f165:=Tryz.func181.trans (congrArg some (by kernel_rfl))
 f166:=Tryz.func182.trans (congrArg some (by kernel_rfl))
 f169:=Tryz.func183.trans (congrArg some (by kernel_rfl))
 f195:=Tryz.func210.trans (congrArg some (by kernel_rfl))
 f197:=Tryz.func110.trans (congrArg some (by kernel_rfl))
 f217:=Tryz.func116.trans (congrArg some (by kernel_rfl))
 f218:=Tryz.func211.trans (congrArg some (by kernel_rfl))
 f219:=Tryz.func70.trans (congrArg some (by kernel_rfl))
 f224:=Tryz.func121.trans (congrArg some (by kernel_rfl))
 f225:=Tryz.func120.trans (congrArg some (by kernel_rfl))
 f240:=Tryz.func212.trans (congrArg some (by kernel_rfl))
 f241:=Tryz.func213.trans (congrArg some (by kernel_rfl))
 f260:=Tryz.func154.trans (congrArg some (by kernel_rfl))
 f266:=Tryz.func157.trans (congrArg some (by kernel_rfl))
 f267:=Tryz.func122.trans (congrArg some (by kernel_rfl))
 f276:=Tryz.func230.trans (congrArg some (by kernel_rfl))
 f277:=Tryz.func231.trans (congrArg some (by kernel_rfl))
 f314:=Tryz.func158.trans (congrArg some (by kernel_rfl))
 t0:=Tryz.underlying0
 a0:=Tryz.isAgg0
 z0:=Tryz.sizeOf0
 v0:=Tryz.zeroValue0
 t3:=Tryz.underlying3
 a3:=Tryz.isAgg3
 z3:=Tryz.sizeOf3
 v3:=Tryz.zeroValue3
 t4:=Tryz.underlying4
 a4:=Tryz.isAgg4
 z4:=Tryz.sizeOf4
 v4:=Tryz.zeroValue4
 t5:=Tryz.underlying5
 a5:=Tryz.isAgg5
 z5:=Tryz.sizeOf5
 v5:=Tryz.zeroValue5
 t9:=Tryz.underlying9
 a9:=Tryz.isAgg9
 z9:=Tryz.sizeOf9
 v9:=Tryz.zeroValue9
 t20:=Tryz.underlying20
 a20:=Tryz.isAgg20
 z20:=Tryz.sizeOf20
 v20:=Tryz.zeroValue20
 t21:=Tryz.underlying21
 a21:=Tryz.isAgg21
 z21:=Tryz.sizeOf21
 v21:=Tryz.zeroValue21
 t37:=Tryz.underlying55
 a37:=Tryz.isAgg55
 z37:=Tryz.sizeOf55
 v37:=Tryz.zeroValue55
 t46:=Tryz.underlying156
 a46:=Tryz.isAgg156
 z46:=Tryz.sizeOf156
 v46:=Tryz.zeroValue156
 t51:=Tryz.underlying171
 a51:=Tryz.isAgg171
 z51:=Tryz.sizeOf171
 v51:=Tryz.zeroValue171
 t70:=Tryz.underlying186
 a70:=Tryz.isAgg186
 z70:=Tryz.sizeOf186
 v70:=Tryz.zeroValue186
 t72:=Tryz.underlying188
 a72:=Tryz.isAgg188
 z72:=Tryz.sizeOf188
 v72:=Tryz.zeroValue188
 t75:=Tryz.underlying190
 a75:=Tryz.isAgg190
 z75:=Tryz.sizeOf190
 v75:=Tryz.zeroValue190
 t76:=Tryz.underlying191
 a76:=Tryz.isAgg191
 z76:=Tryz.sizeOf191
 v76:=Tryz.zeroValue191
 t105:=Tryz.underlying120
 a105:=Tryz.isAgg120
 z105:=Tryz.sizeOf120
 v105:=Tryz.zeroValue120
 t119:=Tryz.underlying181
 a119:=Tryz.isAgg181
 z119:=Tryz.sizeOf181
 t127:=Tryz.underlying198
 a127:=Tryz.isAgg198
 z127:=Tryz.sizeOf198
 v127:=Tryz.zeroValue198
 t138:=Tryz.underlying183
 a138:=Tryz.isAgg183
 z138:=Tryz.sizeOf183
 v138:=Tryz.zeroValue183
 t139:=Tryz.underlying184
 a139:=Tryz.isAgg184
 z139:=Tryz.sizeOf184
 v139:=Tryz.zeroValue184
 t146:=Tryz.underlying172
 a146:=Tryz.isAgg172
 z146:=Tryz.sizeOf172
 v146:=Tryz.zeroValue172
 t164:=Tryz.underlying204
 a164:=Tryz.isAgg204
 z164:=Tryz.sizeOf204
 v164:=Tryz.zeroValue204
 g1:=by kernel_rfl
 g3:=by kernel_rfl
 g4:=by kernel_rfl }
theorem Tryz.Builder_Extra_155:Builder.Extra Tryz.prog Tryz.lays155_ren:={
 sizeBuilder:=by kernel_rfl
 liesBuilder:=by kernel_rfl
 t5:=Tryz.underlying5
 a5:=Tryz.isAgg5
 z5:=Tryz.sizeOf5
 v5:=Tryz.zeroValue5
 infoByte:=by kernel_rfl
 cellsByte:=by kernel_rfl
 sizeByte:=by kernel_rfl
 neB5:=by decide }
open Go.RowKit Go.Lib in
theorem Tryz.strings_ReplaceAll(s old new:ByteArray)(m:Int)(w:World)(hs:s.size<4294967281)(hm:w.cell? ⟨0,0,none⟩=some (.int .i64 m))(h1:1≤old.size)(hlen:s.size+Lib.countB s old*new.size≤140737488355328) :
 Calls Tryz.prog 123 #[.string s,.string old,.string new] w fun e w'=>
  e = .returned (.string ⟨(Lib.replaceAll s.data.toList old.data.toList new.data.toList).toArray⟩)∧Below w.heap.size w w':=Any.strings_ReplaceAll Tryz.lays155 Tryz.Builder_Extra_155 s old new m w hs hm h1 hlen
def Tryz.lays197_ren:Go.Shelf.Ren:=⟨fun|197=>110|260=>154|n=>n,fun|9=>9|21=>21|3=>3|4=>4|5=>5|105=>120|119=>181|0=>0|46=>156|139=>184|138=>183|n=>n,fun|3=>1|4=>2|n=>n⟩
theorem Tryz.lays197:Go.Proofs.Lays.n197 Tryz.prog Tryz.lays197_ren:={
 mixed:=by kernel_rfl
 f197:=Tryz.func110.trans (congrArg some (by kernel_rfl))
 f260:=Tryz.func154.trans (congrArg some (by kernel_rfl))
 t0:=Tryz.underlying0
 a0:=Tryz.isAgg0
 z0:=Tryz.sizeOf0
 v0:=Tryz.zeroValue0
 t3:=Tryz.underlying3
 a3:=Tryz.isAgg3
 z3:=Tryz.sizeOf3
 v3:=Tryz.zeroValue3
 t4:=Tryz.underlying4
 a4:=Tryz.isAgg4
 z4:=Tryz.sizeOf4
 v4:=Tryz.zeroValue4
 t5:=Tryz.underlying5
 a5:=Tryz.isAgg5
 z5:=Tryz.sizeOf5
 v5:=Tryz.zeroValue5
 t9:=Tryz.underlying9
 a9:=Tryz.isAgg9
 z9:=Tryz.sizeOf9
 v9:=Tryz.zeroValue9
 t21:=Tryz.underlying21
 a21:=Tryz.isAgg21
 z21:=Tryz.sizeOf21
 v21:=Tryz.zeroValue21
 t46:=Tryz.underlying156
 a46:=Tryz.isAgg156
 z46:=Tryz.sizeOf156
 v46:=Tryz.zeroValue156
 t105:=Tryz.underlying120
 a105:=Tryz.isAgg120
 z105:=Tryz.sizeOf120
 v105:=Tryz.zeroValue120
 t119:=Tryz.underlying181
 a119:=Tryz.isAgg181
 z119:=Tryz.sizeOf181
 t138:=Tryz.underlying183
 a138:=Tryz.isAgg183
 z138:=Tryz.sizeOf183
 v138:=Tryz.zeroValue183
 t139:=Tryz.underlying184
 a139:=Tryz.isAgg184
 z139:=Tryz.sizeOf184
 v139:=Tryz.zeroValue184
 g3:=by kernel_rfl
 g4:=by kernel_rfl }
def Tryz.lays260_ren:Go.Shelf.Ren:=⟨fun|260=>154|n=>n,fun|9=>9|21=>21|3=>3|4=>4|5=>5|119=>181|0=>0|46=>156|139=>184|138=>183|n=>n,fun|3=>1|4=>2|n=>n⟩
theorem Tryz.lays260:Go.Proofs.Lays.n260 Tryz.prog Tryz.lays260_ren:={
 mixed:=by kernel_rfl
 f260:=Tryz.func154.trans (congrArg some (by kernel_rfl))
 t0:=Tryz.underlying0
 a0:=Tryz.isAgg0
 z0:=Tryz.sizeOf0
 v0:=Tryz.zeroValue0
 t3:=Tryz.underlying3
 a3:=Tryz.isAgg3
 z3:=Tryz.sizeOf3
 v3:=Tryz.zeroValue3
 t4:=Tryz.underlying4
 a4:=Tryz.isAgg4
 z4:=Tryz.sizeOf4
 v4:=Tryz.zeroValue4
 t5:=Tryz.underlying5
 a5:=Tryz.isAgg5
 z5:=Tryz.sizeOf5
 v5:=Tryz.zeroValue5
 t9:=Tryz.underlying9
 a9:=Tryz.isAgg9
 z9:=Tryz.sizeOf9
 v9:=Tryz.zeroValue9
 t21:=Tryz.underlying21
 a21:=Tryz.isAgg21
 z21:=Tryz.sizeOf21
 v21:=Tryz.zeroValue21
 t46:=Tryz.underlying156
 a46:=Tryz.isAgg156
 z46:=Tryz.sizeOf156
 v46:=Tryz.zeroValue156
 t119:=Tryz.underlying181
 a119:=Tryz.isAgg181
 z119:=Tryz.sizeOf181
 t138:=Tryz.underlying183
 a138:=Tryz.isAgg183
 z138:=Tryz.sizeOf183
 v138:=Tryz.zeroValue183
 t139:=Tryz.underlying184
 a139:=Tryz.isAgg184
 z139:=Tryz.sizeOf184
 v139:=Tryz.zeroValue184
 g3:=by kernel_rfl
 g4:=by kernel_rfl }
open Go.RowKit Go.Lib in
theorem Tryz.utf8_DecodeRuneInString(s:ByteArray)(w:World)(hT:Lib.Utf8Tabs 1 2 w) :
 Calls Tryz.prog 110 #[.string s] w fun e w'=>e = .returned (.tuple #[.int .i32 (Lib.decodeGo s).1,.int .i64 (Lib.decodeGo s).2])∧Below w.heap.size w w':=Any.utf8_DecodeRuneInString Tryz.lays197 s w hT
end Go.Proofs
