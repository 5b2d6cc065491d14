/-
  Top: TopDeep: whatever the input, the law answers true (part 25)
-/
import Derived.Test.YtpjdgifhhnjclaaGreatDoorM24
set_option linter.unusedVariables false
set_option linter.unusedSimpArgs false
set_option maxHeartbeats 4000000
set_option maxRecDepth 10000
namespace Go.Ex
open Go.Proofs
attribute [local irreducible] CH CsP word kindT
theorem TsI.get{lo:Nat}{h:Heap}{cap:List Nat}:∀ {l:List Nd} {ps:List (Option Addr)},TsI lo h cap ps l→∀ i,i<l.length→∃ b,ps[i]?=some (some ⟨b,0,none⟩)∧TrI lo h cap (some ⟨b,0,none⟩) (l.getD i nd0)
 |[],ps,hT,i,hi=>absurd hi (Nat.not_lt_zero i)
 |x::l,ps,hT,i,hi=>by
  simp only [TsI] at hT
  obtain⟨p,r,rfl,h1,h2⟩:=hT
  cases i with
  |zero=>
   obtain⟨b,rfl⟩:=h1.ptr
   exact⟨b,rfl,h1⟩
  |succ i=>
   obtain⟨b,h3,h4⟩:=h2.get i (by simpa using hi)
   exact⟨b,by simpa using h3,by simpa using h4⟩
theorem getI_ptr{ps:List (Option Addr)}{i:Nat}{p:Option Addr}(h:ps[i]?=some p)(j:Int)(hj:j.toNat=i):subN 0 1 (ptrR.cells (getI ptrR.dflt ps j))=some [.pointer p]:=by
 have:getI ptrR.dflt ps j=p:=by simp [getI,List.getD,hj,h]
 rw [this];rfl
theorem u63:Tryz.prog.underlying 63=some (.pointer 69):=by kernel_rfl
theorem eq_nn'(d:Nat)(w:World):(Op.equalIn (d+1) 63 (.pointer none) (.pointer none)).run Tryz.prog w = .ok true w:=by
 simp [Op.equalIn,underlying,u63]
theorem eq_sn'(d:Nat)(a:Addr)(w:World):(Op.equalIn (d+1) 63 (.pointer (some a)) (.pointer none)).run Tryz.prog w = .ok false w:=by
 simp [Op.equalIn,underlying,u63]
theorem eq_nn(w:World):(Op.equalIn Op.maxDepth 63 (.pointer none) (.pointer none)).run Tryz.prog w = .ok true w:=eq_nn' 9999 w
theorem eq_sn(a:Addr)(w:World):(Op.equalIn Op.maxDepth 63 (.pointer (some a)) (.pointer none)).run Tryz.prog w = .ok false w:=eq_sn' 9999 a w
theorem nil_eql{κ:KV→Prop}(h:κ (.prop ((0:Int)=0))):EqK Tryz.prog .eql 63 (.val (.pointer none)) (.val (.pointer none)) κ:=⟨_,fun u v w=>by
 show (do eqGuard .eql 63 u v (.pointer none) (.pointer none);binOp .eql 63 (.pointer none) (.pointer none):Sem Value).run Tryz.prog w = _
 simp [eqGuard,binOp,Op.equal,eq_nn,denC],h⟩
theorem some_eql{κ:KV→Prop}{a:Addr}(h:κ (.prop ((0:Int)=1))):EqK Tryz.prog .eql 63 (.val (.pointer (some a))) (.val (.pointer none)) κ:=⟨_,fun u v w=>by
 show (do eqGuard .eql 63 u v (.pointer (some a)) (.pointer none);binOp .eql 63 (.pointer (some a)) (.pointer none):Sem Value).run Tryz.prog w = _
 simp [eqGuard,binOp,Op.equal,eq_sn,denC],h⟩
theorem nil_neq{κ:KV→Prop}(h:κ (.prop ((0:Int)=1))):EqK Tryz.prog .neq 63 (.val (.pointer none)) (.val (.pointer none)) κ:=⟨_,fun u v w=>by
 show (do eqGuard .neq 63 u v (.pointer none) (.pointer none);binOp .neq 63 (.pointer none) (.pointer none):Sem Value).run Tryz.prog w = _
 simp [eqGuard,binOp,Op.equal,eq_nn,denC],h⟩
theorem some_neq{κ:KV→Prop}{a:Addr}(h:κ (.prop ((0:Int)=0))):EqK Tryz.prog .neq 63 (.val (.pointer (some a))) (.val (.pointer none)) κ:=⟨_,fun u v w=>by
 show (do eqGuard .neq 63 u v (.pointer (some a)) (.pointer none);binOp .neq 63 (.pointer (some a)) (.pointer none):Sem Value).run Tryz.prog w = _
 simp [eqGuard,binOp,Op.equal,eq_sn,denC],h⟩
theorem WfL.get:∀ {l:List Nd} (i:Nat),WfL l→i<l.length→Wf (l.getD i nd0)
 |[],i,_,h=>absurd h (Nat.not_lt_zero i)
 |x::l,0,h,_=>h.1
 |x::l,i+1,h,hi=>by simpa using WfL.get i h.2 (by simpa using hi)
theorem Wf.kids:∀ {x:Nd},Wf x→leK x.kind≤x.kids.length∧WfL x.kids
 |.mk ..,h=>by simp only [Wf] at h;exact h
theorem XLoad.kid{S:St}{lo:Nat}{A:Option Addr}{n:Nat}{ps:List (Option Addr)}{l:List Nd}{κ:KV→Prop}(i:Nat)(hA:Held ptrR S.h0 S.cap A n ps)(hT:TsI lo S.h0 S.cap ps l)(hl:i<l.length)
 (hk:∀ b,TrI lo S.h0 S.cap (some ⟨b,0,none⟩) (l.getD i nd0)→readK false (mapC [.pointer (some ⟨b,0,none⟩)]) κ):XLoad S A 1 (i:Int) 0 1 false κ:=by
 obtain⟨b,h1,h2⟩:=hT.get i hl
 have hlen:=hA.sl.len_eq
 have hll:=hT.len
 exact XLoad.held hA rfl (by omega) (by omega) (getI_ptr h1 (i:Int) rfl) (hk b h2)
theorem Wd.kid{I:In}{M:Loc}{cE:List Nat}{hE h0:Heap}{cap:List Nat}{its:List It}(W:Wd I M cE hE h0 cap its){p q:Option Addr}{x:Nd}(hi:It.one p x∈its){i:Nat}(hT:TrI hE.size h0 cap q (x.kids.getD i nd0))(hl:i<x.kids.length):Wd I M cE hE h0 cap (.one q (x.kids.getD i nd0)::its):=
 W.add ⟨hT,(W.wf hi).kids.2.get i hl⟩
theorem Wd.len1{I:In}{M:Loc}{cE:List Nat}{hE h0:Heap}{cap:List Nat}{its:List It}(W:Wd I M cE hE h0 cap its){p:Option Addr}{x:Nd}{k:Int}(h:x.kind=k)(hi:It.one p x∈its)(hk:0<leK k):0<x.kids.length:=by
 have:=(W.wf hi).kids.1
 rw [h] at this
 omega
theorem last_getD:∀ (x:Nd) (r:List Nd),(x::r).getLastD nd0=(x::r).getD r.length nd0
 |x,[]=>rfl
 |x,y::r=>by
  have:=last_getD y r
  simpa using this
section
variable {I:In}{M:Loc}{br:Nat}{t:Bool}{n:Int}{h:Heap}{cap:List Nat}{lo:Nat}
theorem list_any{A:Option Addr}{len c:Nat}{ps:List (Option Addr)}{l:List Nd}{k:Int}(hs:HS ⟨h,[br],rdC I M br t n⟩ h)(hbr:br∈cap)(hcap:∀ x∈cap,x<h.size)(hlo:lo≤h.size)(hy:Held ptrR h cap A len ps)(ha:∀ a,0<len→A=some a→lo≤a.block)(hT:TsI lo h cap ps l) :
 CH Tryz.prog 107 #[ptr br,.int .u8 k,.slice A len c] h fun v h'=>∃ b,v=ptr b∧Grows h h'∧TrI lo h' cap (some ⟨b,0,none⟩) (listN k l n):=by
 refine eIn (rep:=rep) (m:=4) (ex:=[6,7,13]) (cu:=[]) (args:=[.own 900 br 0,.val (.int .u8 k),.val (.slice A len c)]) tO Tryz.func107 rfl (by decide) (rs:=[.tmp 6]) rfl rfl rfl hs ?_
 have hs0:=hs
 have hlen:=hy.sl.len_eq
 have hll:=hT.len
 have hsm:=hy.sl.small
 have hsl:=hy.sl
 have fresh:∀ (b:Nat),h.size≤b→b∉cap:=fun b hb hm=>by have:=hcap b hm;omega
 cases l with
 |nil=>
  simp only [List.length_nil] at hll
  ((repeat' ((conv=>whnf);(first|(refine Br.mk ?_ ?_<;>intro hb<;>(try (exfalso;omega)))|(refine CK.box 901 _ (fun h1 hs=>none_k hs rfl _) ?_;intro b hbb)|fail)));all_goals (try (conv=>whnf)))
  all_goals exact⟨fun h' hs=>⟨b,rfl,hs0.gB hs rfl,tree_leaf ⟨Nat.le_trans hlo hbb,(hs.chunk _ List.mem_cons_self).1,fresh b hbb⟩ (hs.chunk _ List.mem_cons_self).2.2⟩⟩
 |cons x r=>
  obtain⟨b0,g0,T0⟩:=hT.get 0 (by simp)
  obtain⟨bl,gl,Tl⟩:=hT.get r.length (by simp)
  rw [←last_getD] at Tl
  rw [List.getD_cons_zero] at T0
  simp only [List.length_cons] at hll
  have hy1:Held ptrR h [br] A len ps:=⟨hy.sl,fun h0 a e=>⟨(hy.out h0 a e).1,fun hm=>(hy.out h0 a e).2 (by rw [List.mem_singleton.1 hm];exact hbr)⟩⟩
  have T0:TrI lo h [br] (some ⟨b0,0,none⟩) x:=TrI.recap (fun c hc=>.inl (by rw [List.mem_singleton.1 hc];exact hbr)) (Nat.le_refl _) x T0
  have Tl:TrI lo h [br] (some ⟨bl,0,none⟩) ((x::r).getLastD nd0):=TrI.recap (fun c hc=>.inl (by rw [List.mem_singleton.1 hc];exact hbr)) (Nat.le_refl _) _ Tl
  have e0:=getI_ptr g0 0 rfl
  have el:=getI_ptr gl ((len:Int)-1) (by omega)
  ((repeat' ((conv=>whnf);(first|(refine Br.mk ?_ ?_<;>intro hb<;>(try (exfalso;omega)))|(refine CK.box 901 _ (fun h1 hs=>none_k hs rfl _) ?_;intro b hbb)|fail)));all_goals (try (conv=>whnf)))
  all_goals ((refine dW (id:=3) tO mixed (.pull 0 [19,20,21,22,23,24,25,26,27] (.pull 1 [22,23,24,25,26,27] (.pull 2 [25,26,27] (.pull 3 [4,5,6,7,8,19,20,21,22,23,24,25,26,27] (.pull 4 [5,6,7,8,19,20,21,22,23,24,25,26,27] (.pull 9 [13,14,15,16,17,19,20,21,22,23,24,25,26,27] (.pull 10 [11,12,13,14,15,16,17,19,20,21,22,23,24,25,26,27] (.pull 11 [12,13,14,15,16,17,19,20,21,22,23,24,25,26,27] (.pull 12 [13,14,15,16,17,19,20,21,22,23,24,25,26,27] (.pull 13 [14,15,16,17,19,20,21,22,23,24,25,26,27] (.pull 18 [25,26,27] (.br 5 14 (.pull 6 [7,8,19,20,21,22,23,24,25,26,27] (.pull 7 [8,19,20,21,22,23,24,25,26,27] (.pull 14 [15,16,17,19,20,21,22,23,24,25,26,27] (.pull 15 [16,17,19,20,21,22,23,24,25,26,27] (.pull 16 [17,19,20,21,22,23,24,25,26,27] (.pull 8 [19,20,21,22,23,24,25,26,27] (.pull 17 [19,20,21,22,23,24,25,26,27] (.pull 19 [20,21,22,23,24,25,26,27] (.pull 20 [21,22,23,24,25,26,27] (.one 21 (.pull 22 [23,24,25,26,27] (.pull 23 [24,25,26,27] (.one 24 (.pull 25 [26,27] (.pull 26 [27] (.one 27 .done)))))))))))))))) (.pull 15 [16,17,19,20,21,22,23,24,25,26,27] (.pull 16 [17,19,20,21,22,23,24,25,26,27] (.pull 5 [6,7,8,19,20,21,22,23,24,25,26,27] (.pull 6 [7,8,19,20,21,22,23,24,25,26,27] (.pull 7 [8,19,20,21,22,23,24,25,26,27] (.pull 8 [19,20,21,22,23,24,25,26,27] (.pull 17 [19,20,21,22,23,24,25,26,27] (.pull 19 [20,21,22,23,24,25,26,27] (.pull 20 [21,22,23,24,25,26,27] (.one 21 (.pull 22 [23,24,25,26,27] (.pull 23 [24,25,26,27] (.one 24 (.pull 25 [26,27] (.pull 26 [27] (.one 27 .done)))))))))))))))))))))))))))) (by kernel_rfl) (by kernel_rfl) ?_))
  ((repeat' ((conv=>whnf);(first|(refine Ar.fit (by omega) ?_)|(refine VC.mk (by (first|omega|exact Sl.plain (by assumption) (by omega))) ?_)|(refine Two.mk ?_ ?_)|(refine XLoad.held hy1 rfl (by omega) (by omega) (l:=[.pointer (some ⟨b0,0,none⟩)]) e0 ?_)|(refine XLoad.held hy1 rfl (by omega) (by omega) (l:=[.pointer (some ⟨bl,0,none⟩)]) el ?_)|(refine PLoad.frm T0 ?_)|(refine PLoad.to Tl ?_)|fail)));all_goals (try (conv=>whnf)))
  all_goals
   refine⟨fun h' hs=>⟨b,rfl,hs0.gB hs rfl,?_⟩⟩
   have hg:=hs0.gB hs rfl
   have hl:Later h cap h' cap:=⟨hg.size,fun b hb _=>hg.same b hb,fun c hc=>.inl hc⟩
   exact tree_node (l:=x::r) ⟨Nat.le_trans hlo hbb,(hs.chunk _ List.mem_cons_self).1,fresh b hbb⟩ (hs.chunk _ List.mem_cons_self).2.2 (hy.later hl) ha (TsI.later hl (Nat.le_refl _) _ hT)
end
section
variable {I:In}{M:Loc}{br:Nat}{cE:List Nat}{hE:Heap}{its:List It}{S:St}{t:Bool}{n:Int}{α:Type}{oC:Out α}{args caps:List KV}{κ:KV→St→Prop}{E:Value→Heap→Prop}
theorem wf_list{k:Int}{l:List Nd}(hk:leK k=0)(hl:WfL l):Wf (listN k l n):=by
 cases l with
 |nil=>exact wf_leaf hk
 |cons x r=>simp only [listN,Wf,hk];exact⟨Nat.zero_le _,hl⟩
theorem CK.listH{r:KV}{k:Int}{A:Option Addr}{len c:Nat}{ps:List (Option Addr)}{l:List Nd}(W:Wd I M cE hE S.h0 S.cap its)(hf:findC S.ch 900=some (br,rdB I M t n))(h1:den1 r=ptr br)(hi:It.sl A len ps l∈its)(hk0:leK k=0)
 (hk:∀ b h',Wd I M cE hE h' (blks S.ch) (.one (some ⟨b,0,none⟩) (listN k l n)::its)→κ (.val (.pointer (some ⟨b,0,none⟩))) ⟨h',blks S.ch,S.ch⟩):CK Tryz.prog E 107 [r,.val (.int .u8 k),.val (.slice A len c)] [] S κ:=
 ⟨fun h hs=>.inl (by
  obtain⟨i1,i2,i3,i4⟩:=W.its _ hi
  have lb:=hs.lB
  have e:List.map den1 [r,.val (.int .u8 k),.val (.slice A len c)]++List.map denC []=[ptr br,.int .u8 k,.slice A len c]:=by simp only [List.map_cons,List.map_nil,List.append_nil,h1];rfl
  rw [e]
  refine (list_any (lo:=hE.size) (rd_at hs hf) (blk_mem hf) (fun x hx=>(hs.blks_of hx).1) (Nat.le_trans W.later.size hs.size) (i1.later lb) i2 (TsI.later lb (Nat.le_refl _) l i3)).mono fun v h' ⟨b,e1,hg,hT⟩=>?_
  have h9:=hs.later hg
  exact⟨_,_,by rw [e1];rfl,h9.anew,hk b h' ((W.anew h9.lB).add ⟨hT,wf_list hk0 i4⟩)⟩)⟩
theorem CK.listZ{r:KV}{k:Int}(W:Wd I M cE hE S.h0 S.cap its)(hf:findC S.ch 900=some (br,rdB I M t n))(h1:den1 r=ptr br)(hk0:leK k=0)
 (hk:∀ b h',Wd I M cE hE h' (blks S.ch) (.one (some ⟨b,0,none⟩) (listN k [] n)::its)→κ (.val (.pointer (some ⟨b,0,none⟩))) ⟨h',blks S.ch,S.ch⟩):CK Tryz.prog E 107 [r,.val (.int .u8 k),.val (.slice none 0 0)] [] S κ:=
 CK.listH (ps:=[]) (l:=[]) (W.add (i:=.sl none 0 [] []) ⟨⟨Sl.nil _ _ _,fun h0=>absurd h0 (Nat.lt_irrefl 0)⟩,fun a h0=>absurd h0 (Nat.lt_irrefl 0),TsI.nil,trivial⟩) hf h1 List.mem_cons_self hk0
  fun b h' W'=>hk b h' (W'.of fun e he=>by
   rcases List.mem_cons.1 he with rfl|he
   ·exact List.mem_cons_self
   ·exact List.mem_cons_of_mem _ (List.mem_cons_of_mem _ he))
theorem CK.listO{r:KV}{k:Int}{kk b2 cap:Nat}{ln:Int}{ps:List (Option Addr)}{l:List Nd}(W:Wd I M cE hE S.h0 S.cap its)(hf:findC S.ch 900=some (br,rdB I M t n))(h1:den1 r=ptr br)(h3:findC S.ch kk=some (b2,.arr 63 ptrR ps cap))(h4:Nat.beq kk 900=false)(hl:ln=ps.length)
 (hcE:cE=[br]) (hT:TsI hE.size S.h0 S.cap ps l∧WfL l) (hk0:leK k=0)
 (hk:∀ b h',delC S.ch kk fun ch=>Wd I M cE hE h' (blks ch) (.one (some ⟨b,0,none⟩) (listN k l n)::its)→κ (.val (.pointer (some ⟨b,0,none⟩))) ⟨h',blks ch,ch⟩):CK Tryz.prog E 107 [r,.val (.int .u8 k),.osl kk b2 ln cap] [] S κ:=
 ⟨fun h hs=>.inl (by
  subst hl
  have h4:=nbF h4
  have e:List.map den1 [r,.val (.int .u8 k),.osl kk b2 (ps.length:Int) cap]++List.map denC []=[ptr br,.int .u8 k,.slice (some ⟨b2,0,none⟩) ps.length cap]:=by simp only [List.map_cons,List.map_nil,List.append_nil,h1];rfl
  rw [e]
  have hsl:=hs.sl h3 (Nat.le_refl _)
  rw [List.take_length] at hsl
  have hlo:=W.lo_own hs h3 (by rw [hcE];exact fun hm=>hs.ne h3 hf h4 (List.mem_singleton.1 hm))
  -- what is left
  have hch:∃ ch:Chs,ch.Sublist S.ch∧(∀ e∈ch,e.1≠kk)∧(∀ e∈S.ch,e.1≠kk→e∈ch)∧∀ b h',Wd I M cE hE h' (blks ch) (.one (some ⟨b,0,none⟩) (listN k l n)::its)→κ (.val (.pointer (some ⟨b,0,none⟩))) ⟨h',blks ch,ch⟩:=by
   have key:∀ (ch:Chs),∃ ch',ch'.Sublist ch∧(∀ e∈ch',e.1≠kk)∧(∀ e∈ch,e.1≠kk→e∈ch')∧∀ q:Chs→Prop,delC ch kk q→q ch':=by
    intro ch
    induction ch with
    |nil=>exact⟨[],.slnil,fun e he=>(by cases he),fun e he=>(by cases he),fun q h=>h⟩
    |cons e0 r0 ih=>
     obtain⟨j,b0,c0⟩:=e0
     obtain⟨ch',i1,i2,i4,i3⟩:=ih
     cases hj:Nat.beq j kk with
     |true=>exact⟨ch',i1.cons _,i2,fun e he hne=>(List.mem_cons.1 he).elim (fun h=>absurd (by rw [h];exact nbT hj) hne) fun h=>i4 e h hne,fun q h=>i3 q (by simp only [delC,hj] at h;exact h)⟩
     |false=>exact⟨(j,b0,c0)::ch',i1.cons_cons _,fun e he=>(List.mem_cons.1 he).elim (fun h=>by rw [h];exact nbF hj) fun h=>i2 e h,fun e he hne=>(List.mem_cons.1 he).elim (fun h=>by rw [h];exact List.mem_cons_self) fun h=>List.mem_cons_of_mem _ (i4 e h hne),fun q h=>i3 (fun r=>q ((j,b0,c0)::r)) (by simp only [delC,hj] at h;exact h)⟩
   obtain⟨ch',i1,i2,i4,i3⟩:=key S.ch
   exact⟨ch',i1,i2,i4,fun b h'=>i3 _ (hk b h')⟩
  obtain⟨ch,c1,c2,c4,c3⟩:=hch
  have hbr:br∈blks ch:=blks_mem (c4 _ (fM hf) (fun e=>h4 e.symm))
  have lb:Later S.h0 S.cap h (blks ch):=hs.lB.less fun x hx=>by
   obtain⟨e,he,rfl⟩:=bsp hx
   exact blks_mem (c1.subset he)
  have hnb:b2∉blks ch:=fun hm=>by
   obtain⟨e,he,e2⟩:=bsp hm
   exact apart_of hs.apart (c1.subset he) (fM h3) (fun e3=>c2 e he (by rw [e3])) e2
  refine (list_any (lo:=hE.size) (cap:=blks ch) (rd_at hs hf) hbr (fun x hx=>by
   obtain⟨e,he,rfl⟩:=bsp hx
   exact (hs.chunk e (c1.subset he)).1) (Nat.le_trans W.later.size hs.size) ⟨hsl,fun h0 a e=>by cases e;exact⟨(hs.chunk _ (fM h3)).1,hnb⟩⟩ (fun a h0 e=>by cases e;exact hlo) (TsI.later lb (Nat.le_refl _) l hT.1)).mono fun v h' ⟨b,e1,hg,hT'⟩=>?_
  have h9:HS ⟨S.h0,S.cap,ch⟩ h':=(hs.sub c1).later hg
  exact⟨_,_,by rw [e1];rfl,h9.anew,c3 b h' ((W.anew h9.lB).add ⟨hT',wf_list hk0 hT.2⟩)⟩)⟩
end
end Go.Ex
