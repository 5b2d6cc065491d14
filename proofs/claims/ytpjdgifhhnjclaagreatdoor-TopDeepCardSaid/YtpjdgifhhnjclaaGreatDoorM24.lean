/-
  Top: TopDeep: whatever the input, the law answers true (part 24)
-/
import Derived.Test.YtpjdgifhhnjclaaGreatDoorM23
set_option linter.unusedVariables false
set_option linter.unusedSimpArgs false
set_option maxHeartbeats 4000000
set_option maxRecDepth 10000
namespace Go.Ex
open Go.Proofs
attribute [local irreducible] CH CsP word kindT
section
variable {I:In}{M:Loc}{br:Nat}{cE:List Nat}{hE:Heap}{its:List It}{S:St}{t:Bool}{n:Int}{α:Type}{oC:Out α}{args caps:List KV}{κ:KV→St→Prop}{E:Value→Heap→Prop}
theorem HS.step{h h':Heap}(hs:HS S h){l r:Chs}{k b:Nat}{c0 c:Chunk}{ch:Chs}(hc:S.ch=l++(k,b,c0)::r)(h1:HS ⟨h,[b],[(k,b,c)]⟩ h'):HS ⟨S.h0,S.cap,l++(k,b,c)::r⟩ h':=
 hs.upd hc h1.size (fun j hj hlt=>h1.frame j hlt fun hm=>hj (List.mem_singleton.1 hm)) (h1.chunk _ List.mem_cons_self).2.2
theorem CK.want(W:Wd I M cE hE S.h0 S.cap its){w:ByteArray}(hw:¬ w=⟨#[]⟩)(hn:0≤n∧n≤I.L)(ha:args.map den1++caps.map denC=[ptr br,.string w])(hf:findC S.ch 900=some (br,rdB I M t n))
 (herr:¬ word I n=w→oC = .err n) (hk:word I n=w→n<I.L→updC S.ch 900 (rdB I M t (n+1)) fun ch=>κ (.tup []) ⟨S.h0,S.cap,ch⟩):CK Tryz.prog (ErrE I M br cE hE oC) 103 args caps S κ:=
 ⟨fun h hs=>.inr (.inr (by
  rw [ha]
  refine (want_any W.ok (rd_at hs hf) (W.base.at1 hs hf) hn w hw).mono (fun v h' he=>he.up W hs (blk1 hf) List.mem_cons_self fun x hx=>?_) fun v h' ⟨e1,e2,e3⟩=>?_
  ·unfold Go.Ex.want at hx
   split at hx
   ·cases hx
   ·rename_i h0;cases hx;exact herr h0
  ·obtain⟨l,r,b',c0,e4,e5,h8⟩:=updC_sound (hk e2 (word_lt (e2▸hw)).2)
   rw [hf] at e5
   cases e5
   exact⟨_,_,by rw [e1];rfl,hs.step (ch:=[]) e4 e3,h8⟩))⟩
theorem CK.maybe(ok:InOk I)(hB:Base I M S.h0 S.cap){w:ByteArray}(hw:¬ w=⟨#[]⟩)(ha:args.map den1++caps.map denC=[ptr br,.string w])(hf:findC S.ch 900=some (br,rdB I M t n))
 (hy:word I n=w→n<I.L→updC S.ch 900 (rdB I M t (n+1)) fun ch=>κ (.val (.bool true)) ⟨S.h0,S.cap,ch⟩) (hno:¬ word I n=w→κ (.val (.bool false)) S):CK Tryz.prog E 57 args caps S κ:=
 ⟨fun h hs=>.inl (by
  rw [ha]
  refine (maybe_any ok (rd_at hs hf) (hB.at1 hs hf) w hw).mono fun v h' hv=>?_
  rcases hv with ⟨e2,e1,e3⟩|⟨e2,e1,e3⟩
  ·obtain⟨l,r,b',c0,e4,e5,h8⟩:=updC_sound (hy e2 (word_lt (e2▸hw)).2)
   rw [hf] at e5
   cases e5
   exact⟨_,_,by rw [e1];rfl,hs.step (ch:=[]) e4 e3,h8⟩
  ·exact⟨_,_,by rw [e1];rfl,hs.later e3,hno e2⟩)⟩
theorem CK.box{f:Nat}(k:Nat)(c:Chunk)(hh:∀ h,HS S h→CH Tryz.prog f (args.map den1++caps.map denC).toArray h fun v h'=>∃ b,v=ptr b∧(h.size≤b∧b<h'.size)∧Grows h h'∧ChunkAt h' b c)
 (hk:∀ b,S.h0.size≤b→delC S.ch k fun ch=>κ (.own k b 0) ⟨S.h0,S.cap,(k,b,c)::ch⟩):CK Tryz.prog E f args caps S κ:=
 ⟨fun h hs=>.inl ((hh h hs).mono fun v h' ⟨b,e1,⟨b0,b1⟩,e2,e3⟩=>by
  obtain⟨ch,h1,h2,_⟩:=delC_sound (hk b (Nat.le_trans hs.size b0))
  exact⟨_,_,by rw [e1];rfl,hs.new h2 b0 b1 e2.same e3,h1⟩)⟩
theorem open_k{h:Heap}(hs:HS S h)(hf:findC S.ch 900=some (br,rdB I M t n))(k:Int):CH Tryz.prog 102 #[ptr br,.int .u8 k] h fun v h'=>∃ b,v=ptr b∧(h.size≤b∧b<h'.size)∧Grows h h'∧ChunkAt h' b (nodeB k (-1) n 0 nilS):=open_any (rd_at hs hf) k
theorem none_k{h:Heap}(hs:HS S h)(hf:findC S.ch 900=some (br,rdB I M t n))(k:Int):CH Tryz.prog 143 #[ptr br,.int .u8 k] h fun v h'=>∃ b,v=ptr b∧(h.size≤b∧b<h'.size)∧Grows h h'∧ChunkAt h' b (nodeB k (-1) n n nilS):=none_any (rd_at hs hf) k
theorem HS.less2{h h':Heap}(hs:HS S h){kn bn:Nat}{cn:Chunk}(hf:findC S.ch 900=some (br,rdB I M t n))(hfn:findC S.ch kn=some (bn,cn)){ch:Chs}(hsub:ch.Sublist S.ch)(hno:∀ e∈ch,e.1≠kn){c1:List Nat}
 (hsz:h.size≤h'.size) (hsame:∀ b,b<h.size→b∉c1→h'[b]?=h[b]?) (hr:ChunkAt h' br (rdB I M t n)) (hc1:∀ e∈ch,e.2.1∈c1→e.2.1=br) (hcap:∀ b∈c1,b∈blks S.ch):HS ⟨S.h0,S.cap,ch⟩ h':=by
 refine⟨Nat.le_trans hs.size hsz,fun b hb hn=>(hsame b (Nat.lt_of_lt_of_le hb hs.size) fun hm=>?_).trans (hs.frame b hb hn),fun e he=>?_,hs.apart.sublist hsub⟩
 ·have hb:b<S.h0.size:=hb
  rcases (hs.blks_of (hcap b hm)).2 with h3|h3
  ·omega
  ·exact hn h3
 ·obtain⟨a1,a2,a3⟩:=hs.chunk e (hsub.subset he)
  refine⟨Nat.lt_of_lt_of_le a1 hsz,a2,?_⟩
  by_cases hm:e.2.1∈c1
  ·have e1:=hc1 e he hm
   have e2:e=(900,br,rdB I M t n):=by
    refine Classical.byContradiction fun hne=>?_
    exact apart_of hs.apart (hsub.subset he) (fM hf) hne e1
   rw [e2];exact hr
  ·exact a3.congr (hsame _ a1 hm)
theorem CK.close(kn:Nat){bn:Nat}{k w f to:Int}{vy:Value}{ps:List (Option Addr)}{l:List Nd}(W:Wd I M cE hE S.h0 S.cap its)(hf:findC S.ch 900=some (br,rdB I M t n))(hfn:findC S.ch kn=some (bn,nodeB k w f to nilS))(hkn:Nat.beq kn 900=false)
 (hcE:∀ h,HS S h→bn∉cE) (ha:args.map den1++caps.map denC=[ptr br,ptr bn,vy]) (hy:∀ h,HS S h→∃ A len c,vy = .slice A len c∧Held ptrR h [br,bn] A len ps)
 (hT:TsI hE.size S.h0 S.cap ps l∧WfL l) (hlk:leK k≤l.length) (hlen:l.length≤1000000)
 (hk:∀ h',delC S.ch kn fun ch=>Wd I M cE hE h' (blks ch) (.one (some ⟨bn,0,none⟩) (.mk k w f n l)::its)→κ (.val (.pointer (some ⟨bn,0,none⟩))) ⟨h',blks ch,ch⟩):CK Tryz.prog E 109 args caps S κ:=
 ⟨fun h hs=>.inl (by
  obtain⟨A,len,c,rfl,hh⟩:=hy h hs
  rw [ha]
  have hkn:=nbF hkn
  have hl0:=hT.1.len
  have h2:=hs.two hf hfn hkn.symm 900 901
  refine (close_any h2 hh (by omega)).mono fun v h' ⟨e1,A',n',c',h3,h4,h5⟩=>?_
  obtain⟨ch,h6,h7,h8⟩:=delC_sound (hk h')
  have hbn:hE.size≤bn:=by
   obtain⟨_,a2,_⟩:=hs.chunk _ (fM hfn)
   rcases a2 with a2|a2
   ·exact Nat.le_trans W.later.size a2
   ·rcases W.later.cap _ a2 with a3|a3
    ·exact absurd a3 (hcE h hs)
    ·exact a3
  have hnc:bn∉blks ch:=fun hm=>by
   obtain⟨e,he,e2⟩:=bsp hm
   exact apart_of hs.apart (h7.subset he) (fM hfn) (fun e3=>h8 e he (by rw [e3])) e2
  have h9:HS ⟨S.h0,S.cap,ch⟩ h':=by
   refine hs.less2 hf hfn h7 h8 h3.size h3.frame (h3.chunk _ List.mem_cons_self).2.2 (fun e he hm=>?_) (fun b hb=>?_)
   ·simp only [List.mem_cons,List.not_mem_nil,or_false] at hm
    rcases hm with hm|hm
    ·exact hm
    ·exact absurd (by rw [←hm];exact blks_mem he) hnc
   ·simp only [List.mem_cons,List.not_mem_nil,or_false] at hb
    rcases hb with rfl|rfl
    ·exact blk_mem hf
    ·exact blk_mem hfn
  have l9:=h9.lB
  refine⟨_,_,by rw [e1];rfl,h9.anew,h6 ((W.anew l9).add ⟨?_,?_⟩)⟩
  ·refine tree_node ⟨hbn,(h3.chunk _ (List.mem_cons_of_mem _ List.mem_cons_self)).1,hnc⟩ (h3.chunk _ (List.mem_cons_of_mem _ List.mem_cons_self)).2.2 ⟨h4,fun h0 a e=>⟨(h5 a h0 e).2.1,fun hm=>?_⟩⟩ (fun a h0 e=>Nat.le_trans (Nat.le_trans W.later.size hs.size) (h5 a h0 e).1) (TsI.later l9 (Nat.le_refl _) l hT.1)
   obtain⟨e',he',e2⟩:=bsp hm
   have:=(hs.chunk e' (h7.subset he')).1
   have:=(h5 a h0 e).1
   omega
  ·simp only [Wf];exact⟨hlk,hT.2⟩)⟩
theorem rN:TsI hE.size S.h0 S.cap [] []∧WfL []:=⟨TsI.nil,trivial⟩
theorem rC(W:Wd I M cE hE S.h0 S.cap its){p:Option Addr}{x:Nd}{ps:List (Option Addr)}{l:List Nd}(hi:It.one p x∈its)(h:TsI hE.size S.h0 S.cap ps l∧WfL l):TsI hE.size S.h0 S.cap (p::ps) (x::l)∧WfL (x::l):=
 ⟨TsI.cons (W.its _ hi).1 h.1,⟨(W.its _ hi).2,h.2⟩⟩
theorem own_held{h:Heap}(hs:HS S h){kk b2 cap kn bn:Nat}{ps:List (Option Addr)}{c0 c1:Chunk}(h1:findC S.ch kk=some (b2,.arr 63 ptrR ps cap))(hf:findC S.ch 900=some (br,c0))(hfn:findC S.ch kn=some (bn,c1))(h2:Nat.beq kk 900=false)(h3:Nat.beq kk kn=false){ln:Int}(hl:ln=ps.length) :
 ∃ A len c,den1 (.osl kk b2 ln cap) = .slice A len c∧Held ptrR h [br,bn] A len ps:=by
 subst hl
 have:=hs.sl h1 (Nat.le_refl _)
 rw [List.take_length] at this
 refine⟨_,_,_,rfl,this,fun h0 a e=>?_⟩
 cases e
 refine⟨(hs.chunk _ (fM h1)).1,fun hm=>?_⟩
 rcases List.mem_cons.1 hm with hm|hm
 ·exact hs.ne h1 hf (nbF h2) hm
 ·exact hs.ne h1 hfn (nbF h3) (List.mem_singleton.1 hm)
theorem CK.cO(kn:Nat){bn:Nat}{k w f to:Int}{r nd:KV}{kk b2 cap:Nat}{ln:Int}{ps:List (Option Addr)}{l:List Nd}(W:Wd I M cE hE S.h0 S.cap its)(hf:findC S.ch 900=some (br,rdB I M t n))(hfn:findC S.ch kn=some (bn,nodeB k w f to nilS))(hkn:Nat.beq kn 900=false)
 (hcE:∀ h,HS S h→bn∉cE) (h1:den1 r=ptr br) (h2:den1 nd=ptr bn) (h3:findC S.ch kk=some (b2,.arr 63 ptrR ps cap)) (h4:Nat.beq kk 900=false) (h5:Nat.beq kk kn=false) (hl:ln=ps.length)
 (hT:TsI hE.size S.h0 S.cap ps l∧WfL l) (hlk:leK k≤l.length) (hlen:l.length≤1000000)
 (hk:∀ h',delC S.ch kn fun ch=>Wd I M cE hE h' (blks ch) (.one (some ⟨bn,0,none⟩) (.mk k w f n l)::its)→κ (.val (.pointer (some ⟨bn,0,none⟩))) ⟨h',blks ch,ch⟩):CK Tryz.prog E 109 [r,nd,.osl kk b2 ln cap] [] S κ:=
 CK.close kn W hf hfn hkn hcE (by simp only [List.map_cons,List.map_nil,List.append_nil,h1,h2]) (fun h hs=>own_held hs h3 hf hfn h4 h5 hl) hT hlk hlen hk
theorem sl_held(W:Wd I M cE hE S.h0 S.cap its){h:Heap}(hs:HS S h){kn bn:Nat}{c0 c1:Chunk}(hf:findC S.ch 900=some (br,c0))(hfn:findC S.ch kn=some (bn,c1)){A:Option Addr}{len c:Nat}{ps:List (Option Addr)}{l:List Nd}(hi:It.sl A len ps l∈its) :
 ∃ A' len' c',Value.slice A len c = .slice A' len' c'∧Held ptrR h [br,bn] A' len' ps:=by
 refine⟨_,_,_,rfl,((W.its _ hi).1).later (hs.lB.less fun x hx=>?_)⟩
 simp only [List.mem_cons,List.not_mem_nil,or_false] at hx
 rcases hx with rfl|rfl
 ·exact blk_mem hf
 ·exact blk_mem hfn
theorem CK.cH(kn:Nat){bn:Nat}{k w f to:Int}{r nd:KV}{A:Option Addr}{len c:Nat}{ps:List (Option Addr)}{l:List Nd}(W:Wd I M cE hE S.h0 S.cap its)(hf:findC S.ch 900=some (br,rdB I M t n))(hfn:findC S.ch kn=some (bn,nodeB k w f to nilS))(hkn:Nat.beq kn 900=false)
 (hcE:∀ h,HS S h→bn∉cE) (h1:den1 r=ptr br) (h2:den1 nd=ptr bn) (hi:It.sl A len ps l∈its) (hlk:leK k=0) (hlen:l.length≤1000000)
 (hk:∀ h',delC S.ch kn fun ch=>Wd I M cE hE h' (blks ch) (.one (some ⟨bn,0,none⟩) (.mk k w f n l)::its)→κ (.val (.pointer (some ⟨bn,0,none⟩))) ⟨h',blks ch,ch⟩):CK Tryz.prog E 109 [r,nd,.val (.slice A len c)] [] S κ:=
 CK.close kn W hf hfn hkn hcE (vy:=.slice A len c) (by simp only [List.map_cons,List.map_nil,List.append_nil,h1,h2];rfl) (fun h hs=>sl_held W hs hf hfn hi) (W.its _ hi).2.2 (by rw [hlk];exact Nat.zero_le _) hlen hk
end
def fid:Fn→Nat
 |.expr=>54|.binary _=>100|.unary=>141|.operand=>190|.primary=>170|.exprs=>207|.element=>221|.value=>232|.elements=>197
 |.typ=>53|.anyType=>99|.typeName=>134|.signature=>136|.params=>151|.param=>177|.tparams=>152|.names=>168|.union=>169
 |.block=>153|.stmts=>55|.anyStmts=>101|.stmt=>144|.simple=>173
 |.ifs=>202|.switches=>203|.selects=>204|.fors=>205|.declared=>198|.started=>199|.returned=>200|.branch=>201
 |.group=>106|.valueSpec=>146|.constSpec=>148|.importSpec=>147|.typeSpec=>149|.fn=>108|.file=>56
 |.field=>138|.elem=>139|.types=>226
def fargs:Fn→List Value
 |.binary k=>[.int .i64 k]
 |_=>[]
def fstr:Fn→Int
 |.stmts=>0
 |.anyStmts=>0
 |_=>1
def fpre(I:In):Fn→Int→Prop
 |.started,n=>n<I.L
 |.returned,n=>n<I.L
 |.branch,n=>n<I.L
 |.ifs,n=>n<I.L
 |.switches,n=>n<I.L
 |.selects,n=>n<I.L
 |.fors,n=>n<I.L
 |.group,n=>n<I.L
 |.declared,n=>n<I.L
 |.binary k,_=>1≤k
 |_,_=>True
def Hyp(I:In)(M:Loc)(g:Gt)(N:Int):Prop:=∀ (F:Fn) (t:Bool) (n:Int),need I F n<N→0≤n∧n≤I.L→fpre I F n→Con I M (fid F) (fargs F) (g F t n) t n (fstr F)
end Go.Ex
namespace Go.Ex
open Go.Proofs
attribute [local irreducible] CH CsP word kindT
theorem HS.three{S:St}{h:Heap}(hs:HS S h){k1 k2 k3 b1 b2 b3:Nat}{c1 c2 c3:Chunk}(h1:findC S.ch k1=some (b1,c1))(h2:findC S.ch k2=some (b2,c2))(h3:findC S.ch k3=some (b3,c3))(h12:k1≠k2)(h13:k1≠k3)(h23:k2≠k3)(j1 j2 j3:Nat) :
 HS ⟨h,[b1,b2,b3],[(j1,b1,c1),(j2,b2,c2),(j3,b3,c3)]⟩ h:=by
 refine⟨Nat.le_refl _,fun _ _ _=>rfl,fun e he=>?_,?_⟩
 ·rcases List.mem_cons.1 he with rfl|he
  ·exact⟨(hs.chunk _ (fM h1)).1,.inr (by simp),(hs.chunk _ (fM h1)).2.2⟩
  ·rcases List.mem_cons.1 he with rfl|he
   ·exact⟨(hs.chunk _ (fM h2)).1,.inr (by simp),(hs.chunk _ (fM h2)).2.2⟩
   ·rcases List.mem_cons.1 he with rfl|he
    ·exact⟨(hs.chunk _ (fM h3)).1,.inr (by simp),(hs.chunk _ (fM h3)).2.2⟩
    ·cases he
 ·refine List.pairwise_cons.2 ⟨fun e he=>?_,List.pairwise_cons.2 ⟨fun e he=>?_,List.pairwise_singleton _ _⟩⟩
  ·rcases List.mem_cons.1 he with rfl|he
   ·exact hs.ne h1 h2 h12
   ·rw [List.mem_singleton.1 he];exact hs.ne h1 h3 h13
  ·rw [List.mem_singleton.1 he];exact hs.ne h2 h3 h23
section
variable {I:In}{M:Loc}{br:Nat}{cE:List Nat}{hE:Heap}{its:List It}{S:St}{t:Bool}{n:Int}{α:Type}{oC:Out α}{args caps:List KV}{κ:KV→St→Prop}{E:Value→Heap→Prop}
theorem Wd.lo_own(W:Wd I M cE hE S.h0 S.cap its){h:Heap}(hs:HS S h){k b:Nat}{c:Chunk}(hf:findC S.ch k=some (b,c))(hcE:b∉cE):hE.size≤b:=by
 obtain⟨_,a2,_⟩:=hs.chunk _ (fM hf)
 rcases a2 with a2|a2
 ·exact Nat.le_trans W.later.size a2
 ·rcases W.later.cap _ a2 with a3|a3
  ·exact absurd a3 hcE
  ·exact a3
theorem close_end(W:Wd I M cE hE S.h0 S.cap its){h h':Heap}(hs:HS S h)(hf:findC S.ch 900=some (br,rdB I M t n)){c1:List Nat}{bn:Nat}(hbn:hE.size≤bn){k w f:Int}{l:List Nd}{ps:List (Option Addr)}{A:Option Addr}{m c:Nat}{ch:Chs}(hsub:ch.Sublist S.ch)
 (h3:HS ⟨h,c1,[(900,br,rdB I M t n),(901,bn,nodeB k w f n (.val (.slice A m c)))]⟩ h') (hc1:∀ b∈c1,b∈blks S.ch) (hch:∀ e∈ch,e.2.1∈c1→e.2.1=br) (hnc:bn∉blks ch) (h4:Sl ptrR h' A m ps)
 (h5:∀ a,0<m→A=some a→hE.size≤a.block∧a.block<h'.size∧a.block∉blks ch) (hT:TsI hE.size S.h0 S.cap ps l∧WfL l) (hlk:leK k≤l.length) :
 HS ⟨h',blks ch,ch⟩ h'∧Wd I M cE hE h' (blks ch) (.one (some ⟨bn,0,none⟩) (.mk k w f n l)::its):=by
 have h9:HS ⟨S.h0,S.cap,ch⟩ h':=by
  refine⟨Nat.le_trans hs.size h3.size,fun b hb hn=>(h3.frame b (Nat.lt_of_lt_of_le hb hs.size) fun hm=>?_).trans (hs.frame b hb hn),fun e he=>?_,hs.apart.sublist hsub⟩
  ·have hb:b<S.h0.size:=hb
   rcases (hs.blks_of (hc1 b hm)).2 with h3|h3
   ·omega
   ·exact hn h3
  ·obtain⟨a1,a2,a3⟩:=hs.chunk e (hsub.subset he)
   refine⟨Nat.lt_of_lt_of_le a1 h3.size,a2,?_⟩
   by_cases hm:e.2.1∈c1
   ·have e1:=hch e he hm
    have e2:e=(900,br,rdB I M t n):=by
     refine Classical.byContradiction fun hne=>?_
     exact apart_of hs.apart (hsub.subset he) (fM hf) hne e1
    rw [e2];exact (h3.chunk _ List.mem_cons_self).2.2
   ·exact a3.congr (h3.frame _ a1 hm)
 have l9:=h9.lB
 refine⟨h9.anew,(W.anew l9).add ⟨?_,?_⟩⟩
 ·exact tree_node ⟨hbn,(h3.chunk _ (List.mem_cons_of_mem _ List.mem_cons_self)).1,hnc⟩ (h3.chunk _ (List.mem_cons_of_mem _ List.mem_cons_self)).2.2 ⟨h4,fun h0 a e=>⟨(h5 a h0 e).2.1,(h5 a h0 e).2.2⟩⟩ (fun a h0 e=>(h5 a h0 e).1) (TsI.later l9 (Nat.le_refl _) l hT.1)
 ·simp only [Wf];exact⟨hlk,hT.2⟩
theorem WfL.append:∀ {l m:List Nd},WfL l→WfL m→WfL (l++m)
 |[],m,_,h=>h
 |x::l,m,h1,h2=>⟨h1.1,WfL.append h1.2 h2⟩
theorem CK.close1(kn kf:Nat){bn bf cf:Nat}{k w f to:Int}{ln0:Int}{vy:Value}{ps0 ps:List (Option Addr)}{l0 l:List Nd}(W:Wd I M cE hE S.h0 S.cap its)(hf:findC S.ch 900=some (br,rdB I M t n))(hfn:findC S.ch kn=some (bn,nodeB k w f to (.osl kf bf ln0 cf)))
 (hff:findC S.ch kf=some (bf,.arr 63 ptrR ps0 cf)) (hln:ln0=ps0.length) (hkn:Nat.beq kn 900=false) (hkf:Nat.beq kf 900=false) (hkk:Nat.beq kn kf=false)
 (hcE:∀ h,HS S h→bn∉cE∧bf∉cE) (ha:args.map den1++caps.map denC=[ptr br,ptr bn,vy]) (hy:∀ h,HS S h→∃ A len c,vy = .slice A len c∧Held ptrR h [br,bn,bf] A len ps)
 (hT0:TsI hE.size S.h0 S.cap ps0 l0∧WfL l0) (hT:TsI hE.size S.h0 S.cap ps l∧WfL l) (hlk:leK k≤(l0++l).length) (hlen:(l0++l).length≤1000000)
 (hk:∀ h',delC S.ch kn fun ch=>delC ch kf fun ch=>Wd I M cE hE h' (blks ch) (.one (some ⟨bn,0,none⟩) (.mk k w f n (l0++l))::its)→κ (.val (.pointer (some ⟨bn,0,none⟩))) ⟨h',blks ch,ch⟩):CK Tryz.prog E 109 args caps S κ:=
 ⟨fun h hs=>.inl (by
  subst hln
  obtain⟨A,len,c,rfl,hh⟩:=hy h hs
  rw [ha]
  have hkn:=nbF hkn
  have hkf:=nbF hkf
  have hkk:=nbF hkk
  have hl0:=hT.1.len
  have hl1:=hT0.1.len
  have hlen':=hlen
  rw [List.length_append] at hlen'
  have h2:=hs.three hf hfn hff hkn.symm hkf.symm hkk 900 901 902
  have h2:HS ⟨h,[br,bn,bf],[(900,br,rdB I M t n),(901,bn,nodeB k w f to (.osl 902 bf (ps0.length:Int) cf)),(902,bf,.arr 63 ptrR ps0 cf)]⟩ h:=h2.ren [900,901,902] ⟨⟨_,rfl,SC.rfl⟩,rfl,⟨_,rfl,SC.box rfl⟩,rfl,⟨_,rfl,SC.rfl⟩,rfl,trivial⟩
  refine (close1_any h2 hh (by omega)).mono fun v h' ⟨e1,A',n',c',h3,h4,h5⟩=>?_
  obtain⟨ch1,h6',h7',h8'⟩:=delC_sound (hk h')
  obtain⟨ch,h6,h7,h8⟩:=delC_sound h6'
  have h9k:∀ e∈ch,e.1≠kn:=fun e he=>h8' e (h7.subset he)
  have h7:=h7.trans h7'
  have hnb:∀ (k0 b0:Nat) (c0:Chunk),findC S.ch k0=some (b0,c0)→(∀ e∈ch,e.1≠k0)→b0∉blks ch:=fun k0 b0 c0 h1 h2 hm=>by
   obtain⟨e,he,e2⟩:=bsp hm
   exact apart_of hs.apart (h7.subset he) (fM h1) (fun e3=>h2 e he (by rw [e3])) e2
  have hnn:=hnb kn bn _ hfn h9k
  have hnf:=hnb kf bf _ hff h8
  have hblt:=W.later.size
  obtain⟨q1,q2⟩:=close_end W hs hf (W.lo_own hs hfn (hcE h hs).1) h7 h3 (fun b hb=>by
   simp only [List.mem_cons,List.not_mem_nil,or_false] at hb
   rcases hb with rfl|rfl|rfl
   ·exact blk_mem hf
   ·exact blk_mem hfn
   ·exact blk_mem hff) (fun e he hm=>by
   simp only [List.mem_cons,List.not_mem_nil,or_false] at hm
   rcases hm with hm|hm|hm
   ·exact hm
   ·exact absurd (by rw [←hm];exact blks_mem he) hnn
   ·exact absurd (by rw [←hm];exact blks_mem he) hnf) hnn h4 (fun a h0 e=>by
   obtain⟨a1,a2,_,_⟩:=h5 a h0 e
   rcases a1 with a1|a1
   ·refine⟨Nat.le_trans (Nat.le_trans W.later.size hs.size) a1,a2,fun hm=>?_⟩
    obtain⟨e',he',e2⟩:=bsp hm
    have:=(hs.chunk e' (h7.subset he')).1
    omega
   ·rw [a1]
    exact⟨W.lo_own hs hff (hcE h hs).2,Nat.lt_of_lt_of_le (hs.chunk _ (fM hff)).1 h3.size,hnf⟩) ⟨hT0.1.append hT.1,hT0.2.append hT.2⟩ hlk
  exact⟨_,_,by rw [e1];rfl,q1,h6 q2⟩)⟩
theorem own_held3{h:Heap}(hs:HS S h){kk b2 cap kn bn kf bf:Nat}{ps:List (Option Addr)}{c0 c1 c3:Chunk}(h1:findC S.ch kk=some (b2,.arr 63 ptrR ps cap))(hf:findC S.ch 900=some (br,c0))(hfn:findC S.ch kn=some (bn,c1))(hff:findC S.ch kf=some (bf,c3))(h2:Nat.beq kk 900=false)(h3:Nat.beq kk kn=false)(h4:Nat.beq kk kf=false){ln:Int}(hl:ln=ps.length) :
 ∃ A len c,den1 (.osl kk b2 ln cap) = .slice A len c∧Held ptrR h [br,bn,bf] A len ps:=by
 obtain⟨A,len,c,e,hh⟩:=own_held hs h1 hf hfn h2 h3 hl
 refine⟨A,len,c,e,hh.sl,fun h0 a e1=>⟨(hh.out h0 a e1).1,fun hm=>?_⟩⟩
 rw [List.mem_cons,List.mem_cons,List.mem_singleton] at hm
 rcases hm with hm|hm|hm
 ·exact (hh.out h0 a e1).2 (by rw [hm];exact List.mem_cons_self)
 ·exact (hh.out h0 a e1).2 (by rw [hm];exact List.mem_cons_of_mem _ List.mem_cons_self)
 ·have e2:A=some ⟨b2,0,none⟩:=by
   have:Value.slice (some ⟨b2,0,none⟩) ln.toNat cap = .slice A len c:=e
   cases this;rfl
  rw [e2] at e1
  cases e1
  exact hs.ne h1 hff (nbF h4) hm
theorem CK.close1O(kn kf:Nat){bn bf cf:Nat}{k w f to:Int}{ln0 ln:Int}{r nd:KV}{kk b2 cap:Nat}{ps0 ps:List (Option Addr)}{l0 l:List Nd}(W:Wd I M cE hE S.h0 S.cap its)(hf:findC S.ch 900=some (br,rdB I M t n))(hfn:findC S.ch kn=some (bn,nodeB k w f to (.osl kf bf ln0 cf)))
 (hff:findC S.ch kf=some (bf,.arr 63 ptrR ps0 cf)) (hln:ln0=ps0.length) (hkn:Nat.beq kn 900=false) (hkf:Nat.beq kf 900=false) (hkk:Nat.beq kn kf=false)
 (hcE:∀ h,HS S h→bn∉cE∧bf∉cE) (h1:den1 r=ptr br) (h2:den1 nd=ptr bn) (h3:findC S.ch kk=some (b2,.arr 63 ptrR ps cap)) (h4:Nat.beq kk 900=false) (h5:Nat.beq kk kn=false) (h6:Nat.beq kk kf=false) (hl:ln=ps.length)
 (hT0:TsI hE.size S.h0 S.cap ps0 l0∧WfL l0) (hT:TsI hE.size S.h0 S.cap ps l∧WfL l) (hlk:leK k≤(l0++l).length) (hlen:(l0++l).length≤1000000)
 (hk:∀ h',delC S.ch kn fun ch=>delC ch kf fun ch=>Wd I M cE hE h' (blks ch) (.one (some ⟨bn,0,none⟩) (.mk k w f n (l0++l))::its)→κ (.val (.pointer (some ⟨bn,0,none⟩))) ⟨h',blks ch,ch⟩):CK Tryz.prog E 109 [r,nd,.osl kk b2 ln cap] [] S κ:=
 CK.close1 kn kf W hf hfn hff hln hkn hkf hkk hcE (by simp only [List.map_cons,List.map_nil,List.append_nil,h1,h2]) (fun h hs=>own_held3 hs h3 hf hfn hff h4 h5 h6 hl) hT0 hT hlk hlen hk
theorem Wd.stand(W:Wd I M [br] hE S.h0 S.cap its){h:Heap}(hs:HS S h){kn kf bn bf cf:Nat}{k w f to:Int}{ln0:Int}{ps:List (Option Addr)}{l:List Nd}(hf:findC S.ch 900=some (br,rdB I M t n))(hfn:findC S.ch kn=some (bn,nodeB k w f to (.osl kf bf ln0 cf)))
 (hff:findC S.ch kf=some (bf,.arr 63 ptrR ps cf)) (hln:ln0=ps.length) (h1:Nat.beq kn 900=false) (h2:Nat.beq kf 900=false)
 (hT:TsI hE.size S.h0 S.cap ps l∧WfL l) (hlk:leK k≤l.length):Wd I M [br] hE h [br] (.one (some ⟨bn,0,none⟩) (.mk k w f to l)::its):=by
 subst hln
 have n1:bn∉[br]:=fun hm=>hs.ne hfn hf (nbF h1) (List.mem_singleton.1 hm)
 have n2:bf∉[br]:=fun hm=>hs.ne hff hf (nbF h2) (List.mem_singleton.1 hm)
 have lb:=hs.lB.less (blk1 hf)
 have hsl:=hs.sl hff (Nat.le_refl _)
 rw [List.take_length] at hsl
 exact (W.anew (h':=h) (cap':=[br]) lb).add (i:=.one (some ⟨bn,0,none⟩) (.mk k w f to l)) ⟨tree_node ⟨W.lo_own hs hfn n1,(hs.chunk _ (fM hfn)).1,n1⟩ (hs.chunk _ (fM hfn)).2.2
  (A:=some ⟨bf,0,none⟩) (n:=ps.length) (c:=cf) ⟨hsl,fun h0 a e=>by cases e;exact⟨(hs.chunk _ (fM hff)).1,n2⟩⟩ (fun a h0 e=>by cases e;exact W.lo_own hs hff n2) (TsI.later lb (Nat.le_refl _) l hT.1),by simp only [Wf];exact⟨hlk,hT.2⟩⟩
theorem CK.freeze(kn kf:Nat){f':Nat}{bn bf cf:Nat}{k w f to:Int}{ln0:Int}{ps:List (Option Addr)}{l:List Nd}(W:Wd I M cE hE S.h0 S.cap its)(hf:findC S.ch 900=some (br,rdB I M t n))(hfn:findC S.ch kn=some (bn,nodeB k w f to (.osl kf bf ln0 cf)))
 (hff:findC S.ch kf=some (bf,.arr 63 ptrR ps cf)) (hln:ln0=ps.length) (hkk:Nat.beq kn kf=false) (hcE:∀ h,HS S h→bn∉cE∧bf∉cE)
 (hT:TsI hE.size S.h0 S.cap ps l∧WfL l) (hlk:leK k≤l.length)
 (hk:∀ h',delC S.ch kn fun ch=>delC ch kf fun ch=>Wd I M cE hE h' (blks ch) (.one (some ⟨bn,0,none⟩) (.mk k w f to l)::its)→CK Tryz.prog E f' args caps ⟨h',blks ch,ch⟩ κ):CK Tryz.prog E f' args caps S κ:=
 ⟨fun h hs=>by
  subst hln
  have hkk:=nbF hkk
  obtain⟨ch1,h6',h7',h8'⟩:=delC_sound (hk h)
  obtain⟨ch,h6,h7,h8⟩:=delC_sound h6'
  have h9k:∀ e∈ch,e.1≠kn:=fun e he=>h8' e (h7.subset he)
  have h7:=h7.trans h7'
  have hnb:∀ (k0 b0:Nat) (c0:Chunk),findC S.ch k0=some (b0,c0)→(∀ e∈ch,e.1≠k0)→b0∉blks ch:=fun k0 b0 c0 h1 h2 hm=>by
   obtain⟨e,he,e2⟩:=bsp hm
   exact apart_of hs.apart (h7.subset he) (fM h1) (fun e3=>h2 e he (by rw [e3])) e2
  have h9:HS ⟨S.h0,S.cap,ch⟩ h:=hs.sub h7
  have hsl:=hs.sl hff (Nat.le_refl _)
  rw [List.take_length] at hsl
  have W':=(W.anew (h':=h) (cap':=blks ch) h9.lB).add (i:=.one (some ⟨bn,0,none⟩) (.mk k w f to l)) ⟨tree_node ⟨W.lo_own hs hfn (hcE h hs).1,(hs.chunk _ (fM hfn)).1,hnb kn bn _ hfn h9k⟩ (hs.chunk _ (fM hfn)).2.2
   (A:=some ⟨bf,0,none⟩) (n:=ps.length) (c:=cf) ⟨hsl,fun h0 a e=>by cases e;exact⟨(hs.chunk _ (fM hff)).1,hnb kf bf _ hff h8⟩⟩ (fun a h0 e=>by cases e;exact W.lo_own hs hff (hcE h hs).2) (TsI.later h9.lB (Nat.le_refl _) l hT.1),by simp only [Wf];exact⟨hlk,hT.2⟩⟩
  exact (h6 W').go h h9.anew⟩
end
end Go.Ex
