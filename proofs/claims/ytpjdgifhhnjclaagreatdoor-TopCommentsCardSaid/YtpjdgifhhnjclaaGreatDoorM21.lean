/-
  Top: TopComments: whatever the input, the law answers true (part 21)
-/
import Derived.Test.YtpjdgifhhnjclaaGreatDoorM20
set_option linter.unusedVariables false
set_option linter.unusedSimpArgs false
set_option maxHeartbeats 4000000
set_option maxRecDepth 10000
namespace Go.Ex
open Go.Proofs
attribute [local irreducible] CH X2 word B9
section
variable {I:In}{M:O6}{br:Nat}{cE:List Nat}{hE:A3}{its:List It}{S:St}{t:Bool}{n:Int}{α:Type}{oC:G3 α}{args caps:List KV}{κ:KV→St→Prop}{E:Value→A3→Prop}
theorem HS.step{h h':A3}(hs:HS S h){l r:L8}{k b:Nat}{c0 c:D8}{ch:L8}(hc:S.ch=l++(k,b,c0)::r)(h1:HS ⟨h,[b],[(k,b,c)]⟩ h'):HS ⟨S.h0,S.cap,l++(k,b,c)::r⟩ h':=
 hs.upd hc h1.size (fun j hj hlt=>h1.frame j hlt fun hm=>hj (List.mem_singleton.1 hm)) (h1.chunk _ List.mem_cons_self).2.2
theorem CK.want(W:Wd I M cE hE S.h0 S.cap its){w:ByteArray}(hw:¬ w=⟨#[]⟩)(hn:0≤n∧n≤I.L)(ha:args.map A1++caps.map A0=[ptr br,.string w])(hf:B3 S.ch 900=some (br,H5 I M t n))
 (herr:¬ word I n=w→oC = .err n) (hk:word I n=w→n<I.L→dF S.ch 900 (H5 I M t (n+1)) fun ch=>κ (.tup []) ⟨S.h0,S.cap,ch⟩):CK Tryz.prog (bN I M br cE hE oC) 103 args caps S κ:=
 ⟨fun h hs=>.inr (.inr (by
  rw [ha]
  refine (Cr W.ok (L9 hs hf) (W.base.at1 hs hf) hn w hw).mono (fun v h' he=>he.up W hs (oI hf) List.mem_cons_self fun x hx=>?_) fun v h' ⟨e1,e2,e3⟩=>?_
  ·unfold Go.Ex.want at hx
   split at hx
   ·cases hx
   ·rename_i h0;cases hx;exact herr h0
  ·obtain⟨l,r,b',c0,e4,e5,h8⟩:=K7 (hk e2 (I7 (e2▸hw)).2)
   rw [hf] at e5
   cases e5
   exact⟨_,_,by rw [e1];rfl,hs.step (ch:=[]) e4 e3,h8⟩))⟩
theorem CK.maybe(ok:C6 I)(hB:J4 I M S.h0 S.cap){w:ByteArray}(hw:¬ w=⟨#[]⟩)(ha:args.map A1++caps.map A0=[ptr br,.string w])(hf:B3 S.ch 900=some (br,H5 I M t n))
 (hy:word I n=w→n<I.L→dF S.ch 900 (H5 I M t (n+1)) fun ch=>κ (.val (.bool true)) ⟨S.h0,S.cap,ch⟩) (hno:¬ word I n=w→κ (.val (.bool false)) S):CK Tryz.prog E 57 args caps S κ:=
 ⟨fun h hs=>.inl (by
  rw [ha]
  refine (Io ok (L9 hs hf) (hB.at1 hs hf) w hw).mono fun v h' hv=>?_
  rcases hv with ⟨e2,e1,e3⟩|⟨e2,e1,e3⟩
  ·obtain⟨l,r,b',c0,e4,e5,h8⟩:=K7 (hy e2 (I7 (e2▸hw)).2)
   rw [hf] at e5
   cases e5
   exact⟨_,_,by rw [e1];rfl,hs.step (ch:=[]) e4 e3,h8⟩
  ·exact⟨_,_,by rw [e1];rfl,hs.later e3,hno e2⟩)⟩
theorem CK.box{f:Nat}(k:Nat)(c:D8)(hh:∀ h,HS S h→CH Tryz.prog f (args.map A1++caps.map A0).toArray h fun v h'=>∃ b,v=ptr b∧(h.size≤b∧b<h'.size)∧A5 h h'∧C7 h' b c)
 (hk:∀ b,S.h0.size≤b→V3 S.ch k fun ch=>κ (.own k b 0) ⟨S.h0,S.cap,(k,b,c)::ch⟩):CK Tryz.prog E f args caps S κ:=
 ⟨fun h hs=>.inl ((hh h hs).mono fun v h' ⟨b,e1,⟨b0,b1⟩,e2,e3⟩=>by
  obtain⟨ch,h1,h2,_⟩:=G7 (hk b (Nat.le_trans hs.size b0))
  exact⟨_,_,by rw [e1];rfl,hs.new h2 b0 b1 e2.same e3,h1⟩)⟩
theorem D9{h:A3}(hs:HS S h)(hf:B3 S.ch 900=some (br,H5 I M t n))(k:Int):CH Tryz.prog 102 #[ptr br,.int .u8 k] h fun v h'=>∃ b,v=ptr b∧(h.size≤b∧b<h'.size)∧A5 h h'∧C7 h' b (D6 k (-1) n 0 Q5):=Ps (L9 hs hf) k
theorem Us{h:A3}(hs:HS S h)(hf:B3 S.ch 900=some (br,H5 I M t n))(k:Int):CH Tryz.prog 143 #[ptr br,.int .u8 k] h fun v h'=>∃ b,v=ptr b∧(h.size≤b∧b<h'.size)∧A5 h h'∧C7 h' b (D6 k (-1) n n Q5):=Vs (L9 hs hf) k
theorem HS.less2{h h':A3}(hs:HS S h){kn bn:Nat}{cn:D8}(hf:B3 S.ch 900=some (br,H5 I M t n))(hfn:B3 S.ch kn=some (bn,cn)){ch:L8}(hsub:ch.Sublist S.ch)(hno:∀ e∈ch,e.1≠kn){c1:List Nat}
 (hsz:h.size≤h'.size) (hsame:∀ b,b<h.size→b∉c1→h'[b]?=h[b]?) (hr:C7 h' br (H5 I M t n)) (hc1:∀ e∈ch,e.2.1∈c1→e.2.1=br) (hcap:∀ b∈c1,b∈blks S.ch):HS ⟨S.h0,S.cap,ch⟩ h':=by
 refine⟨Nat.le_trans hs.size hsz,fun b hb hn=>(hsame b (Nat.lt_of_lt_of_le hb hs.size) fun hm=>?_).trans (hs.frame b hb hn),fun e he=>?_,hs.apart.sublist hsub⟩
 ·have hb:b<S.h0.size:=hb
  rcases (hs.blks_of (hcap b hm)).2 with h3|h3
  ·omega
  ·exact hn h3
 ·obtain⟨a1,a2,a3⟩:=hs.chunk e (hsub.subset he)
  refine⟨Nat.lt_of_lt_of_le a1 hsz,a2,?_⟩
  by_cases hm:e.2.1∈c1
  ·have e1:=hc1 e he hm
   have e2:e=(900,br,H5 I M t n):=by
    refine Classical.byContradiction fun hne=>?_
    exact K6 hs.apart (hsub.subset he) (fM hf) hne e1
   rw [e2];exact hr
  ·exact a3.congr (hsame _ a1 hm)
theorem CK.close(kn:Nat){bn:Nat}{k w f to:Int}{vy:Value}{ps:List (Option Addr)}{l:List Nd}(W:Wd I M cE hE S.h0 S.cap its)(hf:B3 S.ch 900=some (br,H5 I M t n))(hfn:B3 S.ch kn=some (bn,D6 k w f to Q5))(hkn:Nat.beq kn 900=false)
 (hcE:∀ h,HS S h→bn∉cE) (ha:args.map A1++caps.map A0=[ptr br,ptr bn,vy]) (hy:∀ h,HS S h→∃ A len c,vy = .slice A len c∧D3 E1 h [br,bn] A len ps)
 (hT:L3 hE.size S.h0 S.cap ps l∧fL l) (hlk:O5 k≤l.length) (hlen:l.length≤1000000)
 (hk:∀ h',V3 S.ch kn fun ch=>Wd I M cE hE h' (blks ch) (.one (some ⟨bn,0,none⟩) (.mk k w f n l)::its)→κ (.val (.pointer (some ⟨bn,0,none⟩))) ⟨h',blks ch,ch⟩):CK Tryz.prog E 109 args caps S κ:=
 ⟨fun h hs=>.inl (by
  obtain⟨A,len,c,rfl,hh⟩:=hy h hs
  rw [ha]
  have hkn:=lA hkn
  have hl0:=hT.1.len
  have h2:=hs.two hf hfn hkn.symm 900 901
  refine (Cq h2 hh (by omega)).mono fun v h' ⟨e1,A',n',c',h3,h4,h5⟩=>?_
  obtain⟨ch,h6,h7,h8⟩:=G7 (hk h')
  have hbn:hE.size≤bn:=by
   obtain⟨_,a2,_⟩:=hs.chunk _ (fM hfn)
   rcases a2 with a2|a2
   ·exact Nat.le_trans W.later.size a2
   ·rcases W.later.cap _ a2 with a3|a3
    ·exact absurd a3 (hcE h hs)
    ·exact a3
  have hnc:bn∉blks ch:=fun hm=>by
   obtain⟨e,he,e2⟩:=oH hm
   exact K6 hs.apart (h7.subset he) (fM hfn) (fun e3=>h8 e he (by rw [e3])) e2
  have h9:HS ⟨S.h0,S.cap,ch⟩ h':=by
   refine hs.less2 hf hfn h7 h8 h3.size h3.frame (h3.chunk _ List.mem_cons_self).2.2 (fun e he hm=>?_) (fun b hb=>?_)
   ·simp only [mL,or_false] at hm
    rcases hm with hm|hm
    ·exact hm
    ·exact absurd (by rw [←hm];exact G9 he) hnc
   ·simp only [mL,or_false] at hb
    rcases hb with rfl|rfl
    ·exact J0 hf
    ·exact J0 hfn
  have l9:=h9.lB
  refine⟨_,_,by rw [e1];rfl,h9.anew,h6 ((W.anew l9).add ⟨?_,?_⟩)⟩
  ·refine cL ⟨hbn,(h3.chunk _ (List.mem_cons_of_mem _ List.mem_cons_self)).1,hnc⟩ (h3.chunk _ (List.mem_cons_of_mem _ List.mem_cons_self)).2.2 ⟨h4,fun h0 a e=>⟨(h5 a h0 e).2.1,fun hm=>?_⟩⟩ (fun a h0 e=>Nat.le_trans (Nat.le_trans W.later.size hs.size) (h5 a h0 e).1) (L3.later l9 (Nat.le_refl _) l hT.1)
   obtain⟨e',he',e2⟩:=oH hm
   have:=(hs.chunk e' (h7.subset he')).1
   have:=(h5 a h0 e).1
   omega
  ·simp only [Wf];exact⟨hlk,hT.2⟩)⟩
theorem rN:L3 hE.size S.h0 S.cap [] []∧fL []:=⟨L3.nil,trivial⟩
theorem rC(W:Wd I M cE hE S.h0 S.cap its){p:Option Addr}{x:Nd}{ps:List (Option Addr)}{l:List Nd}(hi:It.one p x∈its)(h:L3 hE.size S.h0 S.cap ps l∧fL l):L3 hE.size S.h0 S.cap (p::ps) (x::l)∧fL (x::l):=
 ⟨L3.cons (W.its _ hi).1 h.1,⟨(W.its _ hi).2,h.2⟩⟩
theorem Mc{h:A3}(hs:HS S h){kk b2 cap kn bn:Nat}{ps:List (Option Addr)}{c0 c1:D8}(h1:B3 S.ch kk=some (b2,.arr 63 E1 ps cap))(hf:B3 S.ch 900=some (br,c0))(hfn:B3 S.ch kn=some (bn,c1))(h2:Nat.beq kk 900=false)(h3:Nat.beq kk kn=false){ln:Int}(hl:ln=ps.length) :
 ∃ A len c,A1 (.osl kk b2 ln cap) = .slice A len c∧D3 E1 h [br,bn] A len ps:=by
 subst hl
 have:=hs.sl h1 (Nat.le_refl _)
 rw [List.take_length] at this
 refine⟨_,_,_,rfl,this,fun h0 a e=>?_⟩
 cases e
 refine⟨(hs.chunk _ (fM h1)).1,fun hm=>?_⟩
 rcases List.mem_cons.1 hm with hm|hm
 ·exact hs.ne h1 hf (lA h2) hm
 ·exact hs.ne h1 hfn (lA h3) (List.mem_singleton.1 hm)
theorem CK.cO(kn:Nat){bn:Nat}{k w f to:Int}{r nd:KV}{kk b2 cap:Nat}{ln:Int}{ps:List (Option Addr)}{l:List Nd}(W:Wd I M cE hE S.h0 S.cap its)(hf:B3 S.ch 900=some (br,H5 I M t n))(hfn:B3 S.ch kn=some (bn,D6 k w f to Q5))(hkn:Nat.beq kn 900=false)
 (hcE:∀ h,HS S h→bn∉cE) (h1:A1 r=ptr br) (h2:A1 nd=ptr bn) (h3:B3 S.ch kk=some (b2,.arr 63 E1 ps cap)) (h4:Nat.beq kk 900=false) (h5:Nat.beq kk kn=false) (hl:ln=ps.length)
 (hT:L3 hE.size S.h0 S.cap ps l∧fL l) (hlk:O5 k≤l.length) (hlen:l.length≤1000000)
 (hk:∀ h',V3 S.ch kn fun ch=>Wd I M cE hE h' (blks ch) (.one (some ⟨bn,0,none⟩) (.mk k w f n l)::its)→κ (.val (.pointer (some ⟨bn,0,none⟩))) ⟨h',blks ch,ch⟩):CK Tryz.prog E 109 [r,nd,.osl kk b2 ln cap] [] S κ:=
 CK.close kn W hf hfn hkn hcE (by simp only [List.map_cons,List.map_nil,List.append_nil,h1,h2]) (fun h hs=>Mc hs h3 hf hfn h4 h5 hl) hT hlk hlen hk
theorem Jw(W:Wd I M cE hE S.h0 S.cap its){h:A3}(hs:HS S h){kn bn:Nat}{c0 c1:D8}(hf:B3 S.ch 900=some (br,c0))(hfn:B3 S.ch kn=some (bn,c1)){A:Option Addr}{len c:Nat}{ps:List (Option Addr)}{l:List Nd}(hi:It.sl A len ps l∈its) :
 ∃ A' len' c',Value.slice A len c = .slice A' len' c'∧D3 E1 h [br,bn] A' len' ps:=by
 refine⟨_,_,_,rfl,((W.its _ hi).1).later (hs.lB.less fun x hx=>?_)⟩
 simp only [mL,or_false] at hx
 rcases hx with rfl|rfl
 ·exact J0 hf
 ·exact J0 hfn
theorem CK.cH(kn:Nat){bn:Nat}{k w f to:Int}{r nd:KV}{A:Option Addr}{len c:Nat}{ps:List (Option Addr)}{l:List Nd}(W:Wd I M cE hE S.h0 S.cap its)(hf:B3 S.ch 900=some (br,H5 I M t n))(hfn:B3 S.ch kn=some (bn,D6 k w f to Q5))(hkn:Nat.beq kn 900=false)
 (hcE:∀ h,HS S h→bn∉cE) (h1:A1 r=ptr br) (h2:A1 nd=ptr bn) (hi:It.sl A len ps l∈its) (hlk:O5 k=0) (hlen:l.length≤1000000)
 (hk:∀ h',V3 S.ch kn fun ch=>Wd I M cE hE h' (blks ch) (.one (some ⟨bn,0,none⟩) (.mk k w f n l)::its)→κ (.val (.pointer (some ⟨bn,0,none⟩))) ⟨h',blks ch,ch⟩):CK Tryz.prog E 109 [r,nd,.val (.slice A len c)] [] S κ:=
 CK.close kn W hf hfn hkn hcE (vy:=.slice A len c) (by simp only [List.map_cons,List.map_nil,List.append_nil,h1,h2];rfl) (fun h hs=>Jw W hs hf hfn hi) (W.its _ hi).2.2 (by rw [hlk];exact Nat.zero_le _) hlen hk
end
def EF:Fn→Nat
 |.expr=>54|.binary _=>100|.unary=>141|.operand=>190|.primary=>170|.exprs=>207|.element=>221|.value=>232|.elements=>197
 |.typ=>53|.anyType=>99|.typeName=>134|.signature=>136|.params=>151|.param=>177|.tparams=>152|.names=>168|.union=>169
 |.block=>153|.stmts=>55|.anyStmts=>101|.stmt=>144|.simple=>173
 |.ifs=>202|.switches=>203|.selects=>204|.fors=>205|.declared=>198|.started=>199|.returned=>200|.branch=>201
 |.group=>106|.valueSpec=>146|.constSpec=>148|.importSpec=>147|.typeSpec=>149|.fn=>108|.file=>56
 |.field=>138|.elem=>139|.types=>226
def Wy:Fn→List Value
 |.binary k=>[.int .i64 k]
 |_=>[]
def D1:Fn→Int
 |.stmts=>0
 |.anyStmts=>0
 |_=>1
def bL(I:In):Fn→Int→Prop
 |.started,n=>n<I.L
 |.returned,n=>n<I.L
 |.branch,n=>n<I.L
 |.ifs,n=>n<I.L
 |.switches,n=>n<I.L
 |.selects,n=>n<I.L
 |.fors,n=>n<I.L
 |.group,n=>n<I.L
 |.declared,n=>n<I.L
 |.binary k,_=>1≤k
 |_,_=>True
def O8(I:In)(M:O6)(g:Gt)(N:Int):Prop:=∀ (F:Fn) (t:Bool) (n:Int),C5 I F n<N→0≤n∧n≤I.L→bL I F n→N3 I M (EF F) (Wy F) (g F t n) t n (D1 F)
end Go.Ex
namespace Go.Ex
open Go.Proofs
attribute [local irreducible] CH X2 word B9
theorem HS.three{S:St}{h:A3}(hs:HS S h){k1 k2 k3 b1 b2 b3:Nat}{c1 c2 c3:D8}(h1:B3 S.ch k1=some (b1,c1))(h2:B3 S.ch k2=some (b2,c2))(h3:B3 S.ch k3=some (b3,c3))(h12:k1≠k2)(h13:k1≠k3)(h23:k2≠k3)(j1 j2 j3:Nat) :
 HS ⟨h,[b1,b2,b3],[(j1,b1,c1),(j2,b2,c2),(j3,b3,c3)]⟩ h:=by
 refine⟨Nat.le_refl _,fun _ _ _=>rfl,fun e he=>?_,?_⟩
 ·rcases List.mem_cons.1 he with rfl|he
  ·exact⟨(hs.chunk _ (fM h1)).1,.inr (by simp),(hs.chunk _ (fM h1)).2.2⟩
  ·rcases List.mem_cons.1 he with rfl|he
   ·exact⟨(hs.chunk _ (fM h2)).1,.inr (by simp),(hs.chunk _ (fM h2)).2.2⟩
   ·rcases List.mem_cons.1 he with rfl|he
    ·exact⟨(hs.chunk _ (fM h3)).1,.inr (by simp),(hs.chunk _ (fM h3)).2.2⟩
    ·cases he
 ·refine List.pairwise_cons.2 ⟨fun e he=>?_,List.pairwise_cons.2 ⟨fun e he=>?_,List.pairwise_singleton _ _⟩⟩
  ·rcases List.mem_cons.1 he with rfl|he
   ·exact hs.ne h1 h2 h12
   ·rw [List.mem_singleton.1 he];exact hs.ne h1 h3 h13
  ·rw [List.mem_singleton.1 he];exact hs.ne h2 h3 h23
section
variable {I:In}{M:O6}{br:Nat}{cE:List Nat}{hE:A3}{its:List It}{S:St}{t:Bool}{n:Int}{α:Type}{oC:G3 α}{args caps:List KV}{κ:KV→St→Prop}{E:Value→A3→Prop}
theorem Wd.lo_own(W:Wd I M cE hE S.h0 S.cap its){h:A3}(hs:HS S h){k b:Nat}{c:D8}(hf:B3 S.ch k=some (b,c))(hcE:b∉cE):hE.size≤b:=by
 obtain⟨_,a2,_⟩:=hs.chunk _ (fM hf)
 rcases a2 with a2|a2
 ·exact Nat.le_trans W.later.size a2
 ·rcases W.later.cap _ a2 with a3|a3
  ·exact absurd a3 hcE
  ·exact a3
theorem Bq(W:Wd I M cE hE S.h0 S.cap its){h h':A3}(hs:HS S h)(hf:B3 S.ch 900=some (br,H5 I M t n)){c1:List Nat}{bn:Nat}(hbn:hE.size≤bn){k w f:Int}{l:List Nd}{ps:List (Option Addr)}{A:Option Addr}{m c:Nat}{ch:L8}(hsub:ch.Sublist S.ch)
 (h3:HS ⟨h,c1,[(900,br,H5 I M t n),(901,bn,D6 k w f n (.val (.slice A m c)))]⟩ h') (hc1:∀ b∈c1,b∈blks S.ch) (hch:∀ e∈ch,e.2.1∈c1→e.2.1=br) (hnc:bn∉blks ch) (h4:Sl E1 h' A m ps)
 (h5:∀ a,0<m→A=some a→hE.size≤a.block∧a.block<h'.size∧a.block∉blks ch) (hT:L3 hE.size S.h0 S.cap ps l∧fL l) (hlk:O5 k≤l.length) :
 HS ⟨h',blks ch,ch⟩ h'∧Wd I M cE hE h' (blks ch) (.one (some ⟨bn,0,none⟩) (.mk k w f n l)::its):=by
 have h9:HS ⟨S.h0,S.cap,ch⟩ h':=by
  refine⟨Nat.le_trans hs.size h3.size,fun b hb hn=>(h3.frame b (Nat.lt_of_lt_of_le hb hs.size) fun hm=>?_).trans (hs.frame b hb hn),fun e he=>?_,hs.apart.sublist hsub⟩
  ·have hb:b<S.h0.size:=hb
   rcases (hs.blks_of (hc1 b hm)).2 with h3|h3
   ·omega
   ·exact hn h3
  ·obtain⟨a1,a2,a3⟩:=hs.chunk e (hsub.subset he)
   refine⟨Nat.lt_of_lt_of_le a1 h3.size,a2,?_⟩
   by_cases hm:e.2.1∈c1
   ·have e1:=hch e he hm
    have e2:e=(900,br,H5 I M t n):=by
     refine Classical.byContradiction fun hne=>?_
     exact K6 hs.apart (hsub.subset he) (fM hf) hne e1
    rw [e2];exact (h3.chunk _ List.mem_cons_self).2.2
   ·exact a3.congr (h3.frame _ a1 hm)
 have l9:=h9.lB
 refine⟨h9.anew,(W.anew l9).add ⟨?_,?_⟩⟩
 ·exact cL ⟨hbn,(h3.chunk _ (List.mem_cons_of_mem _ List.mem_cons_self)).1,hnc⟩ (h3.chunk _ (List.mem_cons_of_mem _ List.mem_cons_self)).2.2 ⟨h4,fun h0 a e=>⟨(h5 a h0 e).2.1,(h5 a h0 e).2.2⟩⟩ (fun a h0 e=>(h5 a h0 e).1) (L3.later l9 (Nat.le_refl _) l hT.1)
 ·simp only [Wf];exact⟨hlk,hT.2⟩
theorem fL.append:∀ {l m:List Nd},fL l→fL m→fL (l++m)
 |[],m,_,h=>h
 |x::l,m,h1,h2=>⟨h1.1,fL.append h1.2 h2⟩
theorem CK.close1(kn kf:Nat){bn bf cf:Nat}{k w f to:Int}{ln0:Int}{vy:Value}{ps0 ps:List (Option Addr)}{l0 l:List Nd}(W:Wd I M cE hE S.h0 S.cap its)(hf:B3 S.ch 900=some (br,H5 I M t n))(hfn:B3 S.ch kn=some (bn,D6 k w f to (.osl kf bf ln0 cf)))
 (hff:B3 S.ch kf=some (bf,.arr 63 E1 ps0 cf)) (hln:ln0=ps0.length) (hkn:Nat.beq kn 900=false) (hkf:Nat.beq kf 900=false) (hkk:Nat.beq kn kf=false)
 (hcE:∀ h,HS S h→bn∉cE∧bf∉cE) (ha:args.map A1++caps.map A0=[ptr br,ptr bn,vy]) (hy:∀ h,HS S h→∃ A len c,vy = .slice A len c∧D3 E1 h [br,bn,bf] A len ps)
 (hT0:L3 hE.size S.h0 S.cap ps0 l0∧fL l0) (hT:L3 hE.size S.h0 S.cap ps l∧fL l) (hlk:O5 k≤(l0++l).length) (hlen:(l0++l).length≤1000000)
 (hk:∀ h',V3 S.ch kn fun ch=>V3 ch kf fun ch=>Wd I M cE hE h' (blks ch) (.one (some ⟨bn,0,none⟩) (.mk k w f n (l0++l))::its)→κ (.val (.pointer (some ⟨bn,0,none⟩))) ⟨h',blks ch,ch⟩):CK Tryz.prog E 109 args caps S κ:=
 ⟨fun h hs=>.inl (by
  subst hln
  obtain⟨A,len,c,rfl,hh⟩:=hy h hs
  rw [ha]
  have hkn:=lA hkn
  have hkf:=lA hkf
  have hkk:=lA hkk
  have hl0:=hT.1.len
  have hl1:=hT0.1.len
  have hlen':=hlen
  rw [List.length_append] at hlen'
  have h2:=hs.three hf hfn hff hkn.symm hkf.symm hkk 900 901 902
  have h2:HS ⟨h,[br,bn,bf],[(900,br,H5 I M t n),(901,bn,D6 k w f to (.osl 902 bf (ps0.length:Int) cf)),(902,bf,.arr 63 E1 ps0 cf)]⟩ h:=h2.ren [900,901,902] (B4 rfl rfl (F9 rfl (SC.box rfl) rfl (B4 rfl rfl E8)))
  refine (tM h2 hh (by omega)).mono fun v h' ⟨e1,A',n',c',h3,h4,h5⟩=>?_
  obtain⟨ch1,h6',h7',h8'⟩:=G7 (hk h')
  obtain⟨ch,h6,h7,h8⟩:=G7 h6'
  have h9k:∀ e∈ch,e.1≠kn:=fun e he=>h8' e (h7.subset he)
  have h7:=h7.trans h7'
  have hnb:∀ (k0 b0:Nat) (c0:D8),B3 S.ch k0=some (b0,c0)→(∀ e∈ch,e.1≠k0)→b0∉blks ch:=fun k0 b0 c0 h1 h2 hm=>by
   obtain⟨e,he,e2⟩:=oH hm
   exact K6 hs.apart (h7.subset he) (fM h1) (fun e3=>h2 e he (by rw [e3])) e2
  have hnn:=hnb kn bn _ hfn h9k
  have hnf:=hnb kf bf _ hff h8
  have hblt:=W.later.size
  obtain⟨q1,q2⟩:=Bq W hs hf (W.lo_own hs hfn (hcE h hs).1) h7 h3 (fun b hb=>by
   simp only [mL,or_false] at hb
   rcases hb with rfl|rfl|rfl
   ·exact J0 hf
   ·exact J0 hfn
   ·exact J0 hff) (fun e he hm=>by
   simp only [mL,or_false] at hm
   rcases hm with hm|hm|hm
   ·exact hm
   ·exact absurd (by rw [←hm];exact G9 he) hnn
   ·exact absurd (by rw [←hm];exact G9 he) hnf) hnn h4 (fun a h0 e=>by
   obtain⟨a1,a2,_,_⟩:=h5 a h0 e
   rcases a1 with a1|a1
   ·refine⟨Nat.le_trans (Nat.le_trans W.later.size hs.size) a1,a2,fun hm=>?_⟩
    obtain⟨e',he',e2⟩:=oH hm
    have:=(hs.chunk e' (h7.subset he')).1
    omega
   ·rw [a1]
    exact⟨W.lo_own hs hff (hcE h hs).2,Nat.lt_of_lt_of_le (hs.chunk _ (fM hff)).1 h3.size,hnf⟩) ⟨hT0.1.append hT.1,hT0.2.append hT.2⟩ hlk
  exact⟨_,_,by rw [e1];rfl,q1,h6 q2⟩)⟩
theorem wH{h:A3}(hs:HS S h){kk b2 cap kn bn kf bf:Nat}{ps:List (Option Addr)}{c0 c1 c3:D8}(h1:B3 S.ch kk=some (b2,.arr 63 E1 ps cap))(hf:B3 S.ch 900=some (br,c0))(hfn:B3 S.ch kn=some (bn,c1))(hff:B3 S.ch kf=some (bf,c3))(h2:Nat.beq kk 900=false)(h3:Nat.beq kk kn=false)(h4:Nat.beq kk kf=false){ln:Int}(hl:ln=ps.length) :
 ∃ A len c,A1 (.osl kk b2 ln cap) = .slice A len c∧D3 E1 h [br,bn,bf] A len ps:=by
 obtain⟨A,len,c,e,hh⟩:=Mc hs h1 hf hfn h2 h3 hl
 refine⟨A,len,c,e,hh.sl,fun h0 a e1=>⟨(hh.out h0 a e1).1,fun hm=>?_⟩⟩
 rw [List.mem_cons,List.mem_cons,List.mem_singleton] at hm
 rcases hm with hm|hm|hm
 ·exact (hh.out h0 a e1).2 (by rw [hm];exact List.mem_cons_self)
 ·exact (hh.out h0 a e1).2 (by rw [hm];exact List.mem_cons_of_mem _ List.mem_cons_self)
 ·have e2:A=some ⟨b2,0,none⟩:=by
   have:Value.slice (some ⟨b2,0,none⟩) ln.toNat cap = .slice A len c:=e
   cases this;rfl
  rw [e2] at e1
  cases e1
  exact hs.ne h1 hff (lA h4) hm
theorem CK.close1O(kn kf:Nat){bn bf cf:Nat}{k w f to:Int}{ln0 ln:Int}{r nd:KV}{kk b2 cap:Nat}{ps0 ps:List (Option Addr)}{l0 l:List Nd}(W:Wd I M cE hE S.h0 S.cap its)(hf:B3 S.ch 900=some (br,H5 I M t n))(hfn:B3 S.ch kn=some (bn,D6 k w f to (.osl kf bf ln0 cf)))
 (hff:B3 S.ch kf=some (bf,.arr 63 E1 ps0 cf)) (hln:ln0=ps0.length) (hkn:Nat.beq kn 900=false) (hkf:Nat.beq kf 900=false) (hkk:Nat.beq kn kf=false)
 (hcE:∀ h,HS S h→bn∉cE∧bf∉cE) (h1:A1 r=ptr br) (h2:A1 nd=ptr bn) (h3:B3 S.ch kk=some (b2,.arr 63 E1 ps cap)) (h4:Nat.beq kk 900=false) (h5:Nat.beq kk kn=false) (h6:Nat.beq kk kf=false) (hl:ln=ps.length)
 (hT0:L3 hE.size S.h0 S.cap ps0 l0∧fL l0) (hT:L3 hE.size S.h0 S.cap ps l∧fL l) (hlk:O5 k≤(l0++l).length) (hlen:(l0++l).length≤1000000)
 (hk:∀ h',V3 S.ch kn fun ch=>V3 ch kf fun ch=>Wd I M cE hE h' (blks ch) (.one (some ⟨bn,0,none⟩) (.mk k w f n (l0++l))::its)→κ (.val (.pointer (some ⟨bn,0,none⟩))) ⟨h',blks ch,ch⟩):CK Tryz.prog E 109 [r,nd,.osl kk b2 ln cap] [] S κ:=
 CK.close1 kn kf W hf hfn hff hln hkn hkf hkk hcE (by simp only [List.map_cons,List.map_nil,List.append_nil,h1,h2]) (fun h hs=>wH hs h3 hf hfn hff h4 h5 h6 hl) hT0 hT hlk hlen hk
theorem Wd.stand(W:Wd I M [br] hE S.h0 S.cap its){h:A3}(hs:HS S h){kn kf bn bf cf:Nat}{k w f to:Int}{ln0:Int}{ps:List (Option Addr)}{l:List Nd}(hf:B3 S.ch 900=some (br,H5 I M t n))(hfn:B3 S.ch kn=some (bn,D6 k w f to (.osl kf bf ln0 cf)))
 (hff:B3 S.ch kf=some (bf,.arr 63 E1 ps cf)) (hln:ln0=ps.length) (h1:Nat.beq kn 900=false) (h2:Nat.beq kf 900=false)
 (hT:L3 hE.size S.h0 S.cap ps l∧fL l) (hlk:O5 k≤l.length):Wd I M [br] hE h [br] (.one (some ⟨bn,0,none⟩) (.mk k w f to l)::its):=by
 subst hln
 have n1:bn∉[br]:=fun hm=>hs.ne hfn hf (lA h1) (List.mem_singleton.1 hm)
 have n2:bf∉[br]:=fun hm=>hs.ne hff hf (lA h2) (List.mem_singleton.1 hm)
 have lb:=hs.lB.less (oI hf)
 have hsl:=hs.sl hff (Nat.le_refl _)
 rw [List.take_length] at hsl
 exact (W.anew (h':=h) (cap':=[br]) lb).add (i:=.one (some ⟨bn,0,none⟩) (.mk k w f to l)) ⟨cL ⟨W.lo_own hs hfn n1,(hs.chunk _ (fM hfn)).1,n1⟩ (hs.chunk _ (fM hfn)).2.2
  (A:=some ⟨bf,0,none⟩) (n:=ps.length) (c:=cf) ⟨hsl,fun h0 a e=>by cases e;exact⟨(hs.chunk _ (fM hff)).1,n2⟩⟩ (fun a h0 e=>by cases e;exact W.lo_own hs hff n2) (L3.later lb (Nat.le_refl _) l hT.1),by simp only [Wf];exact⟨hlk,hT.2⟩⟩
theorem CK.freeze(kn kf:Nat){f':Nat}{bn bf cf:Nat}{k w f to:Int}{ln0:Int}{ps:List (Option Addr)}{l:List Nd}(W:Wd I M cE hE S.h0 S.cap its)(hf:B3 S.ch 900=some (br,H5 I M t n))(hfn:B3 S.ch kn=some (bn,D6 k w f to (.osl kf bf ln0 cf)))
 (hff:B3 S.ch kf=some (bf,.arr 63 E1 ps cf)) (hln:ln0=ps.length) (hkk:Nat.beq kn kf=false) (hcE:∀ h,HS S h→bn∉cE∧bf∉cE)
 (hT:L3 hE.size S.h0 S.cap ps l∧fL l) (hlk:O5 k≤l.length)
 (hk:∀ h',V3 S.ch kn fun ch=>V3 ch kf fun ch=>Wd I M cE hE h' (blks ch) (.one (some ⟨bn,0,none⟩) (.mk k w f to l)::its)→CK Tryz.prog E f' args caps ⟨h',blks ch,ch⟩ κ):CK Tryz.prog E f' args caps S κ:=
 ⟨fun h hs=>by
  subst hln
  have hkk:=lA hkk
  obtain⟨ch1,h6',h7',h8'⟩:=G7 (hk h)
  obtain⟨ch,h6,h7,h8⟩:=G7 h6'
  have h9k:∀ e∈ch,e.1≠kn:=fun e he=>h8' e (h7.subset he)
  have h7:=h7.trans h7'
  have hnb:∀ (k0 b0:Nat) (c0:D8),B3 S.ch k0=some (b0,c0)→(∀ e∈ch,e.1≠k0)→b0∉blks ch:=fun k0 b0 c0 h1 h2 hm=>by
   obtain⟨e,he,e2⟩:=oH hm
   exact K6 hs.apart (h7.subset he) (fM h1) (fun e3=>h2 e he (by rw [e3])) e2
  have h9:HS ⟨S.h0,S.cap,ch⟩ h:=hs.sub h7
  have hsl:=hs.sl hff (Nat.le_refl _)
  rw [List.take_length] at hsl
  have W':=(W.anew (h':=h) (cap':=blks ch) h9.lB).add (i:=.one (some ⟨bn,0,none⟩) (.mk k w f to l)) ⟨cL ⟨W.lo_own hs hfn (hcE h hs).1,(hs.chunk _ (fM hfn)).1,hnb kn bn _ hfn h9k⟩ (hs.chunk _ (fM hfn)).2.2
   (A:=some ⟨bf,0,none⟩) (n:=ps.length) (c:=cf) ⟨hsl,fun h0 a e=>by cases e;exact⟨(hs.chunk _ (fM hff)).1,hnb kf bf _ hff h8⟩⟩ (fun a h0 e=>by cases e;exact W.lo_own hs hff (hcE h hs).2) (L3.later h9.lB (Nat.le_refl _) l hT.1),by simp only [Wf];exact⟨hlk,hT.2⟩⟩
  exact (h6 W').go h h9.anew⟩
end
end Go.Ex
namespace Go.Ex
open Go.Proofs
attribute [local irreducible] CH X2 word B9
theorem L3.get{lo:Nat}{h:A3}{cap:List Nat}:∀ {l:List Nd} {ps:List (Option Addr)},L3 lo h cap ps l→∀ i,i<l.length→∃ b,ps[i]?=some (some ⟨b,0,none⟩)∧Q2 lo h cap (some ⟨b,0,none⟩) (l.getD i I3)
 |[],ps,hT,i,hi=>absurd hi (Nat.not_lt_zero i)
 |x::l,ps,hT,i,hi=>by
  simp only [L3] at hT
  obtain⟨p,r,rfl,h1,h2⟩:=hT
  cases i with
  |zero=>
   obtain⟨b,rfl⟩:=h1.ptr
   exact⟨b,rfl,h1⟩
  |succ i=>
   obtain⟨b,h3,h4⟩:=h2.get i (by simpa using hi)
   exact⟨b,by simpa using h3,by simpa using h4⟩
theorem W7{ps:List (Option Addr)}{i:Nat}{p:Option Addr}(h:ps[i]?=some p)(j:Int)(hj:j.toNat=i):kB 0 1 (E1.cells (B1 E1.dflt ps j))=some [.pointer p]:=by
 have:B1 E1.dflt ps j=p:=by simp [B1,List.getD,hj,h]
 rw [this];rfl
theorem EC:Tryz.prog.underlying 63=some (.pointer 69):=by kernel_rfl
theorem AQ(d:Nat)(w:World):(Op.equalIn (d+1) 63 (.pointer none) (.pointer none)).run Tryz.prog w = .ok true w:=by
 simp [Op.equalIn,underlying,EC]
theorem AP(d:Nat)(a:Addr)(w:World):(Op.equalIn (d+1) 63 (.pointer (some a)) (.pointer none)).run Tryz.prog w = .ok false w:=by
 simp [Op.equalIn,underlying,EC]
theorem Yy(w:World):(Op.equalIn Op.maxDepth 63 (.pointer none) (.pointer none)).run Tryz.prog w = .ok true w:=AQ 9999 w
theorem Xy(a:Addr)(w:World):(Op.equalIn Op.maxDepth 63 (.pointer (some a)) (.pointer none)).run Tryz.prog w = .ok false w:=AP 9999 a w
theorem qM{κ:KV→Prop}(h:κ (.prop ((0:Int)=0))):Ij Tryz.prog .eql 63 (.val (.pointer none)) (.val (.pointer none)) κ:=⟨_,fun u v w=>by
 show (do eqGuard .eql 63 u v (.pointer none) (.pointer none);binOp .eql 63 (.pointer none) (.pointer none):Sem Value).run Tryz.prog w = _
 simp [eqGuard,binOp,Op.equal,Yy,A0],h⟩
theorem rO{κ:KV→Prop}{a:Addr}(h:κ (.prop ((0:Int)=1))):Ij Tryz.prog .eql 63 (.val (.pointer (some a))) (.val (.pointer none)) κ:=⟨_,fun u v w=>by
 show (do eqGuard .eql 63 u v (.pointer (some a)) (.pointer none);binOp .eql 63 (.pointer (some a)) (.pointer none):Sem Value).run Tryz.prog w = _
 simp [eqGuard,binOp,Op.equal,Xy,A0],h⟩
theorem Nk{κ:KV→Prop}(h:κ (.prop ((0:Int)=1))):Ij Tryz.prog .neq 63 (.val (.pointer none)) (.val (.pointer none)) κ:=⟨_,fun u v w=>by
 show (do eqGuard .neq 63 u v (.pointer none) (.pointer none);binOp .neq 63 (.pointer none) (.pointer none):Sem Value).run Tryz.prog w = _
 simp [eqGuard,binOp,Op.equal,Yy,A0],h⟩
theorem Qb{κ:KV→Prop}{a:Addr}(h:κ (.prop ((0:Int)=0))):Ij Tryz.prog .neq 63 (.val (.pointer (some a))) (.val (.pointer none)) κ:=⟨_,fun u v w=>by
 show (do eqGuard .neq 63 u v (.pointer (some a)) (.pointer none);binOp .neq 63 (.pointer (some a)) (.pointer none):Sem Value).run Tryz.prog w = _
 simp [eqGuard,binOp,Op.equal,Xy,A0],h⟩
theorem fL.get:∀ {l:List Nd} (i:Nat),fL l→i<l.length→Wf (l.getD i I3)
 |[],i,_,h=>absurd h (Nat.not_lt_zero i)
 |x::l,0,h,_=>h.1
 |x::l,i+1,h,hi=>by simpa using fL.get i h.2 (by simpa using hi)
theorem Wf.kids:∀ {x:Nd},Wf x→O5 x.kind≤x.kids.length∧fL x.kids
 |.mk ..,h=>by simp only [Wf] at h;exact h
theorem C1.kid{S:St}{lo:Nat}{A:Option Addr}{n:Nat}{ps:List (Option Addr)}{l:List Nd}{κ:KV→Prop}(i:Nat)(hA:D3 E1 S.h0 S.cap A n ps)(hT:L3 lo S.h0 S.cap ps l)(hl:i<l.length)
 (hk:∀ b,Q2 lo S.h0 S.cap (some ⟨b,0,none⟩) (l.getD i I3)→G8 false (O7 [.pointer (some ⟨b,0,none⟩)]) κ):C1 S A 1 (i:Int) 0 1 false κ:=by
 obtain⟨b,h1,h2⟩:=hT.get i hl
 have hlen:=hA.sl.len_eq
 have hll:=hT.len
 exact C1.held hA rfl (by omega) (by omega) (W7 h1 (i:Int) rfl) (hk b h2)
theorem Wd.kid{I:In}{M:O6}{cE:List Nat}{hE h0:A3}{cap:List Nat}{its:List It}(W:Wd I M cE hE h0 cap its){p q:Option Addr}{x:Nd}(hi:It.one p x∈its){i:Nat}(hT:Q2 hE.size h0 cap q (x.kids.getD i I3))(hl:i<x.kids.length):Wd I M cE hE h0 cap (.one q (x.kids.getD i I3)::its):=
 W.add ⟨hT,(W.wf hi).kids.2.get i hl⟩
theorem Wd.len1{I:In}{M:O6}{cE:List Nat}{hE h0:A3}{cap:List Nat}{its:List It}(W:Wd I M cE hE h0 cap its){p:Option Addr}{x:Nd}{k:Int}(h:x.kind=k)(hi:It.one p x∈its)(hk:0<O5 k):0<x.kids.length:=by
 have:=(W.wf hi).kids.1
 rw [h] at this
 omega
theorem wS:∀ (x:Nd) (r:List Nd),(x::r).getLastD I3=(x::r).getD r.length I3
 |x,[]=>rfl
 |x,y::r=>by
  have:=wS y r
  simpa using this
section
variable {I:In}{M:O6}{br:Nat}{t:Bool}{n:Int}{h:A3}{cap:List Nat}{lo:Nat}
theorem sO{A:Option Addr}{len c:Nat}{ps:List (Option Addr)}{l:List Nd}{k:Int}(hs:HS ⟨h,[br],G5 I M br t n⟩ h)(hbr:br∈cap)(hcap:∀ x∈cap,x<h.size)(hlo:lo≤h.size)(hy:D3 E1 h cap A len ps)(ha:∀ a,0<len→A=some a→lo≤a.block)(hT:L3 lo h cap ps l) :
 CH Tryz.prog 107 #[ptr br,.int .u8 k,.slice A len c] h fun v h'=>∃ b,v=ptr b∧A5 h h'∧Q2 lo h' cap (some ⟨b,0,none⟩) (K3 k l n):=by
 refine hX 4 [6,7,13] [] [.own 900 br 0,.val (.int .u8 k),.val (.slice A len c)] Tryz.func107 rfl hs ?_
 have hs0:=hs
 have hlen:=hy.sl.len_eq
 have hll:=hT.len
 have hsm:=hy.sl.small
 have hsl:=hy.sl
 have fresh:∀ (b:Nat),h.size≤b→b∉cap:=fun b hb hm=>by have:=hcap b hm;omega
 cases l with
 |nil=>
  simp only [List.length_nil] at hll
  ((repeat' (conv=>whnf);first|(refine Br.mk ?_ ?_<;>intro hb<;>(try omega))|(refine CK.box 901 _ (fun h1 hs=>Us hs rfl _) ?_;intro b hbb)|fail);all_goals try conv=>whnf)
  all_goals exact⟨fun h' hs=>⟨b,rfl,hs0.gB hs rfl,cM ⟨Nat.le_trans hlo hbb,(hs.chunk _ List.mem_cons_self).1,fresh b hbb⟩ (hs.chunk _ List.mem_cons_self).2.2⟩⟩
 |cons x r=>
  obtain⟨b0,g0,T0⟩:=hT.get 0 (by simp)
  obtain⟨bl,gl,Tl⟩:=hT.get r.length (by simp)
  rw [←wS] at Tl
  rw [List.getD_cons_zero] at T0
  simp only [List.length_cons] at hll
  have hy1:D3 E1 h [br] A len ps:=⟨hy.sl,fun h0 a e=>⟨(hy.out h0 a e).1,fun hm=>(hy.out h0 a e).2 (by rw [List.mem_singleton.1 hm];exact hbr)⟩⟩
  have T0:Q2 lo h [br] (some ⟨b0,0,none⟩) x:=Q2.recap (fun c hc=>.inl (by rw [List.mem_singleton.1 hc];exact hbr)) (Nat.le_refl _) x T0
  have Tl:Q2 lo h [br] (some ⟨bl,0,none⟩) ((x::r).getLastD I3):=Q2.recap (fun c hc=>.inl (by rw [List.mem_singleton.1 hc];exact hbr)) (Nat.le_refl _) _ Tl
  have e0:=W7 g0 0 rfl
  have el:=W7 gl ((len:Int)-1) (by omega)
  ((repeat' (conv=>whnf);first|(refine Br.mk ?_ ?_<;>intro hb<;>(try omega))|(refine CK.box 901 _ (fun h1 hs=>Us hs rfl _) ?_;intro b hbb)|fail);all_goals try conv=>whnf)
  all_goals ((refine C2 (id:=3) (.pl [0,1,2,3,4,9,10,11,12,13,18] (.br 5 14 (.pl [6,7,14,15,16,8,17,19,20] (.on [21] (.pl [22,23] (.on [24] (.pl [25,26] (.on [27] .e)))))) (.pl [15,16,5,6,7,8,17,19,20] (.on [21] (.pl [22,23] (.on [24] (.pl [25,26] (.on [27] .e)))))))) (by kernel_rfl) ?_))
  ((repeat' (conv=>whnf);first|(refine Ar.fit (by omega) ?_)|(refine VC.mk (by (first|omega|exact Sl.plain (by assumption) (by omega))) ?_)|(refine dD.mk ?_ ?_)|(refine C1.held hy1 rfl (by omega) (by omega) (l:=[.pointer (some ⟨b0,0,none⟩)]) e0 ?_)|(refine C1.held hy1 rfl (by omega) (by omega) (l:=[.pointer (some ⟨bl,0,none⟩)]) el ?_)|(refine A9.frm T0 ?_)|(refine A9.to Tl ?_)|fail);all_goals try conv=>whnf)
  all_goals
   refine⟨fun h' hs=>⟨b,rfl,hs0.gB hs rfl,?_⟩⟩
   have hg:=hs0.gB hs rfl
   have hl:G1 h cap h' cap:=⟨hg.size,fun b hb _=>hg.same b hb,fun c hc=>.inl hc⟩
   exact cL (l:=x::r) ⟨Nat.le_trans hlo hbb,(hs.chunk _ List.mem_cons_self).1,fresh b hbb⟩ (hs.chunk _ List.mem_cons_self).2.2 (hy.later hl) ha (L3.later hl (Nat.le_refl _) _ hT)
end
section
variable {I:In}{M:O6}{br:Nat}{cE:List Nat}{hE:A3}{its:List It}{S:St}{t:Bool}{n:Int}{α:Type}{oC:G3 α}{args caps:List KV}{κ:KV→St→Prop}{E:Value→A3→Prop}
theorem xS{k:Int}{l:List Nd}(hk:O5 k=0)(hl:fL l):Wf (K3 k l n):=by
 cases l with
 |nil=>exact iT hk
 |cons x r=>simp only [K3,Wf,hk];exact⟨Nat.zero_le _,hl⟩
theorem CK.listH{r:KV}{k:Int}{A:Option Addr}{len c:Nat}{ps:List (Option Addr)}{l:List Nd}(W:Wd I M cE hE S.h0 S.cap its)(hf:B3 S.ch 900=some (br,H5 I M t n))(h1:A1 r=ptr br)(hi:It.sl A len ps l∈its)(hk0:O5 k=0)
 (hk:∀ b h',Wd I M cE hE h' (blks S.ch) (.one (some ⟨b,0,none⟩) (K3 k l n)::its)→κ (.val (.pointer (some ⟨b,0,none⟩))) ⟨h',blks S.ch,S.ch⟩):CK Tryz.prog E 107 [r,.val (.int .u8 k),.val (.slice A len c)] [] S κ:=
 ⟨fun h hs=>.inl (by
  obtain⟨i1,i2,i3,i4⟩:=W.its _ hi
  have lb:=hs.lB
  have e:List.map A1 [r,.val (.int .u8 k),.val (.slice A len c)]++List.map A0 []=[ptr br,.int .u8 k,.slice A len c]:=by simp only [List.map_cons,List.map_nil,List.append_nil,h1];rfl
  rw [e]
  refine (sO (lo:=hE.size) (L9 hs hf) (J0 hf) (fun x hx=>(hs.blks_of hx).1) (Nat.le_trans W.later.size hs.size) (i1.later lb) i2 (L3.later lb (Nat.le_refl _) l i3)).mono fun v h' ⟨b,e1,hg,hT⟩=>?_
  have h9:=hs.later hg
  exact⟨_,_,by rw [e1];rfl,h9.anew,hk b h' ((W.anew h9.lB).add ⟨hT,xS hk0 i4⟩)⟩)⟩
theorem CK.listZ{r:KV}{k:Int}(W:Wd I M cE hE S.h0 S.cap its)(hf:B3 S.ch 900=some (br,H5 I M t n))(h1:A1 r=ptr br)(hk0:O5 k=0)
 (hk:∀ b h',Wd I M cE hE h' (blks S.ch) (.one (some ⟨b,0,none⟩) (K3 k [] n)::its)→κ (.val (.pointer (some ⟨b,0,none⟩))) ⟨h',blks S.ch,S.ch⟩):CK Tryz.prog E 107 [r,.val (.int .u8 k),.val (.slice none 0 0)] [] S κ:=
 CK.listH (ps:=[]) (l:=[]) (W.add (i:=.sl none 0 [] []) ⟨⟨Sl.nil _ _ _,fun h0=>absurd h0 (Nat.lt_irrefl 0)⟩,fun a h0=>absurd h0 (Nat.lt_irrefl 0),L3.nil,trivial⟩) hf h1 List.mem_cons_self hk0
  fun b h' W'=>hk b h' (W'.of fun e he=>by
   rcases List.mem_cons.1 he with rfl|he
   ·exact List.mem_cons_self
   ·exact List.mem_cons_of_mem _ (List.mem_cons_of_mem _ he))
theorem CK.listO{r:KV}{k:Int}{kk b2 cap:Nat}{ln:Int}{ps:List (Option Addr)}{l:List Nd}(W:Wd I M cE hE S.h0 S.cap its)(hf:B3 S.ch 900=some (br,H5 I M t n))(h1:A1 r=ptr br)(h3:B3 S.ch kk=some (b2,.arr 63 E1 ps cap))(h4:Nat.beq kk 900=false)(hl:ln=ps.length)
 (hcE:cE=[br]) (hT:L3 hE.size S.h0 S.cap ps l∧fL l) (hk0:O5 k=0)
 (hk:∀ b h',V3 S.ch kk fun ch=>Wd I M cE hE h' (blks ch) (.one (some ⟨b,0,none⟩) (K3 k l n)::its)→κ (.val (.pointer (some ⟨b,0,none⟩))) ⟨h',blks ch,ch⟩):CK Tryz.prog E 107 [r,.val (.int .u8 k),.osl kk b2 ln cap] [] S κ:=
 ⟨fun h hs=>.inl (by
  subst hl
  have h4:=lA h4
  have e:List.map A1 [r,.val (.int .u8 k),.osl kk b2 (ps.length:Int) cap]++List.map A0 []=[ptr br,.int .u8 k,.slice (some ⟨b2,0,none⟩) ps.length cap]:=by simp only [List.map_cons,List.map_nil,List.append_nil,h1];rfl
  rw [e]
  have hsl:=hs.sl h3 (Nat.le_refl _)
  rw [List.take_length] at hsl
  have hlo:=W.lo_own hs h3 (by rw [hcE];exact fun hm=>hs.ne h3 hf h4 (List.mem_singleton.1 hm))
  -- what is left
  have hch:∃ ch:L8,ch.Sublist S.ch∧(∀ e∈ch,e.1≠kk)∧(∀ e∈S.ch,e.1≠kk→e∈ch)∧∀ b h',Wd I M cE hE h' (blks ch) (.one (some ⟨b,0,none⟩) (K3 k l n)::its)→κ (.val (.pointer (some ⟨b,0,none⟩))) ⟨h',blks ch,ch⟩:=by
   have key:∀ (ch:L8),∃ ch',ch'.Sublist ch∧(∀ e∈ch',e.1≠kk)∧(∀ e∈ch,e.1≠kk→e∈ch')∧∀ q:L8→Prop,V3 ch kk q→q ch':=by
    intro ch
    induction ch with
    |nil=>exact⟨[],.slnil,fun e he=>(by cases he),fun e he=>(by cases he),fun q h=>h⟩
    |cons e0 r0 ih=>
     obtain⟨j,b0,c0⟩:=e0
     obtain⟨ch',i1,i2,i4,i3⟩:=ih
     cases hj:Nat.beq j kk with
     |true=>exact⟨ch',i1.cons _,i2,fun e he hne=>(List.mem_cons.1 he).elim (fun h=>absurd (by rw [h];exact Qk hj) hne) fun h=>i4 e h hne,fun q h=>i3 q (by simp only [V3,hj] at h;exact h)⟩
     |false=>exact⟨(j,b0,c0)::ch',i1.cons_cons _,fun e he=>(List.mem_cons.1 he).elim (fun h=>by rw [h];exact lA hj) fun h=>i2 e h,fun e he hne=>(List.mem_cons.1 he).elim (fun h=>by rw [h];exact List.mem_cons_self) fun h=>List.mem_cons_of_mem _ (i4 e h hne),fun q h=>i3 (fun r=>q ((j,b0,c0)::r)) (by simp only [V3,hj] at h;exact h)⟩
   obtain⟨ch',i1,i2,i4,i3⟩:=key S.ch
   exact⟨ch',i1,i2,i4,fun b h'=>i3 _ (hk b h')⟩
  obtain⟨ch,c1,c2,c4,c3⟩:=hch
  have hbr:br∈blks ch:=G9 (c4 _ (fM hf) (fun e=>h4 e.symm))
  have lb:G1 S.h0 S.cap h (blks ch):=hs.lB.less fun x hx=>by
   obtain⟨e,he,rfl⟩:=oH hx
   exact G9 (c1.subset he)
  have hnb:b2∉blks ch:=fun hm=>by
   obtain⟨e,he,e2⟩:=oH hm
   exact K6 hs.apart (c1.subset he) (fM h3) (fun e3=>c2 e he (by rw [e3])) e2
  refine (sO (lo:=hE.size) (cap:=blks ch) (L9 hs hf) hbr (fun x hx=>by
   obtain⟨e,he,rfl⟩:=oH hx
   exact (hs.chunk e (c1.subset he)).1) (Nat.le_trans W.later.size hs.size) ⟨hsl,fun h0 a e=>by cases e;exact⟨(hs.chunk _ (fM h3)).1,hnb⟩⟩ (fun a h0 e=>by cases e;exact hlo) (L3.later lb (Nat.le_refl _) l hT.1)).mono fun v h' ⟨b,e1,hg,hT'⟩=>?_
  have h9:HS ⟨S.h0,S.cap,ch⟩ h':=(hs.sub c1).later hg
  exact⟨_,_,by rw [e1];rfl,h9.anew,c3 b h' ((W.anew h9.lB).add ⟨hT',xS hk0 hT.2⟩)⟩)⟩
end
end Go.Ex
