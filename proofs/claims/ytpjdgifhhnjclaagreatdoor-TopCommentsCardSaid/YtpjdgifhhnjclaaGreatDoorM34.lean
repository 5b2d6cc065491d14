/-
  Top: TopComments: whatever the input, the law answers true (part 34)
-/
import Derived.Test.YtpjdgifhhnjclaaGreatDoorM33
set_option linter.unusedVariables false
set_option linter.unusedSimpArgs false
set_option maxHeartbeats 4000000
set_option maxRecDepth 10000
namespace Go.Ex
open Go.Proofs
def Kp(V:List (Nat×Value))(a:Act):Prop:=a.tmps.size=46∧∀ p∈V,a.tmps[p.1]?=some p.2
def Xz(V:List (Nat×Value))(d:Option Nat):Bool:=match d with
 |none=>true
 |some d=>V.all fun p=>!(Nat.beq p.1 d)
theorem Kp.put{V:List (Nat×Value)}{a:Act}(h:Kp V a){d:Option Nat}(hd:Xz V d=true)(v:Value):Kp V (a.put d v):=by
 cases d with
 |none=>exact h
 |some d=>
  refine⟨by simp [Act.put,h.1],fun p hp=>?_⟩
  have h1:=List.all_eq_true.1 hd p hp
  simp only [Bool.not_eq_true'] at h1
  have hne:¬ d=p.1:=fun e=>by rw [e,Nat.beq_refl] at h1;cases h1
  show (a.tmps.setIfInBounds d v)[p.1]? = _
  rw [Array.getElem?_setIfInBounds_ne hne]
  exact h.2 p hp
def cX(V:List (Nat×Value)):Code→Bool
 |.skip=>true
 |.region _ ops false=>ops.toList.all fun o=>Xz V o.dst
 |.seq x y=>cX V x && cX V y
 |.cond _ x y=>cX V x && cX V y
 |.block _ c=>cX V c
 |.exit _=>true
 |.ret=>true
 |_=>false
def Cd(V:List (Nat×Value))(E:Value→A3→Prop)(Df:List Deferred)(n:Nat)(w0:World)(X:Hj)(κ:Kt):Exit→Act→World→Prop:=fun e a w=>jH E Df n w0 X κ e a w∧Kp V a
section
variable {Df:List Deferred}{P:Program}{ty:Nat→Option gS}{rep:Jj}{n m:Nat}{ex:List Nat}{X:Hj}{V:List (Nat×Value)}
theorem iG(hty:H6 P ty){ops:List Oper}:∀ (l:List Oper) (K:Kn) (S:St) (κ:Kt),(l.all fun o=>Xz V o.dst)=true→pV P ty rep n ops l K S κ→∀ (w0:World) a w,H9 Df n a K→Kp V a→SE w0 w→HS S w.heap→wpList P ops.toArray (Cd V rep.pan Df n w0 X κ) l a w
 |[],K,S,κ,hV,h,w0,a,w,ha,hk,he,hs=>⟨⟨K,S,ha,he,hs,h⟩,hk⟩
 |o::r,K,S,κ,hV,h,w0,a,w,ha,hkp,he,hs=>by
  have h:(match jS n o.dst with
   |false=>False
   |true=>match o.guard with
    |none=>Yn P ty rep o K S fun v S=>pV P ty rep n ops r (W2 K o.dst v) S κ
    |some (j,want)=>match mQ ops j with
     |none=>False
     |some s=>gH s want K (fun K=>Yn P ty rep o K S fun v S=>pV P ty rep n ops r (W2 K o.dst v) S κ) (fun K=>pV P ty rep n ops r (W2 K o.dst (.val undef)) S κ)):=h
  simp only [List.all_cons,Bool.and_eq_true] at hV
  split at h
  ·exact h.elim
  rename_i hd
  have hd:=bA hd
  have run:∀ K,H9 Df n a K→(Yn P ty rep o K S fun v S=>pV P ty rep n ops r (W2 K o.dst v) S κ)→o.wp P a w (wpList P ops.toArray (Cd V rep.pan Df n w0 X κ) r) (Cd V rep.pan Df n w0 X κ):=fun K ha h=>
   eV hty h ha hs (fun v w' he' hE=>⟨⟨v,rfl,ha.defers,he.trans he',hE⟩,hkp⟩) fun kv S' w' he' hs' hk=>iG hty r _ S' κ hV.2 hk w0 _ w' (ha.put hd kv) (hkp.put hV.1 _) (he.trans he') hs'
  split at h
  ·rename_i hg
   unfold wpList
   rw [if_pos (by simp [Region.wanted,hg])]
   exact .inl (run K ha h)
  ·rename_i j want hg
   split at h
   ·exact h.elim
   ·rename_i s hs'
    obtain⟨K',ha',h1|h1⟩:=bK h ha
    ·have hw:Region.wanted o (yielded ops.toArray a.tmps)=true:=by
      have:=h1.1
      rw [cI] at hs'
      simp [Region.wanted,hg,yielded,hs',this]
     unfold wpList
     rw [if_pos hw]
     exact .inl (run K' ha' h1.2)
    ·have hw:Region.wanted o (yielded ops.toArray a.tmps)=false:=by
      rw [cI] at hs'
      rcases h1.1 with this|this
      ·simp [Region.wanted,hg,yielded,hs',this]
      ·simp [Region.wanted,hg,yielded,hs',this,undef]
     unfold wpList
     rw [if_neg (by rw [hw];simp)]
     exact iG hty r _ S κ hV.2 h1.2 w0 _ w (ha'.put hd (.val undef)) (hkp.put hV.1 _) he hs
theorem P6(hty:H6 P ty):∀ (c:Code) (X:Hj) (κ:Kt) (K:Kn) (S:St),cX V c=true→J8 P ty rep n m ex [] c X κ K S→∀ (Df:List Deferred) (w0:World) a w,H9 Df n a K→Kp V a→SE w0 w→HS S w.heap→c.wp P (Cd V rep.pan Df n w0 X κ) a w
 |.skip,X,κ,K,S,hV,h=>fun Df w0 a w ha hk he hs=>wp_skip ⟨⟨K,S,ha,he,hs,h⟩,hk⟩
 |.region id ops false,X,κ,K,S,hV,h=>fun Df w0 a w ha hk he hs=>by
  have:=iG (X:=X) hty ops.toList K S κ hV h w0 a w ha hk he hs
  exact wp_region_list (by simpa using this)
 |.region id ops true,X,κ,K,S,hV,h=>by simp [cX] at hV
 |.seq x y,X,κ,K,S,hV,h=>fun Df w0 a w ha hk he hs=>by
  simp only [cX,Bool.and_eq_true] at hV
  have h1:x.wp P (Cd V rep.pan Df n w0 X fun K S=>J8 P ty rep n m ex [] y X κ K S) a w:=by
   have h:(match Ie [] y with
    |true=>V7 m ex K [] fun K=>nB P n ty rep m ex [] x X (fun K S=>J8 P ty rep n m ex [] y X κ K S) K S
    |false=>J8 P ty rep n m ex [] x X (fun K S=>J8 P ty rep n m ex [] y X κ K S) K S):=h
   have hc:Ie [] y=false:=by unfold Ie;split<;>rfl
   rw [hc] at h
   exact P6 hty x X _ K S hV.1 h Df w0 a w ha hk he hs
  refine wp_seq (Code.wp_mono ?_ h1)
  intro e a w hq
  cases e with
  |normal=>obtain⟨⟨K,S,a1,a2,a3,a4⟩,a5⟩:=hq;exact P6 hty y X κ K S hV.2 a4 Df w0 a w a1 a5 a2 a3
  |exit i=>exact hq
  |ret=>exact hq
  |panic ch=>exact hq
  |goto l=>exact hq
  |outgrown=>exact hq
 |.cond c x y,X,κ,K,S,hV,h=>fun Df w0 a w ha hk he hs=>by
  simp only [cX,Bool.and_eq_true] at hV
  have h:(match H4 K c with
   |some (.val (.bool true))=>V7 m ex K [] fun K=>J8 P ty rep n m ex [] x X κ K S
   |some (.val (.bool false))=>V7 m ex K [] fun K=>J8 P ty rep n m ex [] y X κ K S
   |some (.prop p)=>Br p (V7 m ex K [] fun K=>J8 P ty rep n m ex [] x X κ K S) (V7 m ex K [] fun K=>J8 P ty rep n m ex [] y X κ K S)
   |_=>False):=h
  split at h
  ·rename_i hc
   obtain⟨K',h1,h2⟩:=N4 h
   exact wp_cond_true (ha.eval hc) (P6 hty x X κ K' S hV.1 h1 Df w0 a w (ha.drop h2) hk he hs)
  ·rename_i hc
   obtain⟨K',h1,h2⟩:=N4 h
   exact wp_cond_false (ha.eval hc) (P6 hty y X κ K' S hV.2 h1 Df w0 a w (ha.drop h2) hk he hs)
  ·rename_i p hc
   have hv:=ha.eval hc
   by_cases hp:p
   ·obtain⟨K',h1,h2⟩:=N4 (h.yes hp)
    exact wp_cond_true (by rw [hv];simp [B0,A1,A0,hp]) (P6 hty x X κ K' S hV.1 h1 Df w0 a w (ha.drop h2) hk he hs)
   ·obtain⟨K',h1,h2⟩:=N4 (h.no hp)
    exact wp_cond_false (by rw [hv];simp [B0,A1,A0,hp]) (P6 hty y X κ K' S hV.2 h1 Df w0 a w (ha.drop h2) hk he hs)
  ·exact h.elim
 |.block id c,X,κ,K,S,hV,h=>fun Df w0 a w ha hk he hs=>by
  have h1:=P6 hty c _ κ K S hV h Df w0 a w ha hk he hs
  refine wp_block (Code.wp_mono ?_ h1)
  intro e a w hq
  cases e with
  |normal=>exact hq
  |exit i=>
   obtain⟨⟨K,S,a1,a2,a3,a4⟩,a5⟩:=hq
   simp only [Exit.inBlock]
   split
   ·rename_i e
    subst e
    rw [mK] at a4
    exact⟨⟨K,S,a1,a2,a3,a4⟩,a5⟩
   ·rename_i e
    rw [mJ (fun e'=>e e'.symm)] at a4
    exact⟨⟨K,S,a1,a2,a3,a4⟩,a5⟩
  |ret=>exact hq
  |panic ch=>exact hq
  |goto l=>exact hq
  |outgrown=>exact hq
 |.exit id,X,κ,K,S,hV,h=>fun Df w0 a w ha hk he hs=>wp_exit ⟨⟨K,S,ha,he,hs,h⟩,hk⟩
 |.ret,X,κ,K,S,hV,h=>fun Df w0 a w ha hk he hs=>wp_ret ⟨⟨K,S,ha,he,hs,h⟩,hk⟩
 |.loop c,X,κ,K,S,hV,h=>by simp [cX] at hV
 |.rangeFunc ..,_,_,_,_,hV,h=>by simp [cX] at hV
 |.goto ..,_,_,_,_,hV,h=>by simp [cX] at hV
end
end Go.Ex
namespace Go.Ex
open Go.Proofs
def Og(goal:Int):Fn:=if goal=1 then .typ else if goal=2 then .expr else if goal=3 then .stmts else .file
def fT(I:In):Nat:=(32*(I.L+1)+24).toNat
def endS(I:In)(goal m:Int):Int:=if goal≤2∧m=I.L-1 then maybe I (⟨#[59]⟩:ByteArray) m else m
def aP(I:In)(goal:Int):G3 Nd:=bnd (G I (fT I) (Og goal) false 0) fun x m=>if endS I goal m=I.L then .ok x (endS I goal m) else .err (endS I goal m)
section
variable {P:Program}{ty:Nat→Option gS}{rep:Jj}{n m:Nat}{ex:List Nat}{V:List (Nat×Value)}
theorem CN(hty:H6 P ty){x z:Code}{κ:Kt}{K:Kn}{S:St}{Df:List Deferred}{w0 w:World}{a:Act}{Q:Exit→Act→World→Prop}(hk:cX V x=true)(h:J8 P ty rep n m ex [] x ⟨fun _ _=>False,[]⟩ κ K S)
 (ha:H9 Df n a K) (hv:Kp V a) (he:SE w0 w) (hs:HS S w.heap) (hn:∀ K S a w1,H9 Df n a K→SE w0 w1→HS S w1.heap→κ K S→z.wp P Q a w1)
 (hp:∀ v a w1,a.defers=Df→Kp V a→SE w0 w1→rep.pan v w1.heap→Q (.panic [{ v,recovered:=false }]) a w1):(Code.seq x z).wp P Q a w:=by
 have h1:=P6 hty x _ _ K S hk h Df w0 a w ha hv he hs
 refine wp_seq (Code.wp_mono ?_ h1)
 intro e a w1 hq
 cases e with
 |normal=>obtain⟨⟨K,S,a1,a2,a3,a4⟩,a5⟩:=hq;exact hn K S a w1 a1 a2 a3 a4
 |exit i=>obtain⟨⟨K,S,a1,a2,a3,a4⟩,a5⟩:=hq;exact False.elim a4
 |ret=>obtain⟨⟨K,S,a1,a2,a3,a4⟩,a5⟩:=hq;exact False.elim a4
 |panic ch=>obtain⟨⟨v,h1,h2,h3,h4⟩,a5⟩:=hq;subst h1;exact hp v a w1 h2 a5 h3 h4
 |goto l=>exact False.elim hq.1
 |outgrown=>exact False.elim hq.1
theorem CO(hty:H6 P ty){x z:Code}{κ:Kt}{K:Kn}{S:St}{Df:List Deferred}{w0 w:World}{a:Act}{Q:Exit→Act→World→Prop}{rp:Nat→Option oP}(h:J8 P ty ⟨rp,lY⟩ n m ex [] x ⟨fun _ _=>False,[]⟩ κ K S)
 (ha:H9 Df n a K) (he:SE w0 w) (hs:HS S w.heap) (hn:∀ K S a w1,H9 Df n a K→SE w0 w1→HS S w1.heap→κ K S→z.wp P Q a w1):(Code.seq x z).wp P Q a w:=by
 have h1:=Ba hty x _ _ K S h Df w0 a w ha he hs
 refine wp_seq (Code.wp_mono ?_ h1)
 intro e a w1 hq
 cases e with
 |normal=>obtain⟨K,S,a1,a2,a3,a4⟩:=hq;exact hn K S a w1 a1 a2 a3 a4
 |exit i=>obtain⟨K,S,a1,a2,a3,a4⟩:=hq;exact False.elim a4
 |ret=>obtain⟨K,S,a1,a2,a3,a4⟩:=hq;exact False.elim a4
 |panic ch=>obtain⟨v,h1,h2,h3,h4⟩:=hq;exact False.elim h4
 |goto l=>exact False.elim hq
 |outgrown=>exact False.elim hq
end
section
variable {I:In}{M:O6}{br b2 b4 b5:Nat}
def Bz(b4 b5:Nat):List (Nat×Value):=[(4,ptr b4),(5,ptr b5)]
theorem lI{a:Act}{h0:A3}{cap:List Nat}{t:Bool}{n e x:Int}{p:Option Addr}{w:World}(hv:Kp (Bz b4 b5) a)(hs:HS ⟨h0,cap,G5 I M br t n++Im br b2 b4 b5 p e x⟩ w.heap) :
 (results Tryz.f40 a.tmps).run Tryz.prog w = .ok (.tuple #[.pointer p,.agg #[.int .i64 e,.int .i64 x]]) w:=by
 have h4:=hv.2 (4,ptr b4) (by simp [Bz])
 have h5:=hv.2 (5,ptr b5) (by simp [Bz])
 have ha':H9 a.defers 46 a [(4,.own 4 b4 0),(5,.own 5 b5 0)]:=⟨hv.1,rfl,fun t v hv=>by
  by_cases e4:4=t
  ·subst e4;rw [K9] at hv;cases hv;exact h4
  ·rw [J3 e4] at hv
   by_cases e5:5=t
   ·subst e5;rw [K9] at hv;cases hv;exact h5
   ·rw [J3 e5] at hv;cases hv⟩
 have hr:rZ ty [.cell 4 63,.cell 5 28] [(4,.own 4 b4 0),(5,.own 5 b5 0)] ⟨h0,cap,G5 I M br t n++Im br b2 b4 b5 p e x⟩ [] fun vs=>fk (pU vs) fun kv=>B0 kv = .tuple #[.pointer p,.agg #[.int .i64 e,.int .i64 x]]:=by
  ((repeat' (conv=>whnf);first|(refine VC.mk (by omega) ?_)|fail);all_goals try conv=>whnf)
  all_goals rfl
 obtain⟨kv,h1,h2⟩:=oT (P:=Tryz.prog) tO ha' (fn:=Tryz.f40) (rs:=[.cell 4 63,.cell 5 28]) rfl hr hs
 rw [h1,h2]
theorem xR {a : Act} {w : World} {v2 v4 v5 : Value} {Q : Exit → Act → World → Prop} {id : Nat} {ops : Array Oper} (ho : ops = #[{ dst := some 6, op := .makeFunc (.func 52) #[] #[.tmp 2, .tmp 4, .tmp 5], type := 1, pos := "syntax.go:136", after := #[], guard := none },
 { dst := none, op := .defer { callee := .value (.tmp 6), args := #[], argTypes := #[] }, type := 0, pos := "syntax.go:136", after := #[{ on := 0, ground := .data }], guard := none }])
 (hz:6<a.tmps.size) (h2:a.tmps[2]?=some v2) (h4:a.tmps[4]?=some v4) (h5:a.tmps[5]?=some v5)
 (hQ:Q .normal { a.put (some 6) (.func (.func 52) #[] #[v2,v4,v5]) with defers:={ target:=.fn (.func 52) #[v2,v4,v5],args:=#[] }::a.defers } w):(Code.region id ops false).wp Tryz.prog Q a w:=by
 subst ho
 refine wp_region_lit (l:=[_,_]) ?_
 simp [wpList,go_sem,h2,h4,h5,hz,Oper.upon]
 exact .inl (.inl hQ)
def K4(goal:Int)(b2 b4 b5:Nat)(K:Kn):Prop:=lk K 1=some (.val (.int .u8 goal))∧lk K 2=some (.own 2 b2 0)∧lk K 4=some (.own 4 b4 0)∧lk K 5=some (.own 5 b5 0)
theorem K4.good{Df:List Deferred}{a:Act}{K:Kn}{goal:Int}(ha:H9 Df 46 a K)(h:K4 goal b2 b4 b5 K):H9 Df 46 a [(1,.val (.int .u8 goal)),(2,.own 2 b2 0),(4,.own 4 b4 0),(5,.own 5 b5 0)]:=ha.drop fun t v hv=>by
 by_cases e1:1=t
 ·subst e1;rw [K9] at hv;cases hv;exact h.1
 rw [J3 e1] at hv
 by_cases e1:2=t
 ·subst e1;rw [K9] at hv;cases hv;exact h.2.1
 rw [J3 e1] at hv
 by_cases e1:4=t
 ·subst e1;rw [K9] at hv;cases hv;exact h.2.2.1
 rw [J3 e1] at hv
 by_cases e1:5=t
 ·subst e1;rw [K9] at hv;cases hv;exact h.2.2.2
 rw [J3 e1] at hv
 cases hv
theorem K4.kp{Df:List Deferred}{a:Act}{K:Kn}{goal:Int}(ha:H9 Df 46 a K)(h:K4 goal b2 b4 b5 K):Kp (Bz b4 b5) a:=by
 refine⟨ha.size,fun p hp=>?_⟩
 simp only [Bz,List.mem_cons,List.not_mem_nil,or_false] at hp
 rcases hp with rfl|rfl
 ·exact ha.knows _ _ h.2.2.1
 ·exact ha.knows _ _ h.2.2.2
def DA(I:In)(M:O6)(br b2 b4 b5:Nat)(goal m:Int)(p:Option Addr)(h1:A3)(cap1:List Nat)(K:Kn)(S:St):Prop:=
 K4 goal b2 b4 b5 K∧∀ h',HS S h'→HS ⟨h1,cap1,[(900,br,H5 I M false m),(5,b5,.box 28 [.val (.int .i64 0),.val (.int .i64 0)]),(4,b4,.box 63 [.val (.pointer p)]),(2,b2,.box 78 [.own 900 br 0])]⟩ h'
def CT(I:In)(M:O6)(br b2 b4 b5:Nat)(h:A3)(O:G3 Nd)(v:Value)(h':A3):Prop:=
 ∃ x n t p,O = .err x∧v = .iface 118 (.int .i64 x)∧(0≤x∧x≤I.L)∧HS ⟨h,[br],G5 I M br t n++Im br b2 b4 b5 p 0 0⟩ h'
def DX(I:In)(M:O6)(br b2 b4 b5:Nat)(h:A3)(cap:List Nat)(p:Option Addr)(m:Int)(v:Value)(h':A3):Prop:=
 ¬ m=I.L∧∃ n t,v = .iface 118 (.int .i64 m)∧HS ⟨h,cap,G5 I M br t n++Im br b2 b4 b5 p 0 0⟩ h'
def kZ(xb x2 x3 x4:Code)(id0 id1:Nat)(ops0 ops1:Array Oper):Prop:=Tryz.f40.body=some (.seq (.region id0 ops0 false) (.seq (.region id1 ops1 false) (.seq xb (.seq x2 (.seq x3 x4)))))
section
variable {xb x2 x3 x4:Code}{id0 id1:Nat}{ops0 ops1:Array Oper}{h:A3}{N goal m:Int}{p:Option Addr}{g:Gt}
attribute [local irreducible] CH X2 word B9
theorem vN(hb:kZ xb x2 x3 x4 id0 id1 ops0 ops1):cX (Bz b4 b5) xb=true∧cX (Bz b4 b5) x3=true:=by
 unfold kZ Tryz.f40 at hb
 cases hb
 exact⟨rfl,rfl⟩
theorem Bw(hb:kZ xb x2 x3 x4 id0 id1 ops0 ops1)(ok:C6 I)(H:O8 I M g N)(hN:32*(I.L+1)+23<N)(hg:1≤goal∧goal≤4)(hB:J4 I M h [br]){o:G3 Nd}(ho:g (Og goal) false 0=o) :
 J8 Tryz.prog ty ⟨rep,CT I M br b2 b4 b5 h o⟩ 46 1 [1,2,4,5,7,10,14,18,36,41] [] xb ⟨fun _ _=>False,[]⟩ (fun K S=>∃ x m p,o = .ok x m∧(0≤m∧m≤I.L)∧G1 h [br] S.h0 S.cap∧Q2 h.size S.h0 S.cap p x∧DA I M br b2 b4 b5 goal m p S.h0 S.cap K S)
  [(1,.val (.int .u8 goal)),(2,.own 2 b2 0),(4,.own 4 b4 0),(5,.own 5 b5 0)] ⟨h,[br],[(900,br,H5 I M false 0),(5,b5,.box 28 [.val (.int .i64 0),.val (.int .i64 0)]),(4,b4,.box 63 [.val (.pointer none)]),(2,b2,.box 78 [.own 900 br 0])]⟩:=by
 unfold kZ Tryz.f40 at hb
 cases hb
 have hl:=ok.len
 have htn:=hB.tn
 have hL0:0≤I.L:=by unfold In.L;omega
 have hg':goal=1∨goal=2∨goal=3∨goal=4:=by omega
 have hcon:∀ F:Fn,A6 F≤23→bL I F 0→N3 I M (EF F) (Wy F) (g F false 0) false 0 (D1 F):=fun F h1 h2=>H F false 0 (by unfold C5;omega) ⟨Int.le_refl _,hL0⟩ h2
 rcases hg' with rfl|rfl|rfl|rfl
 ·have hc:=hcon .typ (by decide) trivial
  have ho:g .typ false 0=o:=ho
  ((repeat' (conv=>whnf);first|(refine VC.mk (by omega) ?_)|(refine Br.mk ?_ ?_<;>intro hb<;>(try replace hb:=nN hb)<;>(try omega))|(refine CK.treeR hc hB (r:=Im br b2 b4 b5 none 0 0) ⟨rfl,rfl,rfl,rfl,rfl,rfl,rfl,rfl,trivial⟩ rfl (fun x n t h' e1 e2 e3=>⟨x,n,t,none,by rw [←ho,e1],rfl,e2,e3⟩) ?_;intro x m p h1 e1 e2 hl1 hT;have e2:0≤m∧m≤I.L:=⟨by have:=e2.1;simp only [D1] at this;omega,e2.2⟩)|fail);all_goals try conv=>whnf)
  all_goals exact⟨x,m,p,by rw [←ho,e1],e2,hl1,hT,⟨rfl,rfl,rfl,rfl⟩,fun h' hs=>hs.ren [900,5,4,2] (B4 rfl rfl (B4 rfl rfl (B4 rfl rfl (B4 rfl rfl E8))))⟩
 ·have hc:=hcon .expr (by decide) trivial
  have ho:g .expr false 0=o:=ho
  ((repeat' (conv=>whnf);first|(refine VC.mk (by omega) ?_)|(refine Br.mk ?_ ?_<;>intro hb<;>(try replace hb:=nN hb)<;>(try omega))|(refine CK.treeR hc hB (r:=Im br b2 b4 b5 none 0 0) ⟨rfl,rfl,rfl,rfl,rfl,rfl,rfl,rfl,trivial⟩ rfl (fun x n t h' e1 e2 e3=>⟨x,n,t,none,by rw [←ho,e1],rfl,e2,e3⟩) ?_;intro x m p h1 e1 e2 hl1 hT;have e2:0≤m∧m≤I.L:=⟨by have:=e2.1;simp only [D1] at this;omega,e2.2⟩)|fail);all_goals try conv=>whnf)
  all_goals exact⟨x,m,p,by rw [←ho,e1],e2,hl1,hT,⟨rfl,rfl,rfl,rfl⟩,fun h' hs=>hs.ren [900,5,4,2] (B4 rfl rfl (B4 rfl rfl (B4 rfl rfl (B4 rfl rfl E8))))⟩
 ·have hc:=hcon .stmts (by decide) trivial
  have ho:g .stmts false 0=o:=ho
  ((repeat' (conv=>whnf);first|(refine VC.mk (by omega) ?_)|(refine Br.mk ?_ ?_<;>intro hb<;>(try replace hb:=nN hb)<;>(try omega))|(refine CK.treeR hc hB (r:=Im br b2 b4 b5 none 0 0) ⟨rfl,rfl,rfl,rfl,rfl,rfl,rfl,rfl,trivial⟩ rfl (fun x n t h' e1 e2 e3=>⟨x,n,t,none,by rw [←ho,e1],rfl,e2,e3⟩) ?_;intro x m p h1 e1 e2 hl1 hT;have e2:0≤m∧m≤I.L:=⟨by have:=e2.1;simp only [D1] at this;omega,e2.2⟩)|fail);all_goals try conv=>whnf)
  all_goals exact⟨x,m,p,by rw [←ho,e1],e2,hl1,hT,⟨rfl,rfl,rfl,rfl⟩,fun h' hs=>hs.ren [900,5,4,2] (B4 rfl rfl (B4 rfl rfl (B4 rfl rfl (B4 rfl rfl E8))))⟩
 ·have hc:=hcon .file (by decide) trivial
  have ho:g .file false 0=o:=ho
  ((repeat' (conv=>whnf);first|(refine VC.mk (by omega) ?_)|(refine Br.mk ?_ ?_<;>intro hb<;>(try replace hb:=nN hb)<;>(try omega))|(refine CK.treeR hc hB (r:=Im br b2 b4 b5 none 0 0) ⟨rfl,rfl,rfl,rfl,rfl,rfl,rfl,rfl,trivial⟩ rfl (fun x n t h' e1 e2 e3=>⟨x,n,t,none,by rw [←ho,e1],rfl,e2,e3⟩) ?_;intro x m p h1 e1 e2 hl1 hT;have e2:0≤m∧m≤I.L:=⟨by have:=e2.1;simp only [D1] at this;omega,e2.2⟩)|fail);all_goals try conv=>whnf)
  all_goals exact⟨x,m,p,by rw [←ho,e1],e2,hl1,hT,⟨rfl,rfl,rfl,rfl⟩,fun h' hs=>hs.ren [900,5,4,2] (B4 rfl rfl (B4 rfl rfl (B4 rfl rfl (B4 rfl rfl E8))))⟩
theorem Aw(hb:kZ xb x2 x3 x4 id0 id1 ops0 ops1)(ok:C6 I){h1:A3}{cap1:List Nat}(hg:1≤goal∧goal≤4)(hB1:J4 I M h1 cap1)(e2:0≤m∧m≤I.L) :
 J8 Tryz.prog ty ⟨rep,lY⟩ 46 1 [1,2,4,5,7,10,14,18,36,41] [] x2 ⟨fun _ _=>False,[]⟩ (DA I M br b2 b4 b5 goal (endS I goal m) p h1 cap1) [(1,.val (.int .u8 goal)),(2,.own 2 b2 0),(4,.own 4 b4 0),(5,.own 5 b5 0)] ⟨h1,cap1,[(900,br,H5 I M false m),(5,b5,.box 28 [.val (.int .i64 0),.val (.int .i64 0)]),(4,b4,.box 63 [.val (.pointer p)]),(2,b2,.box 78 [.own 900 br 0])]⟩:=by
 unfold kZ Tryz.f40 at hb
 cases hb
 have hl:=ok.len
 have htn:=hB1.tn
 have hL0:0≤I.L:=by unfold In.L;omega
 ((repeat' (conv=>whnf);first|(refine C2 (id:=10) (.pl [0,1,2] (.br 3 7 (.pl [4,5,7,8,9,10,11,12,6,13,14] .e) (.pl [8,9] (.br 3 10 (.pl [4,5,10,11,12,6,13,14] .e) (.pl [11,12,3,4,5,6,13,14] .e))))) (by kernel_rfl) ?_)|(refine Ar.fit (by omega) ?_)|(refine VC.mk (by omega) ?_)|(refine Br.mk ?_ ?_<;>intro hb<;>(try replace hb:=nN hb))|(refine dD.mk ?_ ?_)|(refine CK.maybe ok hB1 (by decide) rfl rfl (fun hx hm=>?_) (fun hx=>?_))|fail);all_goals try conv=>whnf)
 all_goals first
  |(refine⟨⟨rfl,rfl,rfl,rfl⟩,?_⟩;(first|(rw [show endS I goal m=m+1 from by (unfold endS maybe;rw [if_pos ⟨by omega,by omega⟩,if_pos (by assumption)])];exact fun h' hs=>hs.ren [900,5,4,2] (B4 rfl rfl (B4 rfl rfl (B4 rfl rfl (B4 rfl rfl E8)))))|(rw [show endS I goal m=m from by (unfold endS maybe;first|rw [if_neg (fun e=>by omega)]|rw [if_pos ⟨by omega,by omega⟩,if_neg (by assumption)])];exact fun h' hs=>hs.ren [900,5,4,2] (B4 rfl rfl (B4 rfl rfl (B4 rfl rfl (B4 rfl rfl E8)))))))
theorem Zv(hb:kZ xb x2 x3 x4 id0 id1 ops0 ops1)(ok:C6 I){h1:A3}{cap1:List Nat}(hB1:J4 I M h1 cap1)(e2:0≤m∧m≤I.L) :
 J8 Tryz.prog ty ⟨rep,DX I M br b2 b4 b5 h1 cap1 p m⟩ 46 1 [1,2,4,5,7,10,14,18,36,41] [] x3 ⟨fun _ _=>False,[]⟩ (fun K S=>m=I.L∧DA I M br b2 b4 b5 goal m p h1 cap1 K S) [(1,.val (.int .u8 goal)),(2,.own 2 b2 0),(4,.own 4 b4 0),(5,.own 5 b5 0)] ⟨h1,cap1,[(900,br,H5 I M false m),(5,b5,.box 28 [.val (.int .i64 0),.val (.int .i64 0)]),(4,b4,.box 63 [.val (.pointer p)]),(2,b2,.box 78 [.own 900 br 0])]⟩:=by
 unfold kZ Tryz.f40 at hb
 cases hb
 have hl:=ok.len
 have htn:=hB1.tn
 have hL0:0≤I.L:=by unfold In.L;omega
 ((repeat' (conv=>whnf);first|(refine VC.mk (by omega) ?_)|(refine Br.mk ?_ ?_<;>intro hb<;>(try replace hb:=nN hb))|(refine CK.says (.prop _) (fun h1 hs=>mM ok hB1 hs rfl) ?_)|(refine CK.failT (r:=Im br b2 b4 b5 p 0 0) ⟨rfl,rfl,rfl,rfl,rfl,rfl,rfl,rfl,trivial⟩ rfl (by omega) (fun n' t' h' e3=>⟨?_,n',t',rfl,e3⟩))|fail);all_goals try conv=>whnf)
 all_goals first
  |omega
  |exact⟨by omega,⟨rfl,rfl,rfl,rfl⟩,fun h' hs=>hs.ren [900,5,4,2] (B4 rfl rfl (B4 rfl rfl (B4 rfl rfl (B4 rfl rfl E8))))⟩
theorem Yv(hb:kZ xb x2 x3 x4 id0 id1 ops0 ops1){h1:A3}{cap1:List Nat} :
 J8 Tryz.prog ty ⟨rep,lY⟩ 46 1 [1,2,4,5,7,10,14,18,36,41] [] x4 ⟨DA I M br b2 b4 b5 goal m p h1 cap1,[]⟩ (fun _ _=>False) [(1,.val (.int .u8 goal)),(2,.own 2 b2 0),(4,.own 4 b4 0),(5,.own 5 b5 0)] ⟨h1,cap1,[(900,br,H5 I M false m),(5,b5,.box 28 [.val (.int .i64 0),.val (.int .i64 0)]),(4,b4,.box 63 [.val (.pointer p)]),(2,b2,.box 78 [.own 900 br 0])]⟩:=by
 unfold kZ Tryz.f40 at hb
 cases hb
 ((repeat' (conv=>whnf);first|(refine C2 (id:=14) (.pl [0] (.bp 1 2 (.on [3] .e))) (by kernel_rfl) ?_)|(refine VC.mk (by omega) ?_)|(refine dD.mk ?_ ?_)|fail);all_goals try conv=>whnf)
 all_goals first
  |exact⟨⟨rfl,rfl,rfl,rfl⟩,fun h' hs=>hs.ren [900,5,4,2] (B4 rfl rfl (B4 rfl rfl (B4 rfl rfl (B4 rfl rfl E8))))⟩
end
end
end Go.Ex
namespace Go.Ex
open Go.Proofs
section
variable {I:In}{M:O6}{br:Nat}
def DR(I:In)(M:O6)(br:Nat)(h:A3)(goal:Int)(K:Kn)(S:St):Prop:=
 ∃ b2 b4 b5,lk K 1=some (.val (.int .u8 goal))∧lk K 2=some (.own 2 b2 0)∧lk K 4=some (.own 4 b4 0)∧lk K 5=some (.own 5 b5 0) ∧
  ∀ h',HS S h'→HS ⟨h,[br],[(900,br,H5 I M false 0),(5,b5,.box 28 [.val (.int .i64 0),.val (.int .i64 0)]),(4,b4,.box 63 [.val (.pointer none)]),(2,b2,.box 78 [.own 900 br 0])]⟩ h'
theorem Em{xb x2 x3 x4:Code}{id0 id1:Nat}{ops0 ops1:Array Oper}(hb:kZ xb x2 x3 x4 id0 id1 ops0 ops1){h:A3}{goal:Int} :
 J8 Tryz.prog ty ⟨rep,lY⟩ 46 1 [1,2,4,5,7,10,14,18,36,41] [] (.region id0 ops0 false) ⟨fun _ _=>False,[]⟩ (DR I M br h goal) (mC 0 [.own 900 br 0,.val (.int .u8 goal)]) ⟨h,[br],G5 I M br false 0⟩:=by
 unfold kZ Tryz.f40 at hb
 cases hb
 ((repeat' (conv=>whnf);first|(refine E5.mk ?_;intro b hb)|fail);all_goals try conv=>whnf)
 rename_i b2 hb2 b4 hb4
 exact⟨b2,b4,b,rfl,rfl,rfl,rfl,fun h' hs=>hs.ren [900,5,4,2] (B4 rfl rfl (F9 rfl (SC.box rfl) rfl (F9 rfl (SC.box rfl) rfl (B4 rfl rfl E8))))⟩
theorem Fm{xb x2 x3 x4:Code}{id0 id1:Nat}{ops0 ops1:Array Oper}(hb:kZ xb x2 x3 x4 id0 id1 ops0 ops1) :
 ops1 = #[{ dst := some 6, op := .makeFunc (.func 52) #[] #[.tmp 2, .tmp 4, .tmp 5], type := 1, pos := "syntax.go:136", after := #[], guard := none },
  { dst := none, op := .defer { callee := .value (.tmp 6), args := #[], argTypes := #[] }, type := 0, pos := "syntax.go:136", after := #[{ on := 0, ground := .data }], guard := none }] := by
 unfold kZ Tryz.f40 at hb
 cases hb
 rfl
def Cz(I:In)(M:O6)(br:Nat)(h:A3)(goal:Int)(v:Value)(h':A3):Prop:=
 ∃ t n,HS ⟨h,[br],G5 I M br t n⟩ h'∧((∃ x m p,aP I goal = .ok x m∧v = .tuple #[.pointer p,.agg #[.int .i64 0,.int .i64 0]]∧Q2 h.size h' [br] p x) ∨
  (∃ x,aP I goal = .err x∧(0≤x∧x≤I.L)∧v = .tuple #[.pointer none,.agg #[.int .i64 7,.int .i64 (Ey I x)]]))
theorem CJ{w w':World}(h:SE w w'):w'.os=w.os∧w'.tape=w.tape∧w'.output=w.output:=⟨h.os,h.tape,h.output⟩
theorem HS.rd{h hf:A3}{cap:List Nat}{t:Bool}{n:Int}{r:L8}(hs:HS ⟨h,cap,G5 I M br t n++r⟩ hf):HS ⟨h,cap,G5 I M br t n⟩ hf:=
 ⟨hs.size,hs.frame,fun e he=>hs.chunk e (List.mem_append.2 (.inl he)),(List.pairwise_append.1 hs.apart).1⟩
theorem Ir(ok:C6 I)(goal:Int)(hg:1≤goal∧goal≤4){h:A3}(hs:HS ⟨h,[br],G5 I M br false 0⟩ h)(hB:J4 I M h [br]):CH Tryz.prog 40 #[ptr br,.int .u8 goal] h (Cz I M br h goal):=by
 refine⟨Q9 Tryz.func40 (by decide) rfl,fun w hw=>?_⟩
 subst hw
 obtain⟨xb,x2,x3,x4,id0,id1,ops0,ops1,hb⟩:∃ xb x2 x3 x4 id0 id1 ops0 ops1,kZ xb x2 x3 x4 id0 id1 ops0 ops1:=⟨_,_,_,_,_,_,_,_,rfl⟩
 refine calls_of_wp_defers Tryz.func40 hb ?_
 refine CO tO (Em (I:=I) (M:=M) (br:=br) hb (h:=w.heap) (goal:=goal)) (fA (n:=46) (args:=[.own 900 br 0,.val (.int .u8 goal)]) (show 2≤46 by omega)) (SE.refl w) hs fun K S a w1 a1 a2 a3 hq=>?_
 obtain⟨b2,b4,b5,k1,k2,k4,k5,hh⟩:=hq
 have hs1:=hh _ a3
 refine wp_seq (xR (Fm hb) (by rw [a1.size];decide) (a1.knows _ _ k2) (a1.knows _ _ k4) (a1.knows _ _ k5) ?_)
 have hk:=K4.good a1 ⟨k1,k2,k4,k5⟩
 have a4:H9 [{ target:=.fn (.func 52) #[ptr b2,ptr b4,ptr b5],args:=#[] }] 46 { a.put (some 6) (.func (.func 52) #[] #[ptr b2,ptr b4,ptr b5]) with defers:={ target:=.fn (.func 52) #[ptr b2,ptr b4,ptr b5],args:=#[] }::a.defers } [(1,.val (.int .u8 goal)),(2,.own 2 b2 0),(4,.own 4 b4 0),(5,.own 5 b5 0)]:=
  ⟨by simp [Act.put,a1.size],by simp [a1.defers],fun t v hv=>by
   have h6:¬ 6=t:=fun e=>by subst e;exact absurd hv (by intro hv;cases hv)
   show (a.tmps.setIfInBounds 6 _)[t]? = _
   rw [Array.getElem?_setIfInBounds_ne h6]
   exact hk.knows t v hv⟩
 have hkp:=K4.kp a4 ⟨rfl,rfl,rfl,rfl⟩
 -- what a fault leaves
 have hpan:∀ v a w2 (O:G3 Nd),(∀ x,O = .err x→aP I goal = .err x)→a.defers=[{ target:=.fn (.func 52) #[ptr b2,ptr b4,ptr b5],args:=#[] }]→Kp (Bz b4 b5) a→SE w w2→CT I M br b2 b4 b5 w.heap O v w2.heap →
  Leaves Tryz.prog Tryz.f40 a.tmps (fun e w'=>(w'.os=w.os∧w'.tape=w.tape∧w'.output=w.output)∧∃ v,e = .returned v∧Cz I M br w.heap goal v w'.heap) a.defers (.panicking [{ v:=v,recovered:=false }]) w2:=by
  rintro v a w2 O hO hd hk he ⟨x,n,t,p,e1,rfl,hx,e3⟩
  rw [hd]
  refine leaves_cons (f:=52) (args:=#[ptr b2,ptr b4,ptr b5]) (by simp) (by simp [go_sem]) ?_
  refine (Xf hB e3 hx (by have:=ok.len;omega)).mono ?_
  rintro e u' w3 ⟨rfl,rfl,d1,d2⟩
  exact⟨_,lI hk d1,CJ (he.trans d2),_,rfl,t,n,d1.rd,.inr ⟨x,hO x e1,hx,rfl⟩⟩
 -- the rule
 refine CN tO (vN hb).1 (Bw (b2:=b2) (b4:=b4) (b5:=b5) (o:=G I (fT I) (Og goal) false 0) hb ok (Gl ok (fT I)) (by unfold fT;omega) hg hB rfl) a4 hkp a2 hs1 ?_ ?_
 rotate_left
 ·intro v a w2 c1 c2 c3 c4
  exact hpan v a w2 _ (fun x hx=>by unfold aP;rw [hx];rfl) c1 c2 c3 c4
 intro K S1 a w2 c1 c2 c3 hq
 obtain⟨x,m,p,e1,e2,hl1,hT,k,hh⟩:=hq
 have hB1:=hB.later hl1
 have htS:aP I goal=if endS I goal m=I.L then .ok x (endS I goal m) else .err (endS I goal m):=by unfold aP;rw [e1];rfl
 -- a semicolon
 refine CO tO (Aw (br:=br) (b2:=b2) (b4:=b4) (b5:=b5) (p:=p) hb ok hg hB1 e2) (K4.good c1 k) c2 (hh _ c3) fun K S a w3 c1 c2 c3 hq=>?_
 obtain⟨k,hh⟩:=hq
 have e3:0≤endS I goal m∧endS I goal m≤I.L:=by
  unfold endS
  split
  ·unfold maybe;split<;>omega
  ·exact e2
 -- the end
 refine CN tO (vN hb).2 (Zv (br:=br) (b2:=b2) (b4:=b4) (b5:=b5) (p:=p) (goal:=goal) hb ok hB1 e3) (K4.good c1 k) (K4.kp c1 k) c2 (hh _ c3) ?_ ?_
 rotate_left
 ·intro v a w4 c1 c2 c3 c4
  obtain⟨d1,n,t,rfl,d4⟩:=c4
  exact hpan _ a w4 (.err (endS I goal m)) (fun x hx=>by cases hx;rw [htS,if_neg d1]) c1 c2 c3 ⟨_,n,t,p,rfl,rfl,e3,d4.base hl1⟩
 rintro K S a w4 c1 c2 c3 ⟨hm,k,hh⟩
 have h5:=Ba tO _ _ _ _ _ (Yv (br:=br) (b2:=b2) (b4:=b4) (b5:=b5) (p:=p) (goal:=goal) (m:=endS I goal m) (I:=I) (M:=M) (h1:=S1.h0) (cap1:=S1.cap) hb) _ _ _ _ (K4.good c1 k) c2 (hh _ c3)
 refine Code.wp_mono ?_ h5
 intro e a w5 hq
 cases e with
 |normal=>obtain⟨K,S,a1,a2,a3,a4⟩:=hq;exact False.elim a4
 |ret=>
  obtain⟨K,S,c1,c2,c3,k,hh⟩:=hq
  have h6:=hh _ c3
  show Leaves _ _ _ _ a.defers .returning w5
  rw [c1.defers]
  refine leaves_cons (f:=52) (args:=#[ptr b2,ptr b4,ptr b5]) (by simp) (by simp [go_sem]) ?_
  refine (Gm h6 b2 b4 b5).mono ?_
  rintro e u' w6 ⟨rfl,rfl,d1,d2⟩
  have d3:HS ⟨S1.h0,S1.cap,G5 I M br false (endS I goal m)++Im br b2 b4 b5 p 0 0⟩ w6.heap:=d1
  refine⟨_,lI (K4.kp c1 k) d3,CJ (c2.trans d2),_,rfl,false,endS I goal m,(d3.base hl1).rd,.inl ⟨x,endS I goal m,p,by rw [htS,if_pos hm],rfl,?_⟩⟩
  have hl:=d3.lB
  exact Q2.later (lo:=w.heap.size) (lo':=w.heap.size) (cap':=[br]) ⟨hl.size,hl.same,fun c hc=>hl.cap c (by rw [List.mem_singleton.1 hc];exact .head _)⟩ (Nat.le_refl _) x hT
 |exit i=>obtain⟨K,S,a1,a2,a3,a4⟩:=hq;exact False.elim a4
 |panic ch=>obtain⟨v,h1,h2,h3,h4⟩:=hq;exact False.elim h4
 |goto l=>exact False.elim hq
 |outgrown=>exact False.elim hq
end
end Go.Ex
namespace Go.Ex
open Go.Proofs
structure DU(T:List M7)(x:Mv)(i:Int):Prop where
 pl:x.P.length=T.length
 ol:x.O.length=100
 n:0≤x.n∧x.n≤100
 at_:∀ k:Int,0≤k→k<x.n→0≤B1 (E9 .i64).dflt x.O k∧B1 (E9 .i64).dflt x.O k<i
 rng:∀ k:Int,0≤k→k<T.length→-1≤B1 (E9 .i64).dflt x.P k∧B1 (E9 .i64).dflt x.P k<T.length
theorem Xm{T:List M7}{P:List Int}(hp:P.length=T.length)(hr:∀ k:Int,0≤k→k<T.length→-1≤B1 (E9 .i64).dflt P k∧B1 (E9 .i64).dflt P k<T.length){j v:Int}(hj:0≤j∧j<T.length)(hv : -1≤v∧v<T.length) :
 ∀ k:Int,0≤k→k<T.length→-1≤B1 (E9 .i64).dflt (P.set j.toNat v) k∧B1 (E9 .i64).dflt (P.set j.toNat v) k<T.length:=fun k h0 h1=>by
 rw [mE P _ j k v hj.1 h0 (by omega)]
 split
 ·exact hv
 ·exact hr k h0 h1
theorem Vc(s:ByteArray)(T:List M7)(x:Mv)(i:Int)(hi:0≤i∧i<T.length)(h:DU T x i)(he:(P4 s T x i).2.1=0):DU T (P4 s T x i).1 (i+1):=by
 obtain⟨h1,h2,h3,h4,h5⟩:=h
 unfold P4 at he ⊢
 split
 ·exact⟨by simpa using h1,h2,h3,fun k a b=>by dsimp only at b ⊢;have:=h4 k a b;omega,Xm h1 h5 hi (by omega)⟩
 rename_i c1
 rw [if_neg c1] at he
 split
 ·rename_i c2
  rw [if_pos c2] at he
  split
  ·rename_i c3
   rw [if_pos c3] at he
   dsimp only at he
   omega
  ·rename_i c3
   refine⟨by simpa using h1,by simpa using h2,by dsimp only;omega,fun k a b=>?_,Xm h1 h5 hi (by omega)⟩
   dsimp only at b ⊢
   rw [mE _ _ _ _ _ h3.1 a (by omega)]
   split
   ·omega
   ·have:=h4 k a (by omega);omega
 rename_i c2
 rw [if_neg c2] at he
 split
 ·rename_i c3
  rw [if_pos c3] at he
  split
  ·rename_i c4
   rw [if_pos c4] at he
   dsimp only at he
   omega
  ·rename_i c4
   have h6:=h4 (x.n-1) (by omega) (by omega)
   refine⟨by simpa using h1,h2,by dsimp only;omega,fun k a b=>?_,?_⟩
   ·dsimp only at b ⊢
    have:=h4 k a (by omega);omega
   ·refine Xm (by simpa using h1) (Xm (by simpa using h1) (Xm h1 h5 hi (by omega)) hi (by omega)) (by omega) (by omega)
 ·exact⟨by simpa using h1,h2,h3,fun k a b=>by dsimp only at b ⊢;have:=h4 k a b;omega,Xm h1 h5 hi (by omega)⟩
theorem wM(s:ByteArray)(T:List M7):∀ (f:Nat) (x:Mv) (i:Int),0≤i→i+f=T.length→DU T x i→(W0 s T f x i).2.2.1=0→(W0 s T f x i).1.length=T.length∧∀ k:Int,0≤k→k<T.length→-1≤B1 0 (W0 s T f x i).1 k∧B1 0 (W0 s T f x i).1 k<T.length
 |0,x,i,hi,hf,h,he=>by
  unfold W0 at he ⊢
  split
  ·rename_i c
   rw [if_pos c] at he
   dsimp only at he
   omega
  ·exact⟨h.pl,h.rng⟩
 |f+1,x,i,hi,hf,h,he=>by
  unfold W0 at he ⊢
  split
  ·rename_i c
   rw [if_pos c] at he
   exact wM s T f _ (i+1) (by omega) (by omega) (Vc s T x i ⟨hi,by omega⟩ h c) he
  ·rename_i c
   rw [if_neg c] at he
   exact absurd he c
def gX(s:ByteArray):In:=⟨s,F0 s,bV s⟩
theorem Yt(k:Nat)(v d:Int)(i:Int)(h0:0≤i)(h1:i<k):B1 d (List.replicate k v) i=v:=by
 unfold B1
 rw [List.getD_eq_getElem?_getD,List.getElem?_eq_getElem (by simp;omega)]
 simp
theorem sN(s:ByteArray)(h:W5 s=0):s.size≤65536:=by
 have h3:=(iY s).2.2
 unfold W5 W4 at h
 split at h
 ·rename_i c;exact h3 c.1
 ·exact h3 h
theorem Pt(s:ByteArray)(h:W5 s=0):C6 (gX s):=by
 have hz:=sN s h
 obtain⟨h1,h2,h3⟩:=iY s
 have key:(∀ t∈F0 s,0≤t.frm∧t.frm≤t.to∧t.to≤s.size)∧((F0 s).length:Int)≤65537∧(bV s).length=(F0 s).length∧∀ k:Int,0≤k→k<(F0 s).length→-1≤B1 0 (bV s) k∧B1 0 (bV s) k<(F0 s).length:=by
  unfold W5 at h
  unfold F0 bV
  unfold W4 at h ⊢
  split
  ·rename_i c
   rw [if_pos c] at h
   split
   ·rename_i c2
    rw [if_pos c2] at h
    dsimp only at h ⊢
    have:=wM s (P2 s).1 (P2 s).1.length ⟨List.replicate (P2 s).1.length (E9 .i64).dflt,List.replicate 100 (E9 .i64).dflt,0,0⟩ 0 (Int.le_refl _) (by omega) ⟨by simp,by simp,by simp,fun k a b=>by dsimp only at b;omega,fun k a b=>by
     dsimp only
     rw [Yt _ _ _ _ a b]
     have e:(E9 .i64).dflt=0:=rfl
     omega⟩ h
    exact⟨h1,h2,this⟩
   ·dsimp only
    exact⟨(fun t h=>by cases h),by simp,rfl,fun k a b=>by simp at b;omega⟩
  ·dsimp only
   exact⟨(fun t h=>by cases h),by simp,rfl,fun k a b=>by simp at b;omega⟩
 obtain⟨k1,k2,k3,k4⟩:=key
 exact⟨by show ((F0 s).length:Int)≤_;omega,k3,by show s.size≤1000000;omega,k1,k4⟩
end Go.Ex
namespace Go.Ex
open Go.Proofs
section
variable {I:In}{M:O6}{br:Nat}{E:Value→A3→Prop}{S:St}{κ:KV→St→Prop}{args:List KV}{r:L8}
theorem CK.treeC{goal:Int}(ok:C6 I)(hg:1≤goal∧goal≤4)(hB:J4 I M S.h0 S.cap)(hc:X1 S.ch (G5 I M br false 0++r))(ha:args.map A1=[ptr br,.int .u8 goal])
 (hk:∀ t n x m p h',aP I goal = .ok x m→G1 S.h0 S.cap h' (blks (G5 I M br t n++r))→Q2 S.h0.size h' (blks (G5 I M br t n++r)) p x→κ (.tup [.val (.pointer p),.agg [.val (.int .i64 0),.val (.int .i64 0)]]) ⟨h',blks (G5 I M br t n++r),G5 I M br t n++r⟩)
 (he:∀ t n x h',aP I goal = .err x→(0≤x∧x≤I.L)→G1 S.h0 S.cap h' (blks (G5 I M br t n++r))→κ (.tup [.val (.pointer none),.agg [.val (.int .i64 7),.val (.int .i64 (Ey I x))]]) ⟨h',blks (G5 I M br t n++r),G5 I M br t n++r⟩):CK Tryz.prog E 40 args [] S κ:=⟨fun h hs=>.inl (by
 rw [show args.map A1++([]:List KV).map A0=args.map A1 by simp,ha]
 refine (Ir ok goal hg (hs.part hc) (hB.at hs fun c h1=>?_)).mono fun u h' ⟨t,n,h1,h2⟩=>?_
 ·rw [List.mem_singleton.1 h1]
  exact G9 (hc.mem (900,br,H5 I M false 0) (by simp [G5]))
 have hj:=hs.join hc h1
 rcases h2 with ⟨x,m,p,e1,rfl,hT⟩|⟨x,e1,hx,rfl⟩
 ·refine⟨.tup [.val (.pointer p),.agg [.val (.int .i64 0),.val (.int .i64 0)]],_,rfl,hj.anew,hk t n x m p h' e1 hj.lB (hT.recap (fun c hm=>?_) hs.size)⟩
  obtain⟨e,he1,rfl⟩:=oH hm
  rcases List.mem_append.1 he1 with he1|he1
  ·left
   have:e=(900,br,H5 I M t n):=List.mem_singleton.1 he1
   rw [this]
   exact List.mem_singleton.2 rfl
  ·right
   exact (hs.chunk e (hc.mem e (List.mem_append.2 (.inr he1)))).1
 ·exact⟨.tup [.val (.pointer none),.agg [.val (.int .i64 7),.val (.int .i64 (Ey I x))]],_,rfl,hj.anew,he t n x h' e1 hx hj.lB⟩)⟩
end
def aK(s:ByteArray)(goal:Int):(Int×Int) ⊕ (List M7×Nd):=
 if goal<1∨4<goal then .inl (1,0) else if ¬ (W5 s=0∧bH s=0) then .inl (W5 s,bH s) else match aP (gX s) goal with
  |.ok x m=>.inr (F0 s,x)
  |.err x=>.inl (7,Ey (gX s) x)
def CU(s:ByteArray)(goal:Int)(ea:Int×Int):Prop:=(1≤goal∧goal≤4)→(W5 s=0∧bH s=0)→∃ x,(0≤x∧x≤(gX s).L)∧ea=(7,Ey (gX s) x)
def Lv(s:ByteArray)(goal:Int)(h:A3)(v:Value)(h':A3):Prop:=
 A5 h h'∧∃ A n c,match aK s goal with
  |.inl ea=>v = .tuple #[.slice A n c,.pointer none,.agg #[.int .i64 ea.1,.int .i64 ea.2]]∧CU s goal ea
  |.inr tx=>∃ p,v = .tuple #[.slice A n c,.pointer p,.agg #[.int .i64 0,.int .i64 0]]∧(D3 C4 h' [] A n tx.1∧∀ x,0<n→A=some x→h.size≤x.block)∧Q2 h.size h' [] p tx.2
attribute [local irreducible] CH W4 F0 bV W5 bH aP
theorem Qn(s:ByteArray)(goal:Int)(h:A3)(ht:D2 h)(hz:s.size≤140737488355328):CH Tryz.prog 23 #[.int .u8 goal,.string s] h (Lv s goal h):=by
 refine Q0 1 [0,1,4,5,6,7,8,9,10,11,17,27] [] [.val (.int .u8 goal),.val (.string s)] Tryz.func23 rfl ?_
 obtain⟨O,hO⟩:∃ O,aK s goal=O:=⟨_,rfl⟩
 unfold Lv
 rw [hO]
 unfold aK at hO
 have c1:=fun h1 (ht:D2 h1)=>Bo s h1 ht hz
 ((repeat' (conv=>whnf);first|(refine C2 (id:=5) (.pl [1,2,0] (.on [3] .e)) (by kernel_rfl) ?_)|(refine C2 (id:=8) (.pl [0,1,3,4,2] (.on [5] .e)) (by kernel_rfl) ?_)|(refine VC.mk (by omega) ?_)|(refine Br.mk ?_ ?_<;>intro hb<;>(try replace hb:=nN hb))|(refine E5.mk ?_;intro b hb)|(refine CK.nest (fun h hs=>c1 h (ht.at hs)) ?_;intro h1 A n c B m d hl hT hP hf1 hf2)|(refine kQ ?_)|(refine CK.ren [33,9,6] [(900,_,H5 (gX s) ⟨A,n,c,B,m,d⟩ false 0),(9,_,_),(6,_,_)] (F9 rfl (SC.box rfl) rfl (B4 rfl rfl (B4 rfl rfl E8))) ?_;refine CK.treeC (M:=⟨A,n,c,B,m,d⟩) (r:=[(9,_,_),(6,_,_)]) (Pt s (by omega)) (by omega) ⟨hT,hP⟩ ⟨rfl,rfl,rfl,rfl,rfl,rfl,trivial⟩ rfl (fun t2 n2 x m2 p h2 e1 hl2 hT2=>?_) (fun t2 n2 x h2 e1 hx hl2=>?_))|fail);all_goals try conv=>whnf)
 all_goals first
  |(rw [if_pos (by omega)] at hO;subst hO;exact⟨fun h' hs=>⟨(Gz.start h).fin hs,_,_,_,rfl,fun h1=>absurd h1 (by omega)⟩⟩)
  |(rw [if_neg (by omega),if_pos (by assumption)] at hO;subst hO;exact⟨fun h' hs=>⟨(show G1 h [] _ _ from hl).bas.fin hs,_,_,_,rfl,fun _ h2=>absurd h2 (by assumption)⟩⟩)
  | (rw [if_neg (by omega),if_neg (by omega),e1] at hO
     subst hO
     have hl3:G1 h [] h2 _:=hl.trans hl2
     exact⟨fun h' hs=>⟨hl3.bas.fin hs,_,_,_,p,rfl,⟨(hT.later hl2).endS hs,hf1⟩,Q2.later (lo:=h1.size) (lo':=h.size) (cap':=[]) ⟨hs.lB.size,hs.lB.same,fun c hc=>by cases hc⟩ hl.size x hT2⟩⟩)
  | (rw [if_neg (by omega),if_neg (by omega),e1] at hO
     subst hO
     have hl3:G1 h [] h2 _:=hl.trans hl2
     exact⟨fun h' hs=>⟨hl3.bas.fin hs,_,_,_,rfl,fun _ _=>⟨x,hx,rfl⟩⟩⟩)
end Go.Ex
