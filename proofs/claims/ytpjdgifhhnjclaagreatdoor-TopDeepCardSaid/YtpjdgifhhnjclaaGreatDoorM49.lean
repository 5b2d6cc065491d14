/-
  Top: TopDeep: whatever the input, the law answers true (part 49)
-/
import Derived.Test.YtpjdgifhhnjclaaGreatDoorM48
set_option linter.unusedVariables false
set_option linter.unusedSimpArgs false
set_option maxHeartbeats 4000000
set_option maxRecDepth 10000
namespace Go.Ex
open Go.Proofs
def Rx(s:ByteArray)(u:List UInt8)(V:List (Int×ByteArray)):Prop:=EndW u∧((u=[]∧V=[])∨∀ a,Lx s a u→RdT s a V)
theorem Rx.nil(s:ByteArray):Rx s [] []:=⟨fun d l h=>(by cases h),.inl ⟨rfl,rfl⟩⟩
def ShC(c:UInt8):Prop:=SgC c∧LetterF c.toNat=false∧¬ DigitP c.toNat∧(∀ o,extS c o=false)
theorem extS_all{c:UInt8}(h:(signs.any fun w=>match w.data.toList with
 |x::_::_=>x == c
 |_=>false)=false):∀ o,extS c o=false:=by
 intro o
 unfold extS
 rw [List.any_eq_false] at h ⊢
 intro w hw
 have:=h w hw
 revert this
 generalize w.data.toList=l
 rcases l with _|⟨x,_|⟨y,l⟩⟩<;>rcases o with _|d
 all_goals first
  |exact fun _ q=>Bool.noConfusion q
  | (intro q r
     exact q (Bool.and_eq_true_iff.1 r).1)
theorem endW_cons{c:UInt8}(u:List UInt8)(h1:c.toNat<128)(h2:LetterF c.toNat=false)(h3:¬ DigitP c.toNat):EndW (c::u):=fun d l h=>by
 simp only [List.cons.injEq] at h
 obtain⟨rfl,_⟩:=h
 exact⟨h1,h2,h3⟩
theorem rd_sign{s:ByteArray}{c:UInt8}(hc:ShC c){a:Int}{u:List UInt8}{V:List (Int×ByteArray)}(h:Lx s a (c::u))(hr:Lx s (a+1) u→RdT s (a+1) V):RdT s a ((8,⟨#[c]⟩)::V):=
 RdT.cons (w:=[c]) h (lex_sign h hc.1 (hc.2.2.2 _)) (by simp) (by decide) (by decide) (hr h.tl)
theorem Rx.sign{s:ByteArray}{c:UInt8}(hc:ShC c)(he:EndsP 8 ⟨#[c]⟩){u:List UInt8}{V:List (Int×ByteArray)}(h:Rx s u V):Rx s (c::u) ((8,⟨#[c]⟩)::V):=by
 refine⟨endW_cons u hc.1.1 hc.2.1 hc.2.2.1,.inr fun a ha=>?_⟩
 rcases h.2 with ⟨rfl,rfl⟩|hr
 ·exact RdT.last (w:=[c]) ha (lex_sign ha hc.1 (hc.2.2.2 _)) (by simp) (by decide) (by decide) he
 ·exact rd_sign hc ha fun h1=>hr _ h1
def NmC(c:UInt8):Prop:=c.toNat<128∧LetterF c.toNat=true∧(¬ BlankP c.toNat∧¬ c=47)∧¬ WordP ⟨#[c]⟩
instance (c:UInt8):Decidable (NmC c):=by unfold NmC;exact inferInstance
theorem lex_nm{s:ByteArray}{c:UInt8}(hc:NmC c){a:Int}{u:List UInt8}(h:Lx s a (c::u))(hu:EndW u):lexK s a=(1,a+1):=by
 have h1:=lex_word (w:=[]) (u:=u) h (fun x hx=>by simp only [List.mem_singleton] at hx;subst hx;exact⟨hc.1,hc.2.1⟩) hu hc.2.2.1
 rw [h1,if_neg hc.2.2.2]
 rfl
theorem rd_name{s:ByteArray}{c:UInt8}(hc:NmC c){a:Int}{u:List UInt8}{V:List (Int×ByteArray)}(h:Lx s a (c::u))(hu:EndW u)(hr:Lx s (a+1) u→RdT s (a+1) V):RdT s a ((1,⟨#[c]⟩)::V):=
 RdT.cons (w:=[c]) h (lex_nm hc h hu) (by simp) (by decide) (by decide) (hr h.tl)
theorem rd_x{s:ByteArray}{a:Int}{u:List UInt8}{V:List (Int×ByteArray)}(h:Lx s a (120::u))(hr:Rx s u V):RdT s a ((1,(⟨#[120]⟩:ByteArray))::V):=by
 have hx:NmC 120:=by decide
 rcases hr.2 with ⟨rfl,rfl⟩|h2
 ·exact RdT.last (w:=[120]) h (lex_nm hx h hr.1) (by simp) (by decide) (by decide) (by decide)
 ·exact rd_name hx h hr.1 fun h1=>h2 _ h1
theorem rd_blank{s:ByteArray}{a:Int}{u:List UInt8}{V:List (Int×ByteArray)}(h:Lx s a (32::u))(hu:∀ d l,u=d::l→blankT.data.toList.contains d=false)(hr:Lx s (a+1) u→RdT s (a+1) V):RdT s a V:=
 RdT.blank h (lex_blank h hu) (hr h.tl)
def nestB(o c:List UInt8):Nat→List UInt8
 |0=>[120]
 |k+1=>o++(nestB o c k++c)
def aheadL(o:List UInt8):Nat→List UInt8
 |0=>[120]
 |k+1=>o++aheadL o k
structure OpS(s:ByteArray)(o c:List UInt8)(ov cv:List (Int×ByteArray)):Prop where
 open_:∀ a u V,Lx s a (o++u)→(∀ a',Lx s a' u→RdT s a' V)→RdT s a (ov++V)
 shut:∀ u V,Rx s u V→Rx s (c++u) (cv++V)
theorem nest_rd{s:ByteArray}{o c:List UInt8}{ov cv:List (Int×ByteArray)}(H:OpS s o c ov cv):∀ (k:Nat) (u:List UInt8) (V:List (Int×ByteArray)),Rx s u V→∀ a,Lx s a (nestB o c k++u)→RdT s a (nestV ov cv k++V)
 |0,u,V,hr,a,h=>rd_x h hr
 |k+1,u,V,hr,a,h=>by
  have h':Lx s a (o++(nestB o c k++(c++u))):=by simpa [nestB] using h
  have h2:=H.open_ a _ (nestV ov cv k++(cv++V)) h' fun a' h1=>nest_rd H k (c++u) (cv++V) (H.shut u V hr) a' h1
  simpa [nestV] using h2
theorem shC_40:ShC 40:=⟨by decide,by decide,by decide,extS_all (by decide)⟩
theorem shC_41:ShC 41:=⟨by decide,by decide,by decide,extS_all (by decide)⟩
theorem shC_91:ShC 91:=⟨by decide,by decide,by decide,extS_all (by decide)⟩
theorem shC_93:ShC 93:=⟨by decide,by decide,by decide,extS_all (by decide)⟩
theorem shC_123:ShC 123:=⟨by decide,by decide,by decide,extS_all (by decide)⟩
theorem shC_125:ShC 125:=⟨by decide,by decide,by decide,extS_all (by decide)⟩
theorem endW_sh{c:UInt8}(h:ShC c)(u:List UInt8):EndW (c::u):=endW_cons u h.1.1 h.2.1 h.2.2.1
theorem op0(s:ByteArray):OpS s [40] [41] [(8,(⟨#[40]⟩:ByteArray))] [(8,(⟨#[41]⟩:ByteArray))]:=
 ⟨fun a u V h hr=>rd_sign shC_40 h fun h1=>hr _ h1,fun u V h=>h.sign shC_41 (by decide)⟩
theorem op1(s:ByteArray):OpS s [97,91] [93] [(1,(⟨#[97]⟩:ByteArray)),(8,(⟨#[91]⟩:ByteArray))] [(8,(⟨#[93]⟩:ByteArray))]:=
 ⟨fun a u V h hr=>rd_name (c:=97) (by decide) h (endW_sh shC_91 u) fun h1=>rd_sign shC_91 h1 fun h2=>hr _ h2,fun u V h=>h.sign shC_93 (by decide)⟩
theorem op2(s:ByteArray):OpS s [102,40] [41] [(1,(⟨#[102]⟩:ByteArray)),(8,(⟨#[40]⟩:ByteArray))] [(8,(⟨#[41]⟩:ByteArray))]:=
 ⟨fun a u V h hr=>rd_name (c:=102) (by decide) h (endW_sh shC_40 u) fun h1=>rd_sign shC_40 h1 fun h2=>hr _ h2,fun u V h=>h.sign shC_41 (by decide)⟩
theorem op3(s:ByteArray):OpS s [91,93,84,123] [125] openC [(8,(⟨#[125]⟩:ByteArray))]:=
 ⟨fun a u V h hr=>rd_sign shC_91 h fun h1=>rd_sign shC_93 h1 fun h2=>rd_name (c:=84) (by decide) h2 (endW_sh shC_123 u) fun h3=>rd_sign shC_123 h3 fun h4=>hr _ h4,fun u V h=>h.sign shC_125 (by decide)⟩
theorem rd_func{s:ByteArray}{a:Int}{u:List UInt8}{V:List (Int×ByteArray)}(h:Lx s a (102::117::110::99::u))(hu:EndW u)(hr:∀ a',Lx s a' u→RdT s a' V):RdT s a ((2,(⟨#[102,117,110,99]⟩:ByteArray))::V):=by
 have h':Lx s a ([102,117,110,99]++u):=h
 have h1:=lex_word (c:=102) (w:=[117,110,99]) (u:=u) h (by decide) hu (by decide)
 rw [if_pos (by decide)] at h1
 exact RdT.cons (w:=[102,117,110,99]) h h1 (by simp) (by decide) (by decide) (hr _ h'.skip)
theorem rd_chan{s:ByteArray}{a:Int}{u:List UInt8}{V:List (Int×ByteArray)}(h:Lx s a (99::104::97::110::u))(hu:EndW u)(hr:∀ a',Lx s a' u→RdT s a' V):RdT s a ((2,(⟨#[99,104,97,110]⟩:ByteArray))::V):=by
 have h':Lx s a ([99,104,97,110]++u):=h
 have h1:=lex_word (c:=99) (w:=[104,97,110]) (u:=u) h (by decide) hu (by decide)
 rw [if_pos (by decide)] at h1
 exact RdT.cons (w:=[99,104,97,110]) h h1 (by simp) (by decide) (by decide) (hr _ h'.skip)
theorem op4(s:ByteArray):OpS s [102,117,110,99,40,41,32,123] [125] openF [(8,(⟨#[125]⟩:ByteArray))]:=
 ⟨fun a u V h hr=>rd_func h (endW_sh shC_40 _) fun a1 h1=>rd_sign shC_40 h1 fun h2=>rd_sign shC_41 h2 fun h3=>rd_blank h3 (fun d l e=>by cases e;decide) fun h4=>rd_sign shC_123 h4 fun h5=>hr _ h5,fun u V h=>h.sign shC_125 (by decide)⟩
def AhS(s:ByteArray)(o:List UInt8)(ov:List (Int×ByteArray)):Prop:=∀ a k V,Lx s a (o++aheadL o k)→(∀ a',Lx s a' (aheadL o k)→RdT s a' V)→RdT s a (ov++V)
theorem ahead_rd{s:ByteArray}{o:List UInt8}{ov:List (Int×ByteArray)}(H:AhS s o ov):∀ (k:Nat) a,Lx s a (aheadL o k)→RdT s a (aheadV ov k)
 |0,a,h=>rd_x h (Rx.nil s)
 |k+1,a,h=>H a k _ h fun a' h1=>ahead_rd H k a' h1
theorem rd_sg1{s:ByteArray}{c d:UInt8}(hc:SgC c)(he:extS c (some d)=false){a:Int}{u:List UInt8}{V:List (Int×ByteArray)}(h:Lx s a (c::d::u))(hr:Lx s (a+1) (d::u)→RdT s (a+1) V):RdT s a ((8,⟨#[c]⟩)::V):=
 RdT.cons (w:=[c]) h (lex_sign h hc he) (by simp) (by decide) (by decide) (hr h.tl)
theorem ahead_head{o:List UInt8}{c:UInt8}(ho:o.head?=some c)(k:Nat):∃ l,aheadL o k=120::l∨aheadL o k=c::l:=by
 match k with
 |0=>exact⟨[],.inl rfl⟩
 |k+1=>
  match o,ho with
  |x::o',ho=>
   simp only [List.head?_cons,Option.some.injEq] at ho
   subst ho
   exact⟨o'++aheadL (x::o') k,.inr rfl⟩
theorem bl_head{o:List UInt8}{c:UInt8}(ho:o.head?=some c)(hc:blankT.data.toList.contains c=false)(k:Nat):∀ d l,aheadL o k=d::l→blankT.data.toList.contains d=false:=by
 intro d l e
 obtain⟨l',h|h⟩:=ahead_head ho k
 ·rw [h] at e
  cases e
  decide
 ·rw [h] at e
  cases e
  exact hc
theorem endW_blank(u:List UInt8):EndW (32::u):=endW_cons u (by decide) (by decide) (by decide)
theorem ah0(s:ByteArray):AhS s [45,32] [(8,(⟨#[45]⟩:ByteArray))]:=fun a k V h hr=>
 rd_sg1 (c:=45) (by decide) (by decide) h fun h1=>rd_blank h1 (bl_head rfl (by decide) k) fun h2=>hr _ h2
theorem ah1(s:ByteArray):AhS s [42] [(8,(⟨#[42]⟩:ByteArray))]:=fun a k V h hr=>by
 obtain⟨l,e|e⟩:=ahead_head (o:=[42]) rfl k
 ·rw [e] at h hr
  exact rd_sg1 (c:=42) (by decide) (by decide) h fun h1=>hr _ h1
 ·rw [e] at h hr
  exact rd_sg1 (c:=42) (by decide) (by decide) h fun h1=>hr _ h1
theorem ah2(s:ByteArray):AhS s [97,58,32] [(1,(⟨#[97]⟩:ByteArray)),(8,(⟨#[58]⟩:ByteArray))]:=fun a k V h hr=>
 rd_name (c:=97) (by decide) h (endW_cons _ (by decide) (by decide) (by decide)) fun h1=>rd_sg1 (c:=58) (by decide) (by decide) h1 fun h2=>rd_blank h2 (bl_head rfl (by decide) k) fun h3=>hr _ h3
theorem ah3(s:ByteArray):AhS s [99,104,97,110,32] [(2,(⟨#[99,104,97,110]⟩:ByteArray))]:=fun a k V h hr=>
 rd_chan h (endW_blank _) fun a1 h1=>rd_blank h1 (bl_head rfl (by decide) k) fun h2=>hr _ h2
theorem ah4(s:ByteArray):AhS s [49,32,43,32] [(3,(⟨#[49]⟩:ByteArray)),(8,(⟨#[43]⟩:ByteArray))]:=fun a k V h hr=>
 RdT.cons (w:=[49]) h (lex_one h) (by simp) (by decide) (by decide) (rd_blank h.tl (fun d l e=>by cases e;decide) fun h2=>rd_sg1 (c:=43) (by decide) (by decide) h2 fun h3=>rd_blank h3 (bl_head rfl (by decide) k) fun h4=>hr _ h4)
theorem stk_skip{k:Int}{w:ByteArray}{r:List (Int×ByteArray)}{st:List Int}(h:¬ k=8):stk ((k,w)::r) st=stk r st:=by
 rw [stk,if_pos (.inl h)]
theorem stk_sgn{w:ByteArray}{r:List (Int×ByteArray)}{st:List Int}(h1:partF (byteI w 0)=0)(h2:¬ (byteI w 0=41∨byteI w 0=93∨byteI w 0=125)):stk ((8,w)::r) st=stk r st:=by
 rw [stk]
 by_cases c:¬ (8:Int)=8∨¬ w.size=1
 ·rw [if_pos c]
 ·rw [if_neg c,if_neg (fun q=>q h1),if_neg h2]
theorem stk_open{w:ByteArray}{r:List (Int×ByteArray)}{st:List Int}(h0:w.size=1)(h1:¬ partF (byteI w 0)=0):stk ((8,w)::r) st=if st.length=100 then 6 else stk r (byteI w 0::st):=by
 rw [stk,if_neg (by rintro (q|q);exact q rfl;exact q h0),if_pos h1]
theorem stk_shut{w:ByteArray}{b:Int}{r:List (Int×ByteArray)}{st:List Int}(h0:w.size=1)(h1:partF (byteI w 0)=0)(h2:byteI w 0=41∨byteI w 0=93∨byteI w 0=125)(h3:partF b=byteI w 0):stk ((8,w)::r) (b::st)=stk r st:=by
 rw [stk,if_neg (by rintro (q|q);exact q rfl;exact q h0),if_neg (fun q=>q h1),if_pos h2,if_neg (by simp),if_pos (show partF ((b::st).headD 0) = _ from h3)]
 rfl
structure OpB(ov cv:List (Int×ByteArray))(b:Int):Prop where
 open_:∀ W st,stk (ov++W) st=if st.length=100 then 6 else stk W (b::st)
 shut:∀ W st,stk (cv++W) (b::st)=stk W st
theorem nest_stk{ov cv:List (Int×ByteArray)}{b:Int}(H:OpB ov cv b):∀ (k:Nat) (W:List (Int×ByteArray)) (st:List Int),st.length≤100→stk (nestV ov cv k++W) st=if st.length+k≤100 then stk W st else 6
 |0,W,st,h=>by
  rw [if_pos (by omega)]
  exact stk_skip (by decide)
 |k+1,W,st,h=>by
  have e:nestV ov cv (k+1)++W=ov++(nestV ov cv k++(cv++W)):=by simp [nestV]
  rw [e,H.open_]
  by_cases c:st.length=100
  ·rw [if_pos c,if_neg (by omega)]
  ·rw [if_neg c,nest_stk H k _ _ (by rw [List.length_cons];omega),List.length_cons]
   by_cases c2:st.length+(k+1)≤100
   ·rw [if_pos (by omega),if_pos c2,H.shut]
   ·rw [if_neg (by omega),if_neg c2]
theorem ob0:OpB [(8,(⟨#[40]⟩:ByteArray))] [(8,(⟨#[41]⟩:ByteArray))] 40:=⟨fun W st=>stk_open (by decide) (by decide),fun W st=>stk_shut (by decide) (by decide) (by decide) (by decide)⟩
theorem ob1:OpB [(1,(⟨#[97]⟩:ByteArray)),(8,(⟨#[91]⟩:ByteArray))] [(8,(⟨#[93]⟩:ByteArray))] 91:=⟨fun W st=>(stk_skip (by decide)).trans (stk_open (by decide) (by decide)),fun W st=>stk_shut (by decide) (by decide) (by decide) (by decide)⟩
theorem ob2:OpB [(1,(⟨#[102]⟩:ByteArray)),(8,(⟨#[40]⟩:ByteArray))] [(8,(⟨#[41]⟩:ByteArray))] 40:=⟨fun W st=>(stk_skip (by decide)).trans (stk_open (by decide) (by decide)),fun W st=>stk_shut (by decide) (by decide) (by decide) (by decide)⟩
theorem ob3:OpB openC [(8,(⟨#[125]⟩:ByteArray))] 123:=⟨fun W st=>by
 refine (stk_open (w:=(⟨#[91]⟩:ByteArray)) (by decide) (by decide)).trans ?_
 split
 ·rfl
 ·rename_i c
  refine (stk_shut (w:=(⟨#[93]⟩:ByteArray)) (by decide) (by decide) (by decide) (by decide)).trans ((stk_skip (by decide)).trans ((stk_open (w:=(⟨#[123]⟩:ByteArray)) (by decide) (by decide)).trans ?_))
  rw [if_neg c]
  rfl,fun W st=>stk_shut (by decide) (by decide) (by decide) (by decide)⟩
theorem ob4:OpB openF [(8,(⟨#[125]⟩:ByteArray))] 123:=⟨fun W st=>by
 refine (stk_skip (by decide)).trans ((stk_open (w:=(⟨#[40]⟩:ByteArray)) (by decide) (by decide)).trans ?_)
 split
 ·rfl
 ·rename_i c
  refine (stk_shut (w:=(⟨#[41]⟩:ByteArray)) (by decide) (by decide) (by decide) (by decide)).trans ((stk_open (w:=(⟨#[123]⟩:ByteArray)) (by decide) (by decide)).trans ?_)
  rw [if_neg c]
  rfl,fun W st=>stk_shut (by decide) (by decide) (by decide) (by decide)⟩
theorem ahead_stk{ov:List (Int×ByteArray)}(H:∀ W st,stk (ov++W) st=stk W st):∀ (k:Nat) (W:List (Int×ByteArray)) (st:List Int),stk (aheadV ov k++W) st=stk W st
 |0,W,st=>stk_skip (by decide)
 |k+1,W,st=>by
  have e:aheadV ov (k+1)++W=ov++(aheadV ov k++W):=by simp [aheadV]
  rw [e,H,ahead_stk H k]
theorem lx_all{s:ByteArray}{u:List UInt8}(h:s.data.toList=u):Lx s 0 u:=⟨Int.le_refl _,by simpa using h,by omega⟩
theorem parF_of{s:ByteArray}{T:List Tok}{V:List (Int×ByteArray)}{goal:Int}(hg:1≤goal∧goal≤4)(h1:semF s=(T,0,0))(h2:T.map (vw s)=V)(h3:stk V []=0)(P:Nd→Prop)
 (h4:∀ p,At ⟨s,T,p⟩ 0 V→∃ x m,treeS ⟨s,T,p⟩ goal = .ok x m∧P x):∃ x,parF s goal = .inr (T,x)∧P x:=by
 obtain⟨n1,n2⟩:=nest_of h1
 rw [h2,h3] at n1
 obtain⟨n3,n4⟩:=n2 n1
 have ha:=at_of s T (nestP s) T.length 0 (by omega)
 rw [List.drop_zero,h2] at ha
 obtain⟨x,m,e,hx⟩:=h4 (nestP s) ha
 refine⟨x,?_,hx⟩
 unfold parF
 rw [if_neg (by omega),if_neg (fun q=>q ⟨n1,n3⟩)]
 have e2:inS s=⟨s,T,nestP s⟩:=by unfold inS;rw [n4]
 rw [e2,e]
 dsimp only
 rw [n4]
theorem treeS_ok{I:In}{goal:Int}{x:Nd}{m:Int}(h:G I (fT I) (ruleOf goal) false 0 = .ok x m)(hm:At I m [(9,⟨#[]⟩)])(hg:goal≤2):treeS I goal = .ok x I.L:=by
 have h1:=hm.le
 simp only [List.length_cons,List.length_nil] at h1
 have e:endS I goal m=I.L:=by
  unfold endS maybe
  rw [if_pos ⟨hg,by omega⟩,if_pos hm.smi.1]
  omega
 unfold treeS
 rw [h,bnd_ok,e,if_pos rfl]
theorem deep_of{s:ByteArray}{o c:List UInt8}{ov cv:List (Int×ByteArray)}{b:Int}(k:Nat)(hs:s.data.toList=nestB o c k)(ha:Asc s)(hz:s.size≤65536)(H:OpS s o c ov cv)(B:OpB ov cv b)(hl:1≤ov.length)
 (E:∀ (I:In) (j:Nat) (n:Int) (R:List (Int×ByteArray)),At I n (nestV ov cv j++R)→StR I R→ExR I n R (11*j+9)):if k≤100 then ∃ T x,parF s 2 = .inr (T,x) else ∃ a,parF s 2 = .inl (6,a):=by
 have hr:=nest_rd H k [] [] (Rx.nil s) 0 (by rw [List.append_nil];exact lx_all hs)
 rw [List.append_nil] at hr
 obtain⟨T,h1,h2⟩:=sem_of_rd ha hz hr
 have hk:=nest_stk B k [(9,⟨#[]⟩)] [] (by simp)
 rw [List.length_nil,Nat.zero_add] at hk
 split
 ·rename_i c1
  rw [if_pos c1] at hk
  obtain⟨x,e,_⟩:=parF_of (goal:=2) (by decide) h1 h2 hk (fun _=>True) fun p hA=>by
   have hle:=hA.le
   rw [List.length_append] at hle
   have hlen:k≤(nestV ov cv k).length:=by
    clear hr h1 h2 hk hA hle hs
    induction k with
    |zero=>simp
    |succ k ih=>
     simp only [nestV,List.length_append]
     have:=ih (by omega)
     omega
   obtain⟨x,m,e1,e2⟩:=E ⟨s,T,p⟩ k 0 _ hA stR_smi (fT ⟨s,T,p⟩) (by unfold fT;simp only [List.length_cons,List.length_nil] at hle;omega)
   exact⟨x,_,treeS_ok e1 e2 (by decide),trivial⟩
  exact⟨T,x,e⟩
 ·rename_i c1
  rw [if_neg c1] at hk
  obtain⟨n1,_⟩:=nest_of h1
  rw [h2,hk] at n1
  refine⟨nestA s,?_⟩
  unfold parF
  rw [if_neg (by decide),n1,if_pos (fun q=>absurd q.1 (by decide))]
end Go.Ex
namespace Go.Ex
open Go.Proofs
def strR:Rep ByteArray where
 dflt:=⟨#[]⟩
 sz:=1
 cells:=fun x=>[.string x]
 un:=fun l=>match l with
  |[.string x]=>some x
  |_=>none
 len:=fun _=>rfl
 un_ok:=fun l x h=>by
  split at h
  ·cases h;rfl
  ·cases h
 one:=fun x v h=>by simp at h;subst h;rfl
 pos:=by decide
def opT:List ByteArray:=[(⟨#[40]⟩:ByteArray),(⟨#[97,91]⟩:ByteArray),(⟨#[102,40]⟩:ByteArray),(⟨#[91,93,84,123]⟩:ByteArray),(⟨#[102,117,110,99,40,41,32,123]⟩:ByteArray)]
def clT:List ByteArray:=[(⟨#[41]⟩:ByteArray),(⟨#[93]⟩:ByteArray),(⟨#[41]⟩:ByteArray),(⟨#[125]⟩:ByteArray),(⟨#[125]⟩:ByteArray)]
def prT:List ByteArray:=[(⟨#[45]⟩:ByteArray),(⟨#[42]⟩:ByteArray),(⟨#[97,58,32]⟩:ByteArray),(⟨#[99,104,97,110,32]⟩:ByteArray),(⟨#[49,32,43,32]⟩:ByteArray)]
def gT:List Int:=[2,2,3,1,2]
def nestS(o c:ByteArray):Nat→ByteArray
 |0=>(⟨#[120]⟩:ByteArray)
 |k+1=>o++nestS o c k++c
def repS(p:ByteArray):Nat→ByteArray
 |0=>⟨#[]⟩
 |k+1=>repS p k++p
theorem app_list(a b:ByteArray):(a++b).data.toList=a.data.toList++b.data.toList:=by
 rw [ByteArray.data_append,Array.toList_append]
theorem nestS_list(o c:ByteArray):∀ k,(nestS o c k).data.toList=nestB o.data.toList c.data.toList k
 |0=>rfl
 |k+1=>by
  rw [nestS,app_list,app_list,nestS_list o c k,nestB,List.append_assoc]
theorem repS_comm(p:ByteArray):∀ k,p.data.toList++(repS p k).data.toList=(repS p k).data.toList++p.data.toList
 |0=>by simp [repS]
 |k+1=>by rw [repS,app_list,←List.append_assoc,repS_comm p k]
theorem repS_list(p:ByteArray):∀ k,(repS p k++(⟨#[120]⟩:ByteArray)).data.toList=aheadL p.data.toList k
 |0=>rfl
 |k+1=>by
  rw [app_list,repS,app_list,←repS_comm,List.append_assoc,←app_list,repS_list p k]
  rfl
theorem app_size(a b:ByteArray):(a++b).size=a.size+b.size:=ByteArray.size_append
theorem nestS_size2(o c:ByteArray):∀ k,(nestS o c k).size=1+k*(o.size+c.size)
 |0=>by
  rw [Nat.zero_mul]
  rfl
 |k+1=>by
  rw [nestS,app_size,app_size,nestS_size2 o c k,Nat.succ_mul]
  omega
theorem repS_size(p:ByteArray):∀ k,(repS p k).size=k*p.size
 |0=>by
  rw [Nat.zero_mul]
  rfl
 |k+1=>by rw [repS,app_size,repS_size p k,Nat.succ_mul]
theorem nestB_all{P:UInt8→Prop}{o c:List UInt8}(ho:∀ x∈o,P x)(hc:∀ x∈c,P x)(hx:P 120):∀ k,∀ x∈nestB o c k,P x
 |0=>fun x h=>by
  simp only [nestB,List.mem_singleton] at h
  subst h
  exact hx
 |k+1=>fun x h=>by
  simp only [nestB,List.mem_append] at h
  rcases h with h|h|h
  ·exact ho x h
  ·exact nestB_all ho hc hx k x h
  ·exact hc x h
theorem aheadL_all{P:UInt8→Prop}{o:List UInt8}(ho:∀ x∈o,P x)(hx:P 120):∀ k,∀ x∈aheadL o k,P x
 |0=>fun x h=>by
  simp only [aheadL,List.mem_singleton] at h
  subst h
  exact hx
 |k+1=>fun x h=>by
  simp only [aheadL,List.mem_append] at h
  rcases h with h|h
  ·exact ho x h
  ·exact aheadL_all ho hx k x h
theorem ExR.mono{I:In}{n:Int}{R:List (Int×ByteArray)}{c d:Nat}(h:ExR I n R c)(hd:c≤d):ExR I n R d:=fun F hF=>h F (by omega)
theorem deep_law(i:Int)(hi:0≤i∧i<5)(k:Nat)(hk:k<110):if k≤100 then ∃ T x,parF (nestS (getI strR.dflt opT i) (getI strR.dflt clT i) k) 2 = .inr (T,x) else ∃ a,parF (nestS (getI strR.dflt opT i) (getI strR.dflt clT i) k) 2 = .inl (6,a):=by
 have asc:∀ o c:ByteArray,(∀ x∈o.data.toList,0<x.toNat∧x.toNat<128)→(∀ x∈c.data.toList,0<x.toNat∧x.toNat<128)→Asc (nestS o c k):=by
  intro o c h1 h2
  unfold Asc
  rw [nestS_list]
  exact nestB_all h1 h2 (by decide) k
 have siz:∀ o c:ByteArray,o.size+c.size≤9→(nestS o c k).size≤65536:=by
  intro o c h
  rw [nestS_size2]
  have:=Nat.mul_le_mul (show k≤109 by omega) h
  omega
 have h5:i=0∨i=1∨i=2∨i=3∨i=4:=by omega
 rcases h5 with rfl|rfl|rfl|rfl|rfl
 ·exact deep_of k (nestS_list ((⟨#[40]⟩:ByteArray)) ((⟨#[41]⟩:ByteArray)) k) (asc _ _ (by decide) (by decide)) (siz _ _ (by decide)) (op0 _) ob0 (by decide) fun I j n R h hR=>(ex_paren j n R h hR).mono (by omega)
 ·exact deep_of k (nestS_list ((⟨#[97,91]⟩:ByteArray)) ((⟨#[93]⟩:ByteArray)) k) (asc _ _ (by decide) (by decide)) (siz _ _ (by decide)) (op1 _) ob1 (by decide) fun I j n R h hR=>(ex_index j n R h hR).mono (by omega)
 ·exact deep_of k (nestS_list ((⟨#[102,40]⟩:ByteArray)) ((⟨#[41]⟩:ByteArray)) k) (asc _ _ (by decide) (by decide)) (siz _ _ (by decide)) (op2 _) ob2 (by decide) fun I j n R h hR=>(ex_call j n R h hR).mono (by omega)
 ·exact deep_of k (nestS_list ((⟨#[91,93,84,123]⟩:ByteArray)) ((⟨#[125]⟩:ByteArray)) k) (asc _ _ (by decide) (by decide)) (siz _ _ (by decide)) (op3 _) ob3 (by decide) fun I j n R h hR=>(ex_comp j n R h hR).mono (by omega)
 ·exact deep_of k (nestS_list ((⟨#[102,117,110,99,40,41,32,123]⟩:ByteArray)) ((⟨#[125]⟩:ByteArray)) k) (asc _ _ (by decide) (by decide)) (siz _ _ (by decide)) (op4 _) ob4 (by decide) fun I j n R h hR=>(ex_func j n R h hR).mono (by omega)
theorem aheadV_len{ov:List (Int×ByteArray)}(h:1≤ov.length):∀ k,k<(aheadV ov k).length
 |0=>by simp [aheadV]
 |k+1=>by
  simp only [aheadV,List.length_append]
  have:=aheadV_len h k
  omega
theorem long_of{s:ByteArray}{o:List UInt8}{ov:List (Int×ByteArray)}{goal:Int}(hg:1≤goal∧goal≤4)(k:Nat)(hs:s.data.toList=aheadL o k)(ha:Asc s)(hz:s.size≤65536)(H:AhS s o ov)(B:∀ W st,stk (ov++W) st=stk W st)(hl:1≤ov.length)
 (E:∀ I:In,At I 0 (aheadV ov k++[(9,⟨#[]⟩)])→2*k+20≤fT I→∃ x m,treeS I goal = .ok x m∧k<(flat x).length):∃ T x,parF s goal = .inr (T,x)∧k<(flat x).length:=by
 have hr:=ahead_rd H k 0 (lx_all hs)
 obtain⟨T,h1,h2⟩:=sem_of_rd ha hz hr
 have hk:=ahead_stk B k [(9,⟨#[]⟩)] []
 have hk2:stk [((9:Int),(⟨#[]⟩:ByteArray))] []=0:=by decide
 obtain⟨x,e,hx⟩:=parF_of hg h1 h2 (hk.trans hk2) (fun x=>k<(flat x).length) fun p hA=>by
  have hle:=hA.le
  rw [List.length_append] at hle
  have hlen:=aheadV_len hl k
  exact E ⟨s,T,p⟩ hA (by unfold fT;simp only [List.length_cons,List.length_nil] at hle;omega)
 exact⟨T,x,e,hx⟩
theorem long_un{I:In}{w:ByteArray}(hw:w=(⟨#[45]⟩:ByteArray)∨w=(⟨#[42]⟩:ByteArray)){k:Nat}(h:At I 0 (aheadV [(8,w)] k++[(9,⟨#[]⟩)]))(hf:2*k+20≤fT I):∃ x m,treeS I 2 = .ok x m∧k<(flat x).length:=by
 obtain⟨F,hF⟩:∃ F,fT I=F+2:=⟨fT I-2,by omega⟩
 obtain⟨x,m,e1,e2,e3⟩:=un_chain w hw k 0 _ h stR_smi F (by omega)
 refine⟨x,_,treeS_ok (goal:=2) ?_ e2 (by decide),e3⟩
 rw [hF]
 exact expr_of_unary e2.hi (by rw [e2.smi.1];decide) e1
theorem long_law(i:Int)(hi:0≤i∧i<5)(k:Nat)(hk:k<3000):∃ T x,parF ((if i=0 then repS ((⟨#[45,32]⟩:ByteArray)) k else repS (getI strR.dflt prT i) k)++(⟨#[120]⟩:ByteArray)) (getI (0:Int) gT i) = .inr (T,x)∧k<(flat x).length:=by
 have asc:∀ o:ByteArray,(∀ x∈o.data.toList,0<x.toNat∧x.toNat<128)→Asc (repS o k++(⟨#[120]⟩:ByteArray)):=by
  intro o h1
  unfold Asc
  rw [repS_list]
  exact aheadL_all h1 (by decide) k
 have siz:∀ o:ByteArray,o.size≤9→(repS o k++(⟨#[120]⟩:ByteArray)).size≤65536:=by
  intro o h
  rw [app_size,repS_size]
  have:=Nat.mul_le_mul (show k≤2999 by omega) h
  have e:((⟨#[120]⟩:ByteArray):ByteArray).size=1:=rfl
  omega
 have h5:i=0∨i=1∨i=2∨i=3∨i=4:=by omega
 rcases h5 with rfl|rfl|rfl|rfl|rfl
 ·exact long_of (goal:=2) (by decide) k (repS_list ((⟨#[45,32]⟩:ByteArray)) k) (asc _ (by decide)) (siz _ (by decide)) (ah0 _) (fun W st=>stk_sgn (by decide) (by decide)) (by decide) fun I h hf=>long_un (.inl rfl) h hf
 ·exact long_of (goal:=2) (by decide) k (repS_list ((⟨#[42]⟩:ByteArray)) k) (asc _ (by decide)) (siz _ (by decide)) (ah1 _) (fun W st=>stk_sgn (by decide) (by decide)) (by decide) fun I h hf=>long_un (.inr rfl) h hf
 ·refine long_of (goal:=3) (by decide) k (repS_list ((⟨#[97,58,32]⟩:ByteArray)) k) (asc _ (by decide)) (siz _ (by decide)) (ah2 _) (fun W st=>(stk_skip (by decide)).trans (stk_sgn (by decide) (by decide))) (by decide) fun I h hf=>?_
  obtain⟨F,hF⟩:∃ F,fT I=F+2:=⟨fT I-2,by omega⟩
  obtain⟨x,m,e1,e2,e3⟩:=lab_chain k 0 [] h F (by omega)
  have hle:=e2.le
  simp only [List.length_cons,List.length_nil] at hle
  have hw:word I 0=⟨#[]⟩∧0<I.L:=by
   match k,h with
   |0,h=>exact⟨(show At I 0 ((1,(⟨#[120]⟩:ByteArray))::_) from h).nam.1,(show At I 0 ((1,(⟨#[120]⟩:ByteArray))::_) from h).rng.2⟩
   |k+1,h=>exact⟨(show At I 0 ((1,(⟨#[97]⟩:ByteArray))::_) from h).nam.1,(show At I 0 ((1,(⟨#[97]⟩:ByteArray))::_) from h).rng.2⟩
  have hss:G I (fT I) (ruleOf 3) false 0 = .ok (listN 13 [x] (m+1)) (m+1):=by
   rw [hF]
   show anyStmtsS I (G I F) false 0 = _
   unfold anyStmtsS
   obtain⟨f,hf2⟩:=fuel_two hw.2
   rw [hf2,stGo,hw.1,if_neg (by rintro (q|q|q|q);exact absurd q (by decide);exact absurd q (by decide);exact absurd q (by decide);omega),if_neg (by decide),e1,bnd_ok,
    if_neg (by rw [e2.smi.1];rintro (q|q);exact absurd q (by decide);omega),want_ok e2.smi.1,bnd_ok,stGo,if_pos (.inr (.inr (.inr (by omega)))),bnd_ok]
   rfl
  refine⟨listN 13 [x] (m+1),m+1,?_,?_⟩
  ·unfold treeS
   rw [hss,bnd_ok]
   have e:endS I 3 (m+1)=m+1:=by unfold endS;rw [if_neg (fun q=>absurd q.1 (by decide))]
   rw [e,if_pos (by omega)]
  ·show k<(flat (.mk 13 (-1) x.frm _ [x])).length
   rw [flatOne]
   omega
 ·refine long_of (goal:=1) (by decide) k (repS_list ((⟨#[99,104,97,110,32]⟩:ByteArray)) k) (asc _ (by decide)) (siz _ (by decide)) (ah3 _) (fun W st=>stk_skip (by decide)) (by decide) fun I h hf=>?_
  obtain⟨x,m,e1,e2,e3⟩:=chan_chain k 0 [] h (fT I) false (by omega)
  exact⟨x,_,treeS_ok (goal:=1) e1 e2 (by decide),e3⟩
 ·refine long_of (goal:=2) (by decide) k (repS_list ((⟨#[49,32,43,32]⟩:ByteArray)) k) (asc _ (by decide)) (siz _ (by decide)) (ah4 _) (fun W st=>(stk_skip (by decide)).trans (stk_sgn (by decide) (by decide))) (by decide) fun I h hf=>?_
  obtain⟨F,hF⟩:∃ F,fT I=F+6:=⟨fT I-6,by omega⟩
  match k,h,hf with
  |0,h,hf=>
   obtain⟨x,m,e1,e2⟩:=ex_name (show At I 0 ((1,(⟨#[120]⟩:ByteArray))::[(9,⟨#[]⟩)]) from h) stR_smi (fT I) (by omega)
   exact⟨x,_,treeS_ok (goal:=2) e1 e2 (by decide),flat_pos x⟩
  |j+1,h,hf=>
   have h:At I 0 ((3,(⟨#[49]⟩:ByteArray))::(8,(⟨#[43]⟩:ByteArray))::(aheadV [(3,(⟨#[49]⟩:ByteArray)),(8,(⟨#[43]⟩:ByteArray))] j++[(9,⟨#[]⟩)])):=h
   obtain⟨hw1,hk1⟩:=h.num
   have hw2:=h.tl.sgn.1
   have hu:G I (F+4) .unary false 0 = .ok (leafN 27 0) (0+1):=unary_of_prim (F:=F+3) (by rw [hw1];decide) (by
    show primaryS I (G I (F+2)) false 0 = _
    unfold primaryS
    obtain⟨f,hf⟩:=fuel_one (I:=I) (m:=0+1) h.tl.hi
    rw [oper_num hk1,bnd_ok,hf,primGo,hw2,if_neg (by decide),if_neg (by decide),if_neg (by decide),if_neg (fun q=>absurd q.1 (by decide))])
   have hle:=h.tl.le
   rw [List.length_cons,List.length_append] at hle
   have hlen:=aheadV_len (ov:=[(3,(⟨#[49]⟩:ByteArray)),(8,(⟨#[43]⟩:ByteArray))]) (by decide) j
   obtain⟨y,q,q1,q2,q3⟩:=bin_chain j (0+1) [] h.tl (F+4) (fuel I (0+1)) (leafN 27 0) 0 (by omega) (by unfold fuel;simp only [List.length_cons,List.length_nil] at hle;omega)
   have hp:=flat_pos (leafN 27 0)
   refine⟨y,_,treeS_ok (goal:=2) ?_ q2 (by decide),by omega⟩
   rw [hF]
   show binaryS I (G I (F+4)) 1 false 0 = _
   unfold binaryS
   rw [hu,bnd_ok]
   exact q1
end Go.Ex
namespace Go.Ex
open Go.Proofs
attribute [local irreducible] CH
def leastA(k:Int):Int:=if k=2∨k=4∨k=11∨k=12∨k=13∨k=14∨k=20∨k=23∨k=25 then 0 else if k=10∨k=16∨k=18 then 1 else arT k
def moreA(k:Int):Bool:=decide (k=2∨k=4∨k=11∨k=12∨k=13∨k=14∨k=20∨k=23∨k=25∨k=10∨k=16∨k=18)
theorem ar_least{k:Int}{n:Nat}(h:ArP k n):leastA k≤n∧(leastA k<n→moreA k=true):=by
 unfold ArP at h
 unfold leastA moreA
 split at h
 ·rename_i c
  rw [if_pos c]
  refine⟨by omega,fun _=>?_⟩
  simp only [decide_eq_true_eq]
  omega
 ·rename_i c
  rw [if_neg c]
  split at h
  ·rename_i c2
   rw [if_pos c2]
   refine⟨by omega,fun _=>?_⟩
   simp only [decide_eq_true_eq]
   omega
  ·rename_i c2
   rw [if_neg c2,h]
   exact⟨Int.le_refl _,fun h=>absurd h (Int.lt_irrefl _)⟩
theorem tup2_eq{a b c d:Value}(h1:a=c)(h2:b=d):Value.tuple #[a,b] = .tuple #[c,d]:=by rw [h1,h2]
theorem arity_any(k:Int)(h:Heap)(hk:0≤k∧k<256):CH Tryz.prog 37 #[.int .u8 k] h fun v h'=>v = .tuple #[.int .i64 (leastA k),.bool (moreA k)]∧Grows h h':=by
 refine enter (rep:=rep) (m:=1) (ex:=[0,2,3,4,5,15,19,24,46,53,58]) (cu:=[]) tO Tryz.func37 rfl (by decide) (rs:=[.tmp 2,.tmp 3]) rfl rfl [.val (.int .u8 k)] rfl ?_
 obtain⟨a,ha⟩:∃ a,leastA k=a:=⟨_,rfl⟩
 obtain⟨b,hb0⟩:∃ b,moreA k=b:=⟨_,rfl⟩
 rw [ha,hb0]
 unfold leastA arT at ha
 unfold moreA at hb0
 ((repeat' ((conv=>whnf);(first|(refine Br.mk ?_ ?_<;>intro hb<;>(try replace hb:=Classical.not_not.1 hb)<;>(try (exfalso;omega)))|fail)));all_goals (try (conv=>whnf)))
 all_goals first
  | (refine⟨fun h' hs=>⟨tup2_eq ?_ ?_,hs.grows⟩⟩
     ·rw [←ha]
      simp only [den,den1,denC, *]
      first|rfl|(simp;done)|(simp;omega)
     ·rw [←hb0]
      simp only [den,den1,denC, *]
      first|rfl|(simp;done)|(simp;omega))
end Go.Ex
namespace Go.Ex
open Go.Proofs
attribute [local irreducible] CH
theorem contains_any(s sub:ByteArray)(h:Heap)(ht:TabsH h)(hs:s.size<4294967281):CH Tryz.prog 34 #[.string s,.string sub] h fun v h'=>v = .bool (Lib.contains s.data.toList sub.data.toList)∧Grows h h':=
 callsH_same (callRuns Tryz.func34 (by decide) rfl) fun w hw=>by
  obtain⟨m,hm⟩:=ht.len
  exact Tryz.strings_Contains s sub m w hs (by rw [cell_of,hw];exact hm)
def wordsT(k:Int):ByteArray:=
 if k=3∨k=4 then (⟨#[32,105,109,112,111,114,116,32,99,111,110,115,116,32,118,97,114,32,116,121,112,101,32]⟩:ByteArray) else
 if k=36 then (⟨#[32,43,32,45,32,33,32,94,32,38,32,60,45,32]⟩:ByteArray) else
 if k=37 then (⟨#[32,124,124,32,38,38,32,61,61,32,33,61,32,60,32,60,61,32,62,32,62,61,32,43,32,45,32,124,32,94,32,42,32,47,32,37,32,60,60,32,62,62,32,38,32,38,94,32]⟩:ByteArray) else
 if k=45 then (⟨#[32,99,104,97,110,32,99,104,97,110,60,45,32,60,45,99,104,97,110,32]⟩:ByteArray) else
 if k=52 then (⟨#[32,43,43,32,45,45,32]⟩:ByteArray) else
 if k=53 then (⟨#[32,61,32,58,61,32,43,61,32,45,61,32,42,61,32,47,61,32,37,61,32,38,61,32,124,61,32,94,61,32,60,60,61,32,62,62,61,32,38,94,61,32]⟩:ByteArray) else
 if k=57 then (⟨#[32,98,114,101,97,107,32,99,111,110,116,105,110,117,101,32,103,111,116,111,32,102,97,108,108,116,104,114,111,117,103,104,32]⟩:ByteArray) else ⟨#[]⟩
theorem words_any(k:Int)(h:Heap)(hk:0≤k∧k<256):CH Tryz.prog 49 #[.int .u8 k] h fun v h'=>v = .string (wordsT k)∧Grows h h':=by
 refine enter (rep:=rep) (m:=1) (ex:=[0,2,3,4,7,9,11,13,15,17]) (cu:=[]) tO Tryz.func49 rfl (by decide) (rs:=[.tmp 2]) rfl rfl [.val (.int .u8 k)] rfl ?_
 obtain⟨a,ha⟩:∃ a,wordsT k=a:=⟨_,rfl⟩
 rw [ha]
 unfold wordsT at ha
 ((repeat' ((conv=>whnf);(first|(refine Br.mk ?_ ?_<;>intro hb<;>(try replace hb:=Classical.not_not.1 hb)<;>(try (exfalso;omega)))|fail)));all_goals (try (conv=>whnf)))
 all_goals first
  | (refine⟨fun h' hs=>⟨?_,hs.grows⟩⟩
     rw [←ha]
     (repeat (first|rw [if_pos (by omega)]|rw [if_neg (by omega)]))
     rfl)
end Go.Ex
