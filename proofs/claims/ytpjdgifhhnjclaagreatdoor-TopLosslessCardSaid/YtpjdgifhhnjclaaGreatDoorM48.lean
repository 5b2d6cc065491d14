/-
  Top: TopFaults, TopLossless: whatever the input, the law answers true (part 48)
-/
import Derived.Test.YtpjdgifhhnjclaaGreatDoorM11
set_option linter.unusedVariables false
set_option linter.unusedSimpArgs false
set_option maxHeartbeats 4000000
set_option maxRecDepth 10000
namespace Go.Ex.Tr
open Go.Ex Go.Proofs
structure Nd where
 k:Int
 c:Int
 w:Int
 f:Int
 t:Int
def unNd:List Value→Option Nd
 |[.int .u8 k,.int .i64 c,.int .i64 w,.int .i64 f,.int .i64 t]=>some ⟨k,c,w,f,t⟩
 |_=>none
def ndR:Rep Nd where
 dflt:=⟨0,0,0,0,0⟩
 sz:=5
 cells:=fun x=>[.int .u8 x.k,.int .i64 x.c,.int .i64 x.w,.int .i64 x.f,.int .i64 x.t]
 un:=unNd
 len:=fun _=>rfl
 un_ok:=fun l x h=>by
  unfold unNd at h
  split at h
  ·cases h;rfl
  ·cases h
 one:=fun x v h=>by
  simp at h
  rcases h with rfl|rfl|rfl|rfl|rfl<;>rfl
 pos:=by decide
structure Fr where
 p:Int
 c:Int
 d:Int
def unFr:List Value→Option Fr
 |[.int .i64 p,.int .i64 c,.int .i64 d]=>some ⟨p,c,d⟩
 |_=>none
def frR:Rep Fr where
 dflt:=⟨0,0,0⟩
 sz:=3
 cells:=fun x=>[.int .i64 x.p,.int .i64 x.c,.int .i64 x.d]
 un:=unFr
 len:=fun _=>rfl
 un_ok:=fun l x h=>by
  unfold unFr at h
  split at h
  ·cases h;rfl
  ·cases h
 one:=fun x v h=>by
  simp at h
  rcases h with rfl|rfl|rfl<;>rfl
 pos:=by decide
def rep:Nat→Option RepS
 |45=>some ⟨ndR⟩
 |99=>some ⟨frR⟩
 |3=>some ⟨intR .i64⟩
 |5=>some ⟨intR .u8⟩
 |_=>none
abbrev nd(L:List Nd)(i:Int):Nd:=getI ndR.dflt L i
inductive Kd (L:List Nd)(lc:Int→Prop)(pc:Int→Int→Int→Prop):Int→Int→Int→Int→Int→Prop
 |nil (p k d:Int):Kd L lc pc p k 0 d k
 |cons (p k c d m e:Int) (hc:0<c) (h0:0≤k) (hk:k<L.length) (hp:pc p k d) (hl:lc k) (h1:Kd L lc pc k (k+1) (nd L k).c (nd L k).f m) (h2:Kd L lc pc p m (c-1) (nd L k).t e):Kd L lc pc p k c d e
def Ms(L:List Nd)(k c e:Int):Prop:=Kd L (fun i=>0≤(nd L i).c∧(nd L i).c≤L.length) (fun _ _ _=>True) 0 k c 0 e
section
variable {L:List Nd}{lc lc':Int→Prop}{pc pc':Int→Int→Int→Prop}
theorem Kd.zero{p k d e:Int}(h:Kd L lc pc p k 0 d e):e=k:=by
 cases h with
 |nil=>rfl
 |cons=>omega
theorem Kd.inv{p k c d e:Int}(h:Kd L lc pc p k c d e):(c=0∧e=k)∨(0<c∧0≤k∧k<L.length∧pc p k d∧lc k∧∃ m,Kd L lc pc k (k+1) (nd L k).c (nd L k).f m∧Kd L lc pc p m (c-1) (nd L k).t e):=by
 cases h with
 |nil=>exact .inl ⟨rfl,rfl⟩
 |cons p k c d m e hc h0 hk h3 h4 h1 h2=>exact .inr ⟨hc,h0,hk,h3,h4,m,h1,h2⟩
theorem Kd.pos{p k c d e:Int}(h:Kd L lc pc p k c d e):0≤c:=by
 cases h with
 |nil=>omega
 |cons=>omega
theorem Kd.ge{p k c d e:Int}(h:Kd L lc pc p k c d e):k+c≤e:=by
 induction h with
 |nil=>omega
 |cons p k c d m e hc h0 hk hp hl h1 h2 i1 i2=>have:=h1.pos;omega
theorem Kd.le{p k c d e:Int}(h:Kd L lc pc p k c d e):k≤L.length→e≤L.length:=by
 induction h with
 |nil=>exact fun h=>h
 |cons p k c d m e hc h0 hk hp hl h1 h2 i1 i2=>exact fun _=>i2 (i1 (by omega))
theorem Kd.mono{p k c d e:Int}(h:Kd L lc pc p k c d e)(hl:∀ i,lc i→lc' i)(hp:∀ p k d,pc p k d→pc' p k d)(h')(hh:h'=d:=by rfl):Kd L lc' pc' p k c h' e:=by
 subst hh
 induction h with
 |nil=>exact .nil _ _ _
 |cons p k c d m e hc h0 hk h3 h4 h1 h2 i1 i2=>exact .cons p k c d m e hc h0 hk (hp _ _ _ h3) (hl _ h4) i1 i2
theorem Kd.ms{p k c d e:Int}(h:Kd L lc pc p k c d e)(hl:∀ i,lc i→0≤(nd L i).c∧(nd L i).c≤L.length):∀ p' d',Kd L (fun i=>0≤(nd L i).c∧(nd L i).c≤L.length) (fun _ _ _=>True) p' k c d' e:=by
 induction h with
 |nil=>exact fun _ _=>.nil _ _ _
 |cons p k c d m e hc h0 hk h3 h4 h1 h2 i1 i2=>exact fun p' d'=>.cons p' k c d' m e hc h0 hk trivial (hl _ h4) (i1 _ _) (i2 _ _)
theorem Ms.any{k c e:Int}(h:Ms L k c e)(p d:Int):Kd L (fun i=>0≤(nd L i).c∧(nd L i).c≤L.length) (fun _ _ _=>True) p k c d e:=Kd.ms h (fun _ h=>h) p d
theorem Ms.of{p k c d e:Int}(h:Kd L (fun i=>0≤(nd L i).c∧(nd L i).c≤L.length) (fun _ _ _=>True) p k c d e):Ms L k c e:=Kd.ms h (fun _ h=>h) 0 0
theorem Ms.nil(k:Int):Ms L k 0 k:=Kd.nil _ _ _
theorem Ms.cons{k c m e:Int}(hc:0<c)(h0:0≤k)(hk:k<L.length)(hl:0≤(nd L k).c∧(nd L k).c≤L.length)(h1:Ms L (k+1) (nd L k).c m)(h2:Ms L m (c-1) e):Ms L k c e:=
 Kd.cons 0 k c 0 m e hc h0 hk trivial hl (h1.any _ _) (h2.any _ _)
theorem Ms.cases{k c e:Int}(h:Ms L k c e):(c=0∧e=k)∨(0<c∧0≤k∧k<L.length∧0≤(nd L k).c∧(nd L k).c≤L.length∧∃ m,Ms L (k+1) (nd L k).c m∧Ms L m (c-1) e):=by
 cases h with
 |nil=>exact .inl ⟨rfl,rfl⟩
 |cons p k c d m e hc h0 hk h3 h4 h1 h2=>exact .inr ⟨hc,h0,hk,h4.1,h4.2,_,Ms.of h1,Ms.of h2⟩
theorem Kd.uniq{p k c d e:Int}(h:Kd L lc pc p k c d e):∀ {lc':Int→Prop} {pc':Int→Int→Int→Prop} {p' d' e':Int},Kd L lc' pc' p' k c d' e'→e=e':=by
 induction h with
 |nil=>exact fun h=>h.zero.symm
 |cons p k c d m e hc h0 hk h3 h4 h1 h2 i1 i2=>
  intro lc' pc' p' d' e' h
  cases h with
  |nil=>omega
  |cons _ _ _ _ m' _ _ _ _ _ _ g1 g2=>
   have:=i1 g1
   subst this
   exact i2 g2
theorem Ms.uniq{k c e e':Int}(h:Ms L k c e)(h':Ms L k c e'):e=e':=Kd.uniq h h'
theorem Ms.append{k a m:Int}(h:Ms L k a m):∀ {b e:Int},Ms L m b e→Ms L k (a+b) e:=by
 have key:∀ {lc pc p k c d m} (h:Kd L lc pc p k c d m),(∀ i,lc i→0≤(nd L i).c∧(nd L i).c≤L.length)→∀ {b e:Int},Ms L m b e→Ms L k (c+b) e:=by
  intro lc pc p k c d m h hl
  induction h with
  |nil=>intro b e hb;rw [Int.zero_add];exact hb
  |cons p k c d m e hc h0 hk h3 h4 h1 h2 i1 i2=>
   intro b e' hb
   have hb0:=Kd.pos hb
   exact Ms.cons (by omega) h0 hk (hl _ h4) (Ms.of (h1.ms hl 0 0)) (by rw [show c+b-1=c-1+b by omega];exact i2 hb)
 intro b e hb
 exact key h (fun _ h=>h) hb
theorem Ms.split{k a b e:Int}(ha:0≤a)(hb:0≤b)(h:Ms L k (a+b) e):∃ m,Ms L k a m∧Ms L m b e:=by
 have key:∀ (n:Nat) (k e:Int),Ms L k (n+b) e→∃ m,Ms L k n m∧Ms L m b e:=by
  intro n
  induction n with
  |zero=>intro k e h;exact⟨k,Ms.nil k,by simpa using h⟩
  |succ n ih=>
   intro k e h
   rcases h.cases with ⟨h1,h2⟩|⟨h1,h2,h3,h4,h5,m,h6,h7⟩
   ·omega
   ·rw [show ((n+1:Nat):Int)+b-1=n+b by omega] at h7
    obtain⟨m',q1,q2⟩:=ih m e h7
    exact⟨m',Ms.cons (by omega) h2 h3 ⟨h4,h5⟩ h6 (by rw [show ((n+1:Nat):Int)-1=n by omega];exact q1),q2⟩
 obtain⟨m,h1,h2⟩:=key a.toNat k e (by rw [show ((a.toNat:Nat):Int)=a by omega];exact h)
 exact⟨m,by rw [show ((a.toNat:Nat):Int)=a by omega] at h1;exact h1,h2⟩
theorem Kd.nest{p k c d e:Int}(h:Kd L lc pc p k c d e):∀ j,k≤j→j<e→lc j∧j<L.length∧∃ ej,ej≤e∧Kd L lc pc j (j+1) (nd L j).c (nd L j).f ej:=by
 induction h with
 |nil=>intro j h1 h2;omega
 |cons p k c d m e hc h0 hk h3 h4 h1 h2 i1 i2=>
  intro j hj1 hj2
  have g2:=h2.ge
  have g3:=h2.pos
  by_cases hjk:j=k
  ·subst hjk;exact⟨h4,hk,m,by omega,h1⟩
  ·by_cases hjm:j<m
   ·obtain⟨a,b,ej,h,h'⟩:=i1 j (by omega) hjm
    exact⟨a,b,ej,by omega,h'⟩
   ·exact i2 j (by omega) hj2
structure EndsOk(L:List Nd)(E:List Int):Prop where
 len:E.length=L.length
 at_:∀ i:Int,0≤i→i<L.length→Ms L (i+1) (nd L i).c (getI 0 E i)
 le:∀ i:Int,0≤i→i<L.length→getI 0 E i≤L.length
theorem EndsOk.lt{E:List Int}(h:EndsOk L E)(i:Int)(h0:0≤i)(h1:i<L.length):i<getI 0 E i:=by
 have:=Kd.ge (h.at_ i h0 h1)
 have:=Kd.pos (h.at_ i h0 h1)
 omega
theorem getI_ext{E E':List Int}(hl:E.length=E'.length)(h:∀ i:Int,0≤i→i<E.length→getI 0 E i=getI 0 E' i):E=E':=by
 refine List.ext_getElem hl fun i h1 h2=>?_
 have:=h i (by omega) (by omega)
 simpa [getI,List.getD,h1,h2] using this
theorem EndsOk.uniq{E E':List Int}(h:EndsOk L E)(h':EndsOk L E'):E=E':=
 getI_ext (h.len.trans h'.len.symm) fun i h0 h1=>by
  rw [h.len] at h1
  exact (h.at_ i h0 h1).uniq (h'.at_ i h0 h1)
def lcP(L:List Nd)(n:Int)(i:Int):Prop:=¬ 68<(nd L i).k∧0≤(nd L i).c∧(nd L i).c≤L.length∧0≤(nd L i).f∧(nd L i).f≤(nd L i).t∧(nd L i).t≤n∧((nd L i).w = -1∨((nd L i).f≤(nd L i).w∧(nd L i).w<(nd L i).t))
def pcP(L:List Nd)(p k d:Int):Prop:=d≤(nd L k).f∧(nd L k).t≤(nd L p).t∧¬ ((nd L k).f≤(nd L p).w∧(nd L p).w<(nd L k).t)
def TreeP(L:List Nd)(n:Int):Prop:=0<L.length∧lcP L n 0∧Kd L (lcP L n) (pcP L) 0 1 (nd L 0).c (nd L 0).f L.length
theorem lcP_c{n i:Int}(h:lcP L n i):0≤(nd L i).c∧(nd L i).c≤L.length:=⟨h.2.1,h.2.2.1⟩
def Chain(L:List Nd)(E:List Int)(p:Int):Nat→Int→Int→Prop
 |0,_,_=>True
 |c+1,k,d=>pcP L p k d∧Chain L E p c (getI 0 E k) (nd L k).t
theorem Kd.all{n:Int}{E:List Int}(hE:EndsOk L E){p k c d e:Int}(h:Kd L (lcP L n) (pcP L) p k c d e):(∀ j,k≤j→j<e→lcP L n j∧Chain L E j (nd L j).c.toNat (j+1) (nd L j).f)∧Chain L E p c.toNat k d:=by
 induction h with
 |nil=>exact⟨fun j h1 h2=>by omega,trivial⟩
 |cons p k c d m e hc h0 hk h3 h4 h1 h2 i1 i2=>
  have em:getI 0 E k=m:=Kd.uniq (hE.at_ k h0 hk) h1
  have g1:=h1.ge
  have g2:=h1.pos
  refine⟨fun j hj1 hj2=>?_,?_⟩
  ·by_cases hjk:j=k
   ·subst hjk;exact⟨h4,i1.2⟩
   ·by_cases hjm:j<m
    ·exact i1.1 j (by omega) hjm
    ·exact i2.1 j (by omega) hj2
  ·rw [show c.toNat=(c-1).toNat+1 by omega]
   exact⟨h3,by rw [em];exact i2.2⟩
def SO(L:List Nd)(n:Int):Int→List Fr→Prop
 |i,[]=>i=L.length
 |i,x::st=>∃ e,Kd L (lcP L n) (pcP L) x.p i x.c x.d e∧SO L n e st
theorem SO_pop{n i:Int}{x:Fr}{st:List Fr}(h:x.c=0):SO L n i (x::st)↔SO L n i st:=by
 simp only [SO,h]
 constructor
 ·rintro⟨e,h1,h2⟩;rw [h1.zero] at h2;exact h2
 ·exact fun h=>⟨i,.nil _ _ _,h⟩
theorem SO_push{n i:Int}{x:Fr}{st:List Fr}(h:0<x.c)(h0:0≤i)(hi:i<L.length)(hp:pcP L x.p i x.d)(hl:lcP L n i):SO L n i (x::st)↔SO L n (i+1) (⟨i,(nd L i).c,(nd L i).f⟩::⟨x.p,x.c-1,(nd L i).t⟩::st):=by
 simp only [SO]
 constructor
 ·rintro⟨e,h1,h2⟩
  rcases h1.inv with ⟨q,_⟩|⟨_,_,_,_,_,m,g1,g2⟩
  ·omega
  ·exact⟨m,g1,e,g2,h2⟩
 ·rintro⟨m,g1,e,g2,h2⟩
  exact⟨e,.cons _ _ _ _ m _ h h0 hi hp hl g1 g2,h2⟩
theorem SO_must{n i:Int}{x:Fr}{st:List Fr}(h:0<x.c)(hs:SO L n i (x::st)):pcP L x.p i x.d∧lcP L n i∧i<L.length:=by
 simp only [SO] at hs
 obtain⟨e,h1,h2⟩:=hs
 rcases h1.inv with ⟨q,_⟩|⟨_,_,h3,h4,h5,_⟩
 ·omega
 ·exact⟨h4,h5,h3⟩
end
theorem getI_set{α:Type}(d:α)(l:List α)(i j:Int)(x:α)(h0:0≤i)(h1:i<l.length)(hj:0≤j):getI d (l.set i.toNat x) j=if i=j then x else getI d l j:=by
 simp only [getI,List.getD,List.getElem?_set]
 by_cases h:i=j
 ·subst h
  have h2:i.toNat<l.length:=by omega
  simp [h2]
 ·rw [if_neg (by omega),if_neg h]
def SK(L:List Nd):Int→Int→List Fr→Prop
 |_,_,[]=>True
 |b,i,x::st=>0≤x.p∧x.p<i∧x.p<L.length∧0≤(nd L x.p).c∧(nd L x.p).c≤L.length∧0≤x.c∧Ms L (x.p+1) ((nd L x.p).c-x.c-b) i∧SK L 1 x.p st
def DK(D:Int→Int):List Fr→Prop
 |[]=>True
 |x::st=>D x.p=st.length+1∧DK D st
structure Inv(L:List Nd)(n i:Int)(ys:List Fr)(E U:List Int)(deep:Int)(D:Int→Int):Prop where
 i0:0≤i
 iN:i≤L.length
 tree:TreeP L n↔SO L n i ys
 sk:SK L 0 i ys
 elen:E.length=L.length
 ulen:U.length=L.length
 ends:∀ j:Int,0≤j→j<i→(∃ x∈ys,x.p=j)∨(getI 0 E j≤i∧Ms L (j+1) (nd L j).c (getI 0 E j))
 ups:∀ j:Int,0≤j→j<i→(j=0∧getI 0 U j = -1)∨(0<j∧0≤getI 0 U j∧getI 0 U j<j∧((∃ x∈ys,x.p=getI 0 U j)∨j<getI 0 E (getI 0 U j))∧∀ k,getI 0 U j<k→k<j→(∀ x∈ys,x.p≠k)∧getI 0 E k≤j)
 dk:DK D ys
 dup:∀ j:Int,0≤j→j<i→(j=0∧D j=1)∨(0<j∧D j=D (getI 0 U j)+1)
 dle:∀ j:Int,0≤j→j<i→D j≤deep∧0<D j∧D j≤j+1
 dex:∃ j:Int,0≤j∧j<i∧D j=deep
theorem SK.bound{L:List Nd}:∀ {ys:List Fr} {b i:Int},SK L b i ys→(∀ x∈ys,0≤x.p∧x.p<i∧x.p<L.length)∧(ys.length:Int)≤max i 0
 |[],b,i,_=>⟨by simp,by simp;omega⟩
 |x::st,b,i,h=>by
  obtain⟨h1,h2,h3,_,_,_,_,h4⟩:=h
  obtain⟨g1,g2⟩:=SK.bound h4
  refine⟨fun y hy=>?_,by simp only [List.length_cons];omega⟩
  rcases List.mem_cons.1 hy with rfl|hy
  ·exact⟨h1,h2,h3⟩
  ·have:=g1 y hy;omega
theorem SK.next{L:List Nd}{i q:Int}:∀ {st:List Fr},SK L 1 q st→q<i→0≤q→q<L.length→0≤(nd L q).c→(nd L q).c≤L.length→Ms L (q+1) (nd L q).c i→SK L 0 i st
 |[],_,_,_,_,_,_,_=>trivial
 |y::st,h,hq,h0,h1,hc0,hc1,hm=>by
  obtain⟨g1,g2,g3,g4,g5,g6,g7,g8⟩:=h
  refine⟨g1,by omega,g3,g4,g5,g6,?_,g8⟩
  have h2:=Ms.append g7 (Ms.cons (c:=1) (by omega) h0 h1 ⟨hc0,hc1⟩ hm (Ms.nil i))
  rw [show (nd L y.p).c-y.c-1+1=(nd L y.p).c-y.c-0 by omega] at h2
  exact h2
theorem Inv.first{L:List Nd}{n:Int}(hN:0<L.length)(hl:lcP L n 0){E U:List Int}(hE:E.length=L.length)(hU:U.length=L.length)(hu:getI 0 U 0 = -1):Inv L n 1 [⟨0,(nd L 0).c,(nd L 0).f⟩] E U 1 (fun _=>1):=by
 refine⟨by omega,by omega,?_,⟨by simp,by simp,by simp;omega,hl.2.1,hl.2.2.1,hl.2.1,?_,trivial⟩,hE,hU,fun j h0 h1=>.inl ⟨_,List.mem_singleton.2 rfl,by simp;omega⟩,fun j h0 h1=>.inl ⟨by omega,by rw [show j=0 by omega];exact hu⟩,⟨by simp,trivial⟩,fun j h0 h1=>.inl ⟨by omega,rfl⟩,fun j h0 h1=>by omega,⟨0,by omega,by omega,rfl⟩⟩
 ·simp only [SO,TreeP]
  constructor
  ·rintro⟨_,_,h⟩;exact⟨_,h,rfl⟩
  ·rintro⟨e,h,rfl⟩;exact⟨hN,hl,h⟩
 ·dsimp only
  rw [show (nd L 0).c-(nd L 0).c-0=0 by omega]
  exact Ms.nil _
theorem Inv.push{L:List Nd}{n i:Int}{x:Fr}{st:List Fr}{E U:List Int}{deep:Int}{D:Int→Int}(h:Inv L n i (x::st) E U deep D)(hi:i<L.length)(h0:0<i)(hc:0<x.c)(hp:pcP L x.p i x.d)(hl:lcP L n i){U':List Int}(hU:U'=U.set i.toNat x.p) :
 Inv L n (i+1) (⟨i,(nd L i).c,(nd L i).f⟩::⟨x.p,x.c-1,(nd L i).t⟩::st) E U' (max deep ((st.length:Int)+2)) (fun j=>if j=i then (st.length:Int)+2 else D j):=by
 obtain⟨k1,k2,k3,k4,k5,k6,k7,k8⟩:=h.sk
 have hb:=(SK.bound h.sk).1
 have hb8:=(SK.bound k8).1
 have hU0:∀ j:Int,0≤j→getI 0 U' j=if i=j then x.p else getI 0 U j:=fun j hj=>by
  rw [hU,getI_set 0 U i j x.p (by omega) (by rw [h.ulen];omega) hj]
 have hd:=h.dk
 obtain⟨d1,d2⟩:=hd
 have hxp:=h.dle x.p k1 k2
 refine⟨by omega,by omega,h.tree.trans (SO_push hc (by omega) hi hp hl),⟨by dsimp only;omega,by dsimp only;omega,hi,hl.2.1,hl.2.2.1,hl.2.1,?_,k1,k2,k3,k4,k5,by dsimp only;omega,?_,k8⟩,h.elen,by rw [hU,List.length_set,h.ulen],?_,?_,⟨by simp;omega,?_,?_⟩,?_,?_,?_⟩
 ·dsimp only
  rw [show (nd L i).c-(nd L i).c-0=0 by omega]
  exact Ms.nil _
 ·dsimp only
  rw [show (nd L x.p).c-(x.c-1)-1=(nd L x.p).c-x.c-0 by omega]
  exact k7
 ·intro j hj0 hj1
  by_cases hji:j=i
  ·exact .inl ⟨_,List.mem_cons_self,hji.symm⟩
  ·rcases h.ends j hj0 (by omega) with ⟨y,hy,rfl⟩|⟨h1,h2⟩
   ·left
    rcases List.mem_cons.1 hy with rfl|hy
    ·exact⟨_,List.mem_cons_of_mem _ List.mem_cons_self,rfl⟩
    ·exact⟨y,List.mem_cons_of_mem _ (List.mem_cons_of_mem _ hy),rfl⟩
   ·exact .inr ⟨by omega,h2⟩
 ·intro j hj0 hj1
  rw [hU0 j hj0]
  by_cases hji:i=j
  ·subst hji
   rw [if_pos rfl]
   refine .inr ⟨h0,k1,k2,.inl ⟨_,List.mem_cons_of_mem _ List.mem_cons_self,rfl⟩,fun k hk1 hk2=>?_⟩
   have hno:∀ y∈x::st,y.p≠k:=fun y hy e=>by
    rcases List.mem_cons.1 hy with rfl|hy
    ·omega
    ·have:=hb8 y hy;omega
   refine⟨fun y hy=>?_,?_⟩
   ·rcases List.mem_cons.1 hy with rfl|hy
    ·dsimp only;omega
    ·rcases List.mem_cons.1 hy with rfl|hy
     ·exact hno x List.mem_cons_self
     ·exact hno y (List.mem_cons_of_mem _ hy)
   ·rcases h.ends k (by omega) hk2 with ⟨y,hy,e⟩|⟨h1,_⟩
    ·exact absurd e (hno y hy)
    ·exact h1
  ·rw [if_neg hji]
   rcases h.ups j hj0 (by omega) with h1|⟨h1,h2,h3,h4,h5⟩
   ·exact .inl h1
   ·refine .inr ⟨h1,h2,h3,?_,fun k hk1 hk2=>⟨fun y hy=>?_,(h5 k hk1 hk2).2⟩⟩
    ·rcases h4 with ⟨y,hy,e⟩|h4
     ·left
      rcases List.mem_cons.1 hy with rfl|hy
      ·exact⟨_,List.mem_cons_of_mem _ List.mem_cons_self,e⟩
      ·exact⟨y,List.mem_cons_of_mem _ (List.mem_cons_of_mem _ hy),e⟩
     ·exact .inr h4
    ·rcases List.mem_cons.1 hy with rfl|hy
     ·dsimp only;omega
     ·rcases List.mem_cons.1 hy with rfl|hy
      ·exact (h5 k hk1 hk2).1 x List.mem_cons_self
      ·exact (h5 k hk1 hk2).1 y (List.mem_cons_of_mem _ hy)
 ·simp only;rw [if_neg (show ¬ x.p=i by omega)];exact d1
 ·have key:∀ (v:Int) (st:List Fr),(∀ y∈st,y.p<i)→DK D st→DK (fun j=>if j=i then v else D j) st:=by
   intro v st
   induction st with
   |nil=>exact fun _ _=>trivial
   |cons y st ih=>
    intro hy hd
    refine⟨?_,ih (fun z hz=>hy z (List.mem_cons_of_mem _ hz)) hd.2⟩
    have:=hy y List.mem_cons_self
    show (if y.p=i then v else D y.p) = _
    rw [if_neg (by omega)];exact hd.1
  exact key _ st (fun y hy=>by have:=hb8 y hy;omega) d2
 ·intro j hj0 hj1
  rw [hU0 j hj0]
  by_cases hji:i=j
  ·subst hji
   rw [if_pos rfl,if_pos rfl,if_neg (by omega)]
   exact .inr ⟨h0,by omega⟩
  ·rw [if_neg hji,if_neg (by omega)]
   rcases h.dup j hj0 (by omega) with h1|⟨h1,h2⟩
   ·exact .inl h1
   ·refine .inr ⟨h1,?_⟩
    rcases h.ups j hj0 (by omega) with ⟨h3,_⟩|⟨_,_,h3,_⟩
    ·omega
    ·rw [if_neg (by omega)];exact h2
 ·intro j hj0 hj1
  by_cases hji:j=i
  ·rw [if_pos hji];omega
  ·rw [if_neg hji]
   have:=h.dle j hj0 (by omega)
   omega
 ·by_cases hm:deep≤(st.length:Int)+2
  ·exact⟨i,by omega,by omega,by rw [if_pos rfl];omega⟩
  ·obtain⟨j,j0,j1,j2⟩:=h.dex
   exact⟨j,j0,by omega,by rw [if_neg (by omega)];omega⟩
theorem Inv.pop{L:List Nd}{n i:Int}{x:Fr}{st:List Fr}{E U:List Int}{deep:Int}{D:Int→Int}(h:Inv L n i (x::st) E U deep D)(hc:x.c=0){E':List Int}(hE:E'=E.set x.p.toNat i):Inv L n i st E' U deep D:=by
 obtain⟨k1,k2,k3,k4,k5,k6,k7,k8⟩:=h.sk
 rw [hc,show (nd L x.p).c-0-0=(nd L x.p).c by omega] at k7
 have hb8:=(SK.bound k8).1
 have hE0:∀ j:Int,0≤j→getI 0 E' j=if x.p=j then i else getI 0 E j:=fun j hj=>by
  rw [hE,getI_set 0 E x.p j i k1 (by rw [h.elen];omega) hj]
 refine⟨h.i0,h.iN,h.tree.trans (SO_pop hc),k8.next k2 k1 k3 k4 k5 k7,by rw [hE,List.length_set,h.elen],h.ulen,?_,?_,h.dk.2,h.dup,h.dle,h.dex⟩
 ·intro j hj0 hj1
  rw [hE0 j hj0]
  by_cases hj:x.p=j
  ·subst hj
   rw [if_pos rfl]
   exact .inr ⟨Int.le_refl _,k7⟩
  ·rw [if_neg hj]
   rcases h.ends j hj0 hj1 with ⟨y,hy,e⟩|h1
   ·rcases List.mem_cons.1 hy with rfl|hy
    ·exact absurd e hj
    ·exact .inl ⟨y,hy,e⟩
   ·exact .inr h1
 ·intro j hj0 hj1
  rcases h.ups j hj0 hj1 with h1|⟨h1,h2,h3,h4,h5⟩
  ·exact .inl h1
  ·refine .inr ⟨h1,h2,h3,?_,fun k hk1 hk2=>⟨fun y hy=>(h5 k hk1 hk2).1 y (List.mem_cons_of_mem _ hy),?_⟩⟩
   ·rw [hE0 _ h2]
    by_cases hx:x.p=getI 0 U j
    ·rw [if_pos hx];exact .inr hj1
    ·rw [if_neg hx]
     rcases h4 with ⟨y,hy,e⟩|h4
     ·rcases List.mem_cons.1 hy with rfl|hy
      ·exact absurd e hx
      ·exact .inl ⟨y,hy,e⟩
     ·exact .inr h4
   ·rw [hE0 k (by omega),if_neg ((h5 k hk1 hk2).1 x List.mem_cons_self)]
    exact (h5 k hk1 hk2).2
structure UpsOk(L:List Nd)(E U:List Int):Prop where
 len:U.length=L.length
 at_:∀ j:Int,0≤j→j<L.length→(j=0∧getI 0 U j = -1)∨(0<j∧0≤getI 0 U j∧getI 0 U j<j∧j<getI 0 E (getI 0 U j)∧∀ k,getI 0 U j<k→k<j→getI 0 E k≤j)
structure DeepOk(L:List Nd)(U:List Int)(deep:Int)(D:Int→Int):Prop where
 up:∀ j:Int,0≤j→j<L.length→(j=0∧D j=1)∨(0<j∧D j=D (getI 0 U j)+1)
 le:∀ j:Int,0≤j→j<L.length→D j≤deep∧0<D j∧D j≤j+1
 ex:∃ j:Int,0≤j∧j<L.length∧D j=deep
theorem Inv.done{L:List Nd}{n i:Int}{E U:List Int}{deep:Int}{D:Int→Int}(h:Inv L n i [] E U deep D)(hi:i=L.length):TreeP L n∧EndsOk L E∧UpsOk L E U∧DeepOk L U deep D:=by
 refine⟨h.tree.2 hi,⟨h.elen,fun j h0 h1=>?_,fun j h0 h1=>?_⟩,⟨h.ulen,fun j h0 h1=>?_⟩,⟨fun j h0 h1=>h.dup j h0 (by omega),fun j h0 h1=>h.dle j h0 (by omega),by obtain⟨j,h1,h2,h3⟩:=h.dex;exact⟨j,h1,by omega,h3⟩⟩⟩
 ·rcases h.ends j h0 (by omega) with ⟨y,hy,_⟩|h2
  ·cases hy
  ·exact h2.2
 ·rcases h.ends j h0 (by omega) with ⟨y,hy,_⟩|h2
  ·cases hy
  ·omega
 ·rcases h.ups j h0 (by omega) with h2|⟨h2,h3,h4,h5,h6⟩
  ·exact .inl h2
  ·refine .inr ⟨h2,h3,h4,?_,fun k hk1 hk2=>(h6 k hk1 hk2).2⟩
   rcases h5 with ⟨y,hy,_⟩|h5
   ·cases hy
   ·exact h5
theorem Inv.not{L:List Nd}{n i:Int}{x:Fr}{st:List Fr}{E U:List Int}{deep:Int}{D:Int→Int}(h:Inv L n i (x::st) E U deep D)(hc:0<x.c)(hn:¬ (pcP L x.p i x.d∧lcP L n i∧i<L.length)):¬ TreeP L n:=fun ht=>hn (SO_must hc (h.tree.1 ht))
theorem Inv.none{L:List Nd}{n i:Int}{E U:List Int}{deep:Int}{D:Int→Int}(h:Inv L n i [] E U deep D)(hi:i<L.length):¬ TreeP L n:=fun ht=>by
 have:i=L.length:=h.tree.1 ht
 omega
end Go.Ex.Tr
