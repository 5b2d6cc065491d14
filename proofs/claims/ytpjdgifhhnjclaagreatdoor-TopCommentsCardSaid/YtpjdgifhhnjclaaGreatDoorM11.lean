/-
  Top: TopComments: whatever the input, the law answers true (part 11)
-/
import Derived.Test.YtpjdgifhhnjclaaGreatDoorM10
set_option linter.unusedVariables false
set_option linter.unusedSimpArgs false
set_option maxHeartbeats 4000000
set_option maxRecDepth 10000
namespace Go.Ex
open Go.Proofs
def NL(I:In)(i:Int):Prop:=B9 I i=1∨3≤B9 I i∧B9 I i≤7
instance (I:In) (i:Int):Decidable (NL I i):=by unfold NL;exact inferInstance
def DK(I:In):Nat→Int
 |0=>0
 |k+1=>DK I k+if NL I k then 1 else 0
def pc(I:In)(i:Int):Int:=DK I i.toNat
theorem qL(I:In)(i:Int)(h:0≤i):pc I (i+1)=pc I i+if NL I i then 1 else 0:=by
 unfold pc
 rw [show (i+1).toNat=i.toNat+1 by omega]
 show DK I i.toNat+(if NL I (i.toNat:Int) then 1 else 0) = _
 rw [Int.toNat_of_nonneg h]
theorem Vz(I:In)(a b:Int)(ha:0≤a)(h:a≤b)(e:pc I a=pc I b):∀ i,a≤i→i<b→¬ NL I i:=by
 have mono:∀ (k:Nat) (a:Int),0≤a→pc I a≤pc I (a+k):=by
  intro k
  induction k with
  |zero=>intro a _;simp
  |succ k ih=>
   intro a h0
   have h1:=ih a h0
   have h2:=qL I (a+k) (by omega)
   rw [show a+((k+1:Nat):Int)=a+k+1 by omega,h2]
   split<;>omega
 intro i h1 h2 h3
 have e1:=mono (i-a).toNat a ha
 have e2:=qL I i (by omega)
 have e3:=mono (b-(i+1)).toNat (i+1) (by omega)
 rw [if_pos h3] at e2
 rw [show a+((i-a).toNat:Int)=i by omega] at e1
 rw [show i+1+((b-(i+1)).toNat:Int)=b by omega] at e3
 omega
mutual
def L4:Nd→Int
 |.mk _ _ _ _ l=>1+L6 l
def L6:List Nd→Int
 |[]=>0
 |x::r=>L4 x+L6 r
end
def Rv(k:Int):Nat:=
 if k=0∨k=26∨k=27∨k=49 then 0 else
 if k=3∨k=19∨k=28∨k=33∨k=35∨k=36∨k=42∨k=43∨k=45∨k=46∨k=47∨k=48∨k=50∨k=52∨k=54∨k=55∨k=56∨k=57∨k=58∨k=63∨k=68 then 1 else
 if k=1∨k=6∨k=7∨k=21∨k=60∨k=66 then 3 else
 if k=31∨k=59∨k=61∨k=65 then 4 else
 if k=8 then 5 else 2
def dI(k:Int)(n:Nat):Prop:=
 if k=2∨k=4∨k=11∨k=12∨k=13∨k=14∨k=20∨k=23∨k=25 then True else
 if k=10∨k=16∨k=18 then 1≤n else n=Rv k
instance (k:Int) (n:Nat):Decidable (dI k n):=by unfold dI;exact inferInstance
def jK(k:Int)(u:ByteArray):Prop:=
 if k=3∨k=4 then u=(⟨#[105,109,112,111,114,116]⟩:ByteArray)∨u=(⟨#[99,111,110,115,116]⟩:ByteArray)∨u=(⟨#[118,97,114]⟩:ByteArray)∨u=(⟨#[116,121,112,101]⟩:ByteArray) else
 if k=5 then u=(⟨#[46]⟩:ByteArray) else
 if k=7 then u=(⟨#[61]⟩:ByteArray) else
 if k=15∨k=34 then u=(⟨#[46,46,46]⟩:ByteArray) else
 if k=36 then u=(⟨#[43]⟩:ByteArray)∨u=(⟨#[45]⟩:ByteArray)∨u=(⟨#[33]⟩:ByteArray)∨u=(⟨#[94]⟩:ByteArray)∨u=(⟨#[38]⟩:ByteArray)∨u=(⟨#[60,45]⟩:ByteArray) else
 if k=37 then 1≤X6 u else
 if k=45 then u=(⟨#[99,104,97,110]⟩:ByteArray)∨u=(⟨#[60,45]⟩:ByteArray) else
 if k=52 then u=(⟨#[43,43]⟩:ByteArray)∨u=(⟨#[45,45]⟩:ByteArray) else
 if k=53 then M4 u else
 if k=57 then u=(⟨#[98,114,101,97,107]⟩:ByteArray)∨u=(⟨#[99,111,110,116,105,110,117,101]⟩:ByteArray)∨u=(⟨#[103,111,116,111]⟩:ByteArray)∨u=(⟨#[102,97,108,108,116,104,114,111,117,103,104]⟩:ByteArray) else
 if k=66 then u=(⟨#[61]⟩:ByteArray)∨u=(⟨#[58,61]⟩:ByteArray) else False
instance (k:Int) (u:ByteArray):Decidable (jK k u):=by unfold jK;exact inferInstance
def bZ(k:Int):Prop:=¬ (k=3∨k=4∨k=26∨k=27∨k=36∨k=37∨k=45∨k=52∨k=53∨k=57)
instance (k:Int):Decidable (bZ k):=by unfold bZ;exact inferInstance
def Ia(I:In)(k w f t:Int):Prop:=w = -1∧bZ k∨(f≤w∧w<t) ∧
 (k=26∧(w=f∧t=f+1)∧B9 I f=1∨k=27∧(w=f∧t=f+1)∧La I f∨jK k (word I w)∧(k=45→w=f))
def Lc(I:In)(k w f t:Int)(n:Nat):Prop:=(0≤f∧f≤t∧t≤I.L)∧(0≤k∧k≤68)∧dI k n∧Ia I k w f t
mutual
def S3(I:In):Nd→Prop
 |.mk k w f t l=>Lc I k w f t l.length∧((k=26∨k=27)∨E6 I w l f t)
def E6(I:In)(w:Int):List Nd→Int→Int→Prop
 |[],f,t=>f≤t∧pc I f=pc I t
 |x::r,f,t=>(f≤x.frm∧pc I f=pc I x.frm)∧(w<x.frm∨x.to≤w)∧S3 I x∧E6 I w r x.to t
end
theorem S3.rng{I:In}{x:Nd}(h:S3 I x):0≤x.frm∧x.frm≤x.to∧x.to≤I.L:=by
 cases x
 unfold S3 at h
 exact h.1.1
theorem E6.le{I:In}{w:Int}:∀ {l:List Nd} {f t:Int},E6 I w l f t→f≤t
 |[],f,t,h=>by unfold E6 at h;exact h.1
 |x::r,f,t,h=>by
  unfold E6 at h
  have h1:=h.2.2.1.rng
  have h2:=E6.le h.2.2.2
  omega
theorem E6.snoc{I:In}{w:Int}{x:Nd}:∀ {l:List Nd} {f a t:Int},E6 I w l f a→a≤x.frm∧pc I a=pc I x.frm→(w<x.frm∨x.to≤w)→S3 I x→x.to≤t∧pc I x.to=pc I t→E6 I w (l++[x]) f t
 |[],f,a,t,h,h1,h2,h3,h4=>by
  unfold E6 at h
  show E6 I w [x] f t
  unfold E6
  refine⟨(by omega),h2,h3,?_⟩
  unfold E6
  exact h4
 |y::r,f,a,t,h,h1,h2,h3,h4=>by
  unfold E6 at h
  show E6 I w (y::(r++[x])) f t
  unfold E6
  exact⟨h.1,h.2.1,h.2.2.1,E6.snoc h.2.2.2 h1 h2 h3 h4⟩
theorem E6.more{I:In}{w:Int}:∀ {l:List Nd} {f t t':Int},E6 I w l f t→t≤t'∧pc I t=pc I t'→E6 I w l f t'
 |[],f,t,t',h,h1=>by unfold E6 at h ⊢;omega
 |x::r,f,t,t',h,h1=>by unfold E6 at h ⊢;exact⟨h.1,h.2.1,h.2.2.1,h.2.2.2.more h1⟩
theorem E6.less{I:In}{w:Int}:∀ {l:List Nd} {f f' t:Int},E6 I w l f t→f'≤f∧pc I f'=pc I f→E6 I w l f' t
 |[],f,f',t,h,h1=>by unfold E6 at h ⊢;omega
 |x::r,f,f',t,h,h1=>by unfold E6 at h ⊢;exact⟨(by omega),h.2.1,h.2.2.1,h.2.2.2⟩
theorem E6.word{I:In}{v w:Int}:∀ {l:List Nd} {f t:Int},E6 I v l f t→w<f→E6 I w l f t
 |[],f,t,h,h1=>by unfold E6 at h ⊢;exact h
 |x::r,f,t,h,h1=>by
  unfold E6 at h ⊢
  have h2:=h.2.2.1.rng
  exact⟨h.1,.inl (by omega),h.2.2.1,h.2.2.2.word (by omega)⟩
theorem N2(x:Nd):∀ l:List Nd,L6 (l++[x])=L6 l+L4 x
 |[]=>by simp [L6]
 |y::r=>by
  show L6 (y::(r++[x])) = _
  simp only [L6,N2 x r]
  omega
theorem EH(k w f t:Int)(l:List Nd):L4 (.mk k w f t l)=1+L6 l:=by simp only [L4]
theorem cN:L6 []=0:=by simp only [L6]
theorem cC(x:Nd)(r:List Nd):L6 (x::r)=L4 x+L6 r:=by simp only [L6]
theorem E6.last{I:In}{w:Int}:∀ {l:List Nd} {f t:Int},E6 I w l f t→l≠[]→E6 I w l f (l.getLastD I3).to∧(l.getLastD I3).to≤t∧pc I (l.getLastD I3).to=pc I t∧f≤(l.getLastD I3).to
 |[],f,t,h,h1=>absurd rfl h1
 |[x],f,t,h,h1=>by
  unfold E6 at h
  obtain⟨a,b,c,d⟩:=h
  unfold E6 at d
  have e:=c.rng
  show E6 I w [x] f x.to∧x.to≤t∧pc I x.to=pc I t∧f≤x.to
  refine⟨?_,d.1,d.2,by omega⟩
  unfold E6
  refine⟨a,b,c,?_⟩
  unfold E6
  exact⟨by omega,rfl⟩
 |x::y::r,f,t,h,h1=>by
  unfold E6 at h
  obtain⟨a,b,c,d⟩:=h
  have e:=E6.last d (List.cons_ne_nil _ _)
  have e2:=c.rng
  have e3:(x::y::r).getLastD I3=(y::r).getLastD I3:=rfl
  rw [e3]
  refine⟨?_,e.2.1,e.2.2.1,by omega⟩
  unfold E6
  exact⟨a,b,c,e.1⟩
structure Sp(I:In)(n:Int)(x:Nd)(m p c:Int):Prop where
 wel:S3 I x
 frm:n≤x.frm∧pc I n=pc I x.frm
 le:x.frm≤x.to
 to:x.to≤m∧pc I x.to=pc I m
 pr:n+p≤m
 L:m≤I.L
 cnt:L4 x≤2000*(m-n-p)+c
structure Ex(I:In)(n:Int)(x:Nd)(m p c:Int):Prop where
 wel:S3 I x
 frm:x.frm=n∧pc I x.frm=pc I n
 to:x.to=m∧pc I x.to=pc I m
 pr:n+p≤m
 L:m≤I.L
 cnt:L4 x≤2000*(m-n-p)+c
structure Sm(I:In)(n:Int)(x:Nd)(m p c:Int):Prop where
 wel:S3 I x
 frm:x.frm=n∧pc I x.frm=pc I n
 le:x.frm≤x.to
 to:x.to≤m∧pc I x.to=pc I m
 pr:n+p≤m
 L:m≤I.L
 cnt:L4 x≤2000*(m-n-p)+c
 semi:∀ i,x.to≤i→i<m→word I i=(⟨#[59]⟩:ByteArray)
theorem G6(I:In)(k n:Int)(w:Int)(h:0≤n∧n≤I.L)(hk:(0≤k∧k≤68)∧dI k 0∧bZ k):S3 I (E3 k n):=by
 unfold E3 S3
 refine⟨⟨⟨h.1,Int.le_refl _,h.2⟩,hk.1,hk.2.1,.inl ⟨rfl,hk.2.2⟩⟩,.inr ?_⟩
 unfold E6
 exact⟨Int.le_refl _,rfl⟩
theorem nF(k n:Int):(E3 k n).frm=n:=rfl
theorem nT(k n:Int):(E3 k n).to=n:=rfl
theorem nC(k n:Int):L4 (E3 k n)=1:=by unfold E3;simp only [L4,L6];rfl
theorem W6{I:In}{k:Int}{l:List Nd}{f t c:Int}(h:E6 I (-1) l f t)(h0:0≤f)(hL:t≤I.L)(hk:0≤k∧k≤68)(hb:bZ k)(ha:dI k l.length)(hc:1+L6 l≤2000*(t-f)+c):Sp I f (K3 k l t) t 0 c:=by
 have hle:=h.le
 match l,h,ha,hc with
 |[],h,ha,hc=>
  unfold E6 at h
  refine⟨G6 I k t 0 ⟨by omega,hL⟩ ⟨hk,ha,hb⟩,?_,Int.le_refl _,?_,by omega,hL,?_⟩
  ·show f≤t∧_
   exact h
  ·show t≤t∧pc I t=pc I t
   exact⟨Int.le_refl _,rfl⟩
  ·show L4 (E3 k t)≤_
   rw [nC]
   simp only [L6] at hc
   omega
 |x::r,h,ha,hc=>
  have h1:=h.last (List.cons_ne_nil _ _)
  have h2:=h1.1
  unfold E6 at h2
  have h3:=h2.2.2.1.rng
  have h4:=h2.2.2.2.le
  unfold K3
  refine⟨?_,?_,?_,?_,by omega,hL,?_⟩
  ·unfold S3
   refine⟨⟨⟨h3.1,by omega,by omega⟩,hk,ha,.inl ⟨rfl,hb⟩⟩,.inr ?_⟩
   unfold E6
   exact⟨⟨Int.le_refl _,rfl⟩,h2.2.1,h2.2.2.1,h2.2.2.2⟩
  ·exact h2.1
  ·show x.frm≤((x::r).getLastD I3).to
   omega
  ·exact⟨h1.2.1,h1.2.2.1⟩
  ·simp only [L4]
   omega
end Go.Ex
namespace Go.Ex
open Go.Proofs
def Tq(I:In)(n:Int):Prop:=0≤n∧n<I.L∧pc I (n+1)=pc I n
def Tn(I:In)(n:Int):Prop:=0≤n∧n<I.L∧pc I (n+1)=pc I n+1
theorem Tq.use{I:In}{n:Int}{G:Prop}(h:Tq I n)(k:0≤n→n<I.L→pc I (n+1)=pc I n→G):G:=k h.1 h.2.1 h.2.2
theorem Tn.use{I:In}{n:Int}{G:Prop}(h:Tn I n)(k:0≤n→n<I.L→pc I (n+1)=pc I n+1→G):G:=k h.1 h.2.1 h.2.2
theorem Nt{I:In}{n:Int}(h:¬ B9 I n=0):0≤n∧n<I.L:=by
 unfold B9 at h
 split at h
 ·exact absurd rfl h
 ·omega
theorem Mj(I:In){n:Int}(h:word I n=⟨#[]⟩→False):Tq I n:=by
 have h1:0≤n∧n<I.L:=Classical.byContradiction fun c=>h (by unfold word;rw [if_pos (by omega)])
 refine⟨h1.1,h1.2,?_⟩
 rw [qL I n h1.1,if_neg ?_]
 ·omega
 intro h2
 apply h
 unfold word
 rw [if_neg (by omega)]
 have e:B9 I n=(B1 C4.dflt I.toks n).kind:=by unfold B9;rw [if_neg (by omega)]
 rcases h2 with h2|h2<;>rw [e] at h2<;>rw [if_neg (by omega),if_neg (by omega)]
theorem wq(I:In){n:Int}{w:ByteArray}(h:word I n=w)(h0:¬ w=⟨#[]⟩):Tq I n:=Mj I fun e=>h0 (h.symm.trans e)
theorem kq(I:In){n:Int}(h:NL I n):Tn I n:=by
 have h1:=Nt (I:=I) (n:=n) (by rcases h with h|h<;>omega)
 exact⟨h1.1,h1.2,by rw [qL I n h1.1,if_pos h]⟩
def A8{α:Type}(o:G3 α)(P:α→Int→Prop):Prop:=∀ a n,o = .ok a n→P a n
theorem A8.ok{α:Type}{a:α}{n:Int}{P:α→Int→Prop}(h:P a n):A8 (.ok a n) P:=fun _ _ e=>by cases e;exact h
theorem A8.err{α:Type}{x:Int}{P:α→Int→Prop}:A8 (.err x:G3 α) P:=fun _ _ e=>by cases e
theorem A8.bnd{α β:Type}{o:G3 α}{f:α→Int→G3 β}{P:α→Int→Prop}{Q:β→Int→Prop}(h:A8 o P)(k:∀ a n,P a n→A8 (f a n) Q):A8 (bnd o f) Q:=by
 cases o with
 |ok a n=>exact k a n (h a n rfl)
 |err x=>intro a n e;cases e
theorem A8.ite{α:Type}{c:Prop}[Decidable c]{a b:G3 α}{P:α→Int→Prop}(h1:c→A8 a P)(h2:¬ c→A8 b P):A8 (if c then a else b) P:=by
 split
 ·rename_i h;exact h1 h
 ·rename_i h;exact h2 h
theorem A8.mono{α:Type}{o:G3 α}{P Q:α→Int→Prop}(h:A8 o P)(k:∀ a n,P a n→Q a n):A8 o Q:=fun a n e=>k a n (h a n e)
theorem A8.want(I:In){w:ByteArray}{n:Int}(h0:¬ w=⟨#[]⟩):A8 (want I w n) fun _ m=>m=n+1∧word I n=w∧Tq I n:=by
 unfold Go.Ex.want
 refine A8.ite (fun h=>A8.ok ⟨rfl,h,wq I h h0⟩) fun _=>A8.err
theorem mF(k w f t:Int)(l:List Nd):(Nd.mk k w f t l).frm=f:=rfl
theorem mT(k w f t:Int)(l:List Nd):(Nd.mk k w f t l).to=t:=rfl
theorem lC(k n:Int):L4 (bI k n)=1:=by unfold bI;simp only [L4,L6];rfl
theorem sE:(∀ (k w f t:Int) (l:List Nd),(Nd.mk k w f t l).frm=f)∧(∀ (k w f t:Int) (l:List Nd),(Nd.mk k w f t l).to=t)∧(∀ a:Int,(a≤a)=True)∧(∀ p:Prop,(p∨True)=True)∧(∀ p:Prop,(True∨p)=True)∧(∀ p:Prop,(p∧True)=p)∧(∀ p:Prop,(True∧p)=p)∧(∀ p:Prop,(p∧p)=p)∧(∀ (k w f t:Int) (l:List Nd),L4 (.mk k w f t l)=1+L6 l)∧(∀ (x:Nd) (r:List Nd),L6 (x::r)=L4 x+L6 r)∧L6 []=0∧(∀ k n:Int,L4 (E3 k n)=1)∧(∀ k n:Int,L4 (bI k n)=1)∧(∀ k n:Int,(E3 k n).frm=n)∧∀ k n:Int,(E3 k n).to=n:=⟨mF,mT,fun a=>eq_true (Int.le_refl a),or_true,true_or,and_true,true_and,and_self,EH,cC,cN,nC,lC,nF,nT⟩
theorem Sw(I:In){n:Int}(h:B9 I n=1):Ex I n (bI 26 n) (n+1) 1 1:=by
 obtain⟨h1,h2,h3⟩:=kq I (.inl h)
 refine⟨?_,⟨rfl,rfl⟩,⟨rfl,rfl⟩,Int.le_refl _,by omega,by rw [lC];omega⟩
 unfold bI S3
 exact⟨⟨by omega,by omega,by decide,.inr ⟨by omega,.inl ⟨rfl,⟨rfl,rfl⟩,h⟩⟩⟩,.inl (.inl rfl)⟩
theorem Bt(I:In){n:Int}(h:La I n):Ex I n (bI 27 n) (n+1) 1 1:=by
 obtain⟨h1,h2,h3⟩:=kq I (.inr h)
 refine⟨?_,⟨rfl,rfl⟩,⟨rfl,rfl⟩,Int.le_refl _,by omega,by rw [lC];omega⟩
 unfold bI S3
 exact⟨⟨by omega,by omega,by decide,.inr ⟨by omega,.inr (.inl ⟨rfl,⟨rfl,rfl⟩,h⟩)⟩⟩,.inl (.inr rfl)⟩
theorem S5(I:In)(n:Int):A8 (Q7 I n) fun x m=>Ex I n x m 1 1∧(x=bI 26 n∧m=n+1∧B9 I n=1):=A8.ite (fun h=>A8.ok ⟨Sw I h,rfl,rfl,h⟩) fun _=>A8.err
theorem Wj(I:In)(n:Int):A8 (rH I n) fun x m=>Ex I n x m 1 1∧(x=bI 27 n∧m=n+1∧B9 I n=7):=A8.ite (fun h=>A8.ok ⟨Bt I (by unfold La;omega),rfl,rfl,h⟩) fun _=>A8.err
section
variable {I:In}{k w f t:Int}{a b c d e:Nd}
theorem dS(hr:0≤f∧f≤t∧t≤I.L)(hk:(0≤k∧k≤68)∧dI k 1)(hw:Ia I k w f t)(ha:S3 I a)(h1:f≤a.frm∧pc I f=pc I a.frm)(h2:a.to≤t∧pc I a.to=pc I t)(wa:w<a.frm∨a.to≤w):S3 I (.mk k w f t [a]):=by
 unfold S3
 refine⟨⟨hr,hk.1,hk.2,hw⟩,.inr ?_⟩
 simp only [E6]
 exact⟨h1,wa,ha,h2⟩
theorem eJ(hr:0≤f∧f≤t∧t≤I.L)(hk:(0≤k∧k≤68)∧dI k 2)(hw:Ia I k w f t)(ha:S3 I a)(hb:S3 I b)(h1:f≤a.frm∧pc I f=pc I a.frm)(h2:a.to≤b.frm∧pc I a.to=pc I b.frm)(h3:b.to≤t∧pc I b.to=pc I t)
 (wa:w<a.frm∨a.to≤w) (wb:w<b.frm∨b.to≤w):S3 I (.mk k w f t [a,b]):=by
 unfold S3
 refine⟨⟨hr,hk.1,hk.2,hw⟩,.inr ?_⟩
 simp only [E6]
 exact⟨h1,wa,ha,h2,wb,hb,h3⟩
theorem Oa(hr:0≤f∧f≤t∧t≤I.L)(hk:(0≤k∧k≤68)∧dI k 3)(hw:Ia I k w f t)(ha:S3 I a)(hb:S3 I b)(hc:S3 I c)(h1:f≤a.frm∧pc I f=pc I a.frm)(h2:a.to≤b.frm∧pc I a.to=pc I b.frm)(h3:b.to≤c.frm∧pc I b.to=pc I c.frm)(h4:c.to≤t∧pc I c.to=pc I t)
 (wa:w<a.frm∨a.to≤w) (wb:w<b.frm∨b.to≤w) (wc:w<c.frm∨c.to≤w):S3 I (.mk k w f t [a,b,c]):=by
 unfold S3
 refine⟨⟨hr,hk.1,hk.2,hw⟩,.inr ?_⟩
 simp only [E6]
 exact⟨h1,wa,ha,h2,wb,hb,h3,wc,hc,h4⟩
theorem Of(hr:0≤f∧f≤t∧t≤I.L)(hk:(0≤k∧k≤68)∧dI k 4)(hw:Ia I k w f t)(ha:S3 I a)(hb:S3 I b)(hc:S3 I c)(hd:S3 I d)(h1:f≤a.frm∧pc I f=pc I a.frm)(h2:a.to≤b.frm∧pc I a.to=pc I b.frm)(h3:b.to≤c.frm∧pc I b.to=pc I c.frm)
 (h4:c.to≤d.frm∧pc I c.to=pc I d.frm) (h5:d.to≤t∧pc I d.to=pc I t) (wa:w<a.frm∨a.to≤w) (wb:w<b.frm∨b.to≤w) (wc:w<c.frm∨c.to≤w) (wd:w<d.frm∨d.to≤w):S3 I (.mk k w f t [a,b,c,d]):=by
 unfold S3
 refine⟨⟨hr,hk.1,hk.2,hw⟩,.inr ?_⟩
 simp only [E6]
 exact⟨h1,wa,ha,h2,wb,hb,h3,wc,hc,h4,wd,hd,h5⟩
theorem DB(hr:0≤f∧f≤t∧t≤I.L)(hk:(0≤k∧k≤68)∧dI k 5)(hw:Ia I k w f t)(ha:S3 I a)(hb:S3 I b)(hc:S3 I c)(hd:S3 I d)(he:S3 I e)(h1:f≤a.frm∧pc I f=pc I a.frm)(h2:a.to≤b.frm∧pc I a.to=pc I b.frm)(h3:b.to≤c.frm∧pc I b.to=pc I c.frm)
 (h4:c.to≤d.frm∧pc I c.to=pc I d.frm) (h5:d.to≤e.frm∧pc I d.to=pc I e.frm) (h6:e.to≤t∧pc I e.to=pc I t) (wa:w<a.frm∨a.to≤w) (wb:w<b.frm∨b.to≤w) (wc:w<c.frm∨c.to≤w) (wd:w<d.frm∨d.to≤w) (we:w<e.frm∨e.to≤w):S3 I (.mk k w f t [a,b,c,d,e]):=by
 unfold S3
 refine⟨⟨hr,hk.1,hk.2,hw⟩,.inr ?_⟩
 simp only [E6]
 exact⟨h1,wa,ha,h2,wb,hb,h3,wc,hc,h4,wd,hd,h5,we,he,h6⟩
theorem Hz{l:List Nd}(hr:0≤f∧f≤t∧t≤I.L)(hk:(0≤k∧k≤68)∧dI k l.length)(hw:Ia I k w f t)(h1:E6 I w l f t):S3 I (.mk k w f t l):=by
 unfold S3
 exact⟨⟨hr,hk.1,hk.2,hw⟩,.inr h1⟩
theorem S3.kid1{x:Nd}(h:S3 I x)(hl:x.kids.length=1):∃ y,x.kids=[y]∧S3 I y∧(x.frm≤y.frm∧pc I x.frm=pc I y.frm)∧(y.to≤x.to∧pc I y.to=pc I x.to)∧1+L4 y≤L4 x:=by
 obtain⟨k,w,f,t,l⟩:=x
 match l,hl with
 |[y],_=>
  unfold S3 at h
  obtain⟨⟨h1,h2,h3,h4⟩,h5⟩:=h
  rcases h5 with h5|h5
  ·rcases h5 with rfl|rfl
   ·exact absurd h3 (show ¬ dI 26 1 by decide)
   ·exact absurd h3 (show ¬ dI 27 1 by decide)
  ·simp only [E6] at h5
   exact⟨y,rfl,h5.2.2.1,h5.1,h5.2.2.2,by simp only [L4,L6];omega⟩
theorem S3.kid2{x:Nd}(h:S3 I x)(hl:x.kids.length=2):∃ y z,x.kids=[y,z]∧S3 I y∧S3 I z∧(x.frm≤y.frm∧pc I x.frm=pc I y.frm)∧(y.to≤z.frm∧pc I y.to=pc I z.frm)∧(z.to≤x.to∧pc I z.to=pc I x.to)∧1+L4 y+L4 z≤L4 x:=by
 obtain⟨k,w,f,t,l⟩:=x
 match l,hl with
 |[y,z],_=>
  unfold S3 at h
  obtain⟨⟨h1,h2,h3,h4⟩,h5⟩:=h
  rcases h5 with h5|h5
  ·rcases h5 with rfl|rfl
   ·exact absurd h3 (show ¬ dI 26 2 by decide)
   ·exact absurd h3 (show ¬ dI 27 2 by decide)
  ·simp only [E6] at h5
   exact⟨y,z,rfl,h5.2.2.1,h5.2.2.2.2.2.1,h5.1,h5.2.2.2.1,h5.2.2.2.2.2.2,by simp only [L4,L6];omega⟩
theorem S3.ar{x:Nd}(h:S3 I x):dI x.kind x.kids.length:=by
 cases x
 unfold S3 at h
 exact h.1.2.2.1
end
section
variable (I:In){c:Int}
theorem Vb(w:ByteArray)(one:Int→G3 Nd)(h0:¬ w=⟨#[]⟩)(hc:0≤c∧c≤2000)(n0:Int)(ho:∀ n,0≤n∧n≤I.L→A8 (one n) fun x m=>Ex I n x m 1 c) :
 ∀ (f:Nat) (acc:List Nd) (n:Int),0≤n0→n0+1≤n→n≤I.L→acc≠[]→E6 I (-1) acc n0 n→(acc.headD I3).frm=n0→(acc.getLastD I3).to=n→L6 acc≤2000*(n-n0-1)+c →
  A8 (P1 I w one f acc n) fun l m=>l≠[]∧E6 I (-1) l n0 m∧(l.headD I3).frm=n0∧(l.getLastD I3).to=m∧n0+1≤m∧m≤I.L∧L6 l≤2000*(m-n0-1)+c
 |0,acc,n,_,_,_,_,_,_,_,_=>A8.err
 |f+1,acc,n,h1,h2,h3,h4,h5,h6,h7,h8=>by
  unfold P1
  refine A8.ite (fun h=>?_) fun h=>A8.ok ⟨h4,h5,h6,h7,h2,h3,h8⟩
  obtain⟨q1,q2,q3⟩:=wq I h h0
  refine A8.bnd (ho (n+1) (by omega)) ?_
  rintro x m ⟨w1,⟨f1,f2⟩,⟨t1,t2⟩,p1,l1,c1⟩
  have hx:=w1.rng
  refine Vb w one h0 hc n0 ho f (acc++[x]) m h1 (by omega) l1 (by simp) (E6.snoc h5 (by omega) (.inl (by omega)) w1 ⟨by omega,t2⟩) ?_ ?_ ?_
  ·cases acc with
   |nil=>exact absurd rfl h4
   |cons y r=>exact h6
  ·rw [List.getLastD_eq_getLast?,List.getLast?_append]
   simpa using t1
  ·rw [N2]
   omega
theorem qF(k:Int)(w:ByteArray)(one:Int→G3 Nd)(h0:¬ w=⟨#[]⟩)(hc:0≤c∧c≤2000)(hk:k=10∨k=11∨k=18)(ho:∀ n,0≤n∧n≤I.L→A8 (one n) fun x m=>Ex I n x m 1 c)(n:Int)(hn:0≤n∧n≤I.L) :
 A8 (jG I k w one n) fun x m=>Ex I n x m 1 (c+1):=by
 unfold jG
 refine A8.bnd (ho n hn) ?_
 rintro x m ⟨w1,⟨f1,f2⟩,⟨t1,t2⟩,p1,l1,c1⟩
 have hx:=w1.rng
 refine A8.bnd (Vb I w one h0 hc n ho (F6 I m) [x] m hn.1 p1 l1 (by simp) ?_ f1 t1 ?_) ?_
 ·unfold E6
  refine⟨(by omega),.inl (by omega),w1,?_⟩
  unfold E6
  exact⟨by omega,t2⟩
 ·simp only [L6]
  omega
 rintro l m ⟨a1,a2,a3,a4,a5,a6,a7⟩
 have hs:=W6 (k:=k) (c:=c+1-2000) a2 hn.1 a6 (by omega) (by rcases hk with rfl|rfl|rfl<;>decide) (by cases l with
  |nil=>exact absurd rfl a1
  |cons y r=>rcases hk with rfl|rfl|rfl<;>simp [dI]) (by omega)
 refine A8.ok ⟨hs.wel,?_,?_,a5,a6,by have:=hs.cnt;omega⟩
 ·cases l with
  |nil=>exact absurd rfl a1
  |cons y r=>exact⟨a3,by show pc I y.frm=pc I n;rw [show y.frm=n from a3]⟩
 ·cases l with
  |nil=>exact absurd rfl a1
  |cons y r=>exact⟨a4,by show pc I ((y::r).getLastD I3).to=pc I m;rw [a4]⟩
structure Rw(I:In)(op shut:ByteArray)(n:Int)(l:List Nd)(m:Int):Prop where
 wel:E6 I (-1) l (n+1) m
 hop:word I n=op
 first:Tq I n
 hshut:word I m=shut
 last:Tq I m
 pr:n+1≤m
 cnt:L6 l≤2000*(m-n-1)
 some:¬ word I (n+1)=shut→l≠[]
theorem nK(mark shut:ByteArray)(one:Int→G3 Nd)(h0:¬ mark=⟨#[]⟩)(h00:¬ shut=⟨#[]⟩)(hc:0≤c∧c≤2000)(n0:Int)(ho:∀ n,0≤n∧n≤I.L→A8 (one n) fun x m=>Ex I n x m 1 c)(hn0:0≤n0) :
 ∀ (f:Nat) (acc:List Nd) (n:Int),n0≤n→n≤I.L→E6 I (-1) acc n0 n→L6 acc≤2000*(n-n0)→(¬ word I n0=shut→acc=[]→n=n0) →
  A8 (T3 I mark shut (pl one) f (-1) acc n) fun r m=>r.2 = -1∧E6 I (-1) r.1 n0 m∧word I m=shut∧Tq I m∧n0≤m∧L6 r.1≤2000*(m-n0)∧(¬ word I n0=shut→r.1≠[])
 |0,acc,n,_,_,_,_,_=>A8.err
 |f+1,acc,n,h1,h2,h3,h4,h5=>by
  unfold T3
  refine A8.ite (fun h=>A8.ok ⟨rfl,h3,h,wq I h h00,h1,h4,fun h6 h7=>h6 (by rw [←h5 h6 h7];exact h)⟩) fun h=>?_
  unfold pl
  refine A8.bnd (A8.bnd (P:=fun x m=>Ex I n x m 1 c) (Q:=fun x m=>x.2 = -1∧Ex I n x.1 m 1 c) (ho n ⟨by omega,h2⟩) fun x m hx=>A8.ok ⟨rfl,hx⟩) ?_
  rintro⟨x,w⟩ m ⟨rfl,w1,⟨f1,f2⟩,⟨t1,t2⟩,p1,l1,c1⟩
  dsimp only at *
  have hx:=w1.rng
  have hw:=E6.snoc (t:=m) h3 (by omega) (.inl (by omega)) w1 ⟨by omega,t2⟩
  refine A8.ite (fun h=>?_) fun h=>?_
  ·exact nK mark shut one h0 h00 hc n0 ho hn0 f _ m (by omega) l1 hw (by rw [N2];omega) (fun _ e=>absurd e (by simp))
  ·refine A8.bnd (A8.want I h0) ?_
   rintro _ _ ⟨rfl,h,q1,q2,q3⟩
   exact nK mark shut one h0 h00 hc n0 ho hn0 f _ (m+1) (by omega) (by omega) (hw.more ⟨by omega,q3.symm⟩) (by rw [N2];omega) (fun _ e=>absurd e (by simp))
theorem eQ(op mark shut:ByteArray)(one:Int→G3 Nd)(h0:¬ op=⟨#[]⟩∧¬ mark=⟨#[]⟩∧¬ shut=⟨#[]⟩)(hc:0≤c∧c≤2000)(ho:∀ n,0≤n∧n≤I.L→A8 (one n) fun x m=>Ex I n x m 1 c)(n:Int)(hn:0≤n∧n≤I.L) :
 A8 (T5 I op mark shut (pl one) (-1) n) fun r m=>Rw I op shut n r.1 m:=by
 unfold T5
 refine A8.bnd (A8.want I h0.1) ?_
 rintro _ _ ⟨rfl,h,q⟩
 refine A8.mono (nK I mark shut one h0.2.1 h0.2.2 hc (n+1) ho (by omega) (F6 I (n+1)) [] (n+1) (Int.le_refl _) (by have:=q.2.1;omega) ?_ ?_ (fun _ _=>rfl)) ?_
 ·unfold E6
  exact⟨Int.le_refl _,rfl⟩
 ·simp only [L6]
  omega
 ·rintro r m ⟨a1,a2,a3,a4,a5,a6,a7⟩
  exact⟨a2,h,q,a3,a4,a5,by omega,a7⟩
end
def Cx:Fn→Bool
 |.elements=>false|.anyStmts=>false|.stmts=>false|_=>true
def pre(I:In):Fn→Int→Prop
 |.binary k,n=>1≤k
 |.group,n=>word I n=(⟨#[105,109,112,111,114,116]⟩:ByteArray)∨word I n=(⟨#[99,111,110,115,116]⟩:ByteArray)∨word I n=(⟨#[118,97,114]⟩:ByteArray)∨word I n=(⟨#[116,121,112,101]⟩:ByteArray)
 |.declared,n=>word I n=(⟨#[99,111,110,115,116]⟩:ByteArray)∨word I n=(⟨#[118,97,114]⟩:ByteArray)∨word I n=(⟨#[116,121,112,101]⟩:ByteArray)
 |.branch,n=>word I n=(⟨#[98,114,101,97,107]⟩:ByteArray)∨word I n=(⟨#[99,111,110,116,105,110,117,101]⟩:ByteArray)∨word I n=(⟨#[103,111,116,111]⟩:ByteArray)∨word I n=(⟨#[102,97,108,108,116,104,114,111,117,103,104]⟩:ByteArray)
 |.started,n=>word I n=(⟨#[103,111]⟩:ByteArray)∨word I n=(⟨#[100,101,102,101,114]⟩:ByteArray)
 |.returned,n=>word I n=(⟨#[114,101,116,117,114,110]⟩:ByteArray)
 |.ifs,n=>word I n=(⟨#[105,102]⟩:ByteArray)
 |.switches,n=>word I n=(⟨#[115,119,105,116,99,104]⟩:ByteArray)
 |.selects,n=>word I n=(⟨#[115,101,108,101,99,116]⟩:ByteArray)
 |.fors,n=>word I n=(⟨#[102,111,114]⟩:ByteArray)
 |_,_=>True
def cF(f:Fn):Int:=8*(A6 f+1)
structure HG(I:In)(g:Gt):Prop where
 ex:∀ f t n,Cx f=true→(0≤n∧n≤I.L)→pre I f n→A8 (g f t n) fun x m=>Ex I n x m 1 (cF f)
 el:∀ t n,(0≤n∧n≤I.L)→A8 (g .elements t n) fun x m=>Sp I n x m 1 (cF .elements)
 sa:∀ t n,(0≤n∧n≤I.L)→A8 (g .anyStmts t n) fun x m=>Sm I n x m 0 (cF .anyStmts)
 ss:∀ t n,(0≤n∧n≤I.L)→A8 (g .stmts t n) fun x m=>Sm I n x m 0 (cF .stmts)
end Go.Ex
namespace Go.Ex
open Go.Proofs
section
variable {I:In}{g:Gt}
theorem Ju(hg:HG I g)(t:Bool)(n:Int)(hn:0≤n∧n≤I.L):A8 (xG g t n) fun x m=>Ex I n x m 1 (cF .expr):=by
 unfold xG
 (repeat' ((refine A8.mono (hg.ex _ _ _ rfl (by omega) (by (simp only [pre];first|omega))) ?_;rintro x m ⟨w1,⟨f1,f2⟩,⟨t1,t2⟩,p1,l1,c1⟩;(try simp only [cF,A6] at c1);have r1:=w1.rng)))
 all_goals (refine⟨?_,⟨?_,?_⟩,⟨?_,?_⟩,?_,?_,?_⟩<;>(try simp only [sE,cF,A6])<;>(omega))
theorem Np(hg:HG I g)(t:Bool)(n:Int)(hn:0≤n∧n≤I.L):A8 (eB I g t n) fun x m=>Ex I n x m 1 (cF .exprs):=by
 unfold eB
 refine A8.mono (qF I (c:=88) 11 _ _ (by decide) (by decide) (by decide) (fun n hn=>hg.ex .expr t n rfl hn trivial) n hn) ?_
 rintro x m ⟨w1,⟨f1,f2⟩,⟨t1,t2⟩,p1,l1,c1⟩;(try simp only [cF,A6] at c1);have r1:=w1.rng
 (refine⟨?_,⟨?_,?_⟩,⟨?_,?_⟩,?_,?_,?_⟩<;>(try simp only [sE,cF,A6])<;>(omega))
theorem Am(hg:HG I g)(t:Bool)(n:Int)(hn:0≤n∧n≤I.L):A8 (dT I g t n) fun x m=>Ex I n x m 1 (cF .types):=by
 unfold dT
 refine A8.mono (qF I (c:=40) 11 _ _ (by decide) (by decide) (by decide) (fun n hn=>hg.ex .typ t n rfl hn trivial) n hn) ?_
 rintro x m ⟨w1,⟨f1,f2⟩,⟨t1,t2⟩,p1,l1,c1⟩;(try simp only [cF,A6] at c1);have r1:=w1.rng
 (refine⟨?_,⟨?_,?_⟩,⟨?_,?_⟩,?_,?_,?_⟩<;>(try simp only [sE,cF,A6])<;>(omega))
theorem Yl(hg:HG I g)(t:Bool)(n:Int)(hn:0≤n∧n≤I.L):A8 (fQ I g t n) fun x m=>Ex I n x m 1 (cF .unary):=by
 unfold fQ
 (repeat' (first|(refine A8.ite ?_ ?_<;>intro h<;>(try (first|(refine (wq I h ?a).use ?_;(case a=>decide);intro q1 q2 q3)|(refine (Mj I (n:=n) ?a).use ?_;(case a=>(intro e;rw [e] at h;first|(revert h;decide)));intro q1 q2 q3))); (try (refine (wq I h.2 ?a).use ?_;(case a=>decide);intro q4 q5 q6)))|(refine A8.bnd (hg.ex _ _ _ rfl (by omega) (by exact trivial)) ?_;rintro x m ⟨w1,⟨f1,f2⟩,⟨t1,t2⟩,p1,l1,c1⟩;(try simp only [cF,A6] at c1);have r1:=w1.rng)|(refine A8.mono (hg.ex _ _ _ rfl (by omega) (by exact trivial)) ?_;rintro x m ⟨w1,⟨f1,f2⟩,⟨t1,t2⟩,p1,l1,c1⟩;(try simp only [cF,A6] at c1);have r1:=w1.rng)|(refine A8.ok ?_)))
 all_goals (refine⟨?_,⟨?_,?_⟩,⟨?_,?_⟩,?_,?_,?_⟩<;>(try simp only [sE,cF,A6])<;>(first|omega|(repeat' (first|assumption|exact .inl ⟨rfl,by decide⟩|(refine .inr ⟨by omega,.inr (.inr ⟨?_,fun _=>by rfl⟩)⟩)|(refine dS ?_ (by decide) ?_ ?_ ?_ ?_ ?_)|omega|(simp [jK, *];done)))))
theorem Oc(hg:HG I g)(t:Bool)(n:Int)(hn:0≤n∧n≤I.L):A8 (Z8 I g t n) fun x m=>Ex I n x m 1 (cF .operand):=by
 unfold Z8
 (repeat' (first|(refine A8.ok ?_;have hx:=Bt I h;revert hx;rintro⟨w1,⟨f1,f2⟩,⟨t1,t2⟩,p1,l1,c1⟩)|(refine A8.mono (S5 I _) ?_;rintro x m ⟨⟨w1,⟨f1,f2⟩,⟨t1,t2⟩,p1,l1,c1⟩,_⟩)|(refine A8.ite ?_ ?_<;>intro h<;>(try (first|(refine (wq I h ?a).use ?_;(case a=>decide);intro q1 q2 q3)|(refine (kq I (.inr h)).use ?_;intro q1 q2 q3)|(refine (wq I h.1 ?a).use ?_;(case a=>decide);intro q1 q2 q3)|(refine (Mj I (n:=n) ?a).use ?_;(case a=>(intro e;rw [e] at h;first|(revert h;decide)));intro q1 q2 q3))); (try (refine (wq I h.2 ?a).use ?_;(case a=>decide);intro q4 q5 q6)))|(refine A8.bnd (A8.want I (by decide)) ?_;rintro _ m ⟨rfl,h,q1,q2,q3⟩)|(refine A8.bnd (hg.ex _ _ _ rfl (by omega) (by exact trivial)) ?_;rintro x m ⟨w1,⟨f1,f2⟩,⟨t1,t2⟩,p1,l1,c1⟩;(try simp only [cF,A6] at c1);have r1:=w1.rng)|(refine A8.mono (hg.ex _ _ _ rfl (by omega) (by exact trivial)) ?_;rintro x m ⟨w1,⟨f1,f2⟩,⟨t1,t2⟩,p1,l1,c1⟩;(try simp only [cF,A6] at c1);have r1:=w1.rng)|(refine A8.ok ?_)|(exact A8.err)))
 all_goals (refine⟨?_,⟨?_,?_⟩,⟨?_,?_⟩,?_,?_,?_⟩<;>(try simp only [sE,cF,A6])<;>(first|rfl|omega|(repeat' (first|assumption|exact .inl ⟨rfl,by decide⟩|(refine dS ?_ (by decide) ?_ ?_ ?_ ?_ ?_)|(refine eJ ?_ (by decide) ?_ ?_ ?_ ?_ ?_ ?_ ?_ ?_)|omega))))
theorem xN(hg:HG I g)(t:Bool)(least:Int)(hl:1≤least)(frm:Int):∀ (f:Nat) (x:Nd) (n:Int),0≤n→Ex I frm x n 1 72→0≤frm→A8 (hI I g t least frm f x n) fun x m=>Ex I frm x m 1 (cF (.binary least))
 |0,x,n,_,hx,h0=>A8.err
 |f+1,x,n,h1,hx,h0=>by
  unfold hI
  obtain⟨w0,⟨f0,g0⟩,⟨t0,u0⟩,p0,l0,c0⟩:=hx
  have r0:=w0.rng
  refine A8.ite (fun h=>A8.ok ?_) fun h=>?_
  ·(refine⟨?_,⟨?_,?_⟩,⟨?_,?_⟩,?_,?_,?_⟩<;>(try simp only [sE,cF,A6])<;>(omega))
  ·obtain ⟨q1, q2, q3⟩ := Mj I (n := n) (fun e => by rw [e] at h;have:X6 ⟨#[]⟩=0:=by decide
                                                     omega)
   refine A8.bnd (hg.ex _ _ _ rfl (by omega) (by simp only [pre];omega)) ?_
   rintro y m ⟨w1,⟨f1,f2⟩,⟨t1,t2⟩,p1,l1,c1⟩
   simp only [cF,A6] at c1
   have r1:=w1.rng
   refine xN hg t least hl frm f _ m (by omega) ?_ h0
   have hw:jK 37 (word I n):=by simp only [jK];simp;omega
   (refine⟨?_,⟨?_,?_⟩,⟨?_,?_⟩,?_,?_,?_⟩<;>(try simp only [sE,cF,A6])<;>(first|omega|(repeat' (first|assumption|(refine .inr ⟨by omega,.inr (.inr ⟨?_,fun _=>by omega⟩)⟩)|(refine eJ ?_ (by decide) ?_ ?_ ?_ ?_ ?_ ?_ ?_ ?_)|omega))))
theorem Wi(hg:HG I g)(t:Bool)(n:Int)(hn:0≤n∧n≤I.L)(k:Int)(hk:1≤k):A8 (bD I g k t n) fun x m=>Ex I n x m 1 (cF (.binary k)):=by
 unfold bD
 refine A8.bnd (hg.ex _ _ _ rfl hn trivial) ?_
 intro x m hx
 exact xN hg t k hk n _ x m (by have:=hx.pr;omega) hx hn.1
theorem Vv(hg:HG I g)(t:Bool)(n:Int)(hn:0≤n∧n≤I.L):A8 (Cm g t n) fun x m=>Ex I n x m 1 (cF .typ):=by
 unfold Cm
 (repeat' ((refine A8.mono (hg.ex _ _ _ rfl (by omega) (by exact trivial)) ?_;rintro x m ⟨w1,⟨f1,f2⟩,⟨t1,t2⟩,p1,l1,c1⟩;(try simp only [cF,A6] at c1);have r1:=w1.rng)))
 all_goals (refine⟨?_,⟨?_,?_⟩,⟨?_,?_⟩,?_,?_,?_⟩<;>(try simp only [sE,cF,A6])<;>(omega))
theorem De(hg:HG I g)(t:Bool)(n:Int)(hn:0≤n∧n≤I.L):A8 (aE I g t n) fun x m=>Ex I n x m 1 (cF .element):=by
 unfold aE
 (repeat' (first|(refine A8.ite ?_ ?_<;>intro h<;>(try ((refine (wq I h ?a).use ?_;(case a=>decide);intro q1 q2 q3))); (try (refine (wq I h.2 ?a).use ?_;(case a=>decide);intro q4 q5 q6)))|(refine A8.bnd (hg.ex _ _ _ rfl (by omega) (by exact trivial)) ?_;rintro x m ⟨w1,⟨f1,f2⟩,⟨t1,t2⟩,p1,l1,c1⟩;(try simp only [cF,A6] at c1);have r1:=w1.rng)|(refine A8.ok ?_)))
 all_goals (refine⟨?_,⟨?_,?_⟩,⟨?_,?_⟩,?_,?_,?_⟩<;>(try simp only [sE,cF,A6])<;>(first|omega|(repeat' (first|assumption|exact .inl ⟨rfl,by decide⟩|(refine eJ ?_ (by decide) ?_ ?_ ?_ ?_ ?_ ?_ ?_ ?_)|omega))))
theorem Ul(hg:HG I g)(t:Bool)(n:Int)(hn:0≤n∧n≤I.L):A8 (fO I g t n) fun x m=>Ex I n x m 1 (cF .value):=by
 unfold fO
 (repeat' (first|(refine A8.ite ?_ ?_<;>intro h<;>(try ((refine (wq I h ?a).use ?_;(case a=>decide);intro q1 q2 q3))); (try (refine (wq I h.2 ?a).use ?_;(case a=>decide);intro q4 q5 q6)))|(refine A8.bnd (hg.el _ _ (by omega)) ?_;rintro x m ⟨w1,⟨f1,f2⟩,e1,⟨t1,t2⟩,p1,l1,c1⟩;(try simp only [cF,A6] at c1);have r1:=w1.rng)|(refine A8.mono (hg.ex _ _ _ rfl (by omega) (by exact trivial)) ?_;rintro x m ⟨w1,⟨f1,f2⟩,⟨t1,t2⟩,p1,l1,c1⟩;(try simp only [cF,A6] at c1);have r1:=w1.rng)|(refine A8.ok ?_)))
 all_goals (refine⟨?_,⟨?_,?_⟩,⟨?_,?_⟩,?_,?_,?_⟩<;>(try simp only [sE,cF,A6])<;>(first|omega|(repeat' (first|assumption|exact G6 I _ _ 0 (by omega) (by decide)|exact .inl ⟨rfl,by decide⟩|(refine eJ ?_ (by decide) ?_ ?_ ?_ ?_ ?_ ?_ ?_ ?_)|omega|(simp only [sE,cF,A6]<;>omega)))))
theorem zR(hg:HG I g)(t:Bool)(n:Int)(hn:0≤n∧n≤I.L):A8 (V2 I g t n) fun x m=>Sp I n x m 1 (cF .elements):=by
 unfold V2
 refine A8.bnd (eQ I (c:=104) _ _ _ _ (by decide) (by decide) (fun n hn=>hg.ex .element false n rfl hn trivial) n hn) ?_
 rintro⟨l,w⟩ m ⟨a1,a2,a3,a4,a5,a6,a7,a8⟩
 dsimp only at *
 obtain⟨b1,b2,b3⟩:=a3
 refine A8.bnd (A8.want I (by decide)) ?_
 rintro _ _ ⟨rfl,h,q1,q2,q3⟩
 obtain⟨w1,⟨f1,f2⟩,e1,⟨t1,t2⟩,p1,l1,c1⟩:=W6 (k:=12) (c:=1) a1 (by omega) (by omega) (by decide) (by decide) (by simp [dI]) (by omega)
 refine A8.ok ⟨w1,(by omega),e1,(by omega),by omega,by omega,by simp only [cF,A6];omega⟩
end
end Go.Ex
