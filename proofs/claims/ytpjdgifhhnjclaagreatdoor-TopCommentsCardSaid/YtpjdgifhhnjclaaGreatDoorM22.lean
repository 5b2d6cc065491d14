/-
  Top: TopComments: whatever the input, the law answers true (part 22)
-/
import Derived.Test.YtpjdgifhhnjclaaGreatDoorM21
set_option linter.unusedVariables false
set_option linter.unusedSimpArgs false
set_option maxHeartbeats 4000000
set_option maxRecDepth 10000
namespace Go.Ex
open Go.Proofs
attribute [local irreducible] CH X2 word B9
structure Nx where
 bn:Nat
 k:Int
 f:Int
 to:Int
 l:KV
def eR(o:Option Nx)(w:Int):L8:=match o with
 |none=>[]
 |some x=>[(901,x.bn,D6 x.k w x.f x.to x.l)]
def nO(o:Option Nx):List Nat:=match o with
 |none=>[]
 |some x=>[x.bn]
def aN(bx:List (Nat×D8))(h:A3)(cap:List Nat):Prop:=∀ e∈bx,e.1<h.size∧e.1∉cap∧C7 h e.1 e.2
def Rq(I:In)(M:O6)(br:Nat)(f:Nat)(av:List Value)(o:Option Nx)(bx:List (Nat×D8))(one:Int→Int→G3 (Nd×Int))(t:Bool)(w n:Int):Prop:=
 ∀ hE,HS ⟨hE,br::nO o,G5 I M br t n++eR o w⟩ hE→J4 I M hE (br::nO o)→aN bx hE (br::nO o)→X2 Tryz.prog (bN I M br (br::nO o) hE (one w n)) f av.toArray hE fun v h'=>
  ∃ x w' n' p,one w n = .ok (x,w') n'∧(n+1≤n'∧n'≤I.L)∧Wf x∧v = .pointer p∧HS ⟨hE,br::nO o,G5 I M br t n'++eR o w'⟩ h'∧Q2 hE.size h' (br::nO o) p x
def Ky(I:In)(M:O6)(br:Nat)(f:Nat)(av:List Value)(o:Option Nx)(bx:List (Nat×D8))(r:G3 (List Nd×Int))(t:Bool)(w n:Int):Prop:=
 ∀ hE,HS ⟨hE,br::nO o,G5 I M br t n++eR o w⟩ hE→J4 I M hE (br::nO o)→aN bx hE (br::nO o)→X2 Tryz.prog (bN I M br (br::nO o) hE r) f av.toArray hE fun v h'=>
  ∃ l w' n' A len c ps,r = .ok (l,w') n'∧(n+1≤n'∧n'≤I.L∧(l.length:Int)≤n'-n)∧fL l∧v = .slice A len c∧HS ⟨hE,br::nO o,G5 I M br t n'++eR o w'⟩ h'∧D3 E1 h' (br::nO o) A len ps∧(∀ a,0<len→A=some a→hE.size≤a.block)∧L3 hE.size h' (br::nO o) ps l
theorem HS.again{S:St}{h:A3}(hs:HS S h)(ks:List Nat){L:L8}(hL:F3 S.ch ks L):HS ⟨h,blks L,L⟩ h:=by
 have h1:=hs.ren ks hL
 exact⟨Nat.le_refl _,fun _ _ _=>rfl,fun e he=>⟨(h1.chunk e he).1,.inr (G9 he),(h1.chunk e he).2.2⟩,h1.apart⟩
theorem F3.blks{ch:L8}{ks:List Nat}{L:L8}(hL:F3 ch ks L):∀ x∈Go.Ex.blks L,x∈Go.Ex.blks ch:=fun x hx=>by
 obtain⟨e,he,rfl⟩:=oH hx
 obtain⟨k,c0,_,h1,_⟩:=hL.mem e he
 exact G9 (e:=(k,e.2.1,c0)) h1
theorem Wd.more{I:In}{M:O6}{cE:List Nat}{hE h0:A3}{cap:List Nat}{its:List It}(W:Wd I M cE hE h0 cap its){p:Option Addr}{x:Nd}{ps:List (Option Addr)}{l:List Nd}(h1:It.many ps l∈its)(h2:It.one p x∈its):Wd I M cE hE h0 cap (.many (ps++[p]) (l++[x])::its):=
 W.add ⟨L3.append (W.its _ h1).1 (L3.cons (W.its _ h2).1 L3.nil),(W.its _ h1).2.append ⟨(W.its _ h2).2,trivial⟩⟩
section
variable {I:In}{M:O6}{br:Nat}{cE:List Nat}{hE:A3}{its:List It}{S:St}{t:Bool}{n:Int}{α:Type}{oC:G3 α}{args caps:List KV}{κ:KV→St→Prop}{E:Value→A3→Prop}
theorem Wd.again(W:Wd I M cE hE S.h0 S.cap its){h:A3}(hs:HS S h)(ks:List Nat){L:L8}(hL:F3 S.ch ks L):Wd I M cE hE h (blks L) its:=W.anew (hs.lB.less hL.blks)
theorem CK.oneQ{f:Nat}{o:Option Nx}{bx:List (Nat×D8)}{one:Int→Int→G3 (Nd×Int)}{w:Int}{av:List Value}(r:L8)(W:Wd I M (br::nO o) hE S.h0 S.cap its)(hcon:Rq I M br f av o bx one t w n)(ha:args.map A1++caps.map A0=av)(hc:X1 S.ch ((G5 I M br t n++eR o w)++r))(hbx:It.bxs bx∈its)
 (hqb:∀ w,blks (G5 I M br t n++eR o w)=br::nO o)
 (herr:∀ x,one w n = .err x→oC = .err x)
 (hk:∀ x w' m b h',one w n = .ok (x,w') m→n+1≤m→m≤I.L→Wd I M (br::nO o) hE h' (blks ((G5 I M br t m++eR o w')++r)) (.one (some ⟨b,0,none⟩) x::its)→κ (.val (.pointer (some ⟨b,0,none⟩))) ⟨h',blks ((G5 I M br t m++eR o w')++r),(G5 I M br t m++eR o w')++r⟩) :
 CK Tryz.prog (bN I M br (br::nO o) hE oC) f args caps S κ:=
 ⟨fun h hs=>.inr (.inr (by
  rw [ha]
  have hp:=hs.part hc
  rw [hqb] at hp
  have hsub:∀ x∈br::nO o,x∈blks S.ch:=fun x hx=>by
   rw [←hqb w] at hx
   obtain⟨e,he,rfl⟩:=oH hx
   exact G9 (hc.mem e (List.mem_append.2 (.inl he)))
  have lb:=hs.lB.less hsub
  have hbo:aN bx h (br::nO o):=(W.its _ hbx:Ej hE.size S.h0 S.cap (.bxs bx)) |> fun hi=>Ej.later (i:=.bxs bx) (lo:=hE.size) lb hi
  refine (hcon h hp (W.base.later lb) hbo).mono (fun v h' he=>he.up W hs hsub List.mem_cons_self herr) fun v h' ⟨x,w',m,p,h1,⟨h2,h3⟩,h4,e5,h6,h7⟩=>?_
  subst e5
  obtain⟨b,rfl⟩:=h7.ptr
  have hp':=hs.part hc
  rw [←hqb w] at h6
  have h9:=hs.join hc h6
  refine⟨_,_,rfl,h9.anew,hk x w' m b h' h1 h2 h3 ((W.anew h9.lB).add ⟨?_,h4⟩)⟩
  refine Q2.recap (fun c hc'=>.inr ?_) (Nat.le_trans W.later.size hs.size) x h7
  have hbl:c∈blks S.ch:=by
   obtain⟨e,he,rfl⟩:=oH hc'
   rcases List.mem_append.1 he with he|he
   ·have:e.2.1∈blks (G5 I M br t n++eR o w'):=by
     have e1:blks (G5 I M br t m++eR o w')=blks (G5 I M br t n++eR o w'):=rfl
     rw [←e1];exact G9 he
    rw [hqb] at this
    exact hsub _ this
   ·exact G9 (hc.mem e (List.mem_append.2 (.inr he)))
  exact (hs.blks_of hbl).1))⟩
structure RS where
 h:A3
 w:Int
 m:Int
 o:Option (Nat×Nat)
 ps:List (Option Addr)
 l:List Nd
def T7(x:RS):KV:=match x.o with
 |none=>.val (.slice none 0 0)
 |some (b,c)=>.osl 23 b x.ps.length c
def dE(x:RS):L8:=match x.o with
 |none=>[]
 |some (b,c)=>[(23,b,.arr 63 E1 x.ps c)]
theorem wD(ok:C6 I)(bx:List (Nat×D8))(op mark shut:ByteArray)(h1:¬ op=⟨#[]⟩)(h2:¬ mark=⟨#[]⟩)(fo:Nat)(first cs:List Value)(one:Int→Int→G3 (Nd×Int)){w:Int}(hn:0≤n∧n≤I.L)
 (Hone:∀ w m,n+1≤m→m≤I.L→Rq I M br fo (first++cs) (none) bx one t w m):Ky I M br 150 [ptr br,.string op,.string mark,.string shut,.func (.func fo) ⟨first⟩ ⟨cs⟩] (none) bx (T5 I op mark shut one w n) t w n:=fun hE hs hB hbx=>by
 refine O9 5 [10,11,18,27] [] [.own 900 br 0,.val (.string op),.val (.string mark),.val (.string shut),.val (.func (.func fo) ⟨first⟩ ⟨cs⟩)] Tryz.func150 rfl hs ?_
 have W:=(Wd.start ok hB).add (i:=.bxs bx) hbx
 have hl:=ok.len
 have hs0:=hs
 ((repeat' (conv=>whnf);first|(refine CK.want W (by assumption) (by omega) rfl rfl (fun hx=>?_) (fun hx hm=>?_);rotate_left)|fail);all_goals try conv=>whnf)
 case refine_1=>rw [T5,want,if_neg hx];rfl
 obtain⟨R,hR⟩:∃ R,T3 I mark shut one (F6 I (n+1)) w [] (n+1)=R:=⟨_,rfl⟩
 have hRS:T5 I op mark shut one w n=R:=by rw [T5,want,if_pos hx];exact hR
 rw [hRS]
 refine gG tO [11] (fun x:RS=>[(11,T7 x)]) (fun x=>⟨x.h,blks ((G5 I M br t x.m++eR (none) x.w)++dE x),(G5 I M br t x.m++eR (none) x.w)++dE x⟩)
  (fun μ x=>Wd I M (br::nO (none)) hE x.h (blks ((G5 I M br t x.m++eR (none) x.w)++dE x)) [.many x.ps x.l,.bxs bx]∧(n+1≤x.m∧x.m≤I.L∧(x.l.length:Int)≤x.m-(n+1)∧I.L+1-x.m≤μ)∧T3 I mark shut one μ x.w x.l x.m=R∧(x.o=none→x.ps=[])∧x.ps.length=x.l.length∧∀ b c,x.o=some (b,c)→x.ps.length≤c) ?_
 conv=>whnf
 refine⟨fun h hs=>?_,?_⟩
 ·have hr:F3 ((900,br,H5 I M t (n+1))::[].append (eR (none) w)) [900] ((G5 I M br t (n+1)++eR (none) w)++[]):=(B4 rfl rfl E8)
  refine⟨F6 I (n+1),⟨h,w,n+1,none,[],[]⟩,⟨((W.again hs [900] hr).add (i:=.many [] []) ⟨L3.nil,trivial⟩).of (fun e he=>?_),⟨by simp,by dsimp only;omega,by simp,by simp only [F6];omega⟩,hR,fun _=>rfl,rfl,fun b c e=>(by cases e)⟩,?_,hs.again [900] hr⟩
  ·simpa using he
  ·(repeat (refine And.intro ⟨_,rfl,rfl⟩ ?_));exact trivial
 rintro μ ⟨hx0,wx,m,o2,ps,l⟩ ⟨W,⟨r0,r1,r2,r3⟩,r4,r5,r6,r7⟩
 dsimp only at W r0 r1 r2 r3 r4 r5 r6 r7
 obtain⟨f,rfl⟩:∃ f,μ=f+1:=⟨μ-1,by omega⟩
 simp only [T3] at r4
 have hone:=Hone wx m r0 r1
 rcases o2 with _|⟨b2,c2⟩
 ·have e0:=r5 rfl
  subst e0
  have e1:l=[]:=List.eq_nil_of_length_eq_zero (by simpa using r6.symm)
  subst e1
  by_cases hsh:word I m=shut
  ·rw [if_pos hsh] at r4
   have hre:F3 ((G5 I M br t m++eR (none) wx)++dE ⟨hx0,wx,m,none,[],[]⟩) [900] (G5 I M br t m++eR (none) wx):=(B4 rfl rfl E8)
   ((repeat' (conv=>whnf);first|(refine Br.mk ?_ ?_<;>intro hb<;>(try (exact absurd rfl hb)))|(refine A7 ?_ fun h1 hs=>F5 W.ok W.base hs rfl hsh)|fail);all_goals try conv=>whnf)
   exact⟨fun h' hs=>⟨[],wx,m,none,0,0,[],r4.symm,⟨r0,r1,by simp only [List.length_nil];omega⟩,trivial,rfl,HS.back W.later hs (hs.again [900] hre) hre.blks (fun e he=>.inl (G9 he)),⟨Sl.nil _ _ _,fun h=>absurd h (Nat.lt_irrefl 0)⟩,fun a h=>absurd h (Nat.lt_irrefl 0),L3.nil⟩⟩
  ·rw [if_neg hsh] at r4
   ((repeat' (conv=>whnf);first|(refine VC.mk (by (first|omega|(and_intros<;>first|omega|rfl|(simp only [maxLen];omega)|(simp only [lL];omega)))) ?_)|(refine Br.mk ?_ ?_<;>intro hb<;>(try replace hb:=nN hb)<;>(try exact absurd hb (by decide))<;>(try (contradiction)))|(refine E5.mk ?_;intro b hb)|(refine aH.mk ?_;intro b c hb hbc)|(refine SR.same ?_)|(refine A7 ?_ fun h1 hs=>E0 W.ok W.base hs rfl)|(refine CK.oneQ (o:=none) (bx:=bx) [] W hone (by simp [cP,S6,List.map_append,A0]) ⟨rfl,rfl,trivial⟩ (by repeat constructor) (fun _=>rfl) (fun y hy=>?_) (fun x w' m' bq h' hy hm1 hm2 W=>?_);rotate_left)|(refine CK.want W (by assumption) (by omega) rfl rfl (fun hx=>?_) (fun hx hm=>?_);rotate_left)|fail);all_goals try conv=>whnf)
   all_goals first
    |(rw [←r4,hy];rfl)
    |(rw [←r4,hy,E2,if_neg (by assumption),want,if_neg hx];rfl)
    | (intro h hs
       rw [hy,E2,if_neg (by assumption),want,if_pos hx,E2] at r4
       refine⟨f,⟨h,w',m'+1,some (b,c),[some ⟨bq,0,none⟩],[x]⟩,⟨(((W.more (ps:=[]) (l:=[]) (by repeat constructor) (by repeat constructor)).anew (hs.lB.less (F3.blks (ks:=[900,23]) (L:=(G5 I M br t (m'+1)++eR (none) w')++[(23,b,.arr 63 E1 ([some ⟨bq,0,none⟩]) c)]) (B4 rfl rfl (F9 rfl (SC.arr (by simp)) rfl E8)))))).of (fun e he=>?_),⟨by dsimp only;omega,by dsimp only;omega,by dsimp only;simp only [lC2];omega,by dsimp only;omega⟩,r4,fun e=>(by cases e),by simp [r6],fun b0 c0 e=>by cases e;simpa using hbc⟩,Nat.lt_succ_self f,?_,hs.again [900,23] (B4 rfl rfl (F9 rfl (SC.arr (by simp)) rfl E8))⟩
       ·simp only [mL,or_false] at he ⊢
        rcases he with rfl|rfl
        ·exact .inl rfl
        ·simp
       ·refine And.intro ⟨_,rfl,by first|rfl|(simp [B0,A1,A0,T7];done)|(simp [B0,A1,A0,T7];omega)⟩ ?_
        (repeat (refine And.intro ⟨_,rfl,rfl⟩ ?_));exact trivial)
    | (intro h hs
       rw [hy,E2,if_pos hb] at r4
       refine⟨f,⟨h,w',m',some (b,c),[some ⟨bq,0,none⟩],[x]⟩,⟨(((W.more (ps:=[]) (l:=[]) (by repeat constructor) (by repeat constructor)).anew (hs.lB.less (F3.blks (ks:=[900,23]) (L:=(G5 I M br t (m')++eR (none) w')++[(23,b,.arr 63 E1 ([some ⟨bq,0,none⟩]) c)]) (B4 rfl rfl (F9 rfl (SC.arr (by simp)) rfl E8)))))).of (fun e he=>?_),⟨by dsimp only;omega,by dsimp only;omega,by dsimp only;simp only [lC2];omega,by dsimp only;omega⟩,r4,fun e=>(by cases e),by simp [r6],fun b0 c0 e=>by cases e;simpa using hbc⟩,Nat.lt_succ_self f,?_,hs.again [900,23] (B4 rfl rfl (F9 rfl (SC.arr (by simp)) rfl E8))⟩
       ·simp only [mL,or_false] at he ⊢
        rcases he with rfl|rfl
        ·exact .inl rfl
        ·simp
       ·refine And.intro ⟨_,rfl,by first|rfl|(simp [B0,A1,A0,T7];done)|(simp [B0,A1,A0,T7];omega)⟩ ?_
        (repeat (refine And.intro ⟨_,rfl,rfl⟩ ?_));exact trivial)
 ·have hcp:=r7 _ _ rfl
  by_cases hsh:word I m=shut
  ·rw [if_pos hsh] at r4
   have hre:F3 ((G5 I M br t m++eR (none) wx)++dE ⟨hx0,wx,m,some (b2,c2),ps,l⟩) [900] (G5 I M br t m++eR (none) wx):=(B4 rfl rfl E8)
   ((repeat' (conv=>whnf);first|(refine Br.mk ?_ ?_<;>intro hb<;>(try (exact absurd rfl hb)))|(refine A7 ?_ fun h1 hs=>F5 W.ok W.base hs rfl hsh)|fail);all_goals try conv=>whnf)
   refine⟨fun h' hs=>⟨l,wx,m,some ⟨b2,0,none⟩,ps.length,c2,ps,r4.symm,⟨by omega,r1,by omega⟩,(W.its _ List.mem_cons_self).2,rfl,HS.back W.later hs (hs.again [900] hre) hre.blks (fun e he=>.inl (G9 he)),⟨?_,fun h0 a e=>?_⟩,fun a h0 e=>?_,?_⟩⟩
   ·have:=hs.sl (k:=23) rfl (Nat.le_refl ps.length)
    rw [List.take_length] at this
    exact this
   ·cases e
    refine⟨(hs.chunk _ (fM (k:=23) (b:=b2) (c:=.arr 63 E1 ps c2) rfl)).1,fun hm=>?_⟩
    simp only [nO,List.mem_cons,List.not_mem_nil,or_false] at hm
    exact hs.ne (k:=23) (k':=900) rfl rfl (by decide) hm
   ·cases e
    exact W.lo_own hs (k:=23) rfl (fun hm=>by
     simp only [nO,List.mem_cons,List.not_mem_nil,or_false] at hm
     exact hs.ne (k:=23) (k':=900) rfl rfl (by decide) hm)
   ·exact L3.later (hs.lB.less (fun x hx=>hre.blks x hx)) (Nat.le_refl _) l (W.its _ List.mem_cons_self).1
  ·rw [if_neg hsh] at r4
   ((repeat' (conv=>whnf);first|(refine VC.mk (by (first|omega|(and_intros<;>first|omega|rfl|(simp only [maxLen];omega)|(simp only [lL];omega)))) ?_)|(refine Br.mk ?_ ?_<;>intro hb<;>(try replace hb:=nN hb)<;>(try exact absurd hb (by decide))<;>(try (contradiction)))|(refine E5.mk ?_;intro b hb)|(refine X0.mk ?_;intro b c hb hbc)|(refine SR.same ?_)|(refine A7 ?_ fun h1 hs=>E0 W.ok W.base hs rfl)|(refine CK.oneQ (o:=none) (bx:=bx) [(23,b2,.arr 63 E1 ps c2)] W hone (by simp [cP,S6,List.map_append,A0]) ⟨rfl,rfl,rfl,rfl,trivial⟩ (by repeat constructor) (fun _=>rfl) (fun y hy=>?_) (fun x w' m' bq h' hy hm1 hm2 W=>?_);rotate_left)|(refine CK.want W (by assumption) (by omega) rfl rfl (fun hx=>?_) (fun hx hm=>?_);rotate_left)|fail);all_goals try conv=>whnf)
   all_goals first
    |(rw [←r4,hy];rfl)
    |(rw [←r4,hy,E2,if_neg (by assumption),want,if_neg hx];rfl)
    | (intro h hs
       rw [hy,E2,if_neg (by assumption),want,if_pos hx,E2] at r4
       refine⟨f,⟨h,w',m'+1,some (b,c),ps++[some ⟨bq,0,none⟩],l++[x]⟩,⟨(((W.more (ps:=ps) (l:=l) (by repeat constructor) (by repeat constructor)).anew (hs.lB.less (F3.blks (ks:=[900,23]) (L:=(G5 I M br t (m'+1)++eR (none) w')++[(23,b,.arr 63 E1 (ps++[some ⟨bq,0,none⟩]) c)]) (B4 rfl rfl (F9 rfl (SC.arr (by simp)) rfl E8)))))).of (fun e he=>?_),⟨by dsimp only;omega,by dsimp only;omega,by dsimp only;simp only [lC2];omega,by dsimp only;omega⟩,r4,fun e=>(by cases e),by simp [r6],fun b0 c0 e=>by cases e;simpa using hbc⟩,Nat.lt_succ_self f,?_,hs.again [900,23] (B4 rfl rfl (F9 rfl (SC.arr (by simp)) rfl E8))⟩
       ·simp only [mL,or_false] at he ⊢
        rcases he with rfl|rfl
        ·exact .inl rfl
        ·simp
       ·refine And.intro ⟨_,rfl,by first|rfl|(simp [B0,A1,A0,T7];done)|(simp [B0,A1,A0,T7];omega)⟩ ?_
        (repeat (refine And.intro ⟨_,rfl,rfl⟩ ?_));exact trivial)
    | (intro h hs
       rw [hy,E2,if_pos hb] at r4
       refine⟨f,⟨h,w',m',some (b,c),ps++[some ⟨bq,0,none⟩],l++[x]⟩,⟨(((W.more (ps:=ps) (l:=l) (by repeat constructor) (by repeat constructor)).anew (hs.lB.less (F3.blks (ks:=[900,23]) (L:=(G5 I M br t (m')++eR (none) w')++[(23,b,.arr 63 E1 (ps++[some ⟨bq,0,none⟩]) c)]) (B4 rfl rfl (F9 rfl (SC.arr (by simp)) rfl E8)))))).of (fun e he=>?_),⟨by dsimp only;omega,by dsimp only;omega,by dsimp only;simp only [lC2];omega,by dsimp only;omega⟩,r4,fun e=>(by cases e),by simp [r6],fun b0 c0 e=>by cases e;simpa using hbc⟩,Nat.lt_succ_self f,?_,hs.again [900,23] (B4 rfl rfl (F9 rfl (SC.arr (by simp)) rfl E8))⟩
       ·simp only [mL,or_false] at he ⊢
        rcases he with rfl|rfl
        ·exact .inl rfl
        ·simp
       ·refine And.intro ⟨_,rfl,by first|rfl|(simp [B0,A1,A0,T7];done)|(simp [B0,A1,A0,T7];omega)⟩ ?_
        (repeat (refine And.intro ⟨_,rfl,rfl⟩ ?_));exact trivial)
theorem On(ok:C6 I)(nx:Nx)(bx:List (Nat×D8))(op mark shut:ByteArray)(h1:¬ op=⟨#[]⟩)(h2:¬ mark=⟨#[]⟩)(fo:Nat)(first cs:List Value)(one:Int→Int→G3 (Nd×Int)){w:Int}(hn:0≤n∧n≤I.L)
 (Hone:∀ w m,n+1≤m→m≤I.L→Rq I M br fo (first++cs) (some nx) bx one t w m):Ky I M br 150 [ptr br,.string op,.string mark,.string shut,.func (.func fo) ⟨first⟩ ⟨cs⟩] (some nx) bx (T5 I op mark shut one w n) t w n:=fun hE hs hB hbx=>by
 refine O9 5 [10,11,18,27] [] [.own 900 br 0,.val (.string op),.val (.string mark),.val (.string shut),.val (.func (.func fo) ⟨first⟩ ⟨cs⟩)] Tryz.func150 rfl hs ?_
 have W:=(Wd.start ok hB).add (i:=.bxs bx) hbx
 have hl:=ok.len
 have hs0:=hs
 ((repeat' (conv=>whnf);first|(refine CK.want W (by assumption) (by omega) rfl rfl (fun hx=>?_) (fun hx hm=>?_);rotate_left)|fail);all_goals try conv=>whnf)
 case refine_1=>rw [T5,want,if_neg hx];rfl
 obtain⟨R,hR⟩:∃ R,T3 I mark shut one (F6 I (n+1)) w [] (n+1)=R:=⟨_,rfl⟩
 have hRS:T5 I op mark shut one w n=R:=by rw [T5,want,if_pos hx];exact hR
 rw [hRS]
 refine gG tO [11] (fun x:RS=>[(11,T7 x)]) (fun x=>⟨x.h,blks ((G5 I M br t x.m++eR (some nx) x.w)++dE x),(G5 I M br t x.m++eR (some nx) x.w)++dE x⟩)
  (fun μ x=>Wd I M (br::nO (some nx)) hE x.h (blks ((G5 I M br t x.m++eR (some nx) x.w)++dE x)) [.many x.ps x.l,.bxs bx]∧(n+1≤x.m∧x.m≤I.L∧(x.l.length:Int)≤x.m-(n+1)∧I.L+1-x.m≤μ)∧T3 I mark shut one μ x.w x.l x.m=R∧(x.o=none→x.ps=[])∧x.ps.length=x.l.length∧∀ b c,x.o=some (b,c)→x.ps.length≤c) ?_
 conv=>whnf
 refine⟨fun h hs=>?_,?_⟩
 ·have hr:F3 ((900,br,H5 I M t (n+1))::[].append (eR (some nx) w)) [900,901] ((G5 I M br t (n+1)++eR (some nx) w)++[]):=(B4 rfl rfl (B4 rfl rfl E8))
  refine⟨F6 I (n+1),⟨h,w,n+1,none,[],[]⟩,⟨((W.again hs [900,901] hr).add (i:=.many [] []) ⟨L3.nil,trivial⟩).of (fun e he=>?_),⟨by simp,by dsimp only;omega,by simp,by simp only [F6];omega⟩,hR,fun _=>rfl,rfl,fun b c e=>(by cases e)⟩,?_,hs.again [900,901] hr⟩
  ·simpa using he
  ·(repeat (refine And.intro ⟨_,rfl,rfl⟩ ?_));exact trivial
 rintro μ ⟨hx0,wx,m,o2,ps,l⟩ ⟨W,⟨r0,r1,r2,r3⟩,r4,r5,r6,r7⟩
 dsimp only at W r0 r1 r2 r3 r4 r5 r6 r7
 obtain⟨f,rfl⟩:∃ f,μ=f+1:=⟨μ-1,by omega⟩
 simp only [T3] at r4
 have hone:=Hone wx m r0 r1
 rcases o2 with _|⟨b2,c2⟩
 ·have e0:=r5 rfl
  subst e0
  have e1:l=[]:=List.eq_nil_of_length_eq_zero (by simpa using r6.symm)
  subst e1
  by_cases hsh:word I m=shut
  ·rw [if_pos hsh] at r4
   have hre:F3 ((G5 I M br t m++eR (some nx) wx)++dE ⟨hx0,wx,m,none,[],[]⟩) [900,901] (G5 I M br t m++eR (some nx) wx):=(B4 rfl rfl (B4 rfl rfl E8))
   ((repeat' (conv=>whnf);first|(refine Br.mk ?_ ?_<;>intro hb<;>(try (exact absurd rfl hb)))|(refine A7 ?_ fun h1 hs=>F5 W.ok W.base hs rfl hsh)|fail);all_goals try conv=>whnf)
   exact⟨fun h' hs=>⟨[],wx,m,none,0,0,[],r4.symm,⟨r0,r1,by simp only [List.length_nil];omega⟩,trivial,rfl,HS.back W.later hs (hs.again [900,901] hre) hre.blks (fun e he=>.inl (G9 he)),⟨Sl.nil _ _ _,fun h=>absurd h (Nat.lt_irrefl 0)⟩,fun a h=>absurd h (Nat.lt_irrefl 0),L3.nil⟩⟩
  ·rw [if_neg hsh] at r4
   ((repeat' (conv=>whnf);first|(refine VC.mk (by (first|omega|(and_intros<;>first|omega|rfl|(simp only [maxLen];omega)|(simp only [lL];omega)))) ?_)|(refine Br.mk ?_ ?_<;>intro hb<;>(try replace hb:=nN hb)<;>(try exact absurd hb (by decide))<;>(try (contradiction)))|(refine E5.mk ?_;intro b hb)|(refine aH.mk ?_;intro b c hb hbc)|(refine SR.same ?_)|(refine A7 ?_ fun h1 hs=>E0 W.ok W.base hs rfl)|(refine CK.oneQ (o:=some nx) (bx:=bx) [] W hone (by simp [cP,S6,List.map_append,A0]) ⟨rfl,rfl,rfl,rfl,trivial⟩ (by repeat constructor) (fun _=>rfl) (fun y hy=>?_) (fun x w' m' bq h' hy hm1 hm2 W=>?_);rotate_left)|(refine CK.want W (by assumption) (by omega) rfl rfl (fun hx=>?_) (fun hx hm=>?_);rotate_left)|fail);all_goals try conv=>whnf)
   all_goals first
    |(rw [←r4,hy];rfl)
    |(rw [←r4,hy,E2,if_neg (by assumption),want,if_neg hx];rfl)
    | (intro h hs
       rw [hy,E2,if_neg (by assumption),want,if_pos hx,E2] at r4
       refine⟨f,⟨h,w',m'+1,some (b,c),[some ⟨bq,0,none⟩],[x]⟩,⟨(((W.more (ps:=[]) (l:=[]) (by repeat constructor) (by repeat constructor)).anew (hs.lB.less (F3.blks (ks:=[900,901,23]) (L:=(G5 I M br t (m'+1)++eR (some nx) w')++[(23,b,.arr 63 E1 ([some ⟨bq,0,none⟩]) c)]) (B4 rfl rfl (B4 rfl rfl (F9 rfl (SC.arr (by simp)) rfl E8))))))).of (fun e he=>?_),⟨by dsimp only;omega,by dsimp only;omega,by dsimp only;simp only [lC2];omega,by dsimp only;omega⟩,r4,fun e=>(by cases e),by simp [r6],fun b0 c0 e=>by cases e;simpa using hbc⟩,Nat.lt_succ_self f,?_,hs.again [900,901,23] (B4 rfl rfl (B4 rfl rfl (F9 rfl (SC.arr (by simp)) rfl E8)))⟩
       ·simp only [mL,or_false] at he ⊢
        rcases he with rfl|rfl
        ·exact .inl rfl
        ·simp
       ·refine And.intro ⟨_,rfl,by first|rfl|(simp [B0,A1,A0,T7];done)|(simp [B0,A1,A0,T7];omega)⟩ ?_
        (repeat (refine And.intro ⟨_,rfl,rfl⟩ ?_));exact trivial)
    | (intro h hs
       rw [hy,E2,if_pos hb] at r4
       refine⟨f,⟨h,w',m',some (b,c),[some ⟨bq,0,none⟩],[x]⟩,⟨(((W.more (ps:=[]) (l:=[]) (by repeat constructor) (by repeat constructor)).anew (hs.lB.less (F3.blks (ks:=[900,901,23]) (L:=(G5 I M br t (m')++eR (some nx) w')++[(23,b,.arr 63 E1 ([some ⟨bq,0,none⟩]) c)]) (B4 rfl rfl (B4 rfl rfl (F9 rfl (SC.arr (by simp)) rfl E8))))))).of (fun e he=>?_),⟨by dsimp only;omega,by dsimp only;omega,by dsimp only;simp only [lC2];omega,by dsimp only;omega⟩,r4,fun e=>(by cases e),by simp [r6],fun b0 c0 e=>by cases e;simpa using hbc⟩,Nat.lt_succ_self f,?_,hs.again [900,901,23] (B4 rfl rfl (B4 rfl rfl (F9 rfl (SC.arr (by simp)) rfl E8)))⟩
       ·simp only [mL,or_false] at he ⊢
        rcases he with rfl|rfl
        ·exact .inl rfl
        ·simp
       ·refine And.intro ⟨_,rfl,by first|rfl|(simp [B0,A1,A0,T7];done)|(simp [B0,A1,A0,T7];omega)⟩ ?_
        (repeat (refine And.intro ⟨_,rfl,rfl⟩ ?_));exact trivial)
 ·have hcp:=r7 _ _ rfl
  by_cases hsh:word I m=shut
  ·rw [if_pos hsh] at r4
   have hre:F3 ((G5 I M br t m++eR (some nx) wx)++dE ⟨hx0,wx,m,some (b2,c2),ps,l⟩) [900,901] (G5 I M br t m++eR (some nx) wx):=(B4 rfl rfl (B4 rfl rfl E8))
   ((repeat' (conv=>whnf);first|(refine Br.mk ?_ ?_<;>intro hb<;>(try (exact absurd rfl hb)))|(refine A7 ?_ fun h1 hs=>F5 W.ok W.base hs rfl hsh)|fail);all_goals try conv=>whnf)
   refine⟨fun h' hs=>⟨l,wx,m,some ⟨b2,0,none⟩,ps.length,c2,ps,r4.symm,⟨by omega,r1,by omega⟩,(W.its _ List.mem_cons_self).2,rfl,HS.back W.later hs (hs.again [900,901] hre) hre.blks (fun e he=>.inl (G9 he)),⟨?_,fun h0 a e=>?_⟩,fun a h0 e=>?_,?_⟩⟩
   ·have:=hs.sl (k:=23) rfl (Nat.le_refl ps.length)
    rw [List.take_length] at this
    exact this
   ·cases e
    refine⟨(hs.chunk _ (fM (k:=23) (b:=b2) (c:=.arr 63 E1 ps c2) rfl)).1,fun hm=>?_⟩
    simp only [nO,List.mem_cons,List.not_mem_nil,or_false] at hm
    rcases hm with hm|hm
    ·exact hs.ne (k:=23) (k':=900) rfl rfl (by decide) hm
    ·exact hs.ne (k:=23) (k':=901) rfl rfl (by decide) hm
   ·cases e
    exact W.lo_own hs (k:=23) rfl (fun hm=>by
     simp only [nO,List.mem_cons,List.not_mem_nil,or_false] at hm
     rcases hm with hm|hm
     ·exact hs.ne (k:=23) (k':=900) rfl rfl (by decide) hm
     ·exact hs.ne (k:=23) (k':=901) rfl rfl (by decide) hm)
   ·exact L3.later (hs.lB.less (fun x hx=>hre.blks x hx)) (Nat.le_refl _) l (W.its _ List.mem_cons_self).1
  ·rw [if_neg hsh] at r4
   ((repeat' (conv=>whnf);first|(refine VC.mk (by (first|omega|(and_intros<;>first|omega|rfl|(simp only [maxLen];omega)|(simp only [lL];omega)))) ?_)|(refine Br.mk ?_ ?_<;>intro hb<;>(try replace hb:=nN hb)<;>(try exact absurd hb (by decide))<;>(try (contradiction)))|(refine E5.mk ?_;intro b hb)|(refine X0.mk ?_;intro b c hb hbc)|(refine SR.same ?_)|(refine A7 ?_ fun h1 hs=>E0 W.ok W.base hs rfl)|(refine CK.oneQ (o:=some nx) (bx:=bx) [(23,b2,.arr 63 E1 ps c2)] W hone (by simp [cP,S6,List.map_append,A0]) ⟨rfl,rfl,rfl,rfl,rfl,rfl,trivial⟩ (by repeat constructor) (fun _=>rfl) (fun y hy=>?_) (fun x w' m' bq h' hy hm1 hm2 W=>?_);rotate_left)|(refine CK.want W (by assumption) (by omega) rfl rfl (fun hx=>?_) (fun hx hm=>?_);rotate_left)|fail);all_goals try conv=>whnf)
   all_goals first
    |(rw [←r4,hy];rfl)
    |(rw [←r4,hy,E2,if_neg (by assumption),want,if_neg hx];rfl)
    | (intro h hs
       rw [hy,E2,if_neg (by assumption),want,if_pos hx,E2] at r4
       refine⟨f,⟨h,w',m'+1,some (b,c),ps++[some ⟨bq,0,none⟩],l++[x]⟩,⟨(((W.more (ps:=ps) (l:=l) (by repeat constructor) (by repeat constructor)).anew (hs.lB.less (F3.blks (ks:=[900,901,23]) (L:=(G5 I M br t (m'+1)++eR (some nx) w')++[(23,b,.arr 63 E1 (ps++[some ⟨bq,0,none⟩]) c)]) (B4 rfl rfl (B4 rfl rfl (F9 rfl (SC.arr (by simp)) rfl E8))))))).of (fun e he=>?_),⟨by dsimp only;omega,by dsimp only;omega,by dsimp only;simp only [lC2];omega,by dsimp only;omega⟩,r4,fun e=>(by cases e),by simp [r6],fun b0 c0 e=>by cases e;simpa using hbc⟩,Nat.lt_succ_self f,?_,hs.again [900,901,23] (B4 rfl rfl (B4 rfl rfl (F9 rfl (SC.arr (by simp)) rfl E8)))⟩
       ·simp only [mL,or_false] at he ⊢
        rcases he with rfl|rfl
        ·exact .inl rfl
        ·simp
       ·refine And.intro ⟨_,rfl,by first|rfl|(simp [B0,A1,A0,T7];done)|(simp [B0,A1,A0,T7];omega)⟩ ?_
        (repeat (refine And.intro ⟨_,rfl,rfl⟩ ?_));exact trivial)
    | (intro h hs
       rw [hy,E2,if_pos hb] at r4
       refine⟨f,⟨h,w',m',some (b,c),ps++[some ⟨bq,0,none⟩],l++[x]⟩,⟨(((W.more (ps:=ps) (l:=l) (by repeat constructor) (by repeat constructor)).anew (hs.lB.less (F3.blks (ks:=[900,901,23]) (L:=(G5 I M br t (m')++eR (some nx) w')++[(23,b,.arr 63 E1 (ps++[some ⟨bq,0,none⟩]) c)]) (B4 rfl rfl (B4 rfl rfl (F9 rfl (SC.arr (by simp)) rfl E8))))))).of (fun e he=>?_),⟨by dsimp only;omega,by dsimp only;omega,by dsimp only;simp only [lC2];omega,by dsimp only;omega⟩,r4,fun e=>(by cases e),by simp [r6],fun b0 c0 e=>by cases e;simpa using hbc⟩,Nat.lt_succ_self f,?_,hs.again [900,901,23] (B4 rfl rfl (B4 rfl rfl (F9 rfl (SC.arr (by simp)) rfl E8)))⟩
       ·simp only [mL,or_false] at he ⊢
        rcases he with rfl|rfl
        ·exact .inl rfl
        ·simp
       ·refine And.intro ⟨_,rfl,by first|rfl|(simp [B0,A1,A0,T7];done)|(simp [B0,A1,A0,T7];omega)⟩ ?_
        (repeat (refine And.intro ⟨_,rfl,rfl⟩ ?_));exact trivial)
end
end Go.Ex
namespace Go.Ex
open Go.Proofs
attribute [local irreducible] CH H0
def dB(s:ByteArray):Nat→List M7→Int→List M7×Int×Int
 |0,acc,a=>([],4,a)
 |f+1,acc,a=>if s.size≤a then (acc,0,0) else if (H0 s a).1=0 then ([],4,a) else dB s f (acc++[⟨(H0 s a).1,a,(H0 s a).2⟩]) (H0 s a).2
def V5(s:ByteArray):List M7×Int×Int:=if (65536:Int)<s.size then ([],2,0) else if 0≤W1 s then ([],3,W1 s) else dB s (s.size+1) [] 0
def DQ{τ:Type}(R:Y7 τ)(T:Nat)(h:A3)(r:List τ×Int×Int)(v:Value)(h':A3):Prop:=
 ∃ A n c,v = .tuple #[.slice A n c,.agg #[.int .i64 r.2.1,.int .i64 r.2.2]]∧A5 h h'∧S8 R T h h' (.slice A n c) r.1
structure BG where
 L:List M7
 a:Int
 o:Option (Nat×Nat)
def AZ(x:BG):KV:=match x.o with
 |none=>.val (.slice none 0 0)
 |some (b,c)=>.osl 50 b x.L.length c
def EP(x:BG):L8:=match x.o with
 |none=>[]
 |some (b,c)=>[(50,b,.arr 40 C4 x.L c)]
theorem Hy(s:ByteArray)(h:A3)(ht:D2 h)(hz:s.size≤140737488355328):CH Tryz.prog 11 #[.string s] h (DQ C4 40 h (V5 s)):=by
 refine Q0 1 [0,2,3,4,5,6,7,8,11,16,22,30] [] [.val (.string s)] Tryz.func11 rfl ?_
 obtain⟨R,hR⟩:∃ R,V5 s=R:=⟨_,rfl⟩
 rw [hR]
 unfold V5 at hR
 have c1:=fun h1 (ht:D2 h1)=>Dq s h1 ht (by omega)
 generalize W1 s=cl at hR c1
 ((repeat' (conv=>whnf);first|(refine VC.mk (by omega) ?_)|(refine Br.mk ?_ ?_<;>intro hb)|(refine E5.mk ?_;intro b hb)|(refine A7 ?_ fun h1 hs=>c1 h1 (ht.at hs))|fail);all_goals try conv=>whnf)
 all_goals first
  |((repeat (first|rw [if_pos (by assumption)] at hR|rw [if_pos (by omega)] at hR|rw [if_neg (by assumption)] at hR));subst hR;exact⟨fun h' hs=>⟨none,0,0,rfl,hs.grows,S8.nil⟩⟩)
  |skip
 rw [if_neg (by assumption),if_neg (by assumption)] at hR
 refine gG tO [5,6] (fun x:BG=>[(5,AZ x),(6,.val (.int .i64 x.a))]) (fun x=>⟨h,[],(3,b,.box 28 [.val (.int .i64 0),.val (.int .i64 0)])::EP x⟩) (fun μ x=>dB s μ x.L x.a=R∧(0≤x.a∧x.a≤s.size)∧x.L.length≤x.a∧s.size+1≤x.a+μ∧(x.o=none→x.L=[])∧∀ b c,x.o=some (b,c)→x.L.length≤c) ?_
 conv=>whnf
 refine⟨fun h1 hs=>⟨s.size+1,⟨[],0,none⟩,⟨hR,⟨by dsimp only;omega,by dsimp only;omega⟩,by dsimp only [List.length_nil];omega,by dsimp only;omega,fun _=>rfl,fun b c e=>by cases e⟩,?_,hs.ren [3] (F9 rfl (SC.box rfl) rfl E8)⟩,?_⟩
 ·refine And.intro ⟨_,rfl,by first|rfl|(simp [B0,A1,A0,AZ];done)|(simp [B0,A1,A0,AZ];omega)⟩ ?_
  (repeat (refine And.intro ⟨_,rfl,rfl⟩ ?_));exact trivial
 clear hR
 rintro μ ⟨L,a,o⟩ ⟨t1,t2,t3,t4,t5,t6⟩
 dsimp only at t1 t2 t3 t4 t5 t6 ⊢
 obtain⟨f,rfl⟩:∃ f,μ=f+1:=⟨μ-1,by omega⟩
 simp only [dB] at t1
 by_cases ha:a<s.size
 ·rw [if_neg (by omega)] at t1
  have hr:=mA s a ⟨t2.1,ha⟩
  have c2:=fun h1 (ht:D2 h1)=>Lo s a h1 ht (by omega) ⟨t2.1,ha⟩
  unfold Nz at c2
  generalize H0 s a=k at c2 t1 hr
  obtain⟨k1,k2⟩:=k
  dsimp only at c2 t1 hr
  by_cases hk:k1=0
  ·subst hk
   simp only [if_true] at c2 t1
   rcases o with _|⟨b2,c2'⟩
   ·((repeat' (conv=>whnf);first|(refine VC.mk (by omega) ?_)|(refine Br.mk ?_ ?_<;>intro hb<;>(try omega))|(refine E5.mk ?_;intro b hb)|(refine A7 ?_ fun h1 hs=>c2 h1 (ht.at hs))|fail);all_goals try conv=>whnf)
    all_goals first
     |(subst t1;exact⟨fun h' hs=>⟨none,0,0,rfl,hs.grows,S8.nil⟩⟩)
   ·((repeat' (conv=>whnf);first|(refine VC.mk (by omega) ?_)|(refine Br.mk ?_ ?_<;>intro hb<;>(try omega))|(refine E5.mk ?_;intro b hb)|(refine A7 ?_ fun h1 hs=>c2 h1 (ht.at hs))|fail);all_goals try conv=>whnf)
    all_goals first
     |(subst t1;exact⟨fun h' hs=>⟨none,0,0,rfl,hs.grows,S8.nil⟩⟩)
  ·replace hr:=hr hk
   rw [if_neg hk] at t1
   simp only [if_neg hk] at c2
   rcases o with _|⟨b2,c2'⟩
   ·have t5:=t5 rfl
    subst t5
    ((repeat' (conv=>whnf);first|(refine VC.mk (by (first|omega|(and_intros<;>first|omega|rfl|(simp only [maxLen];omega)|(simp only [lL];omega)))) ?_)|(refine Br.mk ?_ ?_<;>intro hb<;>(try (first|omega|contradiction)))|(refine E5.mk ?_;intro b hb)|(refine aH.mk ?_;intro b c hb hbc)|(refine SR.same ?_)|(refine A7 ?_ fun h1 hs=>c2 h1 (ht.at hs))|fail);all_goals try conv=>whnf)
    all_goals first
     | (intro h2 hs
        refine⟨f,⟨[]++[⟨k1,a,k2⟩],k2,some (_,_)⟩,⟨t1,⟨by dsimp only;omega,by dsimp only;omega⟩,by dsimp only;rw [List.length_append,List.length_singleton];omega,by dsimp only;omega,fun e=>(by cases e),fun b0 c0 e=>by cases e;simpa using hbc⟩,Nat.lt_succ_self f,?_,hs.ren [3,37] (B4 rfl rfl (F9 rfl (SC.arr (by simp)) rfl E8))⟩
        refine And.intro ⟨_,rfl,by first|rfl|(simp [B0,A1,A0,AZ];done)|(simp [B0,A1,A0,AZ];omega)⟩ ?_
        (repeat (refine And.intro ⟨_,rfl,rfl⟩ ?_));exact trivial)
   ·have t6:=t6 _ _ rfl
    ((repeat' (conv=>whnf);first|(refine VC.mk (by (first|omega|(and_intros<;>first|omega|rfl|(simp only [maxLen];omega)|(simp only [lL];omega)))) ?_)|(refine Br.mk ?_ ?_<;>intro hb<;>(try omega))|(refine E5.mk ?_;intro b hb)|(refine X0.mk ?_;intro b c hb hbc)|(refine SR.same ?_)|(refine A7 ?_ fun h1 hs=>c2 h1 (ht.at hs))|fail);all_goals try conv=>whnf)
    all_goals first
     | (intro h2 hs
        refine⟨f,⟨L++[⟨k1,a,k2⟩],k2,some (_,_)⟩,⟨t1,⟨by dsimp only;omega,by dsimp only;omega⟩,by dsimp only;rw [List.length_append,List.length_singleton];omega,by dsimp only;omega,fun e=>(by cases e),fun b0 c0 e=>by cases e;simpa using hbc⟩,Nat.lt_succ_self f,?_,hs.ren [3,37] (B4 rfl rfl (F9 rfl (SC.arr (by simp)) rfl E8))⟩
        refine And.intro ⟨_,rfl,by first|rfl|(simp [B0,A1,A0,AZ];done)|(simp [B0,A1,A0,AZ];omega)⟩ ?_
        (repeat (refine And.intro ⟨_,rfl,rfl⟩ ?_));exact trivial)
 ·rw [if_pos (by omega)] at t1
  rcases o with _|⟨b2,c2'⟩
  ·have t5:=t5 rfl
   subst t5
   ((repeat' (conv=>whnf);first|(refine VC.mk (by omega) ?_)|(refine Br.mk ?_ ?_<;>intro hb<;>(try omega))|fail);all_goals try conv=>whnf)
   all_goals (subst t1;exact⟨fun h' hs=>⟨none,0,0,rfl,hs.grows,S8.nil⟩⟩)
  ·((repeat' (conv=>whnf);first|(refine VC.mk (by omega) ?_)|(refine Br.mk ?_ ?_<;>intro hb<;>(try omega))|fail);all_goals try conv=>whnf)
   all_goals (subst t1;exact⟨fun h' hs=>⟨some ⟨b2,0,none⟩,_,c2',rfl,hs.grows,hs.own (k:=50) rfl rfl⟩⟩)
end Go.Ex
namespace Go.Ex
open Go.Proofs
attribute [local irreducible] CH H0 V5
theorem BX:Tryz.prog.stoodInHeld 28=false:=by kernel_rfl
theorem Zy:Tryz.prog.eqGuardType Tryz.prog.depth 28=false:=by kernel_rfl
theorem Uy : Tryz.prog.fieldsOf 28 = #[{ name := "Err", type := 26, offset := 0, embedded := false, tag := "", pkgPath := "", byteOffset := 0 },
 { name := "At", type := 3, offset := 1, embedded := false, tag := "", pkgPath := "", byteOffset := 8 }] := by kernel_rfl
theorem CI(f1 t1 f2 t2:Int)(w:World):(Op.equalIn 10000 28 (.agg #[.int .i64 f1,.int .i64 t1]) (.agg #[.int .i64 f2,.int .i64 t2])).run Tryz.prog w
 = .ok (@decide (f1=f2∧t1=t2) (Classical.propDecidable _)) w:=by
 have h1:Tryz.prog.underlying 28=some (.struct (Tryz.prog.fieldsOf 28)):=by rw [Uy];exact Tryz.underlying28
 have h3:=Tryz.underlying3
 have h26:=Tryz.underlying26
 rw [run_equalIn_agg _ _ _ _ _ h1 BX,Uy,oE]
 simp [Op.eqFields,part,isAgg,underlying,h3,h26,run_equalIn_int]
 by_cases a:f1=f2<;>by_cases b:t1=t2<;>simp [a,b]
theorem AK{f1 t1 f2 t2:Int}{κ:KV→Prop}(h:κ (.prop (f1=f2∧t1=t2))) :
 Ij Tryz.prog .eql 28 (.agg [.val (.int .i64 f1),.val (.int .i64 t1)]) (.agg [.val (.int .i64 f2),.val (.int .i64 t2)]) κ:=⟨_,fun u v w=>by
 show (do eqGuard .eql 28 u v (.agg #[.int .i64 f1,.int .i64 t1]) (.agg #[.int .i64 f2,.int .i64 t2]);binOp .eql 28 (.agg #[.int .i64 f1,.int .i64 t1]) (.agg #[.int .i64 f2,.int .i64 t2]):Sem Value).run Tryz.prog w = _
 simp only [Sem.run_bind,run_eqGuard_agg _ _ _ _ _ _ _ Zy,Result.andThen_ok,run_eql_struct,CI]
 rfl,h⟩
theorem kQ{f1 t1 f2 t2:Int}{κ:KV→Prop}(h:κ (.prop (¬ (f1=f2∧t1=t2)))) :
 Ij Tryz.prog .neq 28 (.agg [.val (.int .i64 f1),.val (.int .i64 t1)]) (.agg [.val (.int .i64 f2),.val (.int .i64 t2)]) κ:=⟨_,fun u v w=>by
 show (do eqGuard .neq 28 u v (.agg #[.int .i64 f1,.int .i64 t1]) (.agg #[.int .i64 f2,.int .i64 t2]);binOp .neq 28 (.agg #[.int .i64 f1,.int .i64 t1]) (.agg #[.int .i64 f2,.int .i64 t2]):Sem Value).run Tryz.prog w = _
 simp only [Sem.run_bind,run_eqGuard_agg _ _ _ _ _ _ _ Zy,Result.andThen_ok,run_neq_struct,CI]
 simp [A0,oE],h⟩
def aU(k:Int)(t:ByteArray):Prop:=(k=1∨k=3∨k=4∨k=5∨k=6∨k=7)∨(k=2∧(t=(⟨#[98,114,101,97,107]⟩:ByteArray)∨t=(⟨#[99,111,110,116,105,110,117,101]⟩:ByteArray)∨t=(⟨#[102,97,108,108,116,104,114,111,117,103,104]⟩:ByteArray)∨t=(⟨#[114,101,116,117,114,110]⟩:ByteArray)))∨(k=8∧(t=(⟨#[43,43]⟩:ByteArray)∨t=(⟨#[45,45]⟩:ByteArray)∨t=(⟨#[41]⟩:ByteArray)∨t=(⟨#[93]⟩:ByteArray)∨t=(⟨#[125]⟩:ByteArray)))
instance (k:Int) (t:ByteArray):Decidable (aU k t):=by unfold aU;exact inferInstance
theorem Nu(k:Int)(t:ByteArray)(h:A3):CH Tryz.prog 35 #[.int .u8 k,.string t] h fun v h'=>v=A0 (.prop (aU k t))∧A5 h h':=by
 refine Q0 1 [0,1,4,5,6,13,29] [] [.val (.int .u8 k),.val (.string t)] Tryz.func35 rfl ?_
 ((repeat' (conv=>whnf);first|(refine Br.mk ?_ ?_<;>intro hb<;>(try omega))|fail);all_goals try conv=>whnf)
 all_goals first
  |exact⟨fun h' hs=>⟨by simp [B0,A1,A0,aU, *],hs.grows⟩⟩
def gT(k:Int):Prop:=k=10∨k=11∨k=12
instance (k:Int):Decidable (gT k):=by unfold gT;exact inferInstance
theorem Lg(t:M7)(h:A3):CH Tryz.prog 32 #[.agg ⟨C4.cells t⟩] h fun v h'=>v=A0 (.prop (gT t.kind))∧A5 h h':=by
 refine Q0 1 [1,2] [] [.agg [.val (.int .u8 t.kind),.val (.int .i64 t.frm),.val (.int .i64 t.to)]] Tryz.func32 rfl ?_
 ((repeat' (conv=>whnf);first|(refine VC.mk (by omega) ?_)|(refine Br.mk ?_ ?_<;>intro hb)|(refine E5.mk ?_;intro b hb)|fail);all_goals try conv=>whnf)
 all_goals first
  |exact⟨fun h' hs=>⟨by simp [B0,A1,A0,gT, *],hs.grows⟩⟩
end Go.Ex
