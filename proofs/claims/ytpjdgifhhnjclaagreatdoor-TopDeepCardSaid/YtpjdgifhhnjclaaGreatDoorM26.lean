/-
  Top: TopDeep: whatever the input, the law answers true (part 26)
-/
import Derived.Test.YtpjdgifhhnjclaaGreatDoorM25
set_option linter.unusedVariables false
set_option linter.unusedSimpArgs false
set_option maxHeartbeats 4000000
set_option maxRecDepth 10000
namespace Go.Ex
open Go.Proofs
attribute [local irreducible] CH CsP word kindT
structure Nx where
 bn:Nat
 k:Int
 f:Int
 to:Int
 l:KV
def qch(o:Option Nx)(w:Int):Chs:=match o with
 |none=>[]
 |some x=>[(901,x.bn,nodeB x.k w x.f x.to x.l)]
def qbs(o:Option Nx):List Nat:=match o with
 |none=>[]
 |some x=>[x.bn]
def BxOk(bx:List (Nat×Chunk))(h:Heap)(cap:List Nat):Prop:=∀ e∈bx,e.1<h.size∧e.1∉cap∧ChunkAt h e.1 e.2
def ConQ(I:In)(M:Loc)(br:Nat)(f:Nat)(av:List Value)(o:Option Nx)(bx:List (Nat×Chunk))(one:Int→Int→Out (Nd×Int))(t:Bool)(w n:Int):Prop:=
 ∀ hE,HS ⟨hE,br::qbs o,rdC I M br t n++qch o w⟩ hE→Base I M hE (br::qbs o)→BxOk bx hE (br::qbs o)→CsP Tryz.prog (ErrE I M br (br::qbs o) hE (one w n)) f av.toArray hE fun v h'=>
  ∃ x w' n' p,one w n = .ok (x,w') n'∧(n+1≤n'∧n'≤I.L)∧Wf x∧v = .pointer p∧HS ⟨hE,br::qbs o,rdC I M br t n'++qch o w'⟩ h'∧TrI hE.size h' (br::qbs o) p x
def ConR(I:In)(M:Loc)(br:Nat)(f:Nat)(av:List Value)(o:Option Nx)(bx:List (Nat×Chunk))(r:Out (List Nd×Int))(t:Bool)(w n:Int):Prop:=
 ∀ hE,HS ⟨hE,br::qbs o,rdC I M br t n++qch o w⟩ hE→Base I M hE (br::qbs o)→BxOk bx hE (br::qbs o)→CsP Tryz.prog (ErrE I M br (br::qbs o) hE r) f av.toArray hE fun v h'=>
  ∃ l w' n' A len c ps,r = .ok (l,w') n'∧(n+1≤n'∧n'≤I.L∧(l.length:Int)≤n'-n)∧WfL l∧v = .slice A len c∧HS ⟨hE,br::qbs o,rdC I M br t n'++qch o w'⟩ h'∧Held ptrR h' (br::qbs o) A len ps∧(∀ a,0<len→A=some a→hE.size≤a.block)∧TsI hE.size h' (br::qbs o) ps l
theorem HS.again{S:St}{h:Heap}(hs:HS S h)(ks:List Nat){L:Chs}(hL:RenC S.ch ks L):HS ⟨h,blks L,L⟩ h:=by
 have h1:=hs.ren ks hL
 exact⟨Nat.le_refl _,fun _ _ _=>rfl,fun e he=>⟨(h1.chunk e he).1,.inr (blks_mem he),(h1.chunk e he).2.2⟩,h1.apart⟩
theorem RenC.blks{ch:Chs}{ks:List Nat}{L:Chs}(hL:RenC ch ks L):∀ x∈Go.Ex.blks L,x∈Go.Ex.blks ch:=fun x hx=>by
 obtain⟨e,he,rfl⟩:=bsp hx
 obtain⟨k,c0,_,h1,_⟩:=hL.mem e he
 exact blks_mem (e:=(k,e.2.1,c0)) h1
theorem Wd.more{I:In}{M:Loc}{cE:List Nat}{hE h0:Heap}{cap:List Nat}{its:List It}(W:Wd I M cE hE h0 cap its){p:Option Addr}{x:Nd}{ps:List (Option Addr)}{l:List Nd}(h1:It.many ps l∈its)(h2:It.one p x∈its):Wd I M cE hE h0 cap (.many (ps++[p]) (l++[x])::its):=
 W.add ⟨TsI.append (W.its _ h1).1 (TsI.cons (W.its _ h2).1 TsI.nil),(W.its _ h1).2.append ⟨(W.its _ h2).2,trivial⟩⟩
section
variable {I:In}{M:Loc}{br:Nat}{cE:List Nat}{hE:Heap}{its:List It}{S:St}{t:Bool}{n:Int}{α:Type}{oC:Out α}{args caps:List KV}{κ:KV→St→Prop}{E:Value→Heap→Prop}
theorem Wd.again(W:Wd I M cE hE S.h0 S.cap its){h:Heap}(hs:HS S h)(ks:List Nat){L:Chs}(hL:RenC S.ch ks L):Wd I M cE hE h (blks L) its:=W.anew (hs.lB.less hL.blks)
theorem CK.oneQ{f:Nat}{o:Option Nx}{bx:List (Nat×Chunk)}{one:Int→Int→Out (Nd×Int)}{w:Int}{av:List Value}(r:Chs)(W:Wd I M (br::qbs o) hE S.h0 S.cap its)(hcon:ConQ I M br f av o bx one t w n)(ha:args.map den1++caps.map denC=av)(hc:HasC S.ch ((rdC I M br t n++qch o w)++r))(hbx:It.bxs bx∈its)
 (hqb:∀ w,blks (rdC I M br t n++qch o w)=br::qbs o)
 (herr:∀ x,one w n = .err x→oC = .err x)
 (hk:∀ x w' m b h',one w n = .ok (x,w') m→n+1≤m→m≤I.L→Wd I M (br::qbs o) hE h' (blks ((rdC I M br t m++qch o w')++r)) (.one (some ⟨b,0,none⟩) x::its)→κ (.val (.pointer (some ⟨b,0,none⟩))) ⟨h',blks ((rdC I M br t m++qch o w')++r),(rdC I M br t m++qch o w')++r⟩) :
 CK Tryz.prog (ErrE I M br (br::qbs o) hE oC) f args caps S κ:=
 ⟨fun h hs=>.inr (.inr (by
  rw [ha]
  have hp:=hs.part hc
  rw [hqb] at hp
  have hsub:∀ x∈br::qbs o,x∈blks S.ch:=fun x hx=>by
   rw [←hqb w] at hx
   obtain⟨e,he,rfl⟩:=bsp hx
   exact blks_mem (hc.mem e (List.mem_append.2 (.inl he)))
  have lb:=hs.lB.less hsub
  have hbo:BxOk bx h (br::qbs o):=(W.its _ hbx:ItOk hE.size S.h0 S.cap (.bxs bx)) |> fun hi=>ItOk.later (i:=.bxs bx) (lo:=hE.size) lb hi
  refine (hcon h hp (W.base.later lb) hbo).mono (fun v h' he=>he.up W hs hsub List.mem_cons_self herr) fun v h' ⟨x,w',m,p,h1,⟨h2,h3⟩,h4,e5,h6,h7⟩=>?_
  subst e5
  obtain⟨b,rfl⟩:=h7.ptr
  have hp':=hs.part hc
  rw [←hqb w] at h6
  have h9:=hs.join hc h6
  refine⟨_,_,rfl,h9.anew,hk x w' m b h' h1 h2 h3 ((W.anew h9.lB).add ⟨?_,h4⟩)⟩
  refine TrI.recap (fun c hc'=>.inr ?_) (Nat.le_trans W.later.size hs.size) x h7
  have hbl:c∈blks S.ch:=by
   obtain⟨e,he,rfl⟩:=bsp hc'
   rcases List.mem_append.1 he with he|he
   ·have:e.2.1∈blks (rdC I M br t n++qch o w'):=by
     have e1:blks (rdC I M br t m++qch o w')=blks (rdC I M br t n++qch o w'):=rfl
     rw [←e1];exact blks_mem he
    rw [hqb] at this
    exact hsub _ this
   ·exact blks_mem (hc.mem e (List.mem_append.2 (.inr he)))
  exact (hs.blks_of hbl).1))⟩
structure RS where
 h:Heap
 w:Int
 m:Int
 o:Option (Nat×Nat)
 ps:List (Option Addr)
 l:List Nd
def rwK(x:RS):KV:=match x.o with
 |none=>.val (.slice none 0 0)
 |some (b,c)=>.osl 23 b x.ps.length c
def rwC(x:RS):Chs:=match x.o with
 |none=>[]
 |some (b,c)=>[(23,b,.arr 63 ptrR x.ps c)]
theorem rows_none(ok:InOk I)(bx:List (Nat×Chunk))(op mark shut:ByteArray)(h1:¬ op=⟨#[]⟩)(h2:¬ mark=⟨#[]⟩)(fo:Nat)(first cs:List Value)(one:Int→Int→Out (Nd×Int)){w:Int}(hn:0≤n∧n≤I.L)
 (Hone:∀ w m,n+1≤m→m≤I.L→ConQ I M br fo (first++cs) (none) bx one t w m):ConR I M br 150 [ptr br,.string op,.string mark,.string shut,.func (.func fo) ⟨first⟩ ⟨cs⟩] (none) bx (rowsS I op mark shut one w n) t w n:=fun hE hs hB hbx=>by
 refine eP (rep:=rep) (m:=5) (ex:=[10,11,18,27]) (cu:=[]) (args:=[.own 900 br 0,.val (.string op),.val (.string mark),.val (.string shut),.val (.func (.func fo) ⟨first⟩ ⟨cs⟩)]) tO Tryz.func150 rfl (by decide) (rs:=[.tmp 10]) rfl rfl rfl hs ?_
 have W:=(Wd.start ok hB).add (i:=.bxs bx) hbx
 have hl:=ok.len
 have hs0:=hs
 ((repeat' ((conv=>whnf);(first|(refine CK.want W (by assumption) ⟨by omega,by omega⟩ rfl rfl (fun hx=>?_) (fun hx hm=>?_);rotate_left)|fail)));all_goals (try (conv=>whnf)))
 case refine_1=>rw [rowsS,want,if_neg hx];rfl
 obtain⟨R,hR⟩:∃ R,rowsGo I mark shut one (fuel I (n+1)) w [] (n+1)=R:=⟨_,rfl⟩
 have hRS:rowsS I op mark shut one w n=R:=by rw [rowsS,want,if_pos hx];exact hR
 rw [hRS]
 refine lgn tO [11] (fun x:RS=>[(11,rwK x)]) (fun x=>⟨x.h,blks ((rdC I M br t x.m++qch (none) x.w)++rwC x),(rdC I M br t x.m++qch (none) x.w)++rwC x⟩)
  (fun μ x=>Wd I M (br::qbs (none)) hE x.h (blks ((rdC I M br t x.m++qch (none) x.w)++rwC x)) [.many x.ps x.l,.bxs bx]∧(n+1≤x.m∧x.m≤I.L∧(x.l.length:Int)≤x.m-(n+1)∧I.L+1-x.m≤μ)∧rowsGo I mark shut one μ x.w x.l x.m=R∧(x.o=none→x.ps=[])∧x.ps.length=x.l.length∧∀ b c,x.o=some (b,c)→x.ps.length≤c) ?_
 conv=>whnf
 refine⟨fun h hs=>?_,?_⟩
 ·have hr:RenC ((900,br,rdB I M t (n+1))::[].append (qch (none) w)) [900] ((rdC I M br t (n+1)++qch (none) w)++[]):=⟨⟨_,rfl,SC.rfl⟩,rfl,trivial⟩
  refine⟨fuel I (n+1),⟨h,w,n+1,none,[],[]⟩,⟨((W.again hs [900] hr).add (i:=.many [] []) ⟨TsI.nil,trivial⟩).of (fun e he=>?_),⟨by simp,by dsimp only;omega,by simp,by simp only [fuel];omega⟩,hR,fun _=>rfl,rfl,fun b c e=>(by cases e)⟩,?_,hs.again [900] hr⟩
  ·simpa using he
  ·(repeat (refine And.intro ⟨_,rfl,rfl⟩ ?_));exact trivial
 rintro μ ⟨hx0,wx,m,o2,ps,l⟩ ⟨W,⟨r0,r1,r2,r3⟩,r4,r5,r6,r7⟩
 dsimp only at W r0 r1 r2 r3 r4 r5 r6 r7
 obtain⟨f,rfl⟩:∃ f,μ=f+1:=⟨μ-1,by omega⟩
 simp only [rowsGo] at r4
 have hone:=Hone wx m r0 r1
 rcases o2 with _|⟨b2,c2⟩
 ·have e0:=r5 rfl
  subst e0
  have e1:l=[]:=List.eq_nil_of_length_eq_zero (by simpa using r6.symm)
  subst e1
  by_cases hsh:word I m=shut
  ·rw [if_pos hsh] at r4
   have hre:RenC ((rdC I M br t m++qch (none) wx)++rwC ⟨hx0,wx,m,none,[],[]⟩) [900] (rdC I M br t m++qch (none) wx):=⟨⟨_,rfl,SC.rfl⟩,rfl,trivial⟩
   ((repeat' ((conv=>whnf);(first|(refine Br.mk ?_ ?_<;>intro hb<;>(try (exact absurd rfl hb)))|(apply CK.pure;(case hh=>(intro h1 hs;exact next_e W.ok W.base hs rfl hsh)))|fail)));all_goals (try (conv=>whnf)))
   exact⟨fun h' hs=>⟨[],wx,m,none,0,0,[],r4.symm,⟨r0,r1,by simp only [List.length_nil];omega⟩,trivial,rfl,HS.back W.later hs (hs.again [900] hre) hre.blks (fun e he=>.inl (blks_mem he)),⟨Sl.nil _ _ _,fun h=>absurd h (Nat.lt_irrefl 0)⟩,fun a h=>absurd h (Nat.lt_irrefl 0),TsI.nil⟩⟩
  ·rw [if_neg hsh] at r4
   ((repeat' ((conv=>whnf);(first|(refine VC.mk (by (first|omega|(and_intros<;>first|omega|rfl|(simp only [maxLen];omega)|(simp only [List.length_append,List.length_take,List.length_replicate,List.length_cons,List.length_nil];omega)))) ?_)|(refine Br.mk ?_ ?_<;>intro hb<;>(try replace hb:=Classical.not_not.1 hb)<;>(try exact absurd hb (show ¬ (ByteArray.mk _=ByteArray.mk _) from by decide))<;>(try (contradiction)))|(refine New.mk ?_;intro b hb)|(refine New2.mk ?_;intro b c hb hbc)|(refine SR.same ?_)|(apply CK.pure;(case hh=>(intro h1 hs;first|exact next_k W.ok W.base hs rfl)))|(refine CK.oneQ (o:=none) (bx:=bx) [] W hone (by simp [lits_map1,lits_map,List.map_append,denC]) ⟨rfl,rfl,trivial⟩ (by repeat (first|exact List.Mem.head _|apply List.Mem.tail)) (fun _=>rfl) (fun y hy=>?_) (fun x w' m' bq h' hy hm1 hm2 W=>?_);rotate_left)|(refine CK.want W (by assumption) ⟨by omega,by omega⟩ rfl rfl (fun hx=>?_) (fun hx hm=>?_);rotate_left)|fail)));all_goals (try (conv=>whnf)))
   all_goals first
    |(rw [←r4,hy];rfl)
    |(rw [←r4,hy,bnd_ok,if_neg (by assumption),want,if_neg hx];rfl)
    | (intro h hs
       rw [hy,bnd_ok,if_neg (by assumption),want,if_pos hx,bnd_ok] at r4
       refine⟨f,⟨h,w',m'+1,some (b,c),[some ⟨bq,0,none⟩],[x]⟩,⟨(((W.more (ps:=[]) (l:=[]) (by repeat (first|exact List.Mem.head _|apply List.Mem.tail)) (by repeat (first|exact List.Mem.head _|apply List.Mem.tail))).anew (hs.lB.less (RenC.blks (ks:=[900,23]) (L:=(rdC I M br t (m'+1)++qch (none) w')++[(23,b,.arr 63 ptrR ([some ⟨bq,0,none⟩]) c)]) (by show RenC (_::_) (_::_) (_::_);exact⟨⟨_,rfl,SC.rfl⟩,rfl,⟨_,rfl,SC.arr (by simp)⟩,rfl,trivial⟩))))).of (fun e he=>?_),⟨by dsimp only;omega,by dsimp only;omega,by dsimp only;simp only [List.length_append,List.length_cons,List.length_nil];omega,by dsimp only;omega⟩,r4,fun e=>(by cases e),by simp [r6],fun b0 c0 e=>by cases e;simpa using hbc⟩,Nat.lt_succ_self f,?_,hs.again [900,23] (by show RenC (_::_) (_::_) (_::_);exact⟨⟨_,rfl,SC.rfl⟩,rfl,⟨_,rfl,SC.arr (by simp)⟩,rfl,trivial⟩)⟩
       ·simp only [List.mem_cons,List.not_mem_nil,or_false] at he ⊢
        rcases he with rfl|rfl
        ·exact .inl rfl
        ·simp
       ·refine And.intro ⟨_,rfl,by first|rfl|(simp [den,den1,denC,rwK];done)|(simp [den,den1,denC,rwK];omega)⟩ ?_
        (repeat (refine And.intro ⟨_,rfl,rfl⟩ ?_));exact trivial)
    | (intro h hs
       rw [hy,bnd_ok,if_pos hb] at r4
       refine⟨f,⟨h,w',m',some (b,c),[some ⟨bq,0,none⟩],[x]⟩,⟨(((W.more (ps:=[]) (l:=[]) (by repeat (first|exact List.Mem.head _|apply List.Mem.tail)) (by repeat (first|exact List.Mem.head _|apply List.Mem.tail))).anew (hs.lB.less (RenC.blks (ks:=[900,23]) (L:=(rdC I M br t (m')++qch (none) w')++[(23,b,.arr 63 ptrR ([some ⟨bq,0,none⟩]) c)]) (by show RenC (_::_) (_::_) (_::_);exact⟨⟨_,rfl,SC.rfl⟩,rfl,⟨_,rfl,SC.arr (by simp)⟩,rfl,trivial⟩))))).of (fun e he=>?_),⟨by dsimp only;omega,by dsimp only;omega,by dsimp only;simp only [List.length_append,List.length_cons,List.length_nil];omega,by dsimp only;omega⟩,r4,fun e=>(by cases e),by simp [r6],fun b0 c0 e=>by cases e;simpa using hbc⟩,Nat.lt_succ_self f,?_,hs.again [900,23] (by show RenC (_::_) (_::_) (_::_);exact⟨⟨_,rfl,SC.rfl⟩,rfl,⟨_,rfl,SC.arr (by simp)⟩,rfl,trivial⟩)⟩
       ·simp only [List.mem_cons,List.not_mem_nil,or_false] at he ⊢
        rcases he with rfl|rfl
        ·exact .inl rfl
        ·simp
       ·refine And.intro ⟨_,rfl,by first|rfl|(simp [den,den1,denC,rwK];done)|(simp [den,den1,denC,rwK];omega)⟩ ?_
        (repeat (refine And.intro ⟨_,rfl,rfl⟩ ?_));exact trivial)
 ·have hcp:=r7 _ _ rfl
  by_cases hsh:word I m=shut
  ·rw [if_pos hsh] at r4
   have hre:RenC ((rdC I M br t m++qch (none) wx)++rwC ⟨hx0,wx,m,some (b2,c2),ps,l⟩) [900] (rdC I M br t m++qch (none) wx):=⟨⟨_,rfl,SC.rfl⟩,rfl,trivial⟩
   ((repeat' ((conv=>whnf);(first|(refine Br.mk ?_ ?_<;>intro hb<;>(try (exact absurd rfl hb)))|(apply CK.pure;(case hh=>(intro h1 hs;exact next_e W.ok W.base hs rfl hsh)))|fail)));all_goals (try (conv=>whnf)))
   refine⟨fun h' hs=>⟨l,wx,m,some ⟨b2,0,none⟩,ps.length,c2,ps,r4.symm,⟨by omega,r1,by omega⟩,(W.its _ List.mem_cons_self).2,rfl,HS.back W.later hs (hs.again [900] hre) hre.blks (fun e he=>.inl (blks_mem he)),⟨?_,fun h0 a e=>?_⟩,fun a h0 e=>?_,?_⟩⟩
   ·have:=hs.sl (k:=23) rfl (Nat.le_refl ps.length)
    rw [List.take_length] at this
    exact this
   ·cases e
    refine⟨(hs.chunk _ (fM (k:=23) (b:=b2) (c:=.arr 63 ptrR ps c2) rfl)).1,fun hm=>?_⟩
    simp only [qbs,List.mem_cons,List.not_mem_nil,or_false] at hm
    exact hs.ne (k:=23) (k':=900) rfl rfl (by decide) hm
   ·cases e
    exact W.lo_own hs (k:=23) rfl (fun hm=>by
     simp only [qbs,List.mem_cons,List.not_mem_nil,or_false] at hm
     exact hs.ne (k:=23) (k':=900) rfl rfl (by decide) hm)
   ·exact TsI.later (hs.lB.less (fun x hx=>hre.blks x hx)) (Nat.le_refl _) l (W.its _ List.mem_cons_self).1
  ·rw [if_neg hsh] at r4
   ((repeat' ((conv=>whnf);(first|(refine VC.mk (by (first|omega|(and_intros<;>first|omega|rfl|(simp only [maxLen];omega)|(simp only [List.length_append,List.length_take,List.length_replicate,List.length_cons,List.length_nil];omega)))) ?_)|(refine Br.mk ?_ ?_<;>intro hb<;>(try replace hb:=Classical.not_not.1 hb)<;>(try exact absurd hb (show ¬ (ByteArray.mk _=ByteArray.mk _) from by decide))<;>(try (contradiction)))|(refine New.mk ?_;intro b hb)|(refine NewO.mk ?_;intro b c hb hbc)|(refine SR.same ?_)|(apply CK.pure;(case hh=>(intro h1 hs;first|exact next_k W.ok W.base hs rfl)))|(refine CK.oneQ (o:=none) (bx:=bx) [(23,b2,.arr 63 ptrR ps c2)] W hone (by simp [lits_map1,lits_map,List.map_append,denC]) ⟨rfl,rfl,rfl,rfl,trivial⟩ (by repeat (first|exact List.Mem.head _|apply List.Mem.tail)) (fun _=>rfl) (fun y hy=>?_) (fun x w' m' bq h' hy hm1 hm2 W=>?_);rotate_left)|(refine CK.want W (by assumption) ⟨by omega,by omega⟩ rfl rfl (fun hx=>?_) (fun hx hm=>?_);rotate_left)|fail)));all_goals (try (conv=>whnf)))
   all_goals first
    |(rw [←r4,hy];rfl)
    |(rw [←r4,hy,bnd_ok,if_neg (by assumption),want,if_neg hx];rfl)
    | (intro h hs
       rw [hy,bnd_ok,if_neg (by assumption),want,if_pos hx,bnd_ok] at r4
       refine⟨f,⟨h,w',m'+1,some (b,c),ps++[some ⟨bq,0,none⟩],l++[x]⟩,⟨(((W.more (ps:=ps) (l:=l) (by repeat (first|exact List.Mem.head _|apply List.Mem.tail)) (by repeat (first|exact List.Mem.head _|apply List.Mem.tail))).anew (hs.lB.less (RenC.blks (ks:=[900,23]) (L:=(rdC I M br t (m'+1)++qch (none) w')++[(23,b,.arr 63 ptrR (ps++[some ⟨bq,0,none⟩]) c)]) (by show RenC (_::_) (_::_) (_::_);exact⟨⟨_,rfl,SC.rfl⟩,rfl,⟨_,rfl,SC.arr (by simp)⟩,rfl,trivial⟩))))).of (fun e he=>?_),⟨by dsimp only;omega,by dsimp only;omega,by dsimp only;simp only [List.length_append,List.length_cons,List.length_nil];omega,by dsimp only;omega⟩,r4,fun e=>(by cases e),by simp [r6],fun b0 c0 e=>by cases e;simpa using hbc⟩,Nat.lt_succ_self f,?_,hs.again [900,23] (by show RenC (_::_) (_::_) (_::_);exact⟨⟨_,rfl,SC.rfl⟩,rfl,⟨_,rfl,SC.arr (by simp)⟩,rfl,trivial⟩)⟩
       ·simp only [List.mem_cons,List.not_mem_nil,or_false] at he ⊢
        rcases he with rfl|rfl
        ·exact .inl rfl
        ·simp
       ·refine And.intro ⟨_,rfl,by first|rfl|(simp [den,den1,denC,rwK];done)|(simp [den,den1,denC,rwK];omega)⟩ ?_
        (repeat (refine And.intro ⟨_,rfl,rfl⟩ ?_));exact trivial)
    | (intro h hs
       rw [hy,bnd_ok,if_pos hb] at r4
       refine⟨f,⟨h,w',m',some (b,c),ps++[some ⟨bq,0,none⟩],l++[x]⟩,⟨(((W.more (ps:=ps) (l:=l) (by repeat (first|exact List.Mem.head _|apply List.Mem.tail)) (by repeat (first|exact List.Mem.head _|apply List.Mem.tail))).anew (hs.lB.less (RenC.blks (ks:=[900,23]) (L:=(rdC I M br t (m')++qch (none) w')++[(23,b,.arr 63 ptrR (ps++[some ⟨bq,0,none⟩]) c)]) (by show RenC (_::_) (_::_) (_::_);exact⟨⟨_,rfl,SC.rfl⟩,rfl,⟨_,rfl,SC.arr (by simp)⟩,rfl,trivial⟩))))).of (fun e he=>?_),⟨by dsimp only;omega,by dsimp only;omega,by dsimp only;simp only [List.length_append,List.length_cons,List.length_nil];omega,by dsimp only;omega⟩,r4,fun e=>(by cases e),by simp [r6],fun b0 c0 e=>by cases e;simpa using hbc⟩,Nat.lt_succ_self f,?_,hs.again [900,23] (by show RenC (_::_) (_::_) (_::_);exact⟨⟨_,rfl,SC.rfl⟩,rfl,⟨_,rfl,SC.arr (by simp)⟩,rfl,trivial⟩)⟩
       ·simp only [List.mem_cons,List.not_mem_nil,or_false] at he ⊢
        rcases he with rfl|rfl
        ·exact .inl rfl
        ·simp
       ·refine And.intro ⟨_,rfl,by first|rfl|(simp [den,den1,denC,rwK];done)|(simp [den,den1,denC,rwK];omega)⟩ ?_
        (repeat (refine And.intro ⟨_,rfl,rfl⟩ ?_));exact trivial)
theorem rows_node(ok:InOk I)(nx:Nx)(bx:List (Nat×Chunk))(op mark shut:ByteArray)(h1:¬ op=⟨#[]⟩)(h2:¬ mark=⟨#[]⟩)(fo:Nat)(first cs:List Value)(one:Int→Int→Out (Nd×Int)){w:Int}(hn:0≤n∧n≤I.L)
 (Hone:∀ w m,n+1≤m→m≤I.L→ConQ I M br fo (first++cs) (some nx) bx one t w m):ConR I M br 150 [ptr br,.string op,.string mark,.string shut,.func (.func fo) ⟨first⟩ ⟨cs⟩] (some nx) bx (rowsS I op mark shut one w n) t w n:=fun hE hs hB hbx=>by
 refine eP (rep:=rep) (m:=5) (ex:=[10,11,18,27]) (cu:=[]) (args:=[.own 900 br 0,.val (.string op),.val (.string mark),.val (.string shut),.val (.func (.func fo) ⟨first⟩ ⟨cs⟩)]) tO Tryz.func150 rfl (by decide) (rs:=[.tmp 10]) rfl rfl rfl hs ?_
 have W:=(Wd.start ok hB).add (i:=.bxs bx) hbx
 have hl:=ok.len
 have hs0:=hs
 ((repeat' ((conv=>whnf);(first|(refine CK.want W (by assumption) ⟨by omega,by omega⟩ rfl rfl (fun hx=>?_) (fun hx hm=>?_);rotate_left)|fail)));all_goals (try (conv=>whnf)))
 case refine_1=>rw [rowsS,want,if_neg hx];rfl
 obtain⟨R,hR⟩:∃ R,rowsGo I mark shut one (fuel I (n+1)) w [] (n+1)=R:=⟨_,rfl⟩
 have hRS:rowsS I op mark shut one w n=R:=by rw [rowsS,want,if_pos hx];exact hR
 rw [hRS]
 refine lgn tO [11] (fun x:RS=>[(11,rwK x)]) (fun x=>⟨x.h,blks ((rdC I M br t x.m++qch (some nx) x.w)++rwC x),(rdC I M br t x.m++qch (some nx) x.w)++rwC x⟩)
  (fun μ x=>Wd I M (br::qbs (some nx)) hE x.h (blks ((rdC I M br t x.m++qch (some nx) x.w)++rwC x)) [.many x.ps x.l,.bxs bx]∧(n+1≤x.m∧x.m≤I.L∧(x.l.length:Int)≤x.m-(n+1)∧I.L+1-x.m≤μ)∧rowsGo I mark shut one μ x.w x.l x.m=R∧(x.o=none→x.ps=[])∧x.ps.length=x.l.length∧∀ b c,x.o=some (b,c)→x.ps.length≤c) ?_
 conv=>whnf
 refine⟨fun h hs=>?_,?_⟩
 ·have hr:RenC ((900,br,rdB I M t (n+1))::[].append (qch (some nx) w)) [900,901] ((rdC I M br t (n+1)++qch (some nx) w)++[]):=⟨⟨_,rfl,SC.rfl⟩,rfl,⟨_,rfl,SC.rfl⟩,rfl,trivial⟩
  refine⟨fuel I (n+1),⟨h,w,n+1,none,[],[]⟩,⟨((W.again hs [900,901] hr).add (i:=.many [] []) ⟨TsI.nil,trivial⟩).of (fun e he=>?_),⟨by simp,by dsimp only;omega,by simp,by simp only [fuel];omega⟩,hR,fun _=>rfl,rfl,fun b c e=>(by cases e)⟩,?_,hs.again [900,901] hr⟩
  ·simpa using he
  ·(repeat (refine And.intro ⟨_,rfl,rfl⟩ ?_));exact trivial
 rintro μ ⟨hx0,wx,m,o2,ps,l⟩ ⟨W,⟨r0,r1,r2,r3⟩,r4,r5,r6,r7⟩
 dsimp only at W r0 r1 r2 r3 r4 r5 r6 r7
 obtain⟨f,rfl⟩:∃ f,μ=f+1:=⟨μ-1,by omega⟩
 simp only [rowsGo] at r4
 have hone:=Hone wx m r0 r1
 rcases o2 with _|⟨b2,c2⟩
 ·have e0:=r5 rfl
  subst e0
  have e1:l=[]:=List.eq_nil_of_length_eq_zero (by simpa using r6.symm)
  subst e1
  by_cases hsh:word I m=shut
  ·rw [if_pos hsh] at r4
   have hre:RenC ((rdC I M br t m++qch (some nx) wx)++rwC ⟨hx0,wx,m,none,[],[]⟩) [900,901] (rdC I M br t m++qch (some nx) wx):=⟨⟨_,rfl,SC.rfl⟩,rfl,⟨_,rfl,SC.rfl⟩,rfl,trivial⟩
   ((repeat' ((conv=>whnf);(first|(refine Br.mk ?_ ?_<;>intro hb<;>(try (exact absurd rfl hb)))|(apply CK.pure;(case hh=>(intro h1 hs;exact next_e W.ok W.base hs rfl hsh)))|fail)));all_goals (try (conv=>whnf)))
   exact⟨fun h' hs=>⟨[],wx,m,none,0,0,[],r4.symm,⟨r0,r1,by simp only [List.length_nil];omega⟩,trivial,rfl,HS.back W.later hs (hs.again [900,901] hre) hre.blks (fun e he=>.inl (blks_mem he)),⟨Sl.nil _ _ _,fun h=>absurd h (Nat.lt_irrefl 0)⟩,fun a h=>absurd h (Nat.lt_irrefl 0),TsI.nil⟩⟩
  ·rw [if_neg hsh] at r4
   ((repeat' ((conv=>whnf);(first|(refine VC.mk (by (first|omega|(and_intros<;>first|omega|rfl|(simp only [maxLen];omega)|(simp only [List.length_append,List.length_take,List.length_replicate,List.length_cons,List.length_nil];omega)))) ?_)|(refine Br.mk ?_ ?_<;>intro hb<;>(try replace hb:=Classical.not_not.1 hb)<;>(try exact absurd hb (show ¬ (ByteArray.mk _=ByteArray.mk _) from by decide))<;>(try (contradiction)))|(refine New.mk ?_;intro b hb)|(refine New2.mk ?_;intro b c hb hbc)|(refine SR.same ?_)|(apply CK.pure;(case hh=>(intro h1 hs;first|exact next_k W.ok W.base hs rfl)))|(refine CK.oneQ (o:=some nx) (bx:=bx) [] W hone (by simp [lits_map1,lits_map,List.map_append,denC]) ⟨rfl,rfl,rfl,rfl,trivial⟩ (by repeat (first|exact List.Mem.head _|apply List.Mem.tail)) (fun _=>rfl) (fun y hy=>?_) (fun x w' m' bq h' hy hm1 hm2 W=>?_);rotate_left)|(refine CK.want W (by assumption) ⟨by omega,by omega⟩ rfl rfl (fun hx=>?_) (fun hx hm=>?_);rotate_left)|fail)));all_goals (try (conv=>whnf)))
   all_goals first
    |(rw [←r4,hy];rfl)
    |(rw [←r4,hy,bnd_ok,if_neg (by assumption),want,if_neg hx];rfl)
    | (intro h hs
       rw [hy,bnd_ok,if_neg (by assumption),want,if_pos hx,bnd_ok] at r4
       refine⟨f,⟨h,w',m'+1,some (b,c),[some ⟨bq,0,none⟩],[x]⟩,⟨(((W.more (ps:=[]) (l:=[]) (by repeat (first|exact List.Mem.head _|apply List.Mem.tail)) (by repeat (first|exact List.Mem.head _|apply List.Mem.tail))).anew (hs.lB.less (RenC.blks (ks:=[900,901,23]) (L:=(rdC I M br t (m'+1)++qch (some nx) w')++[(23,b,.arr 63 ptrR ([some ⟨bq,0,none⟩]) c)]) (by show RenC (_::_) (_::_) (_::_);exact⟨⟨_,rfl,SC.rfl⟩,rfl,⟨_,rfl,SC.rfl⟩,rfl,⟨_,rfl,SC.arr (by simp)⟩,rfl,trivial⟩))))).of (fun e he=>?_),⟨by dsimp only;omega,by dsimp only;omega,by dsimp only;simp only [List.length_append,List.length_cons,List.length_nil];omega,by dsimp only;omega⟩,r4,fun e=>(by cases e),by simp [r6],fun b0 c0 e=>by cases e;simpa using hbc⟩,Nat.lt_succ_self f,?_,hs.again [900,901,23] (by show RenC (_::_) (_::_) (_::_);exact⟨⟨_,rfl,SC.rfl⟩,rfl,⟨_,rfl,SC.rfl⟩,rfl,⟨_,rfl,SC.arr (by simp)⟩,rfl,trivial⟩)⟩
       ·simp only [List.mem_cons,List.not_mem_nil,or_false] at he ⊢
        rcases he with rfl|rfl
        ·exact .inl rfl
        ·simp
       ·refine And.intro ⟨_,rfl,by first|rfl|(simp [den,den1,denC,rwK];done)|(simp [den,den1,denC,rwK];omega)⟩ ?_
        (repeat (refine And.intro ⟨_,rfl,rfl⟩ ?_));exact trivial)
    | (intro h hs
       rw [hy,bnd_ok,if_pos hb] at r4
       refine⟨f,⟨h,w',m',some (b,c),[some ⟨bq,0,none⟩],[x]⟩,⟨(((W.more (ps:=[]) (l:=[]) (by repeat (first|exact List.Mem.head _|apply List.Mem.tail)) (by repeat (first|exact List.Mem.head _|apply List.Mem.tail))).anew (hs.lB.less (RenC.blks (ks:=[900,901,23]) (L:=(rdC I M br t (m')++qch (some nx) w')++[(23,b,.arr 63 ptrR ([some ⟨bq,0,none⟩]) c)]) (by show RenC (_::_) (_::_) (_::_);exact⟨⟨_,rfl,SC.rfl⟩,rfl,⟨_,rfl,SC.rfl⟩,rfl,⟨_,rfl,SC.arr (by simp)⟩,rfl,trivial⟩))))).of (fun e he=>?_),⟨by dsimp only;omega,by dsimp only;omega,by dsimp only;simp only [List.length_append,List.length_cons,List.length_nil];omega,by dsimp only;omega⟩,r4,fun e=>(by cases e),by simp [r6],fun b0 c0 e=>by cases e;simpa using hbc⟩,Nat.lt_succ_self f,?_,hs.again [900,901,23] (by show RenC (_::_) (_::_) (_::_);exact⟨⟨_,rfl,SC.rfl⟩,rfl,⟨_,rfl,SC.rfl⟩,rfl,⟨_,rfl,SC.arr (by simp)⟩,rfl,trivial⟩)⟩
       ·simp only [List.mem_cons,List.not_mem_nil,or_false] at he ⊢
        rcases he with rfl|rfl
        ·exact .inl rfl
        ·simp
       ·refine And.intro ⟨_,rfl,by first|rfl|(simp [den,den1,denC,rwK];done)|(simp [den,den1,denC,rwK];omega)⟩ ?_
        (repeat (refine And.intro ⟨_,rfl,rfl⟩ ?_));exact trivial)
 ·have hcp:=r7 _ _ rfl
  by_cases hsh:word I m=shut
  ·rw [if_pos hsh] at r4
   have hre:RenC ((rdC I M br t m++qch (some nx) wx)++rwC ⟨hx0,wx,m,some (b2,c2),ps,l⟩) [900,901] (rdC I M br t m++qch (some nx) wx):=⟨⟨_,rfl,SC.rfl⟩,rfl,⟨_,rfl,SC.rfl⟩,rfl,trivial⟩
   ((repeat' ((conv=>whnf);(first|(refine Br.mk ?_ ?_<;>intro hb<;>(try (exact absurd rfl hb)))|(apply CK.pure;(case hh=>(intro h1 hs;exact next_e W.ok W.base hs rfl hsh)))|fail)));all_goals (try (conv=>whnf)))
   refine⟨fun h' hs=>⟨l,wx,m,some ⟨b2,0,none⟩,ps.length,c2,ps,r4.symm,⟨by omega,r1,by omega⟩,(W.its _ List.mem_cons_self).2,rfl,HS.back W.later hs (hs.again [900,901] hre) hre.blks (fun e he=>.inl (blks_mem he)),⟨?_,fun h0 a e=>?_⟩,fun a h0 e=>?_,?_⟩⟩
   ·have:=hs.sl (k:=23) rfl (Nat.le_refl ps.length)
    rw [List.take_length] at this
    exact this
   ·cases e
    refine⟨(hs.chunk _ (fM (k:=23) (b:=b2) (c:=.arr 63 ptrR ps c2) rfl)).1,fun hm=>?_⟩
    simp only [qbs,List.mem_cons,List.not_mem_nil,or_false] at hm
    rcases hm with hm|hm
    ·exact hs.ne (k:=23) (k':=900) rfl rfl (by decide) hm
    ·exact hs.ne (k:=23) (k':=901) rfl rfl (by decide) hm
   ·cases e
    exact W.lo_own hs (k:=23) rfl (fun hm=>by
     simp only [qbs,List.mem_cons,List.not_mem_nil,or_false] at hm
     rcases hm with hm|hm
     ·exact hs.ne (k:=23) (k':=900) rfl rfl (by decide) hm
     ·exact hs.ne (k:=23) (k':=901) rfl rfl (by decide) hm)
   ·exact TsI.later (hs.lB.less (fun x hx=>hre.blks x hx)) (Nat.le_refl _) l (W.its _ List.mem_cons_self).1
  ·rw [if_neg hsh] at r4
   ((repeat' ((conv=>whnf);(first|(refine VC.mk (by (first|omega|(and_intros<;>first|omega|rfl|(simp only [maxLen];omega)|(simp only [List.length_append,List.length_take,List.length_replicate,List.length_cons,List.length_nil];omega)))) ?_)|(refine Br.mk ?_ ?_<;>intro hb<;>(try replace hb:=Classical.not_not.1 hb)<;>(try exact absurd hb (show ¬ (ByteArray.mk _=ByteArray.mk _) from by decide))<;>(try (contradiction)))|(refine New.mk ?_;intro b hb)|(refine NewO.mk ?_;intro b c hb hbc)|(refine SR.same ?_)|(apply CK.pure;(case hh=>(intro h1 hs;first|exact next_k W.ok W.base hs rfl)))|(refine CK.oneQ (o:=some nx) (bx:=bx) [(23,b2,.arr 63 ptrR ps c2)] W hone (by simp [lits_map1,lits_map,List.map_append,denC]) ⟨rfl,rfl,rfl,rfl,rfl,rfl,trivial⟩ (by repeat (first|exact List.Mem.head _|apply List.Mem.tail)) (fun _=>rfl) (fun y hy=>?_) (fun x w' m' bq h' hy hm1 hm2 W=>?_);rotate_left)|(refine CK.want W (by assumption) ⟨by omega,by omega⟩ rfl rfl (fun hx=>?_) (fun hx hm=>?_);rotate_left)|fail)));all_goals (try (conv=>whnf)))
   all_goals first
    |(rw [←r4,hy];rfl)
    |(rw [←r4,hy,bnd_ok,if_neg (by assumption),want,if_neg hx];rfl)
    | (intro h hs
       rw [hy,bnd_ok,if_neg (by assumption),want,if_pos hx,bnd_ok] at r4
       refine⟨f,⟨h,w',m'+1,some (b,c),ps++[some ⟨bq,0,none⟩],l++[x]⟩,⟨(((W.more (ps:=ps) (l:=l) (by repeat (first|exact List.Mem.head _|apply List.Mem.tail)) (by repeat (first|exact List.Mem.head _|apply List.Mem.tail))).anew (hs.lB.less (RenC.blks (ks:=[900,901,23]) (L:=(rdC I M br t (m'+1)++qch (some nx) w')++[(23,b,.arr 63 ptrR (ps++[some ⟨bq,0,none⟩]) c)]) (by show RenC (_::_) (_::_) (_::_);exact⟨⟨_,rfl,SC.rfl⟩,rfl,⟨_,rfl,SC.rfl⟩,rfl,⟨_,rfl,SC.arr (by simp)⟩,rfl,trivial⟩))))).of (fun e he=>?_),⟨by dsimp only;omega,by dsimp only;omega,by dsimp only;simp only [List.length_append,List.length_cons,List.length_nil];omega,by dsimp only;omega⟩,r4,fun e=>(by cases e),by simp [r6],fun b0 c0 e=>by cases e;simpa using hbc⟩,Nat.lt_succ_self f,?_,hs.again [900,901,23] (by show RenC (_::_) (_::_) (_::_);exact⟨⟨_,rfl,SC.rfl⟩,rfl,⟨_,rfl,SC.rfl⟩,rfl,⟨_,rfl,SC.arr (by simp)⟩,rfl,trivial⟩)⟩
       ·simp only [List.mem_cons,List.not_mem_nil,or_false] at he ⊢
        rcases he with rfl|rfl
        ·exact .inl rfl
        ·simp
       ·refine And.intro ⟨_,rfl,by first|rfl|(simp [den,den1,denC,rwK];done)|(simp [den,den1,denC,rwK];omega)⟩ ?_
        (repeat (refine And.intro ⟨_,rfl,rfl⟩ ?_));exact trivial)
    | (intro h hs
       rw [hy,bnd_ok,if_pos hb] at r4
       refine⟨f,⟨h,w',m',some (b,c),ps++[some ⟨bq,0,none⟩],l++[x]⟩,⟨(((W.more (ps:=ps) (l:=l) (by repeat (first|exact List.Mem.head _|apply List.Mem.tail)) (by repeat (first|exact List.Mem.head _|apply List.Mem.tail))).anew (hs.lB.less (RenC.blks (ks:=[900,901,23]) (L:=(rdC I M br t (m')++qch (some nx) w')++[(23,b,.arr 63 ptrR (ps++[some ⟨bq,0,none⟩]) c)]) (by show RenC (_::_) (_::_) (_::_);exact⟨⟨_,rfl,SC.rfl⟩,rfl,⟨_,rfl,SC.rfl⟩,rfl,⟨_,rfl,SC.arr (by simp)⟩,rfl,trivial⟩))))).of (fun e he=>?_),⟨by dsimp only;omega,by dsimp only;omega,by dsimp only;simp only [List.length_append,List.length_cons,List.length_nil];omega,by dsimp only;omega⟩,r4,fun e=>(by cases e),by simp [r6],fun b0 c0 e=>by cases e;simpa using hbc⟩,Nat.lt_succ_self f,?_,hs.again [900,901,23] (by show RenC (_::_) (_::_) (_::_);exact⟨⟨_,rfl,SC.rfl⟩,rfl,⟨_,rfl,SC.rfl⟩,rfl,⟨_,rfl,SC.arr (by simp)⟩,rfl,trivial⟩)⟩
       ·simp only [List.mem_cons,List.not_mem_nil,or_false] at he ⊢
        rcases he with rfl|rfl
        ·exact .inl rfl
        ·simp
       ·refine And.intro ⟨_,rfl,by first|rfl|(simp [den,den1,denC,rwK];done)|(simp [den,den1,denC,rwK];omega)⟩ ?_
        (repeat (refine And.intro ⟨_,rfl,rfl⟩ ?_));exact trivial)
end
end Go.Ex
