/-
  Top: TopDeep: whatever the input, the law answers true (part 20)
-/
import Derived.Lib.TrimU
import Derived.Test.YtpjdgifhhnjclaaGreatDoorM19
set_option linter.unusedVariables false
set_option linter.unusedSimpArgs false
set_option maxHeartbeats 4000000
set_option maxRecDepth 10000
namespace Go.Ex
open Go.Proofs
theorem CK.sumy{P:Program}{E:Value→Heap→Prop}{S:St}{f:Nat}{args caps:List KV}{κ:KV→St→Prop}(Post:KV→Prop)(hh:∀ h,HS S h→CH P f (args.map den1++caps.map denC).toArray h fun u h'=>(∃ kv,den kv=u∧Post kv)∧Grows h h')
 (hk:∀ kv,Post kv→κ kv S):CK P E f args caps S κ:=
 ⟨fun h hs=>.inl (by
  refine⟨(hh h hs).1,fun w hw=>((hh h hs).2 w hw).mono fun e w' ⟨he,u,h1,⟨kv,h2,h3⟩,h4⟩=>⟨he,u,h1,kv,S,h2,hs.later h4,hk kv h3⟩⟩)⟩
attribute [local irreducible] CH
theorem CK.beg{E:Value→Heap→Prop}{S:St}{κ:KV→St→Prop}{s:ByteArray}{a:Int}(ht:TabsH S.h0)(hcap:∀ c∈S.cap,3≤c)(hz:s.size≤1048576){args:List KV}(he:args.map den1=[.string s,.int .i64 a])
 (hk:∀ t,κ (.tup [.val (.int .u8 (begF s a).1),.val (.int .i64 (begF s a).2.1),.val (.string t),.val (.int .i64 (begF s a).2.2)]) S):CK Tryz.prog E 74 args [] S κ:=by
 refine CK.sumy (fun kv=>∃ t,kv = .tup [.val (.int .u8 (begF s a).1),.val (.int .i64 (begF s a).2.1),.val (.string t),.val (.int .i64 (begF s a).2.2)]) (fun h hs=>?_) ?_
 ·rw [show args.map den1++([]:List KV).map denC=args.map den1 by simp,he]
  exact (begun_any s a h (ht.hs hcap hs) hz).mono fun u h' ⟨t,h1,h2⟩=>⟨⟨.tup [.val (.int .u8 (begF s a).1),.val (.int .i64 (begF s a).2.1),.val (.string t),.val (.int .i64 (begF s a).2.2)],h1.symm,t,rfl⟩,h2⟩
 ·rintro kv ⟨t,rfl⟩
  exact hk t
theorem qscan_any(s:ByteArray)(a:Int)(h:Heap)(ht:TabsH h)(hz:s.size≤1048576) :
 CH Tryz.prog 68 #[.string s,.int .i64 a] h fun v h'=>v = .tuple #[.int .u8 (begF s a).1,.int .i64 (begF s a).2.1,.int .i64 (begF s a).2.2]∧Grows h h':=by
 refine enter (rep:=rep) (m:=7) (ex:=[0,1,4,5,6,7,8,10]) (cu:=[]) tO Tryz.func68 rfl (by decide) (rs:=[.tmp 4,.tmp 5,.tmp 6]) rfl rfl [.val (.string s),.val (.int .i64 a)] rfl ?_
 ((repeat' ((conv=>whnf);(first|(refine CK.beg ht (fun c hc=>by cases hc) hz rfl ?_;intro t)|fail)));all_goals (try (conv=>whnf)))
 all_goals exact⟨fun h' hs=>⟨rfl,hs.grows⟩⟩
def ValP(s:ByteArray):Prop:=(begF s 0).2.2=0∧(begF s 0).2.1=s.size
instance (s:ByteArray):Decidable (ValP s):=by unfold ValP;exact inferInstance
theorem qvalue_any(s:ByteArray)(h:Heap)(ht:TabsH h)(hz:s.size≤1048576) :
 CH Tryz.prog 47 #[.string s] h fun v h'=>∃ t,v = .tuple #[.string t,.int .i64 (if ValP s then 0 else 4)]∧Grows h h':=by
 refine enter (rep:=rep) (m:=5) (ex:=[0,2,3,5,6,7,22]) (cu:=[]) tO Tryz.func47 rfl (by decide) (rs:=[.tmp 2,.tmp 3]) rfl rfl [.val (.string s)] rfl ?_
 ((repeat' ((conv=>whnf);(first|(refine Br.mk ?_ ?_<;>intro hb)|(refine CK.beg ht (fun c hc=>by cases hc) hz rfl ?_;intro t)|fail)));all_goals (try (conv=>whnf)))
 all_goals first
  |(rw [if_neg (fun e=>by have e1:=e.1;have e2:=e.2;omega)];exact⟨fun h' hs=>⟨_,rfl,hs.grows⟩⟩)
  |(rw [if_pos ⟨by omega,by omega⟩];exact⟨fun h' hs=>⟨_,rfl,hs.grows⟩⟩)
end Go.Ex
namespace Go.Ex
open Go.Proofs
attribute [local irreducible] CH readF
def DigitP(r:Int):Prop:=(48≤r∧r≤57)∨(1632≤r∧r≤1641)∨(2406≤r∧r≤2415)∨(3664≤r∧r≤3673)∨(65296≤r∧r≤65305)
instance (r:Int):Decidable (DigitP r):=by unfold DigitP;exact inferInstance
theorem digit_any(r:Int)(h:Heap):CH Tryz.prog 73 #[.int .i32 r] h fun v h'=>v=denC (.prop (DigitP r))∧Grows h h':=by
 refine enter (rep:=rep) (m:=1) (ex:=[2,4,5,6,7,17]) (cu:=[]) tO Tryz.func73 rfl (by decide) (rs:=[.tmp 2]) rfl rfl [.val (.int .i32 r)] rfl ?_
 (try (conv=>whnf))
 refine loop_rule tO [6] (fun x:Nat=>[(6,.val (.int .i64 (x:Int)))]) (fun _=>[]) (fun μ x=>x≤5∧5-x≤μ∧(1≤x→¬ (48≤r∧r≤57))∧(2≤x→¬ (1632≤r∧r≤1641))∧(3≤x→¬ (2406≤r∧r≤2415))∧(4≤x→¬ (3664≤r∧r≤3673))∧(5≤x→¬ (65296≤r∧r≤65305))) 5 0 ?_
 conv=>whnf
 refine⟨by ((repeat (refine⟨rfl,?_⟩));trivial),trivial,⟨by omega,by omega,by omega,by omega,by omega,by omega,by omega⟩,?_⟩
 rintro μ x ⟨a0,a1,a2,a3,a4,a5,a6⟩
 have hx:x=0∨x=1∨x=2∨x=3∨x=4∨x=5:=by omega
 rcases hx with rfl|rfl|rfl|rfl|rfl|rfl
 all_goals
  ((repeat' ((conv=>whnf);(first|(refine Ar.fit (by omega) ?_)|(refine Br.mk ?_ ?_<;>intro hb<;>(try (exfalso;omega)))|fail)));all_goals (try (conv=>whnf)))
  all_goals first
   |exact⟨fun h' hs=>⟨bool_yes (by simp only [DigitP];omega),hs.grows⟩⟩
   |exact⟨fun h' hs=>⟨bool_no (by simp only [DigitP];omega),hs.grows⟩⟩
   |exact⟨μ-1,1,⟨by omega,by omega,by omega,by omega,by omega,by omega,by omega⟩,by omega,by ((repeat (refine⟨rfl,?_⟩));trivial),rfl,rfl,trivial⟩
   |exact⟨μ-1,2,⟨by omega,by omega,by omega,by omega,by omega,by omega,by omega⟩,by omega,by ((repeat (refine⟨rfl,?_⟩));trivial),rfl,rfl,trivial⟩
   |exact⟨μ-1,3,⟨by omega,by omega,by omega,by omega,by omega,by omega,by omega⟩,by omega,by ((repeat (refine⟨rfl,?_⟩));trivial),rfl,rfl,trivial⟩
   |exact⟨μ-1,4,⟨by omega,by omega,by omega,by omega,by omega,by omega,by omega⟩,by omega,by ((repeat (refine⟨rfl,?_⟩));trivial),rfl,rfl,trivial⟩
   |exact⟨μ-1,5,⟨by omega,by omega,by omega,by omega,by omega,by omega,by omega⟩,by omega,by ((repeat (refine⟨rfl,?_⟩));trivial),rfl,rfl,trivial⟩
def badGo(s:ByteArray):Nat→Nat→Int
 |0,_=>-1
 |f+1,p=>if p<s.size then (if ((Utf8.decode s p).1:Int)=65533∧(readF s p).2=0 then (p:Int) else badGo s f (p+(Utf8.decode s p).2)) else -1
def badF(s:ByteArray):Int:=badGo s s.size 0
theorem badGo_rng(s:ByteArray):∀ f p,-1≤badGo s f p∧badGo s f p<s.size
 |0,p=>by simp only [badGo];omega
 |f+1,p=>by
  simp only [badGo]
  have:=badGo_rng s f (p+(Utf8.decode s p).2)
  (repeat' split)<;>omega
theorem badF_rng(s:ByteArray) : -1≤badF s∧badF s<s.size:=badGo_rng s _ _
theorem width_pos(s:ByteArray)(p:Nat):1≤(Utf8.decode s p).2:=Lib.width_pos s p
theorem bad_any(s:ByteArray)(h:Heap)(ht:TabsH h)(hs0:s.size≤140737488355328):CH Tryz.prog 42 #[.string s] h fun v h'=>v = .int .i64 (badF s)∧Grows h h':=by
 refine enter (rep:=rep) (m:=1) (ex:=[2,3,4,6,8,9,10,14,22]) (cu:=[]) tO Tryz.func42 rfl (by decide) (rs:=[.tmp 2]) rfl rfl [.val (.string s)] rfl ?_
 ((repeat' ((conv=>whnf);(first|(refine New.mk ?_;intro b hb)|fail)));all_goals (try (conv=>whnf)))
 refine loop_rule tO [] (fun p:Nat=>[]) (fun p=>[(8,b,.iter s p)]) (fun μ p=>s.size≤p+μ∧badGo s μ p=badF s) s.size 0 ?_
 conv=>whnf
 refine⟨by ((repeat (refine⟨rfl,?_⟩));trivial),⟨rfl,rfl,trivial⟩,⟨by omega,rfl⟩,?_⟩
 rintro μ p ⟨a0,a1⟩
 have hw:=width_pos s p
 dsimp only
 by_cases hp:p<s.size
 ·obtain⟨f,rfl⟩:∃ f,μ=f+1:=⟨μ-1,by omega⟩
  simp only [badGo] at a1
  rw [if_pos hp] at a1
  obtain⟨⟨r0,r1⟩,hr⟩:∃ x,readF s p=x:=⟨_,rfl⟩
  have hR:∀ h1,TabsH h1→CH Tryz.prog 60 #[.string s,.int .i64 p] h1 fun v h'=>v = .tuple #[.int .i32 r0,.int .i64 r1]∧Grows h1 h':=fun h1 ht1=>by
   have:=read_any s p h1 ht1 hs0
   rw [hr] at this
   exact this
  rw [hr] at a1
  ((repeat' ((conv=>whnf);(first|(refine VC.mk (by omega) ?_)|(refine Br.mk ?_ ?_<;>intro hb<;>(try (exfalso;omega)))|(apply CK.pure;(case hh=>(intro h1 hs;exact hR h1 (ht.at hs))))|fail)));all_goals (try (conv=>whnf)))
  all_goals first
   |exact⟨f,p+(Utf8.decode s p).2,⟨by omega,by rw [←a1,if_neg (by omega)]⟩,by omega,by ((repeat (refine⟨rfl,?_⟩));trivial),rfl,rfl,⟨rfl,rfl,trivial⟩⟩
   |exact⟨fun h' hs=>⟨int_eq (by rw [←a1,if_pos (by omega)]),hs.grows⟩⟩
 ·have e:badF s = -1:=by
   rw [←a1]
   cases μ with
   |zero=>rfl
   |succ f=>simp only [badGo];rw [if_neg hp]
  rw [e]
  ((repeat' ((conv=>whnf);(first|(refine VC.mk (by omega) ?_)|(refine Br.mk ?_ ?_<;>intro hb<;>(try (exfalso;omega)))|fail)));all_goals (try (conv=>whnf)))
  all_goals exact⟨fun h' hs=>⟨rfl,hs.grows⟩⟩
end Go.Ex
namespace Go.Ex
open Go.Proofs
attribute [local irreducible] CH readF badF LetterF DigitP WordP
theorem bad_eq{s:ByteArray}{r:Int}(hr:badF s=r)(h:Heap)(ht:TabsH h)(hs0:s.size≤140737488355328):CH Tryz.prog 42 #[.string s] h fun v h'=>v = .int .i64 r∧Grows h h':=by subst hr;exact bad_any s h ht hs0
def cleanGo(s:ByteArray):Nat→Nat→Int
 |0,_=>-1
 |f+1,p=>if p<s.size then (if ((Utf8.decode s p).1:Int)=0∨(((Utf8.decode s p).1:Int)=65279∧0<p) then (p:Int) else cleanGo s f (p+(Utf8.decode s p).2)) else -1
def badE(s:ByteArray):Int:=if badF s<0 then s.size else badF s
def cleanF(s:ByteArray):Int:=if 0≤cleanGo (s.extract 0 (badE s).toNat) (s.extract 0 (badE s).toNat).size 0 then cleanGo (s.extract 0 (badE s).toNat) (s.extract 0 (badE s).toNat).size 0 else if badE s<s.size then badE s else -1
theorem cleanGo_lo(s:ByteArray):∀ f p,-1≤cleanGo s f p∧cleanGo s f p<s.size
 |0,p=>by simp only [cleanGo];omega
 |f+1,p=>by
  simp only [cleanGo]
  have:=cleanGo_lo s f (p+(Utf8.decode s p).2)
  (repeat' split)<;>omega
theorem clean_any(s:ByteArray)(h:Heap)(ht:TabsH h)(hs0:s.size≤140737488355328):CH Tryz.prog 26 #[.string s] h fun v h'=>v = .int .i64 (cleanF s)∧Grows h h':=by
 refine enter (rep:=rep) (m:=1) (ex:=[2,3,4,5,9,15,16,17,29,34]) (cu:=[4]) tO Tryz.func26 rfl (by decide) (rs:=[.tmp 2]) rfl rfl [.val (.string s)] rfl ?_
 obtain⟨q,hq⟩:∃ q,badF s=q:=⟨_,rfl⟩
 have r0:=badF_rng s
 rw [hq] at r0
 obtain⟨e,he⟩:∃ e,badE s=e:=⟨_,rfl⟩
 have he':e=if q<0 then (s.size:Int) else q:=by rw [←he,badE,hq]
 have e0:0≤e∧e≤s.size:=by rw [he'];split<;>omega
 have hc:cleanF s=if 0≤cleanGo (s.extract 0 e.toNat) (s.extract 0 e.toNat).size 0 then cleanGo (s.extract 0 e.toNat) (s.extract 0 e.toNat).size 0 else if e<s.size then e else -1:=by unfold cleanF;rw [he]
 rw [hc]
 ((repeat' ((conv=>whnf);(first|(apply CK.pure;(case hh=>(intro h1 hs;exact bad_eq hq h1 (ht.at hs) hs0)))|fail)));all_goals (try (conv=>whnf)))
 refine join_rule tO [3] (fun x:Int=>[(3,.val (.int .i64 x))]) (fun _=>[]) (fun x=>x=e) ?_
 conv=>whnf
 refine⟨?_,?_⟩
 ·by_cases hq0:q<0
  ·rw [if_pos hq0] at he'
   ((repeat' ((conv=>whnf);(first|(refine Br.mk ?_ ?_<;>intro hb<;>(try (exfalso;omega)))|fail)));all_goals (try (conv=>whnf)))
   all_goals exact⟨_,he'.symm,by ((repeat (refine⟨rfl,?_⟩));trivial),rfl,rfl,trivial⟩
  ·rw [if_neg hq0] at he'
   ((repeat' ((conv=>whnf);(first|(refine Br.mk ?_ ?_<;>intro hb<;>(try (exfalso;omega)))|fail)));all_goals (try (conv=>whnf)))
   all_goals exact⟨_,he'.symm,by ((repeat (refine⟨rfl,?_⟩));trivial),rfl,rfl,trivial⟩
 rintro x rfl
 have hz:(s.extract 0 x.toNat).size=x.toNat:=by rw [ByteArray.size_extract];omega
 ((repeat' ((conv=>whnf);(first|(refine VC.mk (by omega) ?_)|(refine New.mk ?_;intro b hb)|fail)));all_goals (try (conv=>whnf)))
 dsimp only [Int.toNat_zero]
 generalize s.extract 0 x.toNat=t at *
 obtain⟨r,hr⟩:∃ r,cleanGo t t.size 0=r:=⟨_,rfl⟩
 rw [hr]
 have r2:=cleanGo_lo t t.size 0
 rw [hr] at r2
 refine loop_rule tO [] (fun p:Nat=>[]) (fun p=>[(15,b,.iter t p)]) (fun μ p=>t.size≤p+μ∧cleanGo t μ p=r) t.size 0 ?_
 conv=>whnf
 refine⟨by ((repeat (refine⟨rfl,?_⟩));trivial),⟨rfl,rfl,trivial⟩,⟨by omega,hr⟩,?_⟩
 rintro μ p ⟨a0,a1⟩
 have hw:=width_pos t p
 dsimp only
 by_cases hp:p<t.size
 ·obtain⟨f,rfl⟩:∃ f,μ=f+1:=⟨μ-1,by omega⟩
  simp only [cleanGo] at a1
  rw [if_pos hp] at a1
  ((repeat' ((conv=>whnf);(first|(refine VC.mk (by omega) ?_)|(refine Br.mk ?_ ?_<;>intro hb<;>(try (exfalso;omega)))|fail)));all_goals (try (conv=>whnf)))
  all_goals first
   |exact⟨f,p+(Utf8.decode t p).2,⟨by omega,by rw [←a1,if_neg (by omega)]⟩,by omega,by ((repeat (refine⟨rfl,?_⟩));trivial),rfl,rfl,⟨rfl,rfl,trivial⟩⟩
   |exact⟨fun h' hs=>⟨int_eq (by rw [if_pos (by omega)] at a1;rw [←a1,if_pos (by omega)]),hs.grows⟩⟩
 ·have e:r = -1:=by
   rw [←a1]
   cases μ with
   |zero=>rfl
   |succ f=>simp only [cleanGo];rw [if_neg hp]
  subst e
  rw [if_neg (by omega)]
  by_cases hxs:x<s.size
  ·rw [if_pos hxs]
   ((repeat' ((conv=>whnf);(first|(refine VC.mk (by omega) ?_)|(refine Br.mk ?_ ?_<;>intro hb<;>(try (exfalso;omega)))|fail)));all_goals (try (conv=>whnf)))
   all_goals exact⟨fun h' hs=>⟨rfl,hs.grows⟩⟩
  ·rw [if_neg hxs]
   ((repeat' ((conv=>whnf);(first|(refine VC.mk (by omega) ?_)|(refine Br.mk ?_ ?_<;>intro hb<;>(try (exfalso;omega)))|fail)));all_goals (try (conv=>whnf)))
   all_goals exact⟨fun h' hs=>⟨rfl,hs.grows⟩⟩
end Go.Ex
namespace Go.Ex
open Go.Proofs
attribute [local irreducible] CH readF badF LetterF DigitP WordP
def wordGo(s:ByteArray):Nat→Nat→Int
 |0,_=>-1
 |f+1,p=>if p<s.size then (if LetterF (Utf8.decode s p).1=false∧¬ DigitP (Utf8.decode s p).1 then (p:Int) else wordGo s f (p+(Utf8.decode s p).2)) else -1
def wordT(s:ByteArray)(at_:Int):Int:=if 0≤wordGo (sub s at_ s.size) (sub s at_ s.size).size 0 then at_+wordGo (sub s at_ s.size) (sub s at_ s.size).size 0 else s.size
def wordF(s:ByteArray)(at_:Int):Int×Int:=if WordP (sub s at_ (wordT s at_)) then (2,wordT s at_) else (1,wordT s at_)
theorem wordGo_rng(s:ByteArray):∀ f p,(wordGo s f p = -1∨(p:Int)≤wordGo s f p)∧wordGo s f p<s.size
 |0,p=>⟨.inl rfl,by simp only [wordGo];omega⟩
 |f+1,p=>by
  simp only [wordGo]
  have:=wordGo_rng s f (p+(Utf8.decode s p).2)
  (repeat' split)<;>omega
theorem letter_eq{r:Int}{b:Bool}(hb:LetterF r=b)(h:Heap):CH Tryz.prog 65 #[.int .i32 r] h fun v h'=>v = .bool b∧Grows h h':=by subst hb;exact letter_any r h
theorem sword_any(s:ByteArray)(at_:Int)(h:Heap)(hs0:s.size≤140737488355328)(ha:0≤at_∧at_≤s.size):CH Tryz.prog 66 #[.string s,.int .i64 at_] h fun v h'=>v = .tuple #[.int .u8 (wordF s at_).1,.int .i64 (wordF s at_).2]∧Grows h h':=by
 refine enter (rep:=rep) (m:=6) (ex:=[6,7,8,14,15,16,26,34]) (cu:=[]) tO Tryz.func66 rfl (by decide) (rs:=[.tmp 4,.tmp 5]) rfl rfl [.val (.string s),.val (.int .i64 at_)] rfl ?_
 obtain⟨a0,a1⟩:=ha
 have hz:(sub s at_ s.size).size=s.size-at_.toNat:=by unfold sub;rw [ByteArray.size_extract];omega
 obtain⟨g,hg⟩:∃ g,wordGo (sub s at_ s.size) (sub s at_ s.size).size 0=g:=⟨_,rfl⟩
 obtain⟨T,hT⟩:∃ T,wordT s at_=T:=⟨_,rfl⟩
 have hT':T=if 0≤g then at_+g else s.size:=by rw [←hT,wordT,hg]
 have g1:=(wordGo_rng (sub s at_ s.size) (sub s at_ s.size).size 0).2
 rw [hg] at g1
 have hT2:at_≤T∧T≤s.size:=by rw [hT'];split<;>omega
 unfold wordF
 rw [hT]
 ((repeat' ((conv=>whnf);(first|(refine VC.mk (by omega) ?_)|(refine New.mk ?_;intro b hb)|fail)));all_goals (try (conv=>whnf)))
 dsimp only [sub] at *
 generalize s.extract at_.toNat (s.size:Int).toNat=t at *
 refine loop_cut tO [6] (fun p:Nat=>[(6,.val (.int .i64 s.size))]) (fun p=>[(14,b,.iter t p)]) (fun μ p=>t.size≤p+μ∧wordGo t μ p=g) t.size 0 (fun _:Unit=>[(6,.val (.int .i64 T))]) (fun _=>[]) (fun _=>True) ?_
 conv=>whnf
 refine⟨by ((repeat (refine⟨rfl,?_⟩));trivial),⟨rfl,rfl,trivial⟩,⟨by omega,hg⟩,?_,?_⟩
 ·rintro μ p ⟨b0,b1⟩
  have hw:=width_pos t p
  dsimp only
  by_cases hp:p<t.size
  ·obtain⟨f,rfl⟩:∃ f,μ=f+1:=⟨μ-1,by omega⟩
   simp only [wordGo] at b1
   rw [if_pos hp] at b1
   obtain⟨lb,hl⟩:∃ lb,LetterF ((Utf8.decode t p).1:Int)=lb:=⟨_,rfl⟩
   rw [hl] at b1
   have w1:=wordGo_rng t f (p+(Utf8.decode t p).2)
   rcases lb with _|_
   ·by_cases hd:DigitP ((Utf8.decode t p).1:Int)
    ·rw [if_neg (fun e=>e.2 hd)] at b1
     ((repeat' ((conv=>whnf);(first|(refine VC.mk (by omega) ?_)|(refine Br.mk ?_ ?_<;>intro hb<;>(try (first|(exfalso;omega)|exact absurd rfl hb|contradiction)))|(apply CK.pure;(case hh=>(intro h1 hs;exact letter_eq hl h1)))|(apply CK.pure;(case hh=>(intro h1 hs;exact (digit_any _ h1).mono (fun v h' ⟨e1,e2⟩=>⟨e1.trans (prop_true hd),e2⟩))))|fail)));all_goals (try (conv=>whnf)))
     all_goals exact⟨f,p+(Utf8.decode t p).2,⟨by omega,b1⟩,by omega,by ((repeat (refine⟨rfl,?_⟩));trivial),rfl,rfl,⟨rfl,rfl,trivial⟩⟩
    ·rw [if_pos ⟨rfl,hd⟩] at b1
     have hTp:at_+(p:Int)=T:=by rw [hT',if_pos (by omega),b1]
     ((repeat' ((conv=>whnf);(first|(refine Ar.fit (by omega) ?_)|(refine VC.mk (by omega) ?_)|(refine Br.mk ?_ ?_<;>intro hb<;>(try (first|(exfalso;omega)|contradiction)))|(apply CK.pure;(case hh=>(intro h1 hs;exact letter_eq hl h1)))|(apply CK.pure;(case hh=>(intro h1 hs;exact (digit_any _ h1).mono (fun v h' ⟨e1,e2⟩=>⟨e1.trans (prop_false hd),e2⟩))))|fail)));all_goals (try (conv=>whnf)))
     all_goals exact⟨(),trivial,⟨by simp only [←hTp];rfl,by ((repeat (refine⟨rfl,?_⟩));trivial)⟩,rfl,rfl,trivial⟩
   ·rw [if_neg (fun e=>Bool.noConfusion e.1)] at b1
    ((repeat' ((conv=>whnf);(first|(refine VC.mk (by omega) ?_)|(refine Br.mk ?_ ?_<;>intro hb<;>(try (first|(exfalso;omega)|exact absurd rfl hb)))|(apply CK.pure;(case hh=>(intro h1 hs;exact letter_eq hl h1)))|fail)));all_goals (try (conv=>whnf)))
    all_goals exact⟨f,p+(Utf8.decode t p).2,⟨by omega,b1⟩,by omega,by ((repeat (refine⟨rfl,?_⟩));trivial),rfl,rfl,⟨rfl,rfl,trivial⟩⟩
  ·have e:g = -1:=by
    rw [←b1]
    cases μ with
    |zero=>rfl
    |succ f=>simp only [wordGo];rw [if_neg hp]
   have hTp:(s.size:Int)=T:=by rw [hT',if_neg (by omega)]
   ((repeat' ((conv=>whnf);(first|(refine VC.mk (by omega) ?_)|(refine Br.mk ?_ ?_<;>intro hb<;>(try (exfalso;omega)))|fail)));all_goals (try (conv=>whnf)))
   all_goals exact⟨(),trivial,⟨by simp only [←hTp];rfl,by ((repeat (refine⟨rfl,?_⟩));trivial)⟩,rfl,rfl,trivial⟩
 rintro _ _
 by_cases hw:WordP (s.extract at_.toNat T.toNat)
 ·rw [if_pos hw]
  ((repeat' ((conv=>whnf);(first|(refine VC.mk (by omega) ?_)|(refine Br.mk ?_ ?_<;>intro hb<;>(try (exact absurd rfl hb)))|(apply CK.pure;(case hh=>(intro h1 hs;exact (cword_any _ h1).mono (fun v h' ⟨e1,e2⟩=>⟨e1.trans (prop_true hw),e2⟩))))|fail)));all_goals (try (conv=>whnf)))
  all_goals exact⟨fun h' hs=>⟨rfl,hs.grows⟩⟩
 ·rw [if_neg hw]
  ((repeat' ((conv=>whnf);(first|(refine VC.mk (by omega) ?_)|(refine Br.mk ?_ ?_<;>intro hb<;>(try (exact Bool.noConfusion hb)))|(apply CK.pure;(case hh=>(intro h1 hs;exact (cword_any _ h1).mono (fun v h' ⟨e1,e2⟩=>⟨e1.trans (prop_false hw),e2⟩))))|fail)));all_goals (try (conv=>whnf)))
  all_goals exact⟨fun h' hs=>⟨rfl,hs.grows⟩⟩
def signs:List ByteArray:=[⟨#[60,60,61]⟩,⟨#[62,62,61]⟩,⟨#[38,94,61]⟩,⟨#[46,46,46]⟩,⟨#[60,60]⟩,⟨#[62,62]⟩,⟨#[38,94]⟩,⟨#[43,61]⟩,⟨#[45,61]⟩,⟨#[42,61]⟩,⟨#[47,61]⟩,⟨#[37,61]⟩,⟨#[38,61]⟩,⟨#[124,61]⟩,⟨#[94,61]⟩,⟨#[38,38]⟩,⟨#[124,124]⟩,⟨#[60,45]⟩,⟨#[43,43]⟩,⟨#[45,45]⟩,⟨#[61,61]⟩,⟨#[33,61]⟩,⟨#[60,61]⟩,⟨#[62,61]⟩,⟨#[58,61]⟩,⟨#[43]⟩,⟨#[45]⟩,⟨#[42]⟩,⟨#[47]⟩,⟨#[37]⟩,⟨#[38]⟩,⟨#[124]⟩,⟨#[94]⟩,⟨#[60]⟩,⟨#[62]⟩,⟨#[61]⟩,⟨#[33]⟩,⟨#[126]⟩,⟨#[40]⟩,⟨#[41]⟩,⟨#[91]⟩,⟨#[93]⟩,⟨#[123]⟩,⟨#[125]⟩,⟨#[44]⟩,⟨#[46]⟩,⟨#[58]⟩]
def SignP(s:ByteArray):Prop:=s∈signs
instance (s:ByteArray):Decidable (SignP s):=decidable_of_iff (signs.any (fun w=>decide (s=w))=true) (by simp [SignP])
def signGo(s:ByteArray):Nat→Int
 |0=>0
 |n+1=>if SignP (s.extract 0 (n+1)) then (n:Int)+1 else signGo s n
def signF(s:ByteArray):Int:=signGo s (min 3 s.size)
theorem signGo_rng(s:ByteArray):∀ n,0≤signGo s n∧signGo s n≤n
 |0=>by simp [signGo]
 |n+1=>by
  simp only [signGo]
  have:=signGo_rng s n
  split<;>omega
theorem signF_rng(s:ByteArray):0≤signF s∧signF s≤s.size:=by
 have:=signGo_rng s (min 3 s.size)
 unfold signF
 omega
end Go.Ex
namespace Go.Ex
open Go.Proofs
attribute [local irreducible] CH
set_option maxHeartbeats 8000000 in
theorem sign_any(s:ByteArray)(h:Heap)(hs0:s.size≤140737488355328):CH Tryz.prog 69 #[.string s] h fun v h'=>v = .int .i64 (signF s)∧Grows h h':=by
 refine enter (rep:=rep) (m:=1) (ex:=[2,3,8,13,14]) (cu:=[5]) tO Tryz.func69 rfl (by decide) (rs:=[.tmp 2]) rfl rfl [.val (.string s)] rfl ?_
 obtain⟨g,hg⟩:∃ g,signF s=g:=⟨_,rfl⟩
 rw [hg]
 (try (conv=>whnf))
 refine loop_cut tO [3] (fun n:Nat=>[(3,.val (.int .i64 (n:Int)))]) (fun _=>[]) (fun μ n=>n=μ∧n≤3∧n≤s.size∧signGo s n=g) (min 3 s.size) (min 3 s.size) (fun _:Unit=>[(3,.val (.int .i64 g))]) (fun _=>[]) (fun _=>True) ?_
 conv=>whnf
 refine⟨⟨by simp only [lk];congr 3;omega,by ((repeat (refine⟨rfl,?_⟩));trivial)⟩,trivial,⟨rfl,by omega,by omega,hg⟩,?_,?_⟩
 ·rintro μ n ⟨rfl,b0,b1,b2⟩
  rcases n with _|n
  ·have e:g=0:=by rw [←b2];rfl
   subst e
   ((repeat' ((conv=>whnf);(first|(refine Br.mk ?_ ?_<;>intro hb<;>(try (exfalso;omega)))|fail)));all_goals (try (conv=>whnf)))
   all_goals exact⟨(),trivial,⟨rfl,by ((repeat (refine⟨rfl,?_⟩));trivial)⟩,rfl,rfl,trivial⟩
  ·simp only [signGo] at b2
   have hx:s.extract (0:Int).toNat ((n+1:Nat):Int).toNat=s.extract 0 (n+1):=rfl
   generalize s.extract 0 (n+1)=u at *
   ((repeat' ((conv=>whnf);(first|(refine Br.mk ?_ ?_<;>intro hb<;>(try (exfalso;omega)))|fail)));all_goals (try (conv=>whnf)))
   refine join_rule tO [13] (fun x:ByteArray=>[(13,.val (.string x))]) (fun _=>[]) (fun x=>x=u) ?_
   conv=>whnf
   refine⟨?_,?_⟩
   ·((repeat' ((conv=>whnf);(first|(refine VC.mk (by omega) ?_)|fail)));all_goals (try (conv=>whnf)))
    all_goals exact⟨_,hx,by ((repeat (refine⟨rfl,?_⟩));trivial),rfl,rfl,trivial⟩
   rintro x rfl
   dsimp only
   by_cases hw:SignP x
   ·rw [if_pos hw] at b2
    subst b2
    ((repeat' ((conv=>whnf);(first|(refine Br.mk ?_ ?_<;>intro hb<;>(try (exact absurd (by assumption) hb)))|(refine Ar.fit (by omega) ?_)|fail)));all_goals (try (conv=>whnf)))
    all_goals first
     |exact⟨(),trivial,⟨rfl,by ((repeat (refine⟨rfl,?_⟩));trivial)⟩,rfl,rfl,trivial⟩
     |(exfalso;simp only [SignP,signs,List.mem_cons,List.not_mem_nil,or_false] at hw;simp only [*,or_self] at hw;done)
   ·rw [if_neg hw] at b2
    simp only [SignP,signs,List.mem_cons,List.not_mem_nil,or_false,not_or] at hw
    obtain⟨w0,w1,w2,w3,w4,w5,w6,w7,w8,w9,w10,w11,w12,w13,w14,w15,w16,w17,w18,w19,w20,w21,w22,w23,w24,w25,w26,w27,w28,w29,w30,w31,w32,w33,w34,w35,w36,w37,w38,w39,w40,w41,w42,w43,w44,w45,w46⟩:=hw
    ((repeat' ((conv=>whnf);(first|(refine Br.mk (fun hb=>absurd hb (by assumption)) (fun hb=>?_))|(refine Ar.fit (by omega) ?_)|fail)));all_goals (try (conv=>whnf)))
    all_goals exact⟨n,n,⟨rfl,by omega,by omega,b2⟩,by omega,⟨by simp only [putD,lk];congr 3;omega,by ((repeat (refine⟨rfl,?_⟩));trivial)⟩,rfl,rfl,trivial⟩
 rintro _ _
 (try (conv=>whnf))
 all_goals exact⟨fun h' hs=>⟨rfl,hs.grows⟩⟩
end Go.Ex
namespace Go.Ex
open Go.Proofs
attribute [local irreducible] CH byteI rowF idxB valD trimP powF wholeF
abbrev eE:ByteArray:=⟨#[101,69]⟩
abbrev pP:ByteArray:=⟨#[112,80]⟩
def endF(s:ByteArray)(n k:Int)(l:ByteArray):Int:=if 0<n+k∧0<k+powF (sub s (n+k) s.size) l∧n+k+powF (sub s (n+k) s.size) l=s.size then 4 else 0
def tenF(s:ByteArray):Int:=
 if rowF s 10=s.size∧0<rowF s 10 then (if ¬ byteI s 0=48∨rowF s 10=1 then 3 else wholeF (sub s 1 s.size) 8)
 else if rowF s 10<s.size∧byteI s (rowF s 10)=46 then (if rowF s 10+rowF (sub s (rowF s 10+1) s.size) 10=0 then 0 else endF s (rowF s 10) (rowF (sub s (rowF s 10+1) s.size) 10+1) eE)
 else endF s (rowF s 10) 0 eE
theorem ten_any(s:ByteArray)(h:Heap)(hs:s.size≤140737488355328):CH Tryz.prog 127 #[.string s] h fun v h'=>v = .int .u8 (tenF s)∧Grows h h':=by
 refine enter (rep:=rep) (m:=6) (ex:=[15,22,35,44,72]) (cu:=[]) tO Tryz.func127 rfl (by decide) (rs:=[.tmp 2]) rfl rfl [.val (.string s)] rfl ?_
 obtain⟨n,hn⟩:∃ n,rowF s 10=n:=⟨_,rfl⟩
 have r0:=row_rng hn
 simp only [tenF,endF,hn]
 dsimp only [sub]
 by_cases h1c:n=s.size∧0<n
 ·obtain⟨w,hw⟩:∃ w,wholeF (s.extract (1:Int).toNat (s.size:Int).toNat) 8=w:=⟨_,rfl⟩
  rw [hw,if_pos h1c]
  ((repeat' ((conv=>whnf);(first|(refine VC.mk (by omega) ?_)|(refine Br.mk ?_ ?_<;>intro hb<;>(try (exfalso;omega)))|(apply CK.pure;(case hh=>(intro h1 hs;exact whole_eq hw h1 (by exact Nat.le_trans (ext_le _ _ _) (by omega)))))|(apply CK.pure;(case hh=>(intro h1 hs;exact row_eq hn h1 (by omega))))|fail)));all_goals (try (conv=>whnf)))
  all_goals exact⟨fun h' hs=>⟨int_eq (by split<;>first|rfl|(exfalso;omega)),hs.grows⟩⟩
 rw [if_neg h1c]
 by_cases h2c:n<s.size∧byteI s n=46
 ·have z1:=sub_size s (n+1) s.size (by omega) (by omega) (by omega)
  obtain⟨k,hk⟩:∃ k,rowF (s.extract (n+1).toNat (s.size:Int).toNat) 10=k:=⟨_,rfl⟩
  have r1:=row_rng hk
  dsimp only [sub] at z1
  have z2:=sub_size s (n+(k+1)) s.size (by omega) (by omega) (by omega)
  obtain⟨p,hp⟩:∃ p,powF (s.extract (n+(k+1)).toNat (s.size:Int).toNat) eE=p:=⟨_,rfl⟩
  have r2:=pow_rng hp
  dsimp only [sub] at z2
  rw [if_pos h2c,hk,hp]
  ((repeat' ((conv=>whnf);(first|(refine Ar.fit (by omega) ?_)|(refine VC.mk (by omega) ?_)|(refine Br.mk ?_ ?_<;>intro hb<;>(try (exfalso;omega)))|(apply CK.pure;(case hh=>(intro h1 hs;exact row_eq hn h1 (by omega))))|(apply CK.pure;(case hh=>(intro h1 hs;exact row_eq hk h1 (by omega))))|(apply CK.pure;(case hh=>(intro h1 hs;exact pow_eq hp h1 (by omega))))|fail)));all_goals (try (conv=>whnf)))
  all_goals exact⟨fun h' hs=>⟨int_eq (by (repeat' split)<;>first|rfl|(exfalso;omega)),hs.grows⟩⟩
 ·have z2:=sub_size s (n+0) s.size (by omega) (by omega) (by omega)
  obtain⟨p,hp⟩:∃ p,powF (s.extract (n+0).toNat (s.size:Int).toNat) eE=p:=⟨_,rfl⟩
  have r2:=pow_rng hp
  dsimp only [sub] at z2
  rw [if_neg h2c,hp]
  ((repeat' ((conv=>whnf);(first|(refine Ar.fit (by omega) ?_)|(refine VC.mk (by omega) ?_)|(refine Br.mk ?_ ?_<;>intro hb<;>(try (exfalso;omega)))|(apply CK.pure;(case hh=>(intro h1 hs;exact row_eq hn h1 (by omega))))|(apply CK.pure;(case hh=>(intro h1 hs;exact pow_eq hp h1 (by omega))))|fail)));all_goals (try (conv=>whnf)))
  all_goals exact⟨fun h' hs=>⟨int_eq (by (repeat' split)<;>first|rfl|(exfalso;omega)),hs.grows⟩⟩
end Go.Ex
namespace Go.Ex
open Go.Proofs
attribute [local irreducible] CH byteI rowF idxB valD trimP powF wholeF tenF HasP HasS
theorem ten_eq{s:ByteArray}{r:Int}(hr:tenF s=r)(h:Heap)(hs:s.size≤140737488355328):CH Tryz.prog 127 #[.string s] h fun v h'=>v = .int .u8 r∧Grows h h':=by subst hr;exact ten_any s h hs
theorem trim_eq{s p t:ByteArray}(hr:trimP s p=t)(h:Heap):CH Tryz.prog 162 #[.string s,.string p] h fun v h'=>v = .string t∧Grows h h':=by subst hr;exact trimp_any s p h
def sixteenF(s:ByteArray):Int:=
 if ¬ wholeF s 16=0 then 3
 else if rowF (trimP s undS) 16=0∧HasP s undS then 0
 else if rowF (trimP s undS) 16<(trimP s undS).size∧byteI (trimP s undS) (rowF (trimP s undS) 16)=46 then
  (if rowF (trimP s undS) 16+rowF (sub (trimP s undS) (rowF (trimP s undS) 16+1) (trimP s undS).size) 16=0 then 0
   else if 0<powF (sub (trimP s undS) (rowF (trimP s undS) 16+(rowF (sub (trimP s undS) (rowF (trimP s undS) 16+1) (trimP s undS).size) 16+1)) (trimP s undS).size) pP ∧
    rowF (trimP s undS) 16+(rowF (sub (trimP s undS) (rowF (trimP s undS) 16+1) (trimP s undS).size) 16+1)+powF (sub (trimP s undS) (rowF (trimP s undS) 16+(rowF (sub (trimP s undS) (rowF (trimP s undS) 16+1) (trimP s undS).size) 16+1)) (trimP s undS).size) pP=(trimP s undS).size then 4 else 0)
 else if rowF (trimP s undS) 16=0 then 0
 else if 0<powF (sub (trimP s undS) (rowF (trimP s undS) 16+0) (trimP s undS).size) pP∧rowF (trimP s undS) 16+0+powF (sub (trimP s undS) (rowF (trimP s undS) 16+0) (trimP s undS).size) pP=(trimP s undS).size then 4 else 0
theorem sixteen_any(s:ByteArray)(h:Heap)(hs:s.size≤140737488355328):CH Tryz.prog 126 #[.string s] h fun v h'=>v = .int .u8 (sixteenF s)∧Grows h h':=by
 refine enter (rep:=rep) (m:=7) (ex:=[9,20,30,39,43,61]) (cu:=[]) tO Tryz.func126 rfl (by decide) (rs:=[.tmp 2]) rfl rfl [.val (.string s)] rfl ?_
 have hts:=trimP_size s undS
 simp only [sixteenF]
 obtain⟨w,hw⟩:∃ w,wholeF s 16=w:=⟨_,rfl⟩
 rw [hw]
 by_cases hw0:¬ w=0
 ·rw [if_pos hw0]
  ((repeat' ((conv=>whnf);(first|(refine Br.mk ?_ ?_<;>intro hb<;>(try (exfalso;omega)))|(apply CK.pure;(case hh=>(intro h1 hs;exact whole_eq hw h1 (by omega))))|fail)));all_goals (try (conv=>whnf)))
  all_goals exact⟨fun h' hs=>⟨rfl,hs.grows⟩⟩
 rw [if_neg hw0]
 obtain⟨t,ht⟩:∃ t,trimP s undS=t:=⟨_,rfl⟩
 rw [ht] at hts ⊢
 obtain⟨n,hn⟩:∃ n,rowF t 16=n:=⟨_,rfl⟩
 have r0:=row_rng hn
 rw [hn]
 dsimp only [sub]
 have hU:∀ h1:Heap,CH Tryz.prog 63 #[.string s,.string undS] h1 fun v h'=>v=denC (.prop (HasP s undS))∧Grows h1 h':=fun h1=>hasp_any s undS h1
 by_cases h1c:n=0∧HasP s undS
 ·rw [if_pos h1c]
  obtain⟨h1a,h1b⟩:=h1c
  ((repeat' ((conv=>whnf);(first|(refine Br.mk ?_ ?_<;>intro hb<;>(try (first|(exfalso;omega)|exact absurd rfl hb)))|(apply CK.pure;(case hh=>(intro h1 hs;exact whole_eq hw h1 (by omega))))|(apply CK.pure;(case hh=>(intro h1 hs;exact (hU h1).mono (fun v h' ⟨e1,e2⟩=>⟨e1.trans (prop_true h1b),e2⟩))))|(apply CK.pure;(case hh=>(intro h1 hs;exact trim_eq ht h1)))|(apply CK.pure;(case hh=>(intro h1 hs;exact row_eq hn h1 (by omega))))|fail)));all_goals (try (conv=>whnf)))
  all_goals exact⟨fun h' hs=>⟨rfl,hs.grows⟩⟩
 rw [if_neg h1c]
 have hU2:∃ b:Bool,(∀ h1:Heap,CH Tryz.prog 63 #[.string s,.string undS] h1 fun v h'=>v = .bool b∧Grows h1 h')∧(b=true→¬ n=0):=by
  by_cases hu:HasP s undS
  ·exact⟨true,fun h1=>(hU h1).mono (fun v h' ⟨e1,e2⟩=>⟨e1.trans (prop_true hu),e2⟩),fun _ h0=>h1c ⟨h0,hu⟩⟩
  ·exact⟨false,fun h1=>(hU h1).mono (fun v h' ⟨e1,e2⟩=>⟨e1.trans (prop_false hu),e2⟩),fun e=>by cases e⟩
 obtain⟨b,hb1,hb2⟩:=hU2
 by_cases h2c:n<t.size∧byteI t n=46
 ·have z1:=sub_size t (n+1) t.size (by omega) (by omega) (by omega)
  obtain⟨k,hk⟩:∃ k,rowF (t.extract (n+1).toNat (t.size:Int).toNat) 16=k:=⟨_,rfl⟩
  have r1:=row_rng hk
  dsimp only [sub] at z1
  have z2:=sub_size t (n+(k+1)) t.size (by omega) (by omega) (by omega)
  obtain⟨p,hp⟩:∃ p,powF (t.extract (n+(k+1)).toNat (t.size:Int).toNat) pP=p:=⟨_,rfl⟩
  have r2:=pow_rng hp
  dsimp only [sub] at z2
  rw [if_pos h2c,hk,hp]
  rcases b with _|_
  ·((repeat' ((conv=>whnf);(first|(refine Ar.fit (by omega) ?_)|(refine VC.mk (by omega) ?_)|(refine Br.mk ?_ ?_<;>intro hb<;>(try (first|(exfalso;omega)|exact Bool.noConfusion hb)))|(apply CK.pure;(case hh=>(intro h1 hs;exact whole_eq hw h1 (by omega))))|(apply CK.pure;(case hh=>(intro h1 hs;exact hb1 h1)))|(apply CK.pure;(case hh=>(intro h1 hs;exact trim_eq ht h1)))|(apply CK.pure;(case hh=>(intro h1 hs;exact row_eq hn h1 (by omega))))|(apply CK.pure;(case hh=>(intro h1 hs;exact row_eq hk h1 (by omega))))|(apply CK.pure;(case hh=>(intro h1 hs;exact pow_eq hp h1 (by omega))))|fail)));all_goals (try (conv=>whnf)))
   all_goals exact⟨fun h' hs=>⟨int_eq (by (repeat' split)<;>first|rfl|(exfalso;omega)),hs.grows⟩⟩
  ·have hn0:=hb2 rfl
   ((repeat' ((conv=>whnf);(first|(refine Ar.fit (by omega) ?_)|(refine VC.mk (by omega) ?_)|(refine Br.mk ?_ ?_<;>intro hb<;>(try (exfalso;omega)))|(apply CK.pure;(case hh=>(intro h1 hs;exact whole_eq hw h1 (by omega))))|(apply CK.pure;(case hh=>(intro h1 hs;exact hb1 h1)))|(apply CK.pure;(case hh=>(intro h1 hs;exact trim_eq ht h1)))|(apply CK.pure;(case hh=>(intro h1 hs;exact row_eq hn h1 (by omega))))|(apply CK.pure;(case hh=>(intro h1 hs;exact row_eq hk h1 (by omega))))|(apply CK.pure;(case hh=>(intro h1 hs;exact pow_eq hp h1 (by omega))))|fail)));all_goals (try (conv=>whnf)))
   all_goals exact⟨fun h' hs=>⟨int_eq (by (repeat' split)<;>first|rfl|(exfalso;omega)),hs.grows⟩⟩
 ·have z2:=sub_size t (n+0) t.size (by omega) (by omega) (by omega)
  obtain⟨p,hp⟩:∃ p,powF (t.extract (n+0).toNat (t.size:Int).toNat) pP=p:=⟨_,rfl⟩
  have r2:=pow_rng hp
  dsimp only [sub] at z2
  rw [if_neg h2c,hp]
  rcases b with _|_
  ·((repeat' ((conv=>whnf);(first|(refine Ar.fit (by omega) ?_)|(refine VC.mk (by omega) ?_)|(refine Br.mk ?_ ?_<;>intro hb<;>(try (first|(exfalso;omega)|exact Bool.noConfusion hb)))|(apply CK.pure;(case hh=>(intro h1 hs;exact whole_eq hw h1 (by omega))))|(apply CK.pure;(case hh=>(intro h1 hs;exact hb1 h1)))|(apply CK.pure;(case hh=>(intro h1 hs;exact trim_eq ht h1)))|(apply CK.pure;(case hh=>(intro h1 hs;exact row_eq hn h1 (by omega))))|(apply CK.pure;(case hh=>(intro h1 hs;exact pow_eq hp h1 (by omega))))|fail)));all_goals (try (conv=>whnf)))
   all_goals exact⟨fun h' hs=>⟨int_eq (by (repeat' split)<;>first|rfl|(exfalso;omega)),hs.grows⟩⟩
  ·have hn0:=hb2 rfl
   ((repeat' ((conv=>whnf);(first|(refine Ar.fit (by omega) ?_)|(refine VC.mk (by omega) ?_)|(refine Br.mk ?_ ?_<;>intro hb<;>(try (exfalso;omega)))|(apply CK.pure;(case hh=>(intro h1 hs;exact whole_eq hw h1 (by omega))))|(apply CK.pure;(case hh=>(intro h1 hs;exact hb1 h1)))|(apply CK.pure;(case hh=>(intro h1 hs;exact trim_eq ht h1)))|(apply CK.pure;(case hh=>(intro h1 hs;exact row_eq hn h1 (by omega))))|(apply CK.pure;(case hh=>(intro h1 hs;exact pow_eq hp h1 (by omega))))|fail)));all_goals (try (conv=>whnf)))
   all_goals exact⟨fun h' hs=>⟨int_eq (by (repeat' split)<;>first|rfl|(exfalso;omega)),hs.grows⟩⟩
end Go.Ex
