/-
  Top: TopDeep: whatever the input, the law answers true (part 45)
-/
import Derived.Test.YtpjdgifhhnjclaaGreatDoorM44
set_option linter.unusedVariables false
set_option linter.unusedSimpArgs false
set_option maxHeartbeats 4000000
set_option maxRecDepth 10000
namespace Go.Ex
open Go.Proofs
structure InR(I:In):Prop where
 len:I.L≤1000000
 size:I.s.size≤1000000
 rng:∀ x∈I.toks,0≤x.frm∧x.frm≤x.to∧x.to≤I.s.size
theorem InR.at{I:In}(ok:InR I){i:Int}(h0:0≤i)(h1:i<I.L):0≤(getI tokR.dflt I.toks i).frm∧(getI tokR.dflt I.toks i).frm≤(getI tokR.dflt I.toks i).to∧(getI tokR.dflt I.toks i).to≤I.s.size:=
 ok.rng _ (getI_mem _ _ _ h0 h1)
section
variable {I:In}{M:Loc}{br:Nat}{t:Bool}{n:Int}{h:Heap}
attribute [local irreducible] CH in
theorem word0_any(ok:InR I)(hs:HS ⟨h,[br],rdC I M br t n⟩ h)(hT:Held tokR h [br] M.tA M.tn I.toks)(i:Int):CH Tryz.prog 31 #[ptr br,.int .i64 i] h fun v h'=>v = .string (word I i)∧Grows h h':=by
 refine eIn (rep:=rep) (m:=4) (ex:=[4,5,16,25,26,28]) (cu:=[]) (args:=[.own 900 br 0,.val (.int .i64 i)]) tO Tryz.func31 rfl (by decide) (rs:=[.tmp 4]) rfl rfl rfl hs ?_
 have hsl:=hT.sl
 have htn:(M.tn:Int)=I.L:=by have:=hsl.len_eq;unfold In.L;omega
 have hs0:=hs
 by_cases hi:i<0∨I.L≤i
 ·have e:word I i=⟨#[]⟩:=by rw [word,if_pos hi]
  rw [e]
  ((repeat' ((conv=>whnf);(first|(refine VC.mk (by omega) ?_)|(refine Br.mk ?_ ?_<;>intro hb<;>(try (exfalso;omega)))|fail)));all_goals (try (conv=>whnf)))
  all_goals exact⟨fun h' hs=>⟨rfl,hs0.gB hs rfl⟩⟩
 ·have hr:=ok.at (i:=i) (by omega) (by omega)
  obtain⟨w,hw⟩:∃ w,word I i=w:=⟨_,rfl⟩
  rw [hw]
  rw [word,if_neg hi] at hw
  ((repeat' ((conv=>whnf);(first|(refine VC.mk (by (first|omega|exact Sl.plain (by assumption) (by omega))) ?_)|(refine Br.mk ?_ ?_<;>intro hb<;>(try (exfalso;omega)))|(refine New.mk ?_;intro b hb)|(refine drawn tO mixed (by kernel_rfl) ?_)|(refine XLoad.held hT rfl (by omega) (by omega) rfl ?_)|fail)));all_goals (try (conv=>whnf)))
  all_goals exact⟨fun h' hs=>⟨str_eq (by simp_all),hs0.gB hs rfl⟩⟩
end
def txtI(I:In)(w:Int):ByteArray:=if 0≤w then I.s.extract (getI tokR.dflt I.toks w).frm.toNat (getI tokR.dflt I.toks w).to.toNat else ⟨#[]⟩
def wordP(I:In)(k w:Int):ByteArray:=if k=45 then (if txtI I w=(⟨#[60,45]⟩:ByteArray) then (⟨#[60,45,99,104,97,110]⟩:ByteArray) else if word I (w+1)=(⟨#[60,45]⟩:ByteArray) then (⟨#[99,104,97,110,60,45]⟩:ByteArray) else txtI I w) else txtI I w
def partN(I:In)(y:Nde):Prt:=⟨y.kind,y.kids,wordP I y.kind y.word⟩
structure TkS where
 L:List Prt
 o:Option (Nat×Nat)
structure Tk where
 b3:Nat
 b6:Nat
 br:Nat
 b9:Nat
 b10:Nat
 b11:Nat
 s:ByteArray
 A:Option Addr
 n:Nat
 c:Nat
def tkK(x:TkS):KV:=match x.o with
 |none=>.val (.slice none 0 0)
 |some (b,c)=>.osl 50 b x.L.length c
def tkT(x:TkS):Chs:=match x.o with
 |none=>[]
 |some (b,c)=>[(50,b,.arr 51 prtR x.L c)]
abbrev tkF(q:Tk):Value:=.func (.func 30) #[] #[ptr q.b3,ptr q.b6,ptr q.b9,ptr q.b10,ptr q.b11]
def tkC(q:Tk)(x:TkS):Chs:=(3,q.b3,.box 9 [.val (.string q.s)])::(6,q.b6,.box 22 [.val (.slice q.A q.n q.c)])::(26,q.br,.box 80 [.val (.string q.s),.val (.slice q.A q.n q.c),.val (.slice none 0 0),.val (.int .i64 0),.val (.bool false)])::(9,q.b9,.box 78 [.own 26 q.br 0])::(10,q.b10,.box 46 [tkK x])::(11,q.b11,.box 66 [.val (tkF q)])::tkT x
structure TkOk(x:TkS):Prop where
 no:x.o=none→x.L=[]
 le:∀ b c,x.o=some (b,c)→x.L.length≤c
def TkP(q:Tk)(x:TkS)(l:List Prt)(h:Heap)(u:Value)(h':Heap):Prop:=
 u = .tuple #[]∧∃ x':TkS,x'.L=x.L++l∧TkOk x'∧HS ⟨h,blks (tkC q x),tkC q x'⟩ h'
theorem CK.tk{q:Tk}{x:TkS}{l:List Prt}{E:Value→Heap→Prop}{S:St}{κ:KV→St→Prop}{args caps:List KV}{r:Chs}(hc:HasC S.ch (tkC q x++r))(hh:∀ h,HS S h→HS ⟨h,blks (tkC q x),tkC q x⟩ h→(∀ c∈blks (tkC q x),c∈blks S.ch)→CH Tryz.prog 30 (args.map den1++caps.map denC).toArray h (TkP q x l h))
 (hk:∀ x':TkS,x'.L=x.L++l→TkOk x'→κ (.tup []) ⟨S.h0,S.cap,tkC q x'++r⟩):CK Tryz.prog E 30 args caps S κ:=by
 refine CK.mut (tkC q x) r (fun kv q'=>kv = .tup []∧∃ x':TkS,q'=tkC q x'∧x'.L=x.L++l∧TkOk x') hc (fun h hs1 hs=>?_) ?_
 ·exact (hh h hs1 hs fun c hm=>by obtain⟨e,he,rfl⟩:=bsp hm;exact blks_mem (hc.mem e (List.mem_append.2 (.inl he)))).mono fun u h' ⟨a1,x',a2,a3,a4⟩=>⟨.tup [],_,a1.symm,a4,rfl,x',rfl,a2,a3⟩
 ·rintro kv q' ⟨rfl,x',rfl,h1,h2⟩
  exact hk x' h1 h2
theorem tk_word{q:Tk}{T:List Tok}(ok:InR ⟨q.s,T,[]⟩){S:St}{h:Heap}(hs:HS S h)(hA:Held tokR S.h0 S.cap q.A q.n T)(hf:findC S.ch 26=some (q.br,.box 80 [.val (.string q.s),.val (.slice q.A q.n q.c),.val (.slice none 0 0),.val (.int .i64 0),.val (.bool false)]))(i:Int) :
 CH Tryz.prog 31 #[ptr q.br,.int .i64 i] h fun v h'=>v = .string (word ⟨q.s,T,[]⟩ i)∧Grows h h':=
 word0_any (I:=⟨q.s,T,[]⟩) (M:=⟨q.A,q.n,q.c,none,0,0⟩) (t:=false) (n:=0) ok (HS.ren (S:=S) hs [26] (L:=[(900,q.br,rdB ⟨q.s,T,[]⟩ ⟨q.A,q.n,q.c,none,0,0⟩ false 0)]) ⟨⟨_,hf,SC.box rfl⟩,rfl,trivial⟩).anew (hA.later (hs.lB.less fun c hc=>by rw [List.mem_singleton.1 hc];exact blk_mem hf)) i
theorem flatL_mem:∀ (l:List Nd) (i:Nat),i<l.length→∀ y∈flat (l.getD i nd0),y∈flatL l
 |[],i,hi=>absurd hi (Nat.not_lt_zero i)
 |x::r,0,hi=>fun y hy=>by rw [flatL];exact List.mem_append.2 (.inl hy)
 |x::r,i+1,hi=>fun y hy=>by rw [flatL];exact List.mem_append.2 (.inr (flatL_mem r i (by simpa using hi) y (by simpa using hy)))
attribute [local irreducible] CH word
theorem walk30:∀ (k:Nat) (x:Nd),(flat x).length≤k→∀ (lo:Nat) (q:Tk) (T:List Tok) (st:TkS) (h:Heap) (p:Option Addr),HS ⟨h,blks (tkC q st),tkC q st⟩ h→TkOk st→(st.L++(flat x).map (partN ⟨q.s,T,[]⟩)).length≤1000000000 →
 InR ⟨q.s,T,[]⟩→Held tokR h (blks (tkC q st)) q.A q.n T→(∀ y∈flat x,-1≤y.word∧y.word<T.length)→TrI lo h (blks (tkC q st)) p x→CH Tryz.prog 30 #[.pointer p,ptr q.b3,ptr q.b6,ptr q.b9,ptr q.b10,ptr q.b11] h (TkP q st ((flat x).map (partN ⟨q.s,T,[]⟩)) h)
 |0,x,hx=>absurd (flat_pos x) (by omega)
 |k+1,.mk kd wd fr to l,hx=>fun lo q Tks st h p hs hst hz ok hTk hwd hT=>by
  obtain⟨bn,A,n,c,ps,rfl,-⟩:=id hT
  clear A n c ps
  have hst1:=hst.le
  have hst0:=hst.no
  obtain⟨L,o⟩:=st
  obtain⟨R,hR⟩:∃ R,L++(flat (Nd.mk kd wd fr to l)).map (partN ⟨q.s,Tks,[]⟩)=R:=⟨_,rfl⟩
  have hzR:R.length≤1000000000:=by rw [←hR];exact hz
  dsimp only at hst0 hst1 hz
  simp only [flat,List.map_cons,List.length_append,List.length_cons,List.length_map] at hx hz
  have hll:l.length≤1000000000:=by have:=flatL_len l;omega
  have hw0 : -1≤wd∧wd<Tks.length:=hwd ⟨kd,l.length,wd,fr,to⟩ (by simp [flat])
  have hwk:∀ i,i<l.length→∀ y∈flat (l.getD i nd0),-1≤y.word∧y.word<Tks.length:=fun i hi y hy=>hwd y (by simp only [flat];exact List.mem_cons_of_mem _ (flatL_mem l i hi y hy))
  have hlen:=hTk.sl.len_eq
  have hrg:0≤wd→0≤(getI tokR.dflt Tks wd).frm∧(getI tokR.dflt Tks wd).frm≤(getI tokR.dflt Tks wd).to∧(getI tokR.dflt Tks wd).to≤q.s.size:=fun h0=>ok.at (I:=⟨q.s,Tks,[]⟩) h0 hw0.2
  obtain⟨hwm,hw0⟩:=hw0
  have hszq:=ok.size
  have hlq:=ok.len
  dsimp only [In.L] at hszq hlq
  obtain⟨W,hW⟩:∃ W,wordP ⟨q.s,Tks,[]⟩ kd wd=W:=⟨_,rfl⟩
  have hR':L++⟨kd,l.length,W⟩::(flatL l).map (partN ⟨q.s,Tks,[]⟩)=R:=by rw [←hR,←hW];simp [flat,partN]
  have hplT:0≤wd→PlainA q.A:=fun h0=>hTk.sl.plain (by omega)
  obtain⟨b3,b6,br,b9,b10,b11,s,At,nt,ct⟩:=q
  dsimp only at hTk hlen hrg hszq hW hplT
  have hplT:PlainA At∨wd<0:=by by_cases h0:0≤wd;exact .inl (hplT h0);exact .inr (by omega)
  unfold wordP txtI at hW
  dsimp only at hW
  rcases o with _|⟨b2,c2⟩
  ·have:=hst0 rfl
   subst this
   have hs:HS ⟨h,blks (tkC ⟨b3,b6,br,b9,b10,b11,s,At,nt,ct⟩ ⟨[],none⟩),[(3,b3,.box 9 [.val (.string s)]),(6,b6,.box 22 [.val (.slice At nt ct)]),(26,br,.box 80 [.val (.string s),.val (.slice At nt ct),.val (.slice none 0 0),.val (.int .i64 0),.val (.bool false)]),(9,b9,.box 78 [.own 26 br 0]),(10,b10,.box 46 [.val (.slice none 0 0)]),(11,b11,.box 66 [.val (.func (.func 30) #[] #[ptr b3,ptr b6,ptr b9,ptr b10,ptr b11])])]⟩ h:=hs
   refine eIn (rep:=rep) (m:=6) (ex:=[7,9,14,37,38,41,67,68,69,70]) (cu:=[]) (args:=[.val (.pointer (some ⟨bn,0,none⟩)),.own 3 b3 0,.own 6 b6 0,.own 9 b9 0,.own 10 b10 0,.own 11 b11 0]) tO Tryz.func30 rfl (by decide) (rs:=[]) rfl rfl rfl hs ?_
   by_cases h0:0≤wd
   ·have hplT:=hplT.resolve_right (by omega)
    replace hrg:=hrg h0
    ((repeat' ((conv=>whnf);(first|(refine dW (id:=6) tO mixed (.pull 1 [2,3,4,5,6,7,8] (.pull 2 [3,4,5,6,7,8] (.pull 3 [4,5,6,7,8] (.pull 4 [5,6,7,8] (.pull 5 [6,7,8] (.pull 0 [6,7,8] (.one 6 (.pull 7 [8] (.pull 8 [] .done))))))))) (by kernel_rfl) (by kernel_rfl) ?_)|(refine dW (id:=8) tO mixed (.pull 1 [2,3,4,11,12,13,14] (.pull 2 [3,4,11,12,13,14] (.pull 3 [4,11,12,13,14] (.pull 5 [6,7,8,9,11,12,13,14] (.pull 6 [7,8,9,11,12,13,14] (.pull 7 [8,9,11,12,13,14] (.pull 10 [11,12,13,14] (.pull 8 [9,11,12,13,14] (.pull 9 [11,12,13,14] (.pull 4 [11,12,13,14] (.pull 11 [12,13,14] (.br 0 12 (.one 12 (.one 13 (.one 14 .done))) (.pull 0 [13,14] (.one 13 (.one 14 .done))))))))))))))) (by kernel_rfl) (by kernel_rfl) ?_)|(refine Ar.fit (by omega) ?_)|(refine VC.mk (by (first|omega|(and_intros<;>first|omega|rfl|(simp only [maxLen];omega)|(simp only [List.length_append,List.length_take,List.length_replicate,List.length_cons,List.length_nil];omega)))) ?_)|(refine Br.mk ?_ ?_<;>intro hb<;>(try replace hb:=Classical.not_not.1 hb)<;>(try (first|(exfalso;omega)|contradiction)))|(refine New.mk ?_;intro b hb)|(refine New2.mk ?_;intro b c hb hbc)|(refine SR.same ?_)|(refine Two.mk ?_ ?_)|(refine PLoad.kind hT (show readK false (mapC [.int .u8 kd]) _ from ?_))|(refine PLoad.word hT (show readK false (mapC [.int .i64 wd]) _ from ?_))|(refine PLoad.kids hT ?_;intro A n1 c1 ps hA hTs hn1;dsimp only [Nd.kids] at hn1 hTs;subst hn1)|(refine XLoad.held hTk rfl (by omega) (by omega) rfl ?_)|(apply CK.pure;(case hh=>(intro h1 hs;exact tk_word (q:=⟨b3,b6,br,b9,b10,b11,s,At,nt,ct⟩) (T:=Tks) ok hs hTk rfl _)))|(refine (drawn tO mixed (by kernel_rfl) ?_))|fail)));all_goals (try (conv=>whnf)))
    all_goals
     refine lgn tO [69] (fun y:List Prt×Nat×Nat×Nat=>[(69,.val (.int .i64 y.2.2.2))]) (fun y=>⟨h,blks (tkC ⟨b3,b6,br,b9,b10,b11,s,At,nt,ct⟩ ⟨[],none⟩),[(3,b3,.box 9 [.val (.string s)]),(6,b6,.box 22 [.val (.slice At nt ct)]),(26,br,.box 80 [.val (.string s),.val (.slice At nt ct),.val (.slice none 0 0),.val (.int .i64 0),.val (.bool false)]),(9,b9,.box 78 [.own 26 br 0]),(10,b10,.box 46 [.osl 50 y.2.1 y.1.length y.2.2.1]),(11,b11,.box 66 [.val (.func (.func 30) #[] #[ptr b3,ptr b6,ptr b9,ptr b10,ptr b11])]),(50,y.2.1,.arr 51 prtR y.1 y.2.2.1)]⟩) (fun μ y=>y.1++(flatL (l.drop y.2.2.2)).map (partN ⟨s,Tks,[]⟩)=R∧y.2.2.2+μ=l.length∧y.1.length≤y.2.2.1∧¬ y.1=[]) ?_
     conv=>whnf
     refine⟨fun h1 hs=>⟨l.length,([]++[⟨kd,l.length,W⟩],_,_,0),⟨by dsimp only;rw [←hR'];simp,by simp,by simpa using hbc,by simp⟩,?_,hs.ren [3,6,26,9,10,11,63] ⟨⟨_,rfl,SC.rfl⟩,rfl,⟨_,rfl,SC.rfl⟩,rfl,⟨_,rfl,SC.rfl⟩,rfl,⟨_,rfl,SC.rfl⟩,rfl,⟨_,rfl,SC.box (by simp [denC])⟩,rfl,⟨_,rfl,SC.rfl⟩,rfl,⟨_,rfl,SC.arr8 (by rw [←hW];simp [*])⟩,rfl,trivial⟩⟩,?_⟩
     ·refine And.intro ⟨_,rfl,by first|rfl|(simp [den,den1,denC];done)⟩ ?_
      (repeat (refine And.intro ⟨_,rfl,rfl⟩ ?_));exact trivial
     rintro μ ⟨L1,b1,c2,i⟩ ⟨t1,t2,t3,t4⟩
     dsimp only at t1 t2 t3 t4 ⊢
     clear hW
     by_cases hi:i<l.length
     ·obtain⟨f,rfl⟩:∃ f,μ=f+1:=⟨μ-1,by omega⟩
      rw [flatL_drop l i hi,List.map_append] at t1
      have hfl:(flat (l.getD i nd0)).length≤k:=by have h1:=flat_drop_le l i;rw [flatL_drop l i hi,List.length_append] at h1;omega
      have hzi:(L1++(flat (l.getD i nd0)).map (partN ⟨s,Tks,[]⟩)).length≤1000000000:=by rw [←t1] at hzR;simp only [List.length_append,List.length_map] at hzR ⊢;omega
      have hpl:PlainA A:=hA.sl.plain (by omega)
      ((repeat' ((conv=>whnf);(first|(refine Ar.fit (by omega) ?_)|(refine VC.mk (by omega) ?_)|(refine Br.mk ?_ ?_<;>intro hb<;>(try replace hb:=Classical.not_not.1 hb)<;>(try (exfalso;omega)))|(refine XLoad.kid i hA hTs hi ?_;intro bq hT0)|(refine CK.tk (q:=⟨b3,b6,br,b9,b10,b11,s,At,nt,ct⟩) (x:=⟨L1,some (b1,c2)⟩) (r:=[]) (l:=(flat (l.getD i nd0)).map (partN ⟨s,Tks,[]⟩)) ⟨rfl,rfl,rfl,rfl,rfl,rfl,rfl,rfl,rfl,rfl,rfl,rfl,rfl,rfl,trivial⟩ (fun h1 hs1 hs2 hsub=>walk30 k _ hfl lo ⟨b3,b6,br,b9,b10,b11,s,At,nt,ct⟩ Tks _ h1 _ hs2 ⟨fun e=>(by cases e),fun b c e=>(by cases e;exact t3)⟩ hzi ok (hTk.later (hs1.lB.less hsub)) (hwk i hi) (TrI.later (hs1.lB.less hsub) (Nat.le_refl _) _ hT0)) (fun x' e1 e2=>?_);obtain⟨L2,o2⟩:=x';obtain⟨e20,e21⟩:=e2;dsimp only at e1 e20 e21;rcases o2 with _|⟨b3',c3⟩;(exact absurd (e20 rfl) (by rw [e1];simp [t4])))|fail)));all_goals (try (conv=>whnf)))
      all_goals
       intro h2 hs
       refine⟨f,(L2,b3',c3,i+1),⟨by dsimp only;rw [e1,←t1,List.append_assoc],by dsimp only;omega,e21 _ _ rfl,by dsimp only;rw [e1];simp [t4]⟩,Nat.lt_succ_self f,?_,hs.ren [3,6,26,9,10,11,50] ⟨⟨_,rfl,SC.rfl⟩,rfl,⟨_,rfl,SC.rfl⟩,rfl,⟨_,rfl,SC.rfl⟩,rfl,⟨_,rfl,SC.rfl⟩,rfl,⟨_,rfl,SC.rfl⟩,rfl,⟨_,rfl,SC.rfl⟩,rfl,⟨_,rfl,SC.rfl⟩,rfl,trivial⟩⟩
       refine And.intro ⟨_,rfl,by first|rfl|(simp [den,den1,denC];done)⟩ ?_
       (repeat (refine And.intro ⟨_,rfl,rfl⟩ ?_));exact trivial
     ·((repeat' ((conv=>whnf);(first|(refine Br.mk ?_ ?_<;>intro hb<;>(try replace hb:=Classical.not_not.1 hb)<;>(try (exfalso;omega)))|fail)));all_goals (try (conv=>whnf)))
      all_goals
       rw [List.drop_eq_nil_of_le (by omega),flatL,List.map_nil,List.append_nil] at t1
       exact⟨fun h' hs=>⟨rfl,⟨R,some (b1,c2)⟩,hR.symm,⟨fun e=>(by cases e),fun b c e=>(by cases e;rw [←t1];exact t3)⟩,hs.ren [3,6,26,9,10,11,50] ⟨⟨_,rfl,SC.rfl⟩,rfl,⟨_,rfl,SC.rfl⟩,rfl,⟨_,rfl,SC.rfl⟩,rfl,⟨_,rfl,SC.rfl⟩,rfl,⟨_,rfl,SC.box (by simp [denC,tkK,t1])⟩,rfl,⟨_,rfl,SC.rfl⟩,rfl,⟨_,rfl,SC.arr8 t1⟩,rfl,trivial⟩⟩⟩
   ·clear hrg
    ((repeat' ((conv=>whnf);(first|(refine dW (id:=6) tO mixed (.pull 1 [2,3,4,5,6,7,8] (.pull 2 [3,4,5,6,7,8] (.pull 3 [4,5,6,7,8] (.pull 4 [5,6,7,8] (.pull 5 [6,7,8] (.pull 0 [6,7,8] (.one 6 (.pull 7 [8] (.pull 8 [] .done))))))))) (by kernel_rfl) (by kernel_rfl) ?_)|(refine dW (id:=8) tO mixed (.pull 1 [2,3,4,11,12,13,14] (.pull 2 [3,4,11,12,13,14] (.pull 3 [4,11,12,13,14] (.pull 5 [6,7,8,9,11,12,13,14] (.pull 6 [7,8,9,11,12,13,14] (.pull 7 [8,9,11,12,13,14] (.pull 10 [11,12,13,14] (.pull 8 [9,11,12,13,14] (.pull 9 [11,12,13,14] (.pull 4 [11,12,13,14] (.pull 11 [12,13,14] (.br 0 12 (.one 12 (.one 13 (.one 14 .done))) (.pull 0 [13,14] (.one 13 (.one 14 .done))))))))))))))) (by kernel_rfl) (by kernel_rfl) ?_)|(refine Ar.fit (by omega) ?_)|(refine VC.mk (by (first|omega|(and_intros<;>first|omega|rfl|(simp only [maxLen];omega)|(simp only [List.length_append,List.length_take,List.length_replicate,List.length_cons,List.length_nil];omega)))) ?_)|(refine Br.mk ?_ ?_<;>intro hb<;>(try replace hb:=Classical.not_not.1 hb)<;>(try (first|(exfalso;omega)|contradiction)))|(refine New.mk ?_;intro b hb)|(refine New2.mk ?_;intro b c hb hbc)|(refine SR.same ?_)|(refine Two.mk ?_ ?_)|(refine PLoad.kind hT (show readK false (mapC [.int .u8 kd]) _ from ?_))|(refine PLoad.word hT (show readK false (mapC [.int .i64 wd]) _ from ?_))|(refine PLoad.kids hT ?_;intro A n1 c1 ps hA hTs hn1;dsimp only [Nd.kids] at hn1 hTs;subst hn1)|(apply CK.pure;(case hh=>(intro h1 hs;exact tk_word (q:=⟨b3,b6,br,b9,b10,b11,s,At,nt,ct⟩) (T:=Tks) ok hs hTk rfl _)))|fail)));all_goals (try (conv=>whnf)))
    all_goals
     refine lgn tO [69] (fun y:List Prt×Nat×Nat×Nat=>[(69,.val (.int .i64 y.2.2.2))]) (fun y=>⟨h,blks (tkC ⟨b3,b6,br,b9,b10,b11,s,At,nt,ct⟩ ⟨[],none⟩),[(3,b3,.box 9 [.val (.string s)]),(6,b6,.box 22 [.val (.slice At nt ct)]),(26,br,.box 80 [.val (.string s),.val (.slice At nt ct),.val (.slice none 0 0),.val (.int .i64 0),.val (.bool false)]),(9,b9,.box 78 [.own 26 br 0]),(10,b10,.box 46 [.osl 50 y.2.1 y.1.length y.2.2.1]),(11,b11,.box 66 [.val (.func (.func 30) #[] #[ptr b3,ptr b6,ptr b9,ptr b10,ptr b11])]),(50,y.2.1,.arr 51 prtR y.1 y.2.2.1)]⟩) (fun μ y=>y.1++(flatL (l.drop y.2.2.2)).map (partN ⟨s,Tks,[]⟩)=R∧y.2.2.2+μ=l.length∧y.1.length≤y.2.2.1∧¬ y.1=[]) ?_
     conv=>whnf
     refine⟨fun h1 hs=>⟨l.length,([]++[⟨kd,l.length,W⟩],_,_,0),⟨by dsimp only;rw [←hR'];simp,by simp,by simpa using hbc,by simp⟩,?_,hs.ren [3,6,26,9,10,11,63] ⟨⟨_,rfl,SC.rfl⟩,rfl,⟨_,rfl,SC.rfl⟩,rfl,⟨_,rfl,SC.rfl⟩,rfl,⟨_,rfl,SC.rfl⟩,rfl,⟨_,rfl,SC.box (by simp [denC])⟩,rfl,⟨_,rfl,SC.rfl⟩,rfl,⟨_,rfl,SC.arr8 (by rw [←hW];simp [*])⟩,rfl,trivial⟩⟩,?_⟩
     ·refine And.intro ⟨_,rfl,by first|rfl|(simp [den,den1,denC];done)⟩ ?_
      (repeat (refine And.intro ⟨_,rfl,rfl⟩ ?_));exact trivial
     rintro μ ⟨L1,b1,c2,i⟩ ⟨t1,t2,t3,t4⟩
     dsimp only at t1 t2 t3 t4 ⊢
     clear hW
     by_cases hi:i<l.length
     ·obtain⟨f,rfl⟩:∃ f,μ=f+1:=⟨μ-1,by omega⟩
      rw [flatL_drop l i hi,List.map_append] at t1
      have hfl:(flat (l.getD i nd0)).length≤k:=by have h1:=flat_drop_le l i;rw [flatL_drop l i hi,List.length_append] at h1;omega
      have hzi:(L1++(flat (l.getD i nd0)).map (partN ⟨s,Tks,[]⟩)).length≤1000000000:=by rw [←t1] at hzR;simp only [List.length_append,List.length_map] at hzR ⊢;omega
      have hpl:PlainA A:=hA.sl.plain (by omega)
      ((repeat' ((conv=>whnf);(first|(refine Ar.fit (by omega) ?_)|(refine VC.mk (by omega) ?_)|(refine Br.mk ?_ ?_<;>intro hb<;>(try replace hb:=Classical.not_not.1 hb)<;>(try (exfalso;omega)))|(refine XLoad.kid i hA hTs hi ?_;intro bq hT0)|(refine CK.tk (q:=⟨b3,b6,br,b9,b10,b11,s,At,nt,ct⟩) (x:=⟨L1,some (b1,c2)⟩) (r:=[]) (l:=(flat (l.getD i nd0)).map (partN ⟨s,Tks,[]⟩)) ⟨rfl,rfl,rfl,rfl,rfl,rfl,rfl,rfl,rfl,rfl,rfl,rfl,rfl,rfl,trivial⟩ (fun h1 hs1 hs2 hsub=>walk30 k _ hfl lo ⟨b3,b6,br,b9,b10,b11,s,At,nt,ct⟩ Tks _ h1 _ hs2 ⟨fun e=>(by cases e),fun b c e=>(by cases e;exact t3)⟩ hzi ok (hTk.later (hs1.lB.less hsub)) (hwk i hi) (TrI.later (hs1.lB.less hsub) (Nat.le_refl _) _ hT0)) (fun x' e1 e2=>?_);obtain⟨L2,o2⟩:=x';obtain⟨e20,e21⟩:=e2;dsimp only at e1 e20 e21;rcases o2 with _|⟨b3',c3⟩;(exact absurd (e20 rfl) (by rw [e1];simp [t4])))|fail)));all_goals (try (conv=>whnf)))
      all_goals
       intro h2 hs
       refine⟨f,(L2,b3',c3,i+1),⟨by dsimp only;rw [e1,←t1,List.append_assoc],by dsimp only;omega,e21 _ _ rfl,by dsimp only;rw [e1];simp [t4]⟩,Nat.lt_succ_self f,?_,hs.ren [3,6,26,9,10,11,50] ⟨⟨_,rfl,SC.rfl⟩,rfl,⟨_,rfl,SC.rfl⟩,rfl,⟨_,rfl,SC.rfl⟩,rfl,⟨_,rfl,SC.rfl⟩,rfl,⟨_,rfl,SC.rfl⟩,rfl,⟨_,rfl,SC.rfl⟩,rfl,⟨_,rfl,SC.rfl⟩,rfl,trivial⟩⟩
       refine And.intro ⟨_,rfl,by first|rfl|(simp [den,den1,denC];done)⟩ ?_
       (repeat (refine And.intro ⟨_,rfl,rfl⟩ ?_));exact trivial
     ·((repeat' ((conv=>whnf);(first|(refine Br.mk ?_ ?_<;>intro hb<;>(try replace hb:=Classical.not_not.1 hb)<;>(try (exfalso;omega)))|fail)));all_goals (try (conv=>whnf)))
      all_goals
       rw [List.drop_eq_nil_of_le (by omega),flatL,List.map_nil,List.append_nil] at t1
       exact⟨fun h' hs=>⟨rfl,⟨R,some (b1,c2)⟩,hR.symm,⟨fun e=>(by cases e),fun b c e=>(by cases e;rw [←t1];exact t3)⟩,hs.ren [3,6,26,9,10,11,50] ⟨⟨_,rfl,SC.rfl⟩,rfl,⟨_,rfl,SC.rfl⟩,rfl,⟨_,rfl,SC.rfl⟩,rfl,⟨_,rfl,SC.rfl⟩,rfl,⟨_,rfl,SC.box (by simp [denC,tkK,t1])⟩,rfl,⟨_,rfl,SC.rfl⟩,rfl,⟨_,rfl,SC.arr8 t1⟩,rfl,trivial⟩⟩⟩
  ·have hLc:=hst1 _ _ rfl
   have hs:HS ⟨h,blks (tkC ⟨b3,b6,br,b9,b10,b11,s,At,nt,ct⟩ ⟨L,some (b2,c2)⟩),[(3,b3,.box 9 [.val (.string s)]),(6,b6,.box 22 [.val (.slice At nt ct)]),(26,br,.box 80 [.val (.string s),.val (.slice At nt ct),.val (.slice none 0 0),.val (.int .i64 0),.val (.bool false)]),(9,b9,.box 78 [.own 26 br 0]),(10,b10,.box 46 [.osl 50 b2 L.length c2]),(11,b11,.box 66 [.val (.func (.func 30) #[] #[ptr b3,ptr b6,ptr b9,ptr b10,ptr b11])]),(50,b2,.arr 51 prtR L c2)]⟩ h:=hs
   refine eIn (rep:=rep) (m:=6) (ex:=[7,9,14,37,38,41,67,68,69,70]) (cu:=[]) (args:=[.val (.pointer (some ⟨bn,0,none⟩)),.own 3 b3 0,.own 6 b6 0,.own 9 b9 0,.own 10 b10 0,.own 11 b11 0]) tO Tryz.func30 rfl (by decide) (rs:=[]) rfl rfl rfl hs ?_
   by_cases h0:0≤wd
   ·have hplT:=hplT.resolve_right (by omega)
    replace hrg:=hrg h0
    ((repeat' ((conv=>whnf);(first|(refine dW (id:=6) tO mixed (.pull 1 [2,3,4,5,6,7,8] (.pull 2 [3,4,5,6,7,8] (.pull 3 [4,5,6,7,8] (.pull 4 [5,6,7,8] (.pull 5 [6,7,8] (.pull 0 [6,7,8] (.one 6 (.pull 7 [8] (.pull 8 [] .done))))))))) (by kernel_rfl) (by kernel_rfl) ?_)|(refine dW (id:=8) tO mixed (.pull 1 [2,3,4,11,12,13,14] (.pull 2 [3,4,11,12,13,14] (.pull 3 [4,11,12,13,14] (.pull 5 [6,7,8,9,11,12,13,14] (.pull 6 [7,8,9,11,12,13,14] (.pull 7 [8,9,11,12,13,14] (.pull 10 [11,12,13,14] (.pull 8 [9,11,12,13,14] (.pull 9 [11,12,13,14] (.pull 4 [11,12,13,14] (.pull 11 [12,13,14] (.br 0 12 (.one 12 (.one 13 (.one 14 .done))) (.pull 0 [13,14] (.one 13 (.one 14 .done))))))))))))))) (by kernel_rfl) (by kernel_rfl) ?_)|(refine Ar.fit (by omega) ?_)|(refine VC.mk (by (first|omega|(and_intros<;>first|omega|rfl|(simp only [maxLen];omega)|(simp only [List.length_append,List.length_take,List.length_replicate,List.length_cons,List.length_nil];omega)))) ?_)|(refine Br.mk ?_ ?_<;>intro hb<;>(try replace hb:=Classical.not_not.1 hb)<;>(try (exfalso;omega)))|(refine New.mk ?_;intro b hb)|(refine NewO.mk ?_;intro b c hb hbc)|(refine SR.same ?_)|(refine Two.mk ?_ ?_)|(refine PLoad.kind hT (show readK false (mapC [.int .u8 kd]) _ from ?_))|(refine PLoad.word hT (show readK false (mapC [.int .i64 wd]) _ from ?_))|(refine PLoad.kids hT ?_;intro A n1 c1 ps hA hTs hn1;dsimp only [Nd.kids] at hn1 hTs;subst hn1)|(refine XLoad.held hTk rfl (by omega) (by omega) rfl ?_)|(apply CK.pure;(case hh=>(intro h1 hs;exact tk_word (q:=⟨b3,b6,br,b9,b10,b11,s,At,nt,ct⟩) (T:=Tks) ok hs hTk rfl _)))|(refine (drawn tO mixed (by kernel_rfl) ?_))|fail)));all_goals (try (conv=>whnf)))
    all_goals
     refine lgn tO [69] (fun y:List Prt×Nat×Nat×Nat=>[(69,.val (.int .i64 y.2.2.2))]) (fun y=>⟨h,blks (tkC ⟨b3,b6,br,b9,b10,b11,s,At,nt,ct⟩ ⟨L,some (b2,c2)⟩),[(3,b3,.box 9 [.val (.string s)]),(6,b6,.box 22 [.val (.slice At nt ct)]),(26,br,.box 80 [.val (.string s),.val (.slice At nt ct),.val (.slice none 0 0),.val (.int .i64 0),.val (.bool false)]),(9,b9,.box 78 [.own 26 br 0]),(10,b10,.box 46 [.osl 50 y.2.1 y.1.length y.2.2.1]),(11,b11,.box 66 [.val (.func (.func 30) #[] #[ptr b3,ptr b6,ptr b9,ptr b10,ptr b11])]),(50,y.2.1,.arr 51 prtR y.1 y.2.2.1)]⟩) (fun μ y=>y.1++(flatL (l.drop y.2.2.2)).map (partN ⟨s,Tks,[]⟩)=R∧y.2.2.2+μ=l.length∧y.1.length≤y.2.2.1∧¬ y.1=[]) ?_
     conv=>whnf
     refine⟨fun h1 hs=>⟨l.length,(L++[⟨kd,l.length,W⟩],_,_,0),⟨by dsimp only;rw [←hR'];simp,by simp,by simpa using hbc,by simp⟩,?_,hs.ren [3,6,26,9,10,11,63] ⟨⟨_,rfl,SC.rfl⟩,rfl,⟨_,rfl,SC.rfl⟩,rfl,⟨_,rfl,SC.rfl⟩,rfl,⟨_,rfl,SC.rfl⟩,rfl,⟨_,rfl,SC.box (by simp [denC])⟩,rfl,⟨_,rfl,SC.rfl⟩,rfl,⟨_,rfl,SC.arr8 (by rw [←hW];simp [*])⟩,rfl,trivial⟩⟩,?_⟩
     ·refine And.intro ⟨_,rfl,by first|rfl|(simp [den,den1,denC];done)⟩ ?_
      (repeat (refine And.intro ⟨_,rfl,rfl⟩ ?_));exact trivial
     rintro μ ⟨L1,b1,c2,i⟩ ⟨t1,t2,t3,t4⟩
     dsimp only at t1 t2 t3 t4 ⊢
     clear hW
     by_cases hi:i<l.length
     ·obtain⟨f,rfl⟩:∃ f,μ=f+1:=⟨μ-1,by omega⟩
      rw [flatL_drop l i hi,List.map_append] at t1
      have hfl:(flat (l.getD i nd0)).length≤k:=by have h1:=flat_drop_le l i;rw [flatL_drop l i hi,List.length_append] at h1;omega
      have hzi:(L1++(flat (l.getD i nd0)).map (partN ⟨s,Tks,[]⟩)).length≤1000000000:=by rw [←t1] at hzR;simp only [List.length_append,List.length_map] at hzR ⊢;omega
      have hpl:PlainA A:=hA.sl.plain (by omega)
      ((repeat' ((conv=>whnf);(first|(refine Ar.fit (by omega) ?_)|(refine VC.mk (by omega) ?_)|(refine Br.mk ?_ ?_<;>intro hb<;>(try replace hb:=Classical.not_not.1 hb)<;>(try (exfalso;omega)))|(refine XLoad.kid i hA hTs hi ?_;intro bq hT0)|(refine CK.tk (q:=⟨b3,b6,br,b9,b10,b11,s,At,nt,ct⟩) (x:=⟨L1,some (b1,c2)⟩) (r:=[]) (l:=(flat (l.getD i nd0)).map (partN ⟨s,Tks,[]⟩)) ⟨rfl,rfl,rfl,rfl,rfl,rfl,rfl,rfl,rfl,rfl,rfl,rfl,rfl,rfl,trivial⟩ (fun h1 hs1 hs2 hsub=>walk30 k _ hfl lo ⟨b3,b6,br,b9,b10,b11,s,At,nt,ct⟩ Tks _ h1 _ hs2 ⟨fun e=>(by cases e),fun b c e=>(by cases e;exact t3)⟩ hzi ok (hTk.later (hs1.lB.less hsub)) (hwk i hi) (TrI.later (hs1.lB.less hsub) (Nat.le_refl _) _ hT0)) (fun x' e1 e2=>?_);obtain⟨L2,o2⟩:=x';obtain⟨e20,e21⟩:=e2;dsimp only at e1 e20 e21;rcases o2 with _|⟨b3',c3⟩;(exact absurd (e20 rfl) (by rw [e1];simp [t4])))|fail)));all_goals (try (conv=>whnf)))
      all_goals
       intro h2 hs
       refine⟨f,(L2,b3',c3,i+1),⟨by dsimp only;rw [e1,←t1,List.append_assoc],by dsimp only;omega,e21 _ _ rfl,by dsimp only;rw [e1];simp [t4]⟩,Nat.lt_succ_self f,?_,hs.ren [3,6,26,9,10,11,50] ⟨⟨_,rfl,SC.rfl⟩,rfl,⟨_,rfl,SC.rfl⟩,rfl,⟨_,rfl,SC.rfl⟩,rfl,⟨_,rfl,SC.rfl⟩,rfl,⟨_,rfl,SC.rfl⟩,rfl,⟨_,rfl,SC.rfl⟩,rfl,⟨_,rfl,SC.rfl⟩,rfl,trivial⟩⟩
       refine And.intro ⟨_,rfl,by first|rfl|(simp [den,den1,denC];done)⟩ ?_
       (repeat (refine And.intro ⟨_,rfl,rfl⟩ ?_));exact trivial
     ·((repeat' ((conv=>whnf);(first|(refine Br.mk ?_ ?_<;>intro hb<;>(try replace hb:=Classical.not_not.1 hb)<;>(try (exfalso;omega)))|fail)));all_goals (try (conv=>whnf)))
      all_goals
       rw [List.drop_eq_nil_of_le (by omega),flatL,List.map_nil,List.append_nil] at t1
       exact⟨fun h' hs=>⟨rfl,⟨R,some (b1,c2)⟩,hR.symm,⟨fun e=>(by cases e),fun b c e=>(by cases e;rw [←t1];exact t3)⟩,hs.ren [3,6,26,9,10,11,50] ⟨⟨_,rfl,SC.rfl⟩,rfl,⟨_,rfl,SC.rfl⟩,rfl,⟨_,rfl,SC.rfl⟩,rfl,⟨_,rfl,SC.rfl⟩,rfl,⟨_,rfl,SC.box (by simp [denC,tkK,t1])⟩,rfl,⟨_,rfl,SC.rfl⟩,rfl,⟨_,rfl,SC.arr8 t1⟩,rfl,trivial⟩⟩⟩
   ·clear hrg
    ((repeat' ((conv=>whnf);(first|(refine dW (id:=6) tO mixed (.pull 1 [2,3,4,5,6,7,8] (.pull 2 [3,4,5,6,7,8] (.pull 3 [4,5,6,7,8] (.pull 4 [5,6,7,8] (.pull 5 [6,7,8] (.pull 0 [6,7,8] (.one 6 (.pull 7 [8] (.pull 8 [] .done))))))))) (by kernel_rfl) (by kernel_rfl) ?_)|(refine dW (id:=8) tO mixed (.pull 1 [2,3,4,11,12,13,14] (.pull 2 [3,4,11,12,13,14] (.pull 3 [4,11,12,13,14] (.pull 5 [6,7,8,9,11,12,13,14] (.pull 6 [7,8,9,11,12,13,14] (.pull 7 [8,9,11,12,13,14] (.pull 10 [11,12,13,14] (.pull 8 [9,11,12,13,14] (.pull 9 [11,12,13,14] (.pull 4 [11,12,13,14] (.pull 11 [12,13,14] (.br 0 12 (.one 12 (.one 13 (.one 14 .done))) (.pull 0 [13,14] (.one 13 (.one 14 .done))))))))))))))) (by kernel_rfl) (by kernel_rfl) ?_)|(refine Ar.fit (by omega) ?_)|(refine VC.mk (by (first|omega|(and_intros<;>first|omega|rfl|(simp only [maxLen];omega)|(simp only [List.length_append,List.length_take,List.length_replicate,List.length_cons,List.length_nil];omega)))) ?_)|(refine Br.mk ?_ ?_<;>intro hb<;>(try replace hb:=Classical.not_not.1 hb)<;>(try (first|(exfalso;omega)|contradiction)))|(refine New.mk ?_;intro b hb)|(refine NewO.mk ?_;intro b c hb hbc)|(refine SR.same ?_)|(refine Two.mk ?_ ?_)|(refine PLoad.kind hT (show readK false (mapC [.int .u8 kd]) _ from ?_))|(refine PLoad.word hT (show readK false (mapC [.int .i64 wd]) _ from ?_))|(refine PLoad.kids hT ?_;intro A n1 c1 ps hA hTs hn1;dsimp only [Nd.kids] at hn1 hTs;subst hn1)|(apply CK.pure;(case hh=>(intro h1 hs;exact tk_word (q:=⟨b3,b6,br,b9,b10,b11,s,At,nt,ct⟩) (T:=Tks) ok hs hTk rfl _)))|fail)));all_goals (try (conv=>whnf)))
    all_goals
     refine lgn tO [69] (fun y:List Prt×Nat×Nat×Nat=>[(69,.val (.int .i64 y.2.2.2))]) (fun y=>⟨h,blks (tkC ⟨b3,b6,br,b9,b10,b11,s,At,nt,ct⟩ ⟨L,some (b2,c2)⟩),[(3,b3,.box 9 [.val (.string s)]),(6,b6,.box 22 [.val (.slice At nt ct)]),(26,br,.box 80 [.val (.string s),.val (.slice At nt ct),.val (.slice none 0 0),.val (.int .i64 0),.val (.bool false)]),(9,b9,.box 78 [.own 26 br 0]),(10,b10,.box 46 [.osl 50 y.2.1 y.1.length y.2.2.1]),(11,b11,.box 66 [.val (.func (.func 30) #[] #[ptr b3,ptr b6,ptr b9,ptr b10,ptr b11])]),(50,y.2.1,.arr 51 prtR y.1 y.2.2.1)]⟩) (fun μ y=>y.1++(flatL (l.drop y.2.2.2)).map (partN ⟨s,Tks,[]⟩)=R∧y.2.2.2+μ=l.length∧y.1.length≤y.2.2.1∧¬ y.1=[]) ?_
     conv=>whnf
     refine⟨fun h1 hs=>⟨l.length,(L++[⟨kd,l.length,W⟩],_,_,0),⟨by dsimp only;rw [←hR'];simp,by simp,by simpa using hbc,by simp⟩,?_,hs.ren [3,6,26,9,10,11,63] ⟨⟨_,rfl,SC.rfl⟩,rfl,⟨_,rfl,SC.rfl⟩,rfl,⟨_,rfl,SC.rfl⟩,rfl,⟨_,rfl,SC.rfl⟩,rfl,⟨_,rfl,SC.box (by simp [denC])⟩,rfl,⟨_,rfl,SC.rfl⟩,rfl,⟨_,rfl,SC.arr8 (by rw [←hW];simp [*])⟩,rfl,trivial⟩⟩,?_⟩
     ·refine And.intro ⟨_,rfl,by first|rfl|(simp [den,den1,denC];done)⟩ ?_
      (repeat (refine And.intro ⟨_,rfl,rfl⟩ ?_));exact trivial
     rintro μ ⟨L1,b1,c2,i⟩ ⟨t1,t2,t3,t4⟩
     dsimp only at t1 t2 t3 t4 ⊢
     clear hW
     by_cases hi:i<l.length
     ·obtain⟨f,rfl⟩:∃ f,μ=f+1:=⟨μ-1,by omega⟩
      rw [flatL_drop l i hi,List.map_append] at t1
      have hfl:(flat (l.getD i nd0)).length≤k:=by have h1:=flat_drop_le l i;rw [flatL_drop l i hi,List.length_append] at h1;omega
      have hzi:(L1++(flat (l.getD i nd0)).map (partN ⟨s,Tks,[]⟩)).length≤1000000000:=by rw [←t1] at hzR;simp only [List.length_append,List.length_map] at hzR ⊢;omega
      have hpl:PlainA A:=hA.sl.plain (by omega)
      ((repeat' ((conv=>whnf);(first|(refine Ar.fit (by omega) ?_)|(refine VC.mk (by omega) ?_)|(refine Br.mk ?_ ?_<;>intro hb<;>(try replace hb:=Classical.not_not.1 hb)<;>(try (exfalso;omega)))|(refine XLoad.kid i hA hTs hi ?_;intro bq hT0)|(refine CK.tk (q:=⟨b3,b6,br,b9,b10,b11,s,At,nt,ct⟩) (x:=⟨L1,some (b1,c2)⟩) (r:=[]) (l:=(flat (l.getD i nd0)).map (partN ⟨s,Tks,[]⟩)) ⟨rfl,rfl,rfl,rfl,rfl,rfl,rfl,rfl,rfl,rfl,rfl,rfl,rfl,rfl,trivial⟩ (fun h1 hs1 hs2 hsub=>walk30 k _ hfl lo ⟨b3,b6,br,b9,b10,b11,s,At,nt,ct⟩ Tks _ h1 _ hs2 ⟨fun e=>(by cases e),fun b c e=>(by cases e;exact t3)⟩ hzi ok (hTk.later (hs1.lB.less hsub)) (hwk i hi) (TrI.later (hs1.lB.less hsub) (Nat.le_refl _) _ hT0)) (fun x' e1 e2=>?_);obtain⟨L2,o2⟩:=x';obtain⟨e20,e21⟩:=e2;dsimp only at e1 e20 e21;rcases o2 with _|⟨b3',c3⟩;(exact absurd (e20 rfl) (by rw [e1];simp [t4])))|fail)));all_goals (try (conv=>whnf)))
      all_goals
       intro h2 hs
       refine⟨f,(L2,b3',c3,i+1),⟨by dsimp only;rw [e1,←t1,List.append_assoc],by dsimp only;omega,e21 _ _ rfl,by dsimp only;rw [e1];simp [t4]⟩,Nat.lt_succ_self f,?_,hs.ren [3,6,26,9,10,11,50] ⟨⟨_,rfl,SC.rfl⟩,rfl,⟨_,rfl,SC.rfl⟩,rfl,⟨_,rfl,SC.rfl⟩,rfl,⟨_,rfl,SC.rfl⟩,rfl,⟨_,rfl,SC.rfl⟩,rfl,⟨_,rfl,SC.rfl⟩,rfl,⟨_,rfl,SC.rfl⟩,rfl,trivial⟩⟩
       refine And.intro ⟨_,rfl,by first|rfl|(simp [den,den1,denC];done)⟩ ?_
       (repeat (refine And.intro ⟨_,rfl,rfl⟩ ?_));exact trivial
     ·((repeat' ((conv=>whnf);(first|(refine Br.mk ?_ ?_<;>intro hb<;>(try replace hb:=Classical.not_not.1 hb)<;>(try (exfalso;omega)))|fail)));all_goals (try (conv=>whnf)))
      all_goals
       rw [List.drop_eq_nil_of_le (by omega),flatL,List.map_nil,List.append_nil] at t1
       exact⟨fun h' hs=>⟨rfl,⟨R,some (b1,c2)⟩,hR.symm,⟨fun e=>(by cases e),fun b c e=>(by cases e;rw [←t1];exact t3)⟩,hs.ren [3,6,26,9,10,11,50] ⟨⟨_,rfl,SC.rfl⟩,rfl,⟨_,rfl,SC.rfl⟩,rfl,⟨_,rfl,SC.rfl⟩,rfl,⟨_,rfl,SC.rfl⟩,rfl,⟨_,rfl,SC.box (by simp [denC,tkK,t1])⟩,rfl,⟨_,rfl,SC.rfl⟩,rfl,⟨_,rfl,SC.arr8 t1⟩,rfl,trivial⟩⟩⟩
end Go.Ex
