/-
  Top: TopDeep: whatever the input, the law answers true (part 28)
-/
import Derived.Defers
import Derived.Recover
import Derived.Test.YtpjdgifhhnjclaaGreatDoorM27
set_option linter.unusedVariables false
set_option linter.unusedSimpArgs false
set_option maxHeartbeats 4000000
set_option maxRecDepth 10000
namespace Go.Ex
open Go.Proofs
structure NsS where
 P:List Int
 O:List Int
 n:Int
 m:Int
abbrev frmT(toks:List Tok)(i:Int):Int:=(getI tokR.dflt toks i).frm
def nestStep(s:ByteArray)(toks:List Tok)(x:NsS)(i:Int):NsS×Int×Int:=
 if ¬ (getI tokR.dflt toks i).kind=8∨¬ (getI tokR.dflt toks i).to-frmT toks i=1 then (⟨x.P.set i.toNat (-1),x.O,x.n,x.m⟩,0,0) else
 if ¬ partF (byteI s (frmT toks i))=0 then (if x.n=100 then (x,6,frmT toks i) else (⟨x.P.set i.toNat (-1),x.O.set x.n.toNat i,x.n+1,max x.m (x.n+1)⟩,0,0)) else
 if byteI s (frmT toks i)=41∨byteI s (frmT toks i)=93∨byteI s (frmT toks i)=125 then
  (if x.n=0∨¬ partF (byteI s (frmT toks (getI (intR .i64).dflt x.O (x.n-1))))=byteI s (frmT toks i) then (x,5,frmT toks i)
   else (⟨((x.P.set i.toNat (-1)).set i.toNat (getI (intR .i64).dflt x.O (x.n-1))).set (getI (intR .i64).dflt x.O (x.n-1)).toNat i,x.O,x.n-1,x.m⟩,0,0))
 else (⟨x.P.set i.toNat (-1),x.O,x.n,x.m⟩,0,0)
def nestGo(s:ByteArray)(toks:List Tok):Nat→NsS→Int→List Int×Int×Int×Int
 |0,x,i=>if 0<x.n then ([],0,5,frmT toks (getI (intR .i64).dflt x.O (x.n-1))) else (x.P,x.m,0,0)
 |f+1,x,i=>if (nestStep s toks x i).2.1=0 then nestGo s toks f (nestStep s toks x i).1 (i+1) else ([],0,(nestStep s toks x i).2)
def nestL(s:ByteArray)(toks:List Tok):List Int×Int×Int×Int:=nestGo s toks toks.length ⟨List.replicate toks.length (intR .i64).dflt,List.replicate 100 (intR .i64).dflt,0,0⟩ 0
def nestF(s:ByteArray):List Tok×List Int×Int×Int×Int:=
 if (semF s).2.1=0∧(semF s).2.2=0 then (if (nestL s (semF s).1).2.2.1=0 then ((semF s).1,nestL s (semF s).1) else ([],[],0,(nestL s (semF s).1).2.2)) else ([],[],0,(semF s).2)
def NestR(h:Heap)(r:List Tok×List Int×Int×Int×Int)(v:Value)(h':Heap):Prop:=
 ∃ A n c B m d,v = .tuple #[.slice A n c,.slice B m d,.int .i64 r.2.2.1,.agg #[.int .i64 r.2.2.2.1,.int .i64 r.2.2.2.2]]∧Grows h h'∧(Held tokR h' [] A n r.1∧∀ a,0<n→A=some a→h.size≤a.block)∧(Held (intR .i64) h' [] B m r.2.1∧∀ a,0<m→B=some a→h.size≤a.block)
theorem Held.nil{τ:Type}{R:Rep τ}{h:Heap}{cap:List Nat}:Held R h cap none 0 []:=⟨⟨rfl,by decide,fun h0=>absurd h0 (by decide)⟩,fun h0=>absurd h0 (by decide)⟩
theorem Held.endS{τ:Type}{R:Rep τ}{S:St}{h:Heap}{A:Option Addr}{n:Nat}{xs:List τ}(hk:Held R S.h0 S.cap A n xs)(hs:HS S h):Held R h [] A n xs:=
 (hk.later hs.lB).later ⟨Nat.le_refl _,fun _ _ _=>rfl,fun c hc=>by cases hc⟩
theorem Held.ofC{τ:Type}{R:Rep τ}{S:St}{h:Heap}(hs:HS S h){k b T cap:Nat}{xs:List τ}(hf:findC S.ch k=some (b,.arr T R xs cap)){n:Nat}(hn:n=xs.length):Held R h [] (some ⟨b,0,none⟩) n xs:=by
 have h1:=hs.sl hf (Nat.le_refl xs.length)
 rw [List.take_length] at h1
 subst hn
 exact⟨h1,fun _ a ha=>by cases ha;exact⟨(hs.chunk _ (fM hf)).1,List.not_mem_nil⟩⟩
theorem freshC{S:St}{h hs:Heap}(hS:HS S hs){k b:Nat}{c:Chunk}(hf:findC S.ch k=some (b,c))(h0:h.size≤S.h0.size)(hc:∀ c∈S.cap,h.size≤c):h.size≤b:=by
 obtain⟨_,h2,_⟩:=hS.chunk _ (fM hf)
 rcases h2 with h2|h2
 ·exact Nat.le_trans h0 h2
 ·exact hc _ h2
theorem semFold_ok(s:ByteArray):∀ (l:List Tok) (x:List Tok×Int),(∀ t∈l,0≤t.frm∧t.frm<t.to∧t.to≤s.size)→(∀ t∈x.1,0≤t.frm∧t.frm≤t.to∧t.to≤s.size)→(-1≤x.2∧x.2≤s.size) →
 (∀ t∈(l.foldl (semStep s) x).1,0≤t.frm∧t.frm≤t.to∧t.to≤s.size)∧(-1≤(l.foldl (semStep s) x).2∧(l.foldl (semStep s) x).2≤s.size)∧(l.foldl (semStep s) x).1.length≤x.1.length+l.length
 |[],x,h0,h1,h2=>⟨h1,h2,by simp⟩
 |t::l,x,h0,h1,h2=>by
  have hl:∀ t∈l,0≤t.frm∧t.frm<t.to∧t.to≤s.size:=fun u hu=>h0 u (List.mem_cons_of_mem _ hu)
  have ht:=h0 t List.mem_cons_self
  have key:(∀ u∈(semStep s x t).1,0≤u.frm∧u.frm≤u.to∧u.to≤s.size)∧(-1≤(semStep s x t).2∧(semStep s x t).2≤s.size)∧(semStep s x t).1.length≤x.1.length+1:=by
   unfold semStep flushS
   repeat' split
   all_goals (refine⟨fun u hu=>?_,by (try dsimp only);omega,by (try dsimp only);(try rw [List.length_append,List.length_singleton]);omega⟩)
   all_goals (try dsimp only at hu)
   all_goals first
    |exact h1 u hu
    | (rcases List.mem_append.1 hu with hu|hu
       ·exact h1 u hu
       ·rw [List.mem_singleton.1 hu];(try dsimp only);omega)
  have:=semFold_ok s l (semStep s x t) hl key.1 key.2.1
  rw [List.foldl_cons]
  exact⟨this.1,this.2.1,by rw [List.length_cons];omega⟩
theorem semF_ok(s:ByteArray):(∀ t∈(semF s).1,0≤t.frm∧t.frm≤t.to∧t.to≤s.size)∧((semF s).1.length:Int)≤65537∧((semF s).2.1=0→s.size≤65536):=by
 obtain⟨a1,a2,a3,a4⟩:=allF_ok s
 unfold semF
 split
 ·rename_i h
  have:=semFold_ok s (allF s).1 ([],-1) a1 (fun t h=>by cases h) ⟨Int.le_refl _,by (try dsimp only);omega⟩
  have hl:(([]:List Tok)).length=0:=rfl
  dsimp only at this
  unfold semL flushS
  dsimp only
  refine⟨?_,?_,fun _=>a4 h.1⟩
  ·split
   ·intro t ht
    rcases List.mem_append.1 ht with ht|ht
    ·exact this.1 t ht
    ·rw [List.mem_singleton.1 ht];(try dsimp only);omega
   ·exact this.1
  ·split
   ·rw [List.length_append,List.length_singleton];omega
   ·omega
 ·exact⟨(fun t h=>by cases h),(by simp),fun h=>a4 h⟩
theorem getI_set(l:List Int)(d:Int)(j k v:Int)(hj:0≤j)(hk:0≤k)(hl:j<l.length):getI d (l.set j.toNat v) k=if k=j then v else getI d l k:=by
 unfold getI
 rw [List.getD_eq_getElem?_getD,List.getD_eq_getElem?_getD,List.getElem?_set]
 split
 ·rename_i h
  rw [if_pos (by omega),if_pos (by omega)]
  rfl
 ·rename_i h
  rw [if_neg (by omega)]
structure NsOk(T:List Tok)(x:NsS)(i:Int):Prop where
 pl:x.P.length=T.length
 ol:x.O.length=100
 n:0≤x.n∧x.n≤100
 m:0≤x.m∧x.m≤100
 at_:∀ k:Int,0≤k→k<x.n→(0≤getI (intR .i64).dflt x.O k∧getI (intR .i64).dflt x.O k<i)∧(getI tokR.dflt T (getI (intR .i64).dflt x.O k)).to-frmT T (getI (intR .i64).dflt x.O k)=1
theorem nsPush{T:List Tok}{P O:List Int}{k i:Int}(t2:0≤i)(t3:P.length=T.length)(t4:O.length=100)(t5:0≤k∧k≤100)
 (t7:∀ j:Int,0≤j→j<k→(0≤getI (intR .i64).dflt O j∧getI (intR .i64).dflt O j<i)∧(getI tokR.dflt T (getI (intR .i64).dflt O j)).to-frmT T (getI (intR .i64).dflt O j)=1)
 (hi:(getI tokR.dflt T i).to-frmT T i=1∧k<100):∀ j:Int,0≤j→j<k+1→(0≤getI (intR .i64).dflt (O.set k.toNat i) j∧getI (intR .i64).dflt (O.set k.toNat i) j<i+1)∧(getI tokR.dflt T (getI (intR .i64).dflt (O.set k.toNat i) j)).to-frmT T (getI (intR .i64).dflt (O.set k.toNat i) j)=1:=fun j h0 h1=>by
 rw [getI_set O _ k j i (by omega) h0 (by omega)]
 split
 ·exact⟨⟨t2,by omega⟩,hi.1⟩
 ·have:=t7 j h0 (by omega)
  exact⟨⟨this.1.1,by omega⟩,this.2⟩
attribute [local irreducible] CH semF partF
theorem walk_any(s:ByteArray)(h:Heap)(ht:TabsH h)(hz:s.size≤140737488355328):CH Tryz.prog 25 #[.string s] h (NestR h (nestF s)):=by
 refine enter (rep:=rep) (m:=1) (ex:=[0,2,3,4,5,6,7,8,9,10,11,12,13,14,22,27,28,29,30,47,52,57,69,96,116]) (cu:=[]) tO Tryz.func25 rfl (by decide) (rs:=[.tmp 2,.tmp 3,.tmp 4,.cell 5 28]) rfl rfl [.val (.string s)] rfl ?_
 obtain⟨R,hR⟩:∃ R,nestF s=R:=⟨_,rfl⟩
 rw [hR]
 unfold nestF at hR
 have c1:=fun h1 (ht:TabsH h1)=>semi_any s h1 ht hz
 obtain⟨ok1,ok2,ok3⟩:=semF_ok s
 generalize semF s=sf at hR c1 ok1 ok2 ok3
 obtain⟨T,fe,fa⟩:=sf
 dsimp only at hR c1 ok1 ok2 ok3
 ((repeat' ((conv=>whnf);(first|(refine dW (id:=3) tO mixed (.pull 1 [2,3,4] (.pull 2 [3,4] (.pull 3 [4] (.pull 0 [4] (.one 4 .done))))) (by kernel_rfl) (by kernel_rfl) ?_)|(refine VC.mk (by (first|omega|(and_intros<;>first|omega|rfl|(simp only [maxLen];omega)))) ?_)|(refine Br.mk ?_ ?_<;>intro hb)|(refine New.mk ?_;intro b hb)|(refine CK.slf (fun h hs=>c1 h (ht.at hs)) ?_;intro h1 A n c hl hA hfr;have hn:=hA.sl.len_eq)|(refine ft_neq ?_)|fail)));all_goals (try (conv=>whnf)))
 ·rename_i hb0
  rw [if_neg (by assumption)] at hR
  subst hR
  exact⟨fun h' hs=>⟨none,0,0,none,0,0,rfl,hl.bas.fin hs,⟨Held.nil,fun a h0=>absurd h0 (Nat.lt_irrefl 0)⟩,⟨Held.nil,fun a h0=>absurd h0 (Nat.lt_irrefl 0)⟩⟩⟩
 rename_i b5 hb5 b7 hb7 hf b8 hb8
 have hf:=Classical.not_not.1 hf
 rw [if_pos hf] at hR
 have hz2:=ok3 hf.1
 have hbas:Bas h h1 [b5]:=hl.bas
 replace hA:Held tokR h1 [b5] A n T:=hA
 have hget:∀ j:Int,0≤j→j<n→0≤frmT T j∧frmT T j≤(getI tokR.dflt T j).to∧(getI tokR.dflt T j).to≤s.size:=fun j h0 h1=>ok1 _ (by
  unfold getI
  rw [List.getD_eq_getElem?_getD,List.getElem?_eq_getElem (by omega)]
  exact List.getElem_mem _)
 obtain⟨Q,hQ⟩:∃ Q,nestL s T=Q:=⟨_,rfl⟩
 rw [hQ] at hR
 unfold nestL at hQ
 refine lgn tO [10,11,29] (fun x:NsS×Int=>[(10,.val (.int .i64 x.1.n)),(11,.val (.int .i64 x.1.m)),(29,.val (.int .i64 x.2))]) (fun x=>⟨h1,[b5],[(9,b,.arr 93 (intR .i64) x.1.O 100),(26,b8,.arr 3 (intR .i64) x.1.P (n:Int).toNat),(7,b7,.box 28 [.val (.int .i64 fe),.val (.int .i64 fa)]),(5,b5,.box 28 [.val (.int .i64 0),.val (.int .i64 0)])]⟩)
  (fun μ x=>nestGo s T μ x.1 x.2=Q∧(0≤x.2∧x.2+μ=T.length)∧NsOk T x.1 x.2) ?_
 conv=>whnf
 refine⟨fun h2 hs=>⟨T.length,(⟨List.replicate T.length (intR .i64).dflt,List.replicate 100 (intR .i64).dflt,0,0⟩,0),⟨hQ,⟨Int.le_refl _,by simp⟩,⟨by simp,by simp,by simp,by simp,fun k h0 h1=>by dsimp only at h1;omega⟩⟩,?_,hs.ren [9,26,7,5] ⟨⟨_,rfl,SC.rfl⟩,rfl,⟨_,rfl,SC.arr (by simp [hn])⟩,rfl,⟨_,rfl,SC.rfl⟩,rfl,⟨_,rfl,SC.box rfl⟩,rfl,trivial⟩⟩,?_⟩
 ·refine And.intro ⟨_,rfl,by first|rfl|(simp [den,den1,denC];done)⟩ ?_
  (repeat (refine And.intro ⟨_,rfl,rfl⟩ ?_));exact trivial
 rintro μ ⟨⟨P,O,k,m⟩,i⟩ ⟨t1,⟨t2,t2'⟩,⟨t3,t4,t5,t6,t7⟩⟩
 dsimp only at t1 t2 t2' t3 t4 t5 t6 t7 ⊢
 have tl:=t7 (k-1)
 have tl0:k=0∨((0≤getI (intR .i64).dflt O (k-1)∧getI (intR .i64).dflt O (k-1)<i)∧(getI tokR.dflt T (getI (intR .i64).dflt O (k-1))).to-frmT T (getI (intR .i64).dflt O (k-1))=1∧(0≤frmT T (getI (intR .i64).dflt O (k-1))∧(getI tokR.dflt T (getI (intR .i64).dflt O (k-1))).to≤s.size)):=by
  by_cases hk0:k=0
  ·exact .inl hk0
  ·have:=tl (by omega) (by omega)
   have h2:=hget (getI (intR .i64).dflt O (k-1)) this.1.1 (by omega)
   exact .inr ⟨this.1,this.2,h2.1,h2.2.2⟩
 clear tl
 by_cases hi:i<n
 ·obtain⟨f,rfl⟩:∃ f,μ=f+1:=⟨μ-1,by omega⟩
  have hpl:PlainA A:=hA.sl.plain (by omega)
  have hg:=hget i t2 hi
  simp only [nestGo] at t1
  obtain⟨R1,hR1⟩:∃ r,nestStep s T ⟨P,O,k,m⟩ i=r:=⟨_,rfl⟩
  rw [hR1] at t1
  dsimp only [frmT] at hg tl0
  dsimp only [nestStep,frmT] at hR1
  ((repeat' ((conv=>whnf);(first|(refine dW (id:=15) tO mixed (.pull 0 [1,2,6] (.pull 3 [4,5,6] (.pull 4 [5,6] (.pull 5 [6] (.pull 1 [2,6] (.pull 2 [6] (.one 6 .done))))))) (by kernel_rfl) (by kernel_rfl) ?_)|(refine dW (id:=21) tO mixed (.pull 0 [1,2,6] (.pull 3 [4,5,6] (.pull 4 [5,6] (.pull 5 [6] (.pull 1 [2,6] (.pull 2 [6] (.one 6 .done))))))) (by kernel_rfl) (by kernel_rfl) ?_)|(refine dW (id:=23) tO mixed (.pull 0 [10,11,12,13] (.pull 1 [10,11,12,13] (.pull 2 [12,13] (.pull 3 [4,5,12,13] (.pull 4 [5,12,13] (.pull 6 [7,8,10,11,12,13] (.pull 7 [8,10,11,12,13] (.pull 9 [12,13] (.pull 8 [10,11,12,13] (.pull 10 [11,12,13] (.br 5 11 (.one 11 (.pull 12 [13] (.one 13 .done))) (.pull 5 [12,13] (.pull 12 [13] (.one 13 .done)))))))))))))) (by kernel_rfl) (by kernel_rfl) ?_)|(refine Ar.fit (by omega) ?_)|(refine VC.mk (by (first|omega|(and_intros<;>first|omega|rfl|(simp only [List.length_set];omega)))) ?_)|(refine Br.mk ?_ ?_<;>intro hb<;>(try replace hb:=Classical.not_not.1 hb)<;>(try (exfalso;omega)))|(refine New.mk ?_;intro b hb)|(refine Two.mk ?_ ?_)|(refine XLoad.held hA rfl (by omega) (by omega) rfl ?_)|(apply CK.pure;(case hh=>(intro h1 hs;exact partner_any _ h1)))|fail)));all_goals (try (conv=>whnf)))
  all_goals first
   | (intro h2 hs
      rw [if_pos (by omega)] at hR1
      subst hR1
      rw [if_pos rfl] at t1
      refine⟨f,(_,i+1),⟨t1,⟨by dsimp only;omega,by dsimp only;omega⟩,⟨by dsimp only;(simp;omega),by dsimp only;exact t4,t5,t6,fun j h0 h1=>⟨⟨(t7 j h0 h1).1.1,by have:=(t7 j h0 h1).1.2;dsimp only;omega⟩,(t7 j h0 h1).2⟩⟩⟩,Nat.lt_succ_self f,?_,hs.ren [9,26,7,5] ⟨⟨_,rfl,SC.rfl⟩,rfl,⟨_,rfl,SC.arr (by first|rfl|simp)⟩,rfl,⟨_,rfl,SC.rfl⟩,rfl,⟨_,rfl,SC.rfl⟩,rfl,trivial⟩⟩
      refine And.intro ⟨_,rfl,by first|rfl|(simp [den,den1,denC];done)⟩ ?_
      (repeat (refine And.intro ⟨_,rfl,rfl⟩ ?_));exact trivial)
   | (intro h2 hs
      rw [if_neg (by omega),if_neg (by omega),if_neg (by omega)] at hR1
      subst hR1
      rw [if_pos rfl] at t1
      refine⟨f,(_,i+1),⟨t1,⟨by dsimp only;omega,by dsimp only;omega⟩,⟨by dsimp only;(simp;omega),by dsimp only;exact t4,t5,t6,fun j h0 h1=>⟨⟨(t7 j h0 h1).1.1,by have:=(t7 j h0 h1).1.2;dsimp only;omega⟩,(t7 j h0 h1).2⟩⟩⟩,Nat.lt_succ_self f,?_,hs.ren [9,26,7,5] ⟨⟨_,rfl,SC.rfl⟩,rfl,⟨_,rfl,SC.arr (by first|rfl|simp)⟩,rfl,⟨_,rfl,SC.rfl⟩,rfl,⟨_,rfl,SC.rfl⟩,rfl,trivial⟩⟩
      refine And.intro ⟨_,rfl,by first|rfl|(simp [den,den1,denC];done)⟩ ?_
      (repeat (refine And.intro ⟨_,rfl,rfl⟩ ?_));exact trivial)
   | (intro h2 hs
      rw [if_neg (by omega),if_pos (by omega),if_neg (by omega)] at hR1
      subst hR1
      rw [if_pos rfl] at t1
      refine⟨f,(_,i+1),⟨t1,⟨by dsimp only;omega,by dsimp only;omega⟩,⟨by dsimp only;(simp;omega),by dsimp only;(simp;omega),⟨by dsimp only;omega,by dsimp only;omega⟩,⟨by dsimp only;omega,by dsimp only;omega⟩,nsPush t2 t3 t4 t5 t7 (by show (getI tokR.dflt T i).to-(getI tokR.dflt T i).frm=1∧k<100;omega)⟩⟩,Nat.lt_succ_self f,?_,hs.ren [9,26,7,5] ⟨⟨_,rfl,SC.rfl⟩,rfl,⟨_,rfl,SC.arr (by first|rfl|simp)⟩,rfl,⟨_,rfl,SC.rfl⟩,rfl,⟨_,rfl,SC.rfl⟩,rfl,trivial⟩⟩
      refine And.intro ⟨_,rfl,by first|rfl|(simp [den,den1,denC];done)⟩ ?_
      (repeat (refine And.intro ⟨_,rfl,rfl⟩ ?_));exact trivial)
   | (intro h2 hs
      rw [if_neg (by omega),if_neg (by omega),if_pos (by omega),if_neg (by omega)] at hR1
      subst hR1
      rw [if_pos rfl] at t1
      refine⟨f,(_,i+1),⟨t1,⟨by dsimp only;omega,by dsimp only;omega⟩,⟨by dsimp only;(simp;omega),by dsimp only;exact t4,⟨by dsimp only;omega,by dsimp only;omega⟩,t6,fun j h0 h1=>⟨⟨(t7 j h0 (by dsimp only at h1;omega)).1.1,by have:=(t7 j h0 (by dsimp only at h1;omega)).1.2;dsimp only;omega⟩,(t7 j h0 (by dsimp only at h1;omega)).2⟩⟩⟩,Nat.lt_succ_self f,?_,hs.ren [9,26,7,5] ⟨⟨_,rfl,SC.rfl⟩,rfl,⟨_,rfl,SC.arr (by first|rfl|simp)⟩,rfl,⟨_,rfl,SC.rfl⟩,rfl,⟨_,rfl,SC.rfl⟩,rfl,trivial⟩⟩
      refine And.intro ⟨_,rfl,by first|rfl|(simp [den,den1,denC];done)⟩ ?_
      (repeat (refine And.intro ⟨_,rfl,rfl⟩ ?_));exact trivial)
   | (rw [if_neg (by omega),if_pos (by omega),if_pos (by omega)] at hR1
      subst hR1
      dsimp only at t1
      rw [if_neg (by omega)] at t1
      subst t1
      dsimp only at hR
      rw [if_neg (by omega)] at hR
      subst hR
      exact⟨fun h' hs=>⟨none,0,0,none,0,0,rfl,hbas.fin hs,⟨Held.nil,fun a h0=>absurd h0 (Nat.lt_irrefl 0)⟩,⟨Held.nil,fun a h0=>absurd h0 (Nat.lt_irrefl 0)⟩⟩⟩)
   | (rw [if_neg (by omega),if_neg (by omega),if_pos (by omega),if_pos (by omega)] at hR1
      subst hR1
      dsimp only at t1
      rw [if_neg (by omega)] at t1
      subst t1
      dsimp only at hR
      rw [if_neg (by omega)] at hR
      subst hR
      exact⟨fun h' hs=>⟨none,0,0,none,0,0,rfl,hbas.fin hs,⟨Held.nil,fun a h0=>absurd h0 (Nat.lt_irrefl 0)⟩,⟨Held.nil,fun a h0=>absurd h0 (Nat.lt_irrefl 0)⟩⟩⟩)
 ·have hm:μ=0:=by omega
  subst hm
  have hpl:n=0∨PlainA A:=by
   by_cases h0:n=0
   ·exact .inl h0
   ·exact .inr (hA.sl.plain (by omega))
  simp only [nestGo] at t1
  by_cases hk:0<k
  ·have hpl:PlainA A:=hA.sl.plain (by omega)
   rw [if_pos hk] at t1
   subst t1
   ((repeat' ((conv=>whnf);(first|(refine dW (id:=26) tO mixed (.pull 0 [5,6,7,8,12] (.pull 1 [2,3,4,5,6,7,8,12] (.pull 2 [3,4,5,6,7,8,12] (.pull 3 [4,5,6,7,8,12] (.pull 9 [10,11,12] (.pull 10 [11,12] (.pull 11 [12] (.pull 4 [5,6,7,8,12] (.pull 5 [6,7,8,12] (.pull 6 [7,8,12] (.pull 7 [8,12] (.pull 8 [12] (.one 12 .done))))))))))))) (by kernel_rfl) (by kernel_rfl) ?_)|(refine Ar.fit (by omega) ?_)|(refine VC.mk (by (first|omega|(and_intros<;>first|omega|rfl))) ?_)|(refine Br.mk ?_ ?_<;>intro hb<;>(try replace hb:=Classical.not_not.1 hb)<;>(try (exfalso;omega)))|(refine XLoad.held hA rfl (by omega) (by omega) rfl ?_)|fail)));all_goals (try (conv=>whnf)))
   dsimp only at hR
   rw [if_neg (by omega)] at hR
   subst hR
   all_goals exact⟨fun h' hs=>⟨none,0,0,none,0,0,rfl,hbas.fin hs,⟨Held.nil,fun a h0=>absurd h0 (Nat.lt_irrefl 0)⟩,⟨Held.nil,fun a h0=>absurd h0 (Nat.lt_irrefl 0)⟩⟩⟩
  ·rw [if_neg hk] at t1
   subst t1
   ((repeat' ((conv=>whnf);(first|(refine VC.mk (by omega) ?_)|(refine Br.mk ?_ ?_<;>intro hb<;>(try replace hb:=Classical.not_not.1 hb)<;>(try (exfalso;omega)))|fail)));all_goals (try (conv=>whnf)))
   rw [if_pos rfl] at hR
   subst hR
   all_goals exact⟨fun h' hs=>⟨A,n,c,some ⟨b8,0,none⟩,_,_,rfl,hbas.fin hs,⟨hA.endS hs,hfr⟩,⟨Held.ofC hs (k:=26) rfl (by simp;omega),fun a _ ha=>by cases ha;exact freshC hs (k:=26) rfl hl.size hbas.cp⟩⟩⟩
end Go.Ex
namespace Go.Ex
open Go.Proofs
theorem CK.anewQ{P:Program}{E:Value→Heap→Prop}{S:St}{f:Nat}{args:List KV}{κ:KV→St→Prop}{Q:Heap→Value→Heap→Prop}(hh:∀ h,HS S h→CH P f (args.map den1).toArray h fun u h'=>Grows h h'∧Q h u h')
 (hk:∀ h u h',HS S h→Grows h h'→Q h u h'→∃ kv,den kv=u∧κ kv ⟨h',blks S.ch,S.ch⟩):CK P E f args [] S κ:=
 ⟨fun h hs=>.inl (by
  rw [show args.map den1++([]:List KV).map denC=args.map den1 by simp]
  refine⟨(hh h hs).1,fun w hw=>((hh h hs).2 w hw).mono fun e w' ⟨he,u,h1,h2,h3⟩=>?_⟩
  obtain⟨kv,h4,h5⟩:=hk _ _ _ hs h2 h3
  exact⟨he,u,h1,kv,_,h4,hs.shift h2,h5⟩)⟩
theorem Held.freshen{τ:Type}{R:Rep τ}{S:St}{h h':Heap}{A:Option Addr}{n:Nat}{xs:List τ}(hk:Held R h' [] A n xs)(hf:∀ a,0<n→A=some a→h.size≤a.block)(hs:HS S h):Held R h' (blks S.ch) A n xs:=
 ⟨hk.sl,fun h0 a ha=>⟨(hk.out h0 a ha).1,fun hm=>by have h1:=(hs.blks_of hm).1;have h2:=hf a h0 ha;omega⟩⟩
def NestO(h:Heap)(T:List Tok)(P:List Int)(e a:Int)(v:Value)(h':Heap):Prop:=
 ∃ A n c B m d,v = .tuple #[.slice A n c,.slice B m d,.agg #[.int .i64 e,.int .i64 a]]∧(Held tokR h' [] A n T∧∀ x,0<n→A=some x→h.size≤x.block)∧(Held (intR .i64) h' [] B m P∧∀ x,0<m→B=some x→h.size≤x.block)
def nestT(s:ByteArray):List Tok:=(nestF s).1
def nestP(s:ByteArray):List Int:=(nestF s).2.1
def nestE(s:ByteArray):Int:=(nestF s).2.2.2.1
def nestA(s:ByteArray):Int:=(nestF s).2.2.2.2
theorem CK.nest{E:Value→Heap→Prop}{S:St}{f:Nat}{args:List KV}{κ:KV→St→Prop}{T:List Tok}{P:List Int}{e a:Int}(hh:∀ h,HS S h→CH Tryz.prog f (args.map den1).toArray h fun u h'=>Grows h h'∧NestO h T P e a u h')
 (hk:∀ h' A n c B m d,Later S.h0 S.cap h' (blks S.ch)→Held tokR h' (blks S.ch) A n T→Held (intR .i64) h' (blks S.ch) B m P→(∀ x,0<n→A=Option.some x→S.h0.size≤x.block)→(∀ x,0<m→B=Option.some x→S.h0.size≤x.block) →
  κ (.tup [.val (.slice A n c),.val (.slice B m d),.agg [.val (.int .i64 e),.val (.int .i64 a)]]) ⟨h',blks S.ch,S.ch⟩):CK Tryz.prog E f args [] S κ:=
 CK.anewQ hh fun h u h' hs hg ⟨A,n,c,B,m,d,h1,⟨h2,h3⟩,h4,h5⟩=>⟨.tup [.val (.slice A n c),.val (.slice B m d),.agg [.val (.int .i64 e),.val (.int .i64 a)]],h1.symm,
  hk _ _ _ _ _ _ _ (hs.later hg).lB (h2.freshen h3 hs) (h4.freshen h5 hs) (fun x h0 e=>Nat.le_trans hs.size (h3 x h0 e)) (fun x h0 e=>Nat.le_trans hs.size (h5 x h0 e))⟩
attribute [local irreducible] CH nestF
theorem nestO_any(s:ByteArray)(h:Heap)(ht:TabsH h)(hz:s.size≤140737488355328):CH Tryz.prog 10 #[.string s] h fun v h'=>Grows h h'∧NestO h (nestT s) (nestP s) (nestE s) (nestA s) v h':=by
 refine enter (rep:=rep) (m:=1) (ex:=[0,2,3,4,5,6,8]) (cu:=[]) tO Tryz.func10 rfl (by decide) (rs:=[.tmp 2,.tmp 3,.cell 4 28]) rfl rfl [.val (.string s)] rfl ?_
 have c1:=fun h1 (ht:TabsH h1)=>walk_any s h1 ht hz
 unfold nestT nestP nestE nestA
 generalize nestF s=r at c1
 obtain⟨T,P,m0,fe,fa⟩:=r
 dsimp only at c1 ⊢
 ((repeat' ((conv=>whnf);(first|(refine dW (id:=2) tO mixed (.pull 0 [3,4,5] (.pull 1 [4,5] (.pull 3 [4,5] (.pull 4 [5] (.pull 2 [5] (.one 5 .done)))))) (by kernel_rfl) (by kernel_rfl) ?_)|(refine VC.mk (by omega) ?_)|(refine New.mk ?_;intro b hb)|(refine CK.anewQ (Q:=fun h u h'=>∃ A n c B m d,u = .tuple #[.slice A n c,.slice B m d,.int .i64 m0,.agg #[.int .i64 fe,.int .i64 fa] ]∧(Held tokR h' [] A n T∧∀ x,0<n→A=some x→h.size≤x.block)∧(Held (intR .i64) h' [] B m P∧∀ x,0<m→B=some x→h.size≤x.block)) (fun h hs=>(c1 h (ht.at hs)).mono fun u h' ⟨A,n,c,B,m,d,h1,h2,h3,h4⟩=>⟨h2,A,n,c,B,m,d,h1,h3,h4⟩) ?_;rintro h1 u h2 hs1 hg ⟨A,n,c,B,m,d,rfl,⟨k1,k2⟩,k3,k4⟩;refine⟨.tup [.val (.slice A n c),.val (.slice B m d),.val (.int .i64 m0),.agg [.val (.int .i64 fe),.val (.int .i64 fa)] ],rfl,?_⟩)|fail)));all_goals (try (conv=>whnf)))
 all_goals
  have hl:Later h [] h2 _:=(hs1.later hg).lB
  have hk1:=k1.freshen k2 hs1
  have hk3:=k3.freshen k4 hs1
  exact⟨fun h' hs=>⟨hl.bas.fin hs,A,n,c,B,m,d,rfl,⟨hk1.endS hs,fun x h0 e=>Nat.le_trans hs1.size (k2 x h0 e)⟩,hk3.endS hs,fun x h0 e=>Nat.le_trans hs1.size (k4 x h0 e)⟩⟩
end Go.Ex
namespace Go.Ex
open Go.Proofs
theorem callsD_rec{P:Program}{ty:Nat→Option TyI}{rep:Nat→Option RepS}{m:Nat}{ex cu:List Nat}(hty:TysOk P ty){f:FuncId}{fn:Func}{id dst typ:Nat}{pos:String}{C:Code}(hf:P.funcs[f]?=some fn)
 (hb:fn.body=some (.seq (.region id #[{ dst:=some dst,op:=.call { callee:=.builtin .recover,args:=#[],argTypes:=#[] },type:=typ,pos:=pos,after:=#[],guard:=none }] false) C)) (hres:fn.results = #[]) {n:Nat} (hnt:fn.ntmps=n) (hd:dst<n)
 {args:List KV} (hlen:Nat.ble args.length n=true) {u u1:FrameMode} {v:KV} {w:World} {S:St} (hs:HS S w.heap)
 (hrec:∀ (c₀:Frame) (cs:List Frame),c₀.mode=u→recoverD (c₀::cs)=some (den v,{ c₀ with mode:=u1 }::cs)∨(recoverD (c₀::cs)=none∧den v = .nilIface∧u1=u))
 {R:Ending→FrameMode→World→Prop} {κ:St→Prop}
 (hk:codeK P ty ⟨rep,noPan⟩ n m ex cu C ⟨fun K S=>κ S,[]⟩ (fun K S=>κ S) (putD (init 0 args) (some dst) v) S)
 (hR:∀ S' w',κ S'→HS S' w'.heap→SE w w'→R (.returned (.tuple #[])) u1 w'):CallsD P f (args.map den).toArray u w R:=by
 refine callsD_of_wpS hf hb fun c₀ cs hu=>?_
 apply wpS_seq
 apply wpS_region
 have hlen:=Nat.le_of_ble_eq_true hlen
 have ha:=good_init (n:=n) hlen
 have hsz:(args.map den).toArray.size=args.length:=by simp
 rw [hnt,hsz]
 generalize ha0:({ tmps:=(args.map den).toArray++Array.replicate (n-args.length) undef,defers:=[] }:Act)=a0 at ha
 have fin:∀ cs':List Frame,cs' = { c₀ with mode:=u1 }::cs→C.wpS P (bodyPostS P fn c₀ cs R) (a0.put (some dst) (den v)) cs' w:=fun cs' hcs=>by
  refine wpS_of_wp ?_
  have h1:=cks hty C _ _ _ _ hk [] w _ w (ha.put (d:=some dst) (fun x hx=>by cases hx;exact hd) v) (SE.refl w) hs
  refine Code.wp_mono ?_ h1
  intro e a w' hq
  have res:(results fn a.tmps).run P w' = .ok (.tuple #[]) w':=by simp [results,hres]
  have done:(∃ K S',Good [] n a K∧SE w w'∧HS S' w'.heap∧κ S')→a.defers=[]∧∃ u',cs' = { c₀ with mode:=u' }::cs∧∃ v,(results fn a.tmps).run P w' = .ok v w'∧R (.returned v) u' w':=fun⟨K,S',a1,a2,a3,a4⟩=>⟨a1.defers,u1,hcs,_,res,hR S' w' a4 a3 a2⟩
  cases e with
  |normal=>exact done hq
  |ret=>exact done hq
  |exit i=>obtain⟨K,S,a1,a2,a3,a4⟩:=hq;exact False.elim a4
  |panic ch=>obtain⟨v,h1,h2,h3,h4⟩:=hq;exact False.elim h4
  |goto l=>exact False.elim hq
  |outgrown=>exact False.elim hq
 show wpOpsS P _ _ [0] a0 (c₀::cs) w
 unfold wpOpsS
 simp only [List.getElem?_toArray,List.getElem?_cons_zero]
 rw [if_pos (by simp [Region.wanted])]
 have hx:∀ o:Oper,o.op = .call { callee:=.builtin .recover,args:=#[],argTypes:=#[] }→(execOp a0.eval o).run P w = .ok .recover w:=fun o ho=>by
  unfold execOp
  rw [ho]
  simp [go_sem]
 rw [hx _ rfl]
 rcases hrec c₀ cs hu with h1|⟨h1,h2,h3⟩
 ·simp only [h1]
  unfold wpOpsS
  exact fin _ rfl
 ·simp only [h1]
  unfold wpOpsS
  have:({ c₀ with mode:=u1 }:Frame)=c₀:=by rw [h3,←hu]
  rw [←h2]
  exact fin _ (by rw [this])
end Go.Ex
namespace Go.Ex
open Go.Proofs
attribute [local irreducible] CH CsP word kindT
section
variable {I:In}{M:Loc}{br:Nat}{cE:List Nat}{hE:Heap}{its:List It}{S:St}{t:Bool}{n:Int}{α:Type}{oC:Out α}{f:Nat}{args caps:List KV}{κ:KV→St→Prop}{E:Value→Heap→Prop}
theorem Con.toQ{fo:Nat}{one:Int→Out Nd}{w:Int}(h:Con I M fo [] (one n) t n 1):ConQ I M br fo [ptr br] none [] (pl one) t w n:=fun hE hs hB _=>by
 refine (h br hE hs hB).mono (fun v h' ⟨x,m,u,h1,h2,h3,h4⟩=>⟨x,m,u,by rw [pl,h1];rfl,h2,h3,h4⟩) fun v h' ⟨x,n',p,h1,h2,h3,h4,h5,h6⟩=>⟨x,w,n',p,by rw [pl,h1];rfl,h2,h3,h4,h5,h6⟩
theorem CK.rowsB(W:Wd I M cE hE S.h0 S.cap its){bx:List (Nat×Chunk)}{r:Out (List Nd×Int)}{w:Int}{av:List Value}(hcon:ConR I M br f av none bx r t w n)(ha:args.map den1++caps.map denC=av)(hf:findC S.ch 900=some (br,rdB I M t n))
 (hbx:∀ h,HS S h→BxOk bx h [br]) (herr:∀ x,r = .err x→oC = .err x)
 (hk:∀ l w' m A len c ps h',r = .ok (l,w') m→n+1≤m→m≤I.L→(l.length:Int)≤m-n→updC S.ch 900 (rdB I M t m) fun ch=>Wd I M cE hE h' (blks ch) (.sl A len ps l::its)→κ (.val (.slice A len c)) ⟨h',blks ch,ch⟩) :
 CK Tryz.prog (ErrE I M br cE hE oC) f args caps S κ:=
 ⟨fun h hs=>.inr (.inr (by
  rw [ha]
  have hr:=rd_at hs hf
  refine (hcon h hr (W.base.at1 hs hf) (hbx h hs)).mono (fun v h' he=>he.up W hs (blk1 hf) List.mem_cons_self herr) fun v h' hok=>?_
  obtain⟨l0,w',m,A,len,c,ps,h1,⟨h2,h3,h3'⟩,h4,e5,h6,h7,h8,h9⟩:=hok
  subst e5
  obtain⟨l,r',b',c0,e1,e2,h10⟩:=updC_sound (hk l0 w' m A len c ps h' h1 h2 h3 h3')
  rw [hf] at e2
  cases e2
  have h11:HS ⟨S.h0,S.cap,l++(900,br,rdB I M t m)::r'⟩ h':=hs.upd e1 h6.size (fun j hj hlt=>h6.frame j hlt fun hm=>hj (List.mem_singleton.1 hm)) (h6.chunk _ List.mem_cons_self).2.2
  have hlt:∀ c∈blks (l++(900,br,rdB I M t m)::r'),c<h.size:=fun c hc=>by
   obtain⟨e,he,rfl⟩:=bsp hc
   rcases List.mem_append.1 he with he|he
   ·exact (hs.chunk e (by rw [e1];exact List.mem_append.2 (.inl he))).1
   ·rcases List.mem_cons.1 he with rfl|he
    ·exact (hs.chunk _ (fM hf)).1
    ·exact (hs.chunk e (by rw [e1];exact List.mem_append.2 (.inr (List.mem_cons_of_mem _ he)))).1
  have hlo:=Nat.le_trans W.later.size hs.size
  refine⟨_,_,rfl,h11.anew,h10 ((W.anew h11.lB).add ⟨⟨h7.sl,fun h0 a e=>⟨(h7.out h0 a e).1,fun hm=>?_⟩⟩,fun a h0 e=>Nat.le_trans hlo (h8 a h0 e),TsI.recap (fun c hc=>.inr (hlt c hc)) hlo _ h9,h4⟩)⟩
  have:=hlt _ hm
  have:=h8 a h0 e
  omega))⟩
theorem CK.rowsP(W:Wd I M cE hE S.h0 S.cap its){op mark shut:ByteArray}{fo:Nat}{one:Int→Out Nd}(h1:¬ op=⟨#[]⟩)(h2:¬ mark=⟨#[]⟩)(hn:0≤n∧n≤I.L)(Hone:∀ m,n+1≤m→m≤I.L→Con I M fo [] (one m) t m 1)
 (ha:args.map den1++caps.map denC=[ptr br,.string op,.string mark,.string shut,.func (.func fo) ⟨[ptr br]⟩ ⟨[]⟩]) (hf:findC S.ch 900=some (br,rdB I M t n))
 (herr:∀ x,rowsS I op mark shut (pl one) (-1) n = .err x→oC = .err x)
 (hk:∀ l w' m A len c ps h',rowsS I op mark shut (pl one) (-1) n = .ok (l,w') m→n+1≤m→m≤I.L→(l.length:Int)≤m-n→updC S.ch 900 (rdB I M t m) fun ch=>Wd I M cE hE h' (blks ch) (.sl A len ps l::its)→κ (.val (.slice A len c)) ⟨h',blks ch,ch⟩) :
 CK Tryz.prog (ErrE I M br cE hE oC) 150 args caps S κ:=
 CK.rowsB W (rows_none W.ok [] op mark shut h1 h2 fo [ptr br] [] (pl one) hn (fun w m a b=>(Hone m a b).toQ)) ha hf (fun _ _ e he=>by cases he) herr hk
theorem CK.rowsN(W:Wd I M cE hE S.h0 S.cap its)(kn:Nat)(r0:Chs){nx:Nx}{bx:List (Nat×Chunk)}{r:Out (List Nd×Int)}{w:Int}{av:List Value}(hcon:ConR I M br f av (some nx) bx r t w n)(ha:args.map den1++caps.map denC=av)(hkn:Nat.beq kn 900=false)
 (hc:HasC S.ch ([(900,br,rdB I M t n),(kn,nx.bn,nodeB nx.k w nx.f nx.to nx.l)]++r0))
 (hbx:∀ h,HS S h→BxOk bx h [br,nx.bn]) (herr:∀ x,r = .err x→oC = .err x)
 (hk:∀ l w' m A len c ps h',r = .ok (l,w') m→n+1≤m→m≤I.L→(l.length:Int)≤m-n→Wd I M cE hE h' (br::nx.bn::blks r0) (.sl A len ps l::its)→κ (.val (.slice A len c)) ⟨h',br::nx.bn::blks r0,(900,br,rdB I M t m)::(kn,nx.bn,nodeB nx.k w' nx.f nx.to nx.l)::r0⟩) :
 CK Tryz.prog (ErrE I M br cE hE oC) f args caps S κ:=
 ⟨fun h hs=>.inr (.inr (by
  rw [ha]
  have hkn:=nbF hkn
  have hf:findC S.ch 900=some (br,rdB I M t n):=hc.1
  have hfn:findC S.ch kn=some (nx.bn,nodeB nx.k w nx.f nx.to nx.l):=hc.2.2.1
  have hr:HS ⟨h,[br,nx.bn],[(900,br,rdB I M t n),(901,nx.bn,nodeB nx.k w nx.f nx.to nx.l)]⟩ h:=hs.two hf hfn hkn.symm 900 901
  have hsub:∀ x∈[br,nx.bn],x∈blks S.ch:=fun x hx=>by
   simp only [List.mem_cons,List.not_mem_nil,or_false] at hx
   rcases hx with rfl|rfl
   ·exact blk_mem hf
   ·exact blk_mem hfn
  refine (hcon h hr (W.base.later (hs.lB.less hsub)) (hbx h hs)).mono (fun v h' he=>he.up W hs hsub List.mem_cons_self herr) fun v h' hok=>?_
  obtain⟨l0,w',m,A,len,c,ps,h1,⟨h2,h3,h3'⟩,h4,e5,h6,h7,h8,h9⟩:=hok
  subst e5
  have h6':HS ⟨h,blks [(900,br,rdB I M t n),(kn,nx.bn,nodeB nx.k w nx.f nx.to nx.l)],[(900,br,rdB I M t m),(kn,nx.bn,nodeB nx.k w' nx.f nx.to nx.l)]⟩ h':=h6.ren [900,901] ⟨⟨_,rfl,SC.rfl⟩,rfl,⟨_,rfl,SC.rfl⟩,rfl,trivial⟩
  have h11:=hs.join hc h6'
  have hlt:∀ c∈br::nx.bn::blks r0,c<h.size:=fun c hc'=>by
   rcases List.mem_cons.1 hc' with rfl|hc'
   ·exact (hs.chunk _ (fM hf)).1
   ·rcases List.mem_cons.1 hc' with rfl|hc'
    ·exact (hs.chunk _ (fM hfn)).1
    ·obtain⟨e,he,rfl⟩:=bsp hc'
     exact (hs.chunk e (hc.mem e (List.mem_append.2 (.inr he)))).1
  have hlo:=Nat.le_trans W.later.size hs.size
  refine⟨_,_,rfl,h11.anew,hk l0 w' m A len c ps h' h1 h2 h3 h3' ((W.anew h11.lB).add ⟨⟨h7.sl,fun h0 a e=>⟨(h7.out h0 a e).1,fun hm=>?_⟩⟩,fun a h0 e=>Nat.le_trans hlo (h8 a h0 e),TsI.recap (fun c hc=>.inr (hlt c hc)) hlo _ h9,h4⟩)⟩
  have:=hlt _ hm
  have:=h8 a h0 e
  omega))⟩
def Con1B(I:In)(M:Loc)(br:Nat)(f:Nat)(av:List Value)(bx:List (Nat×Chunk))(o:Out Nd)(t:Bool)(n str:Int):Prop:=
 ∀ hE,HS ⟨hE,[br],rdC I M br t n⟩ hE→Base I M hE [br]→BxOk bx hE [br]→CsP Tryz.prog (ErrE I M br [br] hE o) f av.toArray hE (OkE I M br hE t n str o)
theorem CK.conB(W:Wd I M cE hE S.h0 S.cap its){av:List Value}{bx:List (Nat×Chunk)}{o:Out Nd}{str:Int}(hcon:Con1B I M br f av bx o t n str)(ha:args.map den1++caps.map denC=av)(hf:findC S.ch 900=some (br,rdB I M t n))(hbx:∀ h,HS S h→BxOk bx h [br])
 (herr:∀ x,o = .err x→oC = .err x)
 (hk:∀ x m b h',o = .ok x m→n+str≤m→m≤I.L→updC S.ch 900 (rdB I M t m) fun ch=>Wd I M cE hE h' (blks ch) (.one (some ⟨b,0,none⟩) x::its)→κ (.val (.pointer (some ⟨b,0,none⟩))) ⟨h',blks ch,ch⟩) :
 CK Tryz.prog (ErrE I M br cE hE oC) f args caps S κ:=
 ⟨fun h hs=>.inr (.inr (by
  rw [ha]
  have hr:=rd_at hs hf
  refine (hcon h hr (W.base.at1 hs hf) (hbx h hs)).mono (fun v h' he=>he.up W hs (blk1 hf) List.mem_cons_self herr) fun v h' hok=>?_
  obtain⟨x,m,p,h1,⟨h2,h3⟩,h4,rfl,h6,h7⟩:=hok
  obtain⟨b,rfl⟩:=h7.ptr
  obtain⟨l,r,b',c0,e1,e2,h8⟩:=updC_sound (hk x m b h' h1 h2 h3)
  rw [hf] at e2
  cases e2
  have h9:HS ⟨S.h0,S.cap,l++(900,br,rdB I M t m)::r⟩ h':=hs.upd e1 h6.size (fun j hj hlt=>h6.frame j hlt fun hm=>hj (List.mem_singleton.1 hm)) (h6.chunk _ List.mem_cons_self).2.2
  refine⟨_,_,rfl,h9.anew,h8 ((W.anew h9.lB).add ⟨?_,h4⟩)⟩
  refine TrI.recap (fun c hc=>.inr ?_) (Nat.le_trans W.later.size hs.size) x h7
  obtain⟨e,he,rfl⟩:=bsp hc
  rcases List.mem_append.1 he with he|he
  ·exact (hs.chunk e (by rw [e1];exact List.mem_append.2 (.inl he))).1
  ·rcases List.mem_cons.1 he with rfl|he
   ·exact (hs.chunk _ (fM hf)).1
   ·exact (hs.chunk e (by rw [e1];exact List.mem_append.2 (.inr (List.mem_cons_of_mem _ he)))).1))⟩
theorem BxOk.one{bx:List (Nat×Chunk)}{h:Heap}(hs:HS S h){kb b:Nat}{c c' c0:Chunk}(hb:findC S.ch kb=some (b,c))(hf:findC S.ch 900=some (br,c0))(hk:Nat.beq kb 900=false)(hc:SC c c')(hr:BxOk bx h [br]):BxOk ((b,c')::bx) h [br]:=fun e he=>by
 rcases List.mem_cons.1 he with rfl|he
 ·obtain⟨a1,_,a3⟩:=hs.chunk _ (fM hb)
  exact⟨a1,fun hm=>hs.ne hb hf (nbF hk) (List.mem_singleton.1 hm),hc _ _ a3⟩
 ·exact hr e he
theorem BxOk.nil{h:Heap}:BxOk [] h [br]:=fun e he=>by cases he
theorem PLoad.box{κ:KV→Prop}{bx:List (Nat×Chunk)}{b T:Nat}{v:Value}(W:Wd I M cE hE S.h0 S.cap its)(hi:It.bxs bx∈its)(hb:(b,Chunk.box T [.val v])∈bx)(hk:readK false (mapC [v]) κ):PLoad S ⟨b,0,none⟩ 1 false κ:=by
 obtain⟨a1,a2,a3⟩:=(W.its _ hi) _ hb
 refine⟨.inl ⟨a1,a2,rfl,[v],rfl,fun i u hi=>?_,_,mapC_map _,hk⟩⟩
 cases i with
 |zero=>
  cases hi
  simp only [ChunkAt] at a3
  simp only [hcell,a3]
  rfl
 |succ i=>cases hi
theorem PLoad.boxO(kv:KV){κ:KV→Prop}{bx:List (Nat×Chunk)}{b T:Nat}{v:Value}(W:Wd I M cE hE S.h0 S.cap its)(hi:It.bxs bx∈its)(hb:(b,Chunk.box T [.val v])∈bx)(hd:denC kv=v)(hk:readK false [kv] κ):PLoad S ⟨b,0,none⟩ 1 false κ:=by
 obtain⟨a1,a2,a3⟩:=(W.its _ hi) _ hb
 refine⟨.inl ⟨a1,a2,rfl,[v],rfl,fun i u hi=>?_,[kv],by rw [List.map_cons,List.map_nil,hd],hk⟩⟩
 cases i with
 |zero=>
  cases hi
  simp only [ChunkAt] at a3
  simp only [hcell,a3]
  rfl
 |succ i=>cases hi
end
end Go.Ex
