/-
  Top: TopFaults, TopLossless: whatever the input, the law answers true (part 49)
-/
import Derived.Test.YtpjdgifhhnjclaaGreatDoorM48
set_option linter.unusedVariables false
set_option linter.unusedSimpArgs false
set_option maxHeartbeats 4000000
set_option maxRecDepth 10000
namespace Go.Ex.Tr
open Go.Ex Go.Proofs
theorem prop_true{p:Prop}(h:p):denC (.prop p) = .bool true:=by simp [denC,h]
structure OS where
 o:Option (Nat×Nat)
 xs:List Fr
 n:Int
 E:List Int
 U:List Int
 deep:Int
 i:Int
def slK(k:Nat)(o:Option (Nat×Nat))(n:Int):KV:=match o with
 |none=>.val (.slice none 0 0)
 |some (b,c)=>.osl k b n c
def slC(k:Nat)(o:Option (Nat×Nat))(L:List Fr):Chs:=match o with
 |none=>[]
 |some (b,c)=>[(k,b,.arr 99 frR L c)]
structure OInv(L:List Nd)(n:Int)(h:Heap)(x:OS):Prop where
 nil:x.o=none→x.i=0∧x.xs=[]∧x.n=0∧x.deep=0
 arr:∀ b c,x.o=some (b,c)→h.size≤b∧0<x.i∧∃ ys D,Inv L n x.i ys x.E x.U x.deep D∧x.xs.take x.n.toNat=ys.reverse∧x.n=ys.length∧∀ y st,ys=y::st→0<y.c
 elen:x.E.length=L.length
 ulen:x.U.length=L.length
 i0:0≤x.i
 n0:0≤x.n
theorem tup4_eq{a b c d a' b' c' d':Value}(h1:a=a')(h2:b=b')(h3:c=c')(h4:d=d'):Value.tuple #[a,b,c,d] = .tuple #[a',b',c',d']:=by rw [h1,h2,h3,h4]
theorem top_get{α:Type}{d x:α}{xs st:List α}{n:Int}(h:xs.take n.toNat=(x::st).reverse)(hn:n=(x::st).length):getI d xs (n-1)=x∧n≤xs.length∧0<n∧xs.take (n-1).toNat=st.reverse∧n-1=st.length:=by
 rw [List.length_cons] at hn
 have hl:=congrArg List.length h
 rw [List.length_take,List.length_reverse,List.length_cons] at hl
 rw [List.reverse_cons] at h
 have e:(n-1).toNat=st.length:=by omega
 have h2:(xs.take n.toNat)[st.length]?=some x:=by rw [h,List.getElem?_append_right (by simp)];simp
 rw [List.getElem?_take_of_lt (by omega)] at h2
 refine⟨by simp [getI,List.getD,e,h2],by omega,by omega,?_,by omega⟩
 have h3:=congrArg (List.take st.length) h
 rw [List.take_take,Nat.min_eq_left (by omega),List.take_left' (by simp)] at h3
 rw [e];exact h3
theorem top_set{α:Type}{x x':α}{xs st:List α}{n:Int}(h:xs.take n.toNat=(x::st).reverse)(hn:n=(x::st).length):(xs.set (n-1).toNat x').take n.toNat=(x'::st).reverse:=by
 rw [List.length_cons] at hn
 have hl:=congrArg List.length h
 rw [List.length_take,List.length_reverse,List.length_cons] at hl
 have e:(n-1).toNat=st.length:=by omega
 rw [List.take_set,h,e,List.reverse_cons,List.reverse_cons]
 rw [List.set_append_right _ _ (by simp)]
 simp
theorem outline_any(A:Option Addr)(len cap:Nat)(L:List Nd)(n:Int)(h:Heap)(hA:Sl ndR h A len L)(hr:len*40≤140737488355328) :
 CH Tryz.prog 28 #[.slice A len cap,.int .i64 n] h fun v h'=>Grows h h'∧∃ x y d b E U,v = .tuple #[x,y,.int .i64 d,.bool b]∧OwnSl (intR .i64) 3 h h' x E∧OwnSl (intR .i64) 3 h h' y U∧(b=true↔TreeP L n) ∧
  (b=true→EndsOk L E∧UpsOk L E U∧∃ D,DeepOk L U d D):=by
 refine enter (rep:=rep) (m:=13) (ex:=[19,20,21]) (cu:=[2]) tO Tryz.func28 rfl (by decide) (rs:=[.tmp 4,.tmp 5,.tmp 6,.tmp 7]) rfl rfl [.val (.slice A len cap),.val (.int .i64 n)] rfl ?_
 have hlen:=hA.small
 have hL:=hA.len_eq
 conv=>whnf
 refine join_rule tO [4,5] (fun x:Nat×Nat=>[(4,.osl 15 x.1 len len),(5,.osl 18 x.2 len len)]) (fun x=>[(15,x.1,.arr 3 (intR .i64) (List.replicate len 0) len),(18,x.2,.arr 3 (intR .i64) (List.replicate len 0) len)]) (fun x=>h.size≤x.1∧h.size≤x.2) ?_
 conv=>whnf
 refine⟨?_,?_⟩
 ·((repeat' ((conv=>whnf);(first|(refine dW (id:=1) tO mixed (.pull 0 [1,2,6,7] (.pull 1 [2,6,7] (.pull 3 [4,5,7] (.pull 4 [5,7] (.br 2 5 (.pull 6 [7] (.one 5 (.pull 7 [] .done))) (.one 2 (.pull 6 [7] (.pull 7 [] .done)))))))) (by kernel_rfl) (by kernel_rfl) ?_)|(refine VC.mk (by (first|omega|(and_intros<;>first|omega|rfl|(simp only [maxLen];omega)))) ?_)|(refine New.mk ?_;intro b hb)|(refine Two.mk ?_ ?_)|fail)));all_goals (try (conv=>whnf)))
  all_goals
   rename_i c1 hc1
   first
   |exact⟨(c1,b),⟨hc1,hb⟩,by ((repeat (refine⟨rfl,?_⟩));trivial),rfl,rfl,⟨rfl,rfl,rfl,rfl,trivial⟩⟩
   |exact⟨(b,c1),⟨hb,hc1⟩,by ((repeat (refine⟨rfl,?_⟩));trivial),rfl,rfl,⟨rfl,rfl,rfl,rfl,trivial⟩⟩
 rintro⟨b1,b2⟩ ⟨hb1,hb2⟩
 (try (conv=>whnf))
 refine loop_rule tO [6,8,21] (fun x:OS=>[(6,.val (.int .i64 x.deep)),(8,slK 151 x.o x.n),(21,.val (.int .i64 x.i))]) (fun x=>slC 151 x.o x.xs++[(15,b1,.arr 3 (intR .i64) x.E len),(18,b2,.arr 3 (intR .i64) x.U len)])
  (fun μ x=>OInv L n h x∧x.i+μ=len) len ⟨none,[],0,List.replicate len 0,List.replicate len 0,0,0⟩ ?_
 conv=>whnf
 refine⟨by ((repeat (refine⟨rfl,?_⟩));trivial),⟨rfl,rfl,rfl,rfl,trivial⟩,⟨⟨fun _=>⟨rfl,rfl,rfl,rfl⟩,fun b c h=>(by cases h),by simp [hL],by simp [hL],by simp,by simp⟩,by simp⟩,?_⟩
 rintro μ ⟨o,xs,m,E,U,deep,i⟩ ⟨⟨hnil,harr,hE,hU,hi0,hm0⟩,hμ⟩
 dsimp only at hnil harr hE hU hi0 hm0 hμ ⊢
 by_cases hi:i<len
 ·have hlc:¬ lcP L n i→¬ TreeP L n:=by
   intro hl
   rcases o with _|⟨b0,c0⟩
   ·obtain⟨rfl,_⟩:=hnil rfl
    exact fun ht=>hl ht.2.1
   ·obtain⟨_,hi1,ys,D,hv,h1,h2,h3⟩:=harr b0 c0 rfl
    rcases ys with _|⟨y,st⟩
    ·exact hv.none (by omega)
    ·exact hv.not (h3 y st rfl) (fun hh=>hl hh.2.1)
  rcases o with _|⟨b0,c0⟩
  ·obtain⟨rfl,rfl,rfl,rfl⟩:=hnil rfl
   clear hnil harr
   dsimp only [slK,slC,List.nil_append]
   ((repeat' ((conv=>whnf);(first|(refine VC.mk (by (first|omega|exact Sl.plain (by assumption) (by omega)|(and_intros<;>first|omega|rfl|assumption|(simp only [maxLen];omega)|(simp only [List.length_append,List.length_take,List.length_replicate,List.length_cons,List.length_nil];omega)))) ?_)|(refine Br.mk ?_ ?_<;>intro hb<;>(try (first|(exfalso;omega)|contradiction)))|(refine XLoad.of (by assumption) rfl rfl (by omega) (by omega) rfl ?_)|(refine New.mk ?_;intro b hb)|(refine New2.mk ?_;intro b c hb hbc)|(refine SR.same ?_)|fail)));all_goals (try (conv=>whnf)))
   all_goals (try (exact⟨fun h' hs'=>⟨hs'.grows,_,_,0,false,[],[],rfl,.nil,.nil,⟨fun e=>(by cases e),fun ht=>absurd ht (hlc (fun hl=>by simp only [lcP,nd] at hl;omega))⟩,fun e=>(by cases e)⟩⟩))
   all_goals
    have hbb:h.size≤b:=hb
    have hini:Inv L n 1 [⟨0,(getI ndR.dflt L 0).c,(getI ndR.dflt L 0).f⟩] E (U.set (Int.toNat 0) (-1)) 1 (fun _=>1):=by
     refine Inv.first (by omega) ?_ hE (by rw [List.length_set];exact hU) ?_
     ·simp only [lcP,nd];omega
     ·have:=getI_set 0 U 0 0 (-1) (by omega) (by omega) (by omega)
      rw [if_pos rfl] at this
      exact this
    refine loop_rule tO [8] (fun x:Int×List Int=>[(8,.osl 151 b x.1 c)]) (fun x=>[(151,b,.arr 99 frR ([(⟨0,(getI ndR.dflt L 0).c,(getI ndR.dflt L 0).f⟩:Fr)]) c),(15,b1,.arr 3 (intR .i64) x.2 len),(18,b2,.arr 3 (intR .i64) (U.set (Int.toNat 0) (-1)) len)]) (fun μ x=>∃ ys D,Inv L n (0+1) ys x.2 (U.set (Int.toNat 0) (-1)) (max 0 1) D∧([(⟨0,(getI ndR.dflt L 0).c,(getI ndR.dflt L 0).f⟩:Fr)]).take x.1.toNat=ys.reverse∧x.1=ys.length∧μ=ys.length) (1:Int).toNat (1,E) ?_
    conv=>whnf
    refine⟨by ((repeat (refine⟨rfl,?_⟩));trivial),⟨rfl,rfl,rfl,rfl,rfl,rfl,trivial⟩,⟨_,_,hini,rfl,rfl,rfl⟩,?_⟩
    rintro μ' ⟨m',E1⟩ ⟨yz,D2,hv2,q1,q2,q3⟩
    have hxl:([(⟨0,(getI ndR.dflt L 0).c,(getI ndR.dflt L 0).f⟩:Fr)]).length≤c:=hbc
    dsimp only at hv2 q1 q2 q3 ⊢
    have hfin:(∀ z zt,yz=z::zt→0<z.c)→OInv L n h ⟨some (b,c),([(⟨0,(getI ndR.dflt L 0).c,(getI ndR.dflt L 0).f⟩:Fr)]),m',E1,(U.set (Int.toNat 0) (-1)),(max 0 1),0+1⟩:=fun hne=>by
     refine⟨fun e=>(by cases e),fun b' c' e=>?_,hv2.elen,hv2.ulen,by dsimp only;omega,by dsimp only;omega⟩
     cases e
     exact⟨hbb,by dsimp only;omega,yz,D2,hv2,q1,q2,hne⟩
    rcases yz with _|⟨z,zt⟩
    ·have q2:m'=0:=by simpa using q2
     subst q2
     ((repeat' ((conv=>whnf);(first|(refine Ar.fit (by omega) ?_)|(refine VC.mk (by omega) ?_)|(refine Br.mk ?_ ?_<;>intro hb<;>(try (exfalso;omega)))|fail)));all_goals (try (conv=>whnf)))
     refine⟨μ-1,⟨some (b,c),([(⟨0,(getI ndR.dflt L 0).c,(getI ndR.dflt L 0).f⟩:Fr)]),0,E1,(U.set (Int.toNat 0) (-1)),(max 0 1),0+1⟩,⟨hfin (fun z zt e=>by cases e),by dsimp only;omega⟩,by omega,by ((repeat (refine⟨rfl,?_⟩));trivial),rfl,rfl,⟨rfl,rfl,rfl,rfl,rfl,rfl,trivial⟩⟩
    ·obtain⟨g1,g2,g3,g4,g5⟩:=top_get (d:=frR.dflt) q1 q2
     have g1c:(getI frR.dflt ([(⟨0,(getI ndR.dflt L 0).c,(getI ndR.dflt L 0).f⟩:Fr)]) (m'-1)).c=z.c:=by rw [g1]
     have g1p:(getI frR.dflt ([(⟨0,(getI ndR.dflt L 0).c,(getI ndR.dflt L 0).f⟩:Fr)]) (m'-1)).p=z.p:=by rw [g1]
     obtain⟨l1,l2,l3,l4,l5,l6,l7,l8⟩:=hv2.sk
     have hel:=hv2.elen
     have hzb:=(SK.bound hv2.sk).2
     by_cases hzc:z.c=0
     ·((repeat' ((conv=>whnf);(first|(refine Ar.fit (by omega) ?_)|(refine VC.mk (by (first|omega|(and_intros<;>first|omega|rfl))) ?_)|(refine Br.mk ?_ ?_<;>intro hb<;>(try (exfalso;omega)))|fail)));all_goals (try (conv=>whnf)))
      refine⟨zt.length,⟨m'-1,E1.set (getI frR.dflt ([(⟨0,(getI ndR.dflt L 0).c,(getI ndR.dflt L 0).f⟩:Fr)]) (m'-1)).p.toNat (0+1)⟩,⟨zt,D2,hv2.pop hzc (by rw [g1p]),g4,g5,rfl⟩,by rw [q3,List.length_cons];omega,by ((repeat (refine⟨rfl,?_⟩));trivial),rfl,rfl,⟨rfl,rfl,rfl,rfl,rfl,rfl,trivial⟩⟩
     ·((repeat' ((conv=>whnf);(first|(refine Ar.fit (by omega) ?_)|(refine VC.mk (by (first|omega|(and_intros<;>first|omega|rfl))) ?_)|(refine Br.mk ?_ ?_<;>intro hb<;>(try (exfalso;omega)))|fail)));all_goals (try (conv=>whnf)))
      refine⟨μ-1,⟨some (b,c),([(⟨0,(getI ndR.dflt L 0).c,(getI ndR.dflt L 0).f⟩:Fr)]),m',E1,(U.set (Int.toNat 0) (-1)),(max 0 1),0+1⟩,⟨hfin (fun z' zt' e=>by cases e;omega),by dsimp only;omega⟩,by omega,by ((repeat (refine⟨rfl,?_⟩));trivial),rfl,rfl,⟨rfl,rfl,rfl,rfl,rfl,rfl,trivial⟩⟩
  ·obtain⟨hb0,hi1,ys,D,hv,h1,h2,h3⟩:=harr b0 c0 rfl
   clear hnil harr
   dsimp only [slK,slC,List.cons_append,List.nil_append]
   rcases ys with _|⟨y,st⟩
   ·have h2:m=0:=by simpa using h2
    subst h2
    have hno:=hv.none (by omega)
    ((repeat' ((conv=>whnf);(first|(refine VC.mk (by (first|omega|exact Sl.plain (by assumption) (by omega)|(and_intros<;>first|omega|rfl))) ?_)|(refine Br.mk ?_ ?_<;>intro hb<;>(try (exfalso;omega)))|(refine XLoad.of (by assumption) rfl rfl (by omega) (by omega) rfl ?_)|(refine New.mk ?_;intro b hb)|fail)));all_goals (try (conv=>whnf)))
    all_goals exact⟨fun h' hs'=>⟨hs'.grows,_,_,0,false,[],[],rfl,.nil,.nil,⟨fun e=>(by cases e),fun ht=>absurd ht hno⟩,fun e=>(by cases e)⟩⟩
   ·obtain⟨e1,e2,e3,e4,e5⟩:=top_get (d:=frR.dflt) h1 h2
    have e1c:(getI frR.dflt xs (m-1)).c=y.c:=by rw [e1]
    have e1p:(getI frR.dflt xs (m-1)).p=y.p:=by rw [e1]
    have e1d:(getI frR.dflt xs (m-1)).d=y.d:=by rw [e1]
    obtain⟨k1,k2,k3,k4,k5,k6,k7,k8⟩:=hv.sk
    have hsb:=(SK.bound hv.sk).2
    have hyc:=h3 y st rfl
    have hyc2:=Kd.pos k7
    have hpc:¬ pcP L y.p i y.d→¬ TreeP L n:=fun hp=>hv.not hyc (fun hh=>hp hh.1)
    simp only [pcP,nd] at hpc
    rw [←e1p,←e1d] at hpc
    ((repeat' ((conv=>whnf);(first|(refine Ar.fit (by omega) ?_)|(refine VC.mk (by (first|omega|exact Sl.plain (by assumption) (by omega)|(and_intros<;>first|omega|rfl|(simp only [maxLen];omega)|(simp only [List.length_set];omega)|(simp only [List.length_append,List.length_take,List.length_replicate,List.length_cons,List.length_nil];omega)))) ?_)|(refine Br.mk ?_ ?_<;>intro hb<;>(try (exfalso;omega)))|(refine XLoad.of (by assumption) rfl rfl (by omega) (by omega) rfl ?_)|(refine New.mk ?_;intro b hb)|(refine NewO.mk ?_;intro b c hb hbc)|(refine SR.same ?_)|(refine drawn tO mixed (by kernel_rfl) ?_)|fail)));all_goals (try (conv=>whnf)))
    all_goals (try (exact⟨fun h' hs'=>⟨hs'.grows,_,_,0,false,[],[],rfl,.nil,.nil,⟨fun e=>(by cases e),fun ht=>absurd ht (hlc (fun hl=>by simp only [lcP,nd] at hl;omega))⟩,fun e=>(by cases e)⟩⟩))
    all_goals (try (exact⟨fun h' hs'=>⟨hs'.grows,_,_,0,false,[],[],rfl,.nil,.nil,⟨fun e=>(by cases e),fun ht=>absurd ht (hpc (fun hl=>by omega))⟩,fun e=>(by cases e)⟩⟩))
    all_goals
     have hbb:h.size≤b:=hb.elim (fun q=>q) fun q=>absurd q.2 List.not_mem_nil
     have hbc':m.toNat+1≤c:=hbc
     have hgs:=getI_set frR.dflt xs (m-1) (m-1) ⟨(getI frR.dflt xs (m-1)).p,(getI frR.dflt xs (m-1)).c-1,(getI frR.dflt xs (m-1)).d⟩ (by omega) (by omega) (by omega)
     rw [if_pos rfl] at hgs
     have hXS:List.take m.toNat ((xs.set (m-1).toNat ⟨(getI frR.dflt xs (m-1)).p,(getI frR.dflt xs (m-1)).c-1,(getI frR.dflt xs (m-1)).d⟩).set (m-1).toNat ⟨(getI frR.dflt (xs.set (m-1).toNat ⟨(getI frR.dflt xs (m-1)).p,(getI frR.dflt xs (m-1)).c-1,(getI frR.dflt xs (m-1)).d⟩) (m-1)).p,(getI frR.dflt (xs.set (m-1).toNat ⟨(getI frR.dflt xs (m-1)).p,(getI frR.dflt xs (m-1)).c-1,(getI frR.dflt xs (m-1)).d⟩) (m-1)).c,(getI ndR.dflt L i).t⟩)++[(⟨i,(getI ndR.dflt L i).c,(getI ndR.dflt L i).f⟩:Fr)]=((⟨i,(getI ndR.dflt L i).c,(getI ndR.dflt L i).f⟩:Fr)::⟨y.p,y.c-1,(getI ndR.dflt L i).t⟩::st).reverse:=by
      rw [hgs,List.set_set,top_set h1 h2,e1p,e1c,List.reverse_cons,List.reverse_cons,List.reverse_cons]
     have hini:=hv.push (by omega) hi1 hyc (by simp only [pcP,nd];rw [←e1p,←e1d];omega) (by simp only [lcP,nd];omega) (U':=(U.set i.toNat (-1)).set i.toNat (getI frR.dflt xs (m-1)).p) (by rw [List.set_set,e1p])
     rw [show (st.length:Int)+2=m+1 by omega] at hini
     refine loop_rule tO [8] (fun x:Int×List Int=>[(8,.osl 151 b x.1 c)]) (fun x=>[(151,b,.arr 99 frR (((⟨i,(getI ndR.dflt L i).c,(getI ndR.dflt L i).f⟩:Fr)::⟨y.p,y.c-1,(getI ndR.dflt L i).t⟩::st).reverse) c),(15,b1,.arr 3 (intR .i64) x.2 len),(18,b2,.arr 3 (intR .i64) ((U.set i.toNat (-1)).set i.toNat (getI frR.dflt xs (m-1)).p) len)]) (fun μ x=>∃ ys D,Inv L n (i+1) ys x.2 ((U.set i.toNat (-1)).set i.toNat (getI frR.dflt xs (m-1)).p) (max deep (m+1)) D∧(((⟨i,(getI ndR.dflt L i).c,(getI ndR.dflt L i).f⟩:Fr)::⟨y.p,y.c-1,(getI ndR.dflt L i).t⟩::st).reverse).take x.1.toNat=ys.reverse∧x.1=ys.length∧μ=ys.length) (m+1:Int).toNat (m+1,E) ?_
     conv=>whnf
     refine⟨by ((repeat (refine⟨rfl,?_⟩));trivial),⟨by rw [←hXS];rfl,rfl,rfl,rfl,rfl,rfl,trivial⟩,⟨_,_,hini,List.take_of_length_le (by simp;omega),by simp;omega,by simp;omega⟩,?_⟩
     rintro μ' ⟨m',E1⟩ ⟨yz,D2,hv2,q1,q2,q3⟩
     have hxl:(((⟨i,(getI ndR.dflt L i).c,(getI ndR.dflt L i).f⟩:Fr)::⟨y.p,y.c-1,(getI ndR.dflt L i).t⟩::st).reverse).length≤c:=by simp;omega
     dsimp only at hv2 q1 q2 q3 ⊢
     have hfin:(∀ z zt,yz=z::zt→0<z.c)→OInv L n h ⟨some (b,c),(((⟨i,(getI ndR.dflt L i).c,(getI ndR.dflt L i).f⟩:Fr)::⟨y.p,y.c-1,(getI ndR.dflt L i).t⟩::st).reverse),m',E1,((U.set i.toNat (-1)).set i.toNat (getI frR.dflt xs (m-1)).p),(max deep (m+1)),i+1⟩:=fun hne=>by
      refine⟨fun e=>(by cases e),fun b' c' e=>?_,hv2.elen,hv2.ulen,by dsimp only;omega,by dsimp only;omega⟩
      cases e
      exact⟨hbb,by dsimp only;omega,yz,D2,hv2,q1,q2,hne⟩
     rcases yz with _|⟨z,zt⟩
     ·have q2:m'=0:=by simpa using q2
      subst q2
      ((repeat' ((conv=>whnf);(first|(refine Ar.fit (by omega) ?_)|(refine VC.mk (by omega) ?_)|(refine Br.mk ?_ ?_<;>intro hb<;>(try (exfalso;omega)))|fail)));all_goals (try (conv=>whnf)))
      refine⟨μ-1,⟨some (b,c),(((⟨i,(getI ndR.dflt L i).c,(getI ndR.dflt L i).f⟩:Fr)::⟨y.p,y.c-1,(getI ndR.dflt L i).t⟩::st).reverse),0,E1,((U.set i.toNat (-1)).set i.toNat (getI frR.dflt xs (m-1)).p),(max deep (m+1)),i+1⟩,⟨hfin (fun z zt e=>by cases e),by dsimp only;omega⟩,by omega,by ((repeat (refine⟨rfl,?_⟩));trivial),rfl,rfl,⟨rfl,rfl,rfl,rfl,rfl,rfl,trivial⟩⟩
     ·obtain⟨g1,g2,g3,g4,g5⟩:=top_get (d:=frR.dflt) q1 q2
      have g1c:(getI frR.dflt (((⟨i,(getI ndR.dflt L i).c,(getI ndR.dflt L i).f⟩:Fr)::⟨y.p,y.c-1,(getI ndR.dflt L i).t⟩::st).reverse) (m'-1)).c=z.c:=by rw [g1]
      have g1p:(getI frR.dflt (((⟨i,(getI ndR.dflt L i).c,(getI ndR.dflt L i).f⟩:Fr)::⟨y.p,y.c-1,(getI ndR.dflt L i).t⟩::st).reverse) (m'-1)).p=z.p:=by rw [g1]
      obtain⟨l1,l2,l3,l4,l5,l6,l7,l8⟩:=hv2.sk
      have hel:=hv2.elen
      have hzb:=(SK.bound hv2.sk).2
      by_cases hzc:z.c=0
      ·((repeat' ((conv=>whnf);(first|(refine Ar.fit (by omega) ?_)|(refine VC.mk (by (first|omega|(and_intros<;>first|omega|rfl))) ?_)|(refine Br.mk ?_ ?_<;>intro hb<;>(try (exfalso;omega)))|fail)));all_goals (try (conv=>whnf)))
       refine⟨zt.length,⟨m'-1,E1.set (getI frR.dflt (((⟨i,(getI ndR.dflt L i).c,(getI ndR.dflt L i).f⟩:Fr)::⟨y.p,y.c-1,(getI ndR.dflt L i).t⟩::st).reverse) (m'-1)).p.toNat (i+1)⟩,⟨zt,D2,hv2.pop hzc (by rw [g1p]),g4,g5,rfl⟩,by rw [q3,List.length_cons];omega,by ((repeat (refine⟨rfl,?_⟩));trivial),rfl,rfl,⟨rfl,rfl,rfl,rfl,rfl,rfl,trivial⟩⟩
      ·((repeat' ((conv=>whnf);(first|(refine Ar.fit (by omega) ?_)|(refine VC.mk (by (first|omega|(and_intros<;>first|omega|rfl))) ?_)|(refine Br.mk ?_ ?_<;>intro hb<;>(try (exfalso;omega)))|fail)));all_goals (try (conv=>whnf)))
       refine⟨μ-1,⟨some (b,c),(((⟨i,(getI ndR.dflt L i).c,(getI ndR.dflt L i).f⟩:Fr)::⟨y.p,y.c-1,(getI ndR.dflt L i).t⟩::st).reverse),m',E1,((U.set i.toNat (-1)).set i.toNat (getI frR.dflt xs (m-1)).p),(max deep (m+1)),i+1⟩,⟨hfin (fun z' zt' e=>by cases e;omega),by dsimp only;omega⟩,by omega,by ((repeat (refine⟨rfl,?_⟩));trivial),rfl,rfl,⟨rfl,rfl,rfl,rfl,rfl,rfl,trivial⟩⟩
 ·have hil:i=len:=by omega
  rcases o with _|⟨b0,c0⟩
  ·obtain⟨rfl,rfl,rfl,rfl⟩:=hnil rfl
   dsimp only [slK,slC,List.nil_append]
   ((repeat' ((conv=>whnf);(first|(refine Br.mk ?_ ?_<;>intro hb<;>(try (exfalso;omega)))|fail)));all_goals (try (conv=>whnf)))
   exact⟨fun h' hs'=>⟨hs'.grows,_,_,_,false,E,U,rfl,hs'.own (k:=15) rfl (by omega),hs'.own (k:=18) rfl (by omega),⟨fun e=>(by cases e),fun ht=>absurd ht.1 (by omega)⟩,fun e=>(by cases e)⟩⟩
  ·obtain⟨hb0,hi1,ys,D,hv,h1,h2,h3⟩:=harr b0 c0 rfl
   dsimp only [slK,slC,List.cons_append,List.nil_append]
   ((repeat' ((conv=>whnf);(first|(refine VC.mk (by omega) ?_)|(refine Br.mk ?_ ?_<;>intro hb<;>(try (exfalso;omega)))|fail)));all_goals (try (conv=>whnf)))
   rcases ys with _|⟨y,st⟩
   ·have hm:m=0:=by simpa using h2
    obtain⟨g1,g2,g3,g4⟩:=hv.done (by omega)
    exact⟨fun h' hs'=>⟨hs'.grows,_,_,_,true,E,U,tup4_eq rfl rfl rfl (prop_true hm),hs'.own (k:=15) rfl (by omega),hs'.own (k:=18) rfl (by omega),⟨fun _=>g1,fun _=>rfl⟩,fun _=>⟨g2,g3,D,g4⟩⟩⟩
   ·have hm:¬ m=0:=by rw [List.length_cons] at h2;omega
    have hno:=hv.not (h3 y st rfl) (fun hh=>by omega)
    exact⟨fun h' hs'=>⟨hs'.grows,_,_,_,false,E,U,tup4_eq rfl rfl rfl (by simp [den1,denC,hm]),hs'.own (k:=15) rfl (by omega),hs'.own (k:=18) rfl (by omega),⟨fun e=>(by cases e),fun ht=>absurd ht hno⟩,fun e=>(by cases e)⟩⟩
end Go.Ex.Tr
namespace Go.Ex.Tr
open Go.Ex Go.Proofs
abbrev mostT:Int:=131072
noncomputable def EL(L:List Nd):List Int:=Classical.epsilon fun E=>EndsOk L E
theorem EL_eq{L:List Nd}{E:List Int}(h:EndsOk L E):EL L=E:=(Classical.epsilon_spec (p:=fun E=>EndsOk L E) ⟨E,h⟩).uniq h
theorem UpsOk.uniq{L:List Nd}{E U U':List Int}(h:UpsOk L E U)(h':UpsOk L E U'):U=U':=
 getI_ext (h.len.trans h'.len.symm) fun i h0 h1=>by
  rw [h.len] at h1
  rcases h.at_ i h0 h1 with ⟨a1,a2⟩|⟨a1,a2,a3,a4,a5⟩<;>rcases h'.at_ i h0 h1 with ⟨b1,b2⟩|⟨b1,b2,b3,b4,b5⟩
  ·omega
  ·omega
  ·omega
  ·by_cases q:getI 0 U i<getI 0 U' i
   ·have:=a5 _ q b3;omega
   ·by_cases q':getI 0 U' i<getI 0 U i
    ·have:=b5 _ q' a3;omega
    ·omega
theorem DeepOk.uniq{L:List Nd}{E U:List Int}{d d':Int}{D D':Int→Int}(hU:UpsOk L E U)(h:DeepOk L U d D)(h':DeepOk L U d' D'):d=d':=by
 have key:∀ (n:Nat) (j:Int),0≤j→j<L.length→j<n→D j=D' j:=by
  intro n
  induction n with
  |zero=>intro j h0 _ h1;omega
  |succ n ih=>
   intro j h0 h1 h2
   rcases h.up j h0 h1 with ⟨a,b⟩|⟨a,b⟩<;>rcases h'.up j h0 h1 with ⟨a',b'⟩|⟨a',b'⟩
   ·omega
   ·omega
   ·omega
   ·rcases hU.at_ j h0 h1 with ⟨c,_⟩|⟨_,c1,c2,_⟩
    ·omega
    ·have:=ih (getI 0 U j) c1 (by omega) (by omega);omega
 obtain⟨j,j0,j1,j2⟩:=h.ex
 obtain⟨k,k0,k1,k2⟩:=h'.ex
 have e1:=key (j.toNat+1) j j0 j1 (by omega)
 have e2:=key (k.toNat+1) k k0 k1 (by omega)
 have:=(h'.le j j0 j1).1
 have:=(h.le k k0 k1).1
 omega
def Has(L:List Nd)(i:Int):Prop:=TreeP L mostT∧0≤i∧i<L.length
noncomputable def checkV(L:List Nd)(n:Int):Int:=if n<0∨131072<n then 1 else @ite _ (TreeP L n) (Classical.propDecidable _) 0 8
def overGo(L:List Nd)(t:Int):Nat→Int
 |0=>-1
 |i+1=>if (nd L i).f≤t∧t<(nd L i).t then i else overGo L t i
noncomputable def overV(L:List Nd)(t:Int):Int:=@ite _ (TreeP L mostT) (Classical.propDecidable _) (overGo L t L.length) (-1)
theorem check_any(A:Option Addr)(len cap:Nat)(L:List Nd)(n:Int)(h:Heap)(hA:Sl ndR h A len L)(hr:len*40≤140737488355328) :
 CH Tryz.prog 14 #[.slice A len cap,.int .i64 n] h fun v h'=>v = .int .i64 (checkV L n)∧Grows h h':=by
 refine enter (rep:=rep) (m:=9) (ex:=[]) (cu:=[]) tO Tryz.func14 rfl (by decide) (rs:=[.tmp 4]) rfl rfl [.val (.slice A len cap),.val (.int .i64 n)] rfl ?_
 ((repeat' ((conv=>whnf);(first|(refine Br.mk ?_ ?_<;>intro hb)|fail)));all_goals (try (conv=>whnf)))
 ·exact⟨fun h' hs=>⟨int_eq (by rw [checkV,if_pos (by omega)]),hs.grows⟩⟩
 ·exact⟨fun h' hs=>⟨int_eq (by rw [checkV,if_pos (by omega)]),hs.grows⟩⟩
 refine CK.epoch (fun h1 hq=>outline_any A len cap L n h1 (hA.grows hq.grows) hr) ?_
 rintro h1 u h2 hq ⟨hg,x,y,d,b,E,U,rfl,hX,hY,hT,hF⟩
 obtain⟨X,xl,xc,rfl,hE⟩:=hX.sl
 obtain⟨Y,yl,yc,rfl,hU⟩:=hY.sl
 have hg0:=hq.grows.trans hg
 rcases b with _|_
 ·have hno:¬ TreeP L n:=fun h=>(by cases hT.2 h)
  ((repeat' ((conv=>whnf);(first|(refine Br.mk ?_ ?_<;>intro hb<;>(try (contradiction)))|fail)));all_goals (try (conv=>whnf)))
  exact⟨fun h' hs=>⟨int_eq (by rw [checkV,if_neg (by omega),if_neg hno]),hg0.trans hs.grows⟩⟩
 ·have hyes:TreeP L n:=hT.1 rfl
  ((repeat' ((conv=>whnf);(first|(refine Br.mk ?_ ?_<;>intro hb<;>(try (exact absurd rfl hb)))|fail)));all_goals (try (conv=>whnf)))
  exact⟨fun h' hs=>⟨int_eq (by rw [checkV,if_neg (by omega),if_pos hyes]),hg0.trans hs.grows⟩⟩
def kch(E:List Int):Nat→Int→List Int
 |0,_=>[]
 |c+1,k=>k::kch E c (getI 0 E k)
noncomputable def kidsV(L:List Nd)(i:Int):List Int:=@ite _ (Has L i) (Classical.propDecidable _) (kch (EL L) (nd L i).c.toNat (i+1)) []
def siK(k:Nat)(o:Option (Nat×Nat))(n:Int):KV:=match o with
 |none=>.val (.slice none 0 0)
 |some (b,c)=>.osl k b n c
def siC(k:Nat)(o:Option (Nat×Nat))(L:List Int):Chs:=match o with
 |none=>[]
 |some (b,c)=>[(k,b,.arr 3 (intR .i64) L c)]
end Go.Ex.Tr
