/-
  Top: TopDeep: whatever the input, the law answers true (part 18)
-/
import Derived.Test.YtpjdgifhhnjclaaGreatDoorM17
set_option linter.unusedVariables false
set_option linter.unusedSimpArgs false
set_option maxHeartbeats 4000000
set_option maxRecDepth 10000
namespace Go.Ex
open Go.Proofs
attribute [local irreducible] CH
def formF(r:Int):ByteArray:=if Lib.validRune r=true then Utf8.encode r else ⟨#[]⟩
theorem encode_size(r:Int):1≤(Utf8.encode r).size∧(Utf8.encode r).size≤4:=by
 unfold Utf8.encode
 dsimp only
 generalize (if Utf8.valid r=true then r.toNat else Utf8.runeError)=c
 refine⟨?_,?_⟩
 all_goals
  split
  ·simp [ByteArray.size]
  ·split
   ·simp [ByteArray.size]
   ·split<;>simp [ByteArray.size]
theorem formF_size(r:Int):(formF r).size≤4:=by
 unfold formF
 split
 ·exact (encode_size r).2
 ·exact Nat.zero_le _
theorem formF_no(r:Int):formF r=⟨#[]⟩↔Lib.validRune r=false:=by
 unfold formF
 split
 ·rename_i h
  rw [h]
  refine⟨fun e=>?_,fun e=>by cases e⟩
  have:=(encode_size r).1
  rw [e] at this
  exact absurd this (by show ¬ 1≤0;omega)
 ·rename_i h
  simp [h]
theorem form_any(r:Int)(h:Heap):CH Tryz.prog 214 #[.int .i32 r] h fun v h'=>v = .string (formF r)∧Grows h h':=by
 refine enter (rep:=rep) (m:=1) (ex:=[0,2,5]) (cu:=[]) tO Tryz.func214 rfl (by decide) (rs:=[.tmp 2]) rfl rfl [.val (.int .i32 r)] rfl ?_
 unfold formF
 by_cases hv:Lib.validRune r=true
 ·rw [if_pos hv]
  ((repeat' ((conv=>whnf);(first|(refine Br.mk ?_ ?_<;>intro hb<;>(try (exact absurd rfl hb)))|(apply CK.pure;(case hh=>(intro h1 hs;exact (valid_any r h1).mono (fun v h' ⟨e1,e2⟩=>⟨e1.trans (congrArg Value.bool hv),e2⟩))))|fail)));all_goals (try (conv=>whnf)))
  all_goals exact⟨fun h' hs=>⟨rfl,hs.grows⟩⟩
 ·rw [if_neg hv]
  ((repeat' ((conv=>whnf);(first|(refine Br.mk ?_ ?_<;>intro hb<;>(try (contradiction)))|(apply CK.pure;(case hh=>(intro h1 hs;exact (valid_any r h1).mono (fun v h' ⟨e1,e2⟩=>⟨e1.trans (congrArg Value.bool (Bool.not_eq_true _▸hv)),e2⟩))))|fail)));all_goals (try (conv=>whnf)))
  all_goals exact⟨fun h' hs=>⟨rfl,hs.grows⟩⟩
def codeBad(mk n:Int)(ch:Bool):Bool:=!(!ch && decide (mk=34)) && (decide (1114111<n) || !Lib.validRune n)
theorem SC.arr8{τ:Type}{T:Nat}{R:Rep τ}{xs ys:List τ}{c:Nat}(h:xs=ys):SC (.arr T R xs c) (.arr T R ys c):=by subst h;exact SC.rfl
def QPost(bq:Nat)(s:ByteArray)(mk a:Int)(bad:Bool)(x:QS)(k:Nat)(h:Heap)(v:Value)(h':Heap):Prop:=
 ∃ x':QS,v = .tuple #[]∧x'.at_=a∧x'.bad=bad∧x'.out.length≤x.out.length+k∧(x'.o=none→x'.out=[])∧HS ⟨h,blks (qC bq s mk x),qC bq s mk x'⟩ h'
theorem QPost.own{bq:Nat}{s:ByteArray}{mk a:Int}{B:Bool}{x:QS}{k:Nat}{h h':Heap}{ch:Chs}(hs:HS ⟨h,blks (qC bq s mk x),ch⟩ h')(kk:Nat){Bv:KV}{b c kz:Nat}{L:List Int}{n:Int}
 (h1:findC ch 20=some (bq,.box 161 [.val (.string s),.val (.int .i64 a),.val (.int .u8 mk),.osl kz b n c,Bv])) (h2:findC ch kk=some (b,.arr 5 (intR .u8) L c)) (hk:Nat.beq 20 kk=false) (hn:n=L.length) (hB:denC Bv = .bool B) (hl:L.length≤x.out.length+k) :
 QPost bq s mk a B x k h (.tuple #[]) h':=
 ⟨⟨a,B,some (b,c),L⟩,rfl,rfl,rfl,hl,fun e=>(by cases e),hs.ren [20,kk] (L:=qC bq s mk ⟨a,B,some (b,c),L⟩) ⟨⟨_,h1,SC.box (by subst hn;simp only [List.map_cons,List.map_nil,hB,outK];rfl)⟩,by simp [notInN,hk],⟨_,h2,SC.rfl⟩,rfl,trivial⟩⟩
theorem QPost.none{bq:Nat}{s:ByteArray}{mk a:Int}{B:Bool}{x:QS}{k:Nat}{h h':Heap}{ch:Chs}(hs:HS ⟨h,blks (qC bq s mk x),ch⟩ h'){V Bv:KV}
 (h1:findC ch 20=some (bq,.box 161 [.val (.string s),.val (.int .i64 a),.val (.int .u8 mk),V,Bv])) (hV:denC V = .slice none 0 0) (hB:denC Bv = .bool B) :
 QPost bq s mk a B x k h (.tuple #[]) h':=
 ⟨⟨a,B,Option.none,[]⟩,rfl,rfl,rfl,Nat.zero_le _,fun _=>rfl,hs.ren [20] (L:=qC bq s mk ⟨a,B,Option.none,[]⟩) ⟨⟨_,h1,SC.box (by simp only [List.map_cons,List.map_nil,hB,hV,outK];rfl)⟩,rfl,trivial⟩⟩
theorem qcode_any(bq:Nat)(s:ByteArray)(mk:Int)(x:QS)(n:Int)(ch:Bool)(h:Heap)(hs:HS ⟨h,blks (qC bq s mk x),qC bq s mk x⟩ h)(hx:x.o=none→x.out=[])(hn:0≤n∧n≤4294967296)(hc:ch=false→n≤255)(ho:x.out.length≤8000000) :
 CH Tryz.prog 184 #[.pointer (some ⟨bq,0,none⟩),.int .i64 n,.bool ch] h (QPost bq s mk x.at_ (x.bad || codeBad mk n ch) x 4 h):=by
 obtain⟨a,bad,o,out⟩:=x
 have hfs:=formF_size n
 have hf:=fun h1=>form_any n h1
 have hfe:=formF_no n
 obtain⟨B,hB⟩:∃ B,(bad || codeBad mk n ch)=B:=⟨_,rfl⟩
 dsimp only at hx ho ⊢
 rw [hB]
 unfold codeBad at hB
 generalize formF n=fn at hfs hf hfe
 generalize Lib.validRune n=vr at hfe hB
 rcases o with _|⟨b,c⟩
 ·have hx:=hx rfl
  subst hx
  refine eIn (rep:=rep) (m:=1) (ex:=[0,1,2,14,33]) (cu:=[]) (args:=[.own 20 bq 0,.val (.int .i64 n),.val (.bool ch)]) tO Tryz.func184 rfl (by decide) (rs:=[]) rfl rfl rfl hs ?_
  cases ch
  ·have hc':=hc rfl
   ((repeat' ((conv=>whnf);(first|(refine dW (id:=4) tO mixed (.pull 0 [9,10,11] (.pull 1 [2,3,4,8,9,10,11] (.pull 2 [3,4,8,9,10,11] (.pull 3 [4,8,9,10,11] (.pull 5 [6,7,8,9,10,11] (.pull 6 [7,8,9,10,11] (.br 4 7 (.one 7 (.one 8 (.pull 9 [10,11] (.pull 10 [11] (.one 11 .done))))) (.pull 4 [8,9,10,11] (.one 8 (.pull 9 [10,11] (.pull 10 [11] (.one 11 .done)))))))))))) (by kernel_rfl) (by kernel_rfl) ?_)|(refine Ar.fit (by omega) ?_)|(refine VC.mk (by (first|omega|(and_intros<;>first|omega|rfl|(simp only [maxLen];omega)|(simp only [List.length_append,List.length_take,List.length_replicate,List.length_cons,List.length_nil];omega)))) ?_)|(refine Br.mk ?_ ?_<;>intro hb<;>(try (first|(exfalso;omega)|contradiction)))|(refine New.mk ?_;intro b hb)|(refine New2.mk ?_;intro b c hb hbc)|(refine SR.same ?_)|(refine Two.mk ?_ ?_)|(apply CK.pure;(case hh=>(intro h1 hs;exact hf h1)))|fail)));all_goals (try (conv=>whnf)))
   all_goals first
    |(refine⟨fun h' hs=>QPost.none hs rfl rfl ?_⟩;(first|rfl|(simp [denC,←hB, *];done)|(simp_all [denC];done)))
    |(refine⟨fun h' hs=>QPost.own hs 23 rfl rfl rfl ?_ ?_ ?_⟩<;>first|rfl|(simp [byl_len];done)|(simp [byl_len];omega)|(simp [denC,←hB, *];done)|(simp_all [denC];done))
    |(refine⟨fun h' hs=>QPost.own hs 45 rfl rfl rfl ?_ ?_ ?_⟩<;>first|rfl|(simp [byl_len];done)|(simp [byl_len];omega)|(simp [denC,←hB, *];done)|(simp_all [denC];done))
  ·clear hc
   ((repeat' ((conv=>whnf);(first|(refine dW (id:=4) tO mixed (.pull 0 [9,10,11] (.pull 1 [2,3,4,8,9,10,11] (.pull 2 [3,4,8,9,10,11] (.pull 3 [4,8,9,10,11] (.pull 5 [6,7,8,9,10,11] (.pull 6 [7,8,9,10,11] (.br 4 7 (.one 7 (.one 8 (.pull 9 [10,11] (.pull 10 [11] (.one 11 .done))))) (.pull 4 [8,9,10,11] (.one 8 (.pull 9 [10,11] (.pull 10 [11] (.one 11 .done)))))))))))) (by kernel_rfl) (by kernel_rfl) ?_)|(refine Ar.fit (by omega) ?_)|(refine VC.mk (by omega) ?_)|(refine Br.mk ?_ ?_<;>intro hb)|(refine New2.mk ?_;intro b c hb hbc)|(refine Two.mk ?_ ?_)|(apply CK.pure;(case hh=>(intro h1 hs;exact hf h1)))|fail)));all_goals (try (conv=>whnf)))
   all_goals first
    |(refine⟨fun h' hs=>QPost.none hs rfl rfl ?_⟩;(first|rfl|(simp [denC,←hB, *];done)|(simp_all [denC];done)))
    |(refine⟨fun h' hs=>QPost.own hs 23 rfl rfl rfl ?_ ?_ ?_⟩<;>first|rfl|(simp [byl_len];done)|(simp [byl_len];omega)|(simp [denC,←hB, *];done)|(simp_all [denC];done))
    |(refine⟨fun h' hs=>QPost.own hs 45 rfl rfl rfl ?_ ?_ ?_⟩<;>first|rfl|(simp [byl_len];done)|(simp [byl_len];omega)|(simp [denC,←hB, *];done)|(simp_all [denC];done))
 ·have hcap:out.length≤c:=by
   obtain⟨_,_,_,h1,_⟩:=(hs.chunk (21,b,.arr 5 (intR .u8) out c) (by simp [qC,outC])).2.2
   exact h1
  refine eIn (rep:=rep) (m:=1) (ex:=[0,1,2,14,33]) (cu:=[]) (args:=[.own 20 bq 0,.val (.int .i64 n),.val (.bool ch)]) tO Tryz.func184 rfl (by decide) (rs:=[]) rfl rfl rfl hs ?_
  cases ch
  ·have hc':=hc rfl
   ((repeat' ((conv=>whnf);(first|(refine dW (id:=4) tO mixed (.pull 0 [9,10,11] (.pull 1 [2,3,4,8,9,10,11] (.pull 2 [3,4,8,9,10,11] (.pull 3 [4,8,9,10,11] (.pull 5 [6,7,8,9,10,11] (.pull 6 [7,8,9,10,11] (.br 4 7 (.one 7 (.one 8 (.pull 9 [10,11] (.pull 10 [11] (.one 11 .done))))) (.pull 4 [8,9,10,11] (.one 8 (.pull 9 [10,11] (.pull 10 [11] (.one 11 .done)))))))))))) (by kernel_rfl) (by kernel_rfl) ?_)|(refine Ar.fit (by omega) ?_)|(refine VC.mk (by (first|omega|(and_intros<;>first|omega|rfl|(simp only [maxLen];omega)|(simp only [List.length_append,List.length_take,List.length_replicate,List.length_cons,List.length_nil];omega)))) ?_)|(refine Br.mk ?_ ?_<;>intro hb<;>(try (exfalso;omega)))|(refine New.mk ?_;intro b hb)|(refine NewO.mk ?_;intro b c hb hbc)|(refine SR.same ?_)|(refine Two.mk ?_ ?_)|(apply CK.pure;(case hh=>(intro h1 hs;exact hf h1)))|fail)));all_goals (try (conv=>whnf)))
   all_goals first
    |(refine⟨fun h' hs=>QPost.own hs 21 rfl rfl rfl (by first|rfl|simp) ?_ (by simp)⟩;(first|rfl|(simp [denC,←hB, *];done)|(simp_all [denC];done)))
    |(refine⟨fun h' hs=>QPost.own hs 23 rfl rfl rfl ?_ ?_ ?_⟩<;>first|rfl|(simp [byl_len];done)|(simp [byl_len];omega)|(simp [denC,←hB, *];done)|(simp_all [denC];done))
    |(refine⟨fun h' hs=>QPost.own hs 45 rfl rfl rfl ?_ ?_ ?_⟩<;>first|rfl|(simp [byl_len];done)|(simp [byl_len];omega)|(simp [denC,←hB, *];done)|(simp_all [denC];done))
  ·clear hc
   ((repeat' ((conv=>whnf);(first|(refine dW (id:=4) tO mixed (.pull 0 [9,10,11] (.pull 1 [2,3,4,8,9,10,11] (.pull 2 [3,4,8,9,10,11] (.pull 3 [4,8,9,10,11] (.pull 5 [6,7,8,9,10,11] (.pull 6 [7,8,9,10,11] (.br 4 7 (.one 7 (.one 8 (.pull 9 [10,11] (.pull 10 [11] (.one 11 .done))))) (.pull 4 [8,9,10,11] (.one 8 (.pull 9 [10,11] (.pull 10 [11] (.one 11 .done)))))))))))) (by kernel_rfl) (by kernel_rfl) ?_)|(refine Ar.fit (by omega) ?_)|(refine VC.mk (by (first|omega|(and_intros<;>first|omega|(simp only [maxLen];omega)))) ?_)|(refine Br.mk ?_ ?_<;>intro hb)|(refine NewO.mk ?_;intro b c hb hbc)|(refine SR.same ?_)|(refine Two.mk ?_ ?_)|(apply CK.pure;(case hh=>(intro h1 hs;exact hf h1)))|fail)));all_goals (try (conv=>whnf)))
   all_goals first
    |(refine⟨fun h' hs=>QPost.own hs 21 rfl rfl rfl (by first|rfl|simp) ?_ (by simp)⟩;(first|rfl|(simp [denC,←hB, *];done)|(simp_all [denC];done)))
    |(refine⟨fun h' hs=>QPost.own hs 23 rfl rfl rfl ?_ ?_ ?_⟩<;>first|rfl|(simp [byl_len];done)|(simp [byl_len];omega)|(simp [denC,←hB, *];done)|(simp_all [denC];done))
    |(refine⟨fun h' hs=>QPost.own hs 45 rfl rfl rfl ?_ ?_ ?_⟩<;>first|rfl|(simp [byl_len];done)|(simp [byl_len];omega)|(simp [denC,←hB, *];done)|(simp_all [denC];done))
end Go.Ex
namespace Go.Ex
open Go.Proofs
attribute [local irreducible] CH
theorem qC_has(bq:Nat)(s:ByteArray)(mk:Int)(x:QS):HasC (qC bq s mk x) (qC bq s mk x):=by
 obtain⟨a,bad,o,out⟩:=x
 rcases o with _|⟨b,c⟩
 ·exact⟨rfl,rfl,trivial⟩
 ·exact⟨rfl,rfl,rfl,rfl,trivial⟩
section
variable {E:Value→Heap→Prop}{S:St}{κ:KV→St→Prop}{bq:Nat}{s:ByteArray}{mk:Int}
theorem CK.qturn(x:QS)(hc:HasC S.ch (qC bq s mk x)){f:Nat}{args:List KV}(a':Int)(bad':Bool)(k:Nat)(hh:∀ h,HS ⟨h,blks (qC bq s mk x),qC bq s mk x⟩ h→CH Tryz.prog f (args.map den1).toArray h (QPost bq s mk a' bad' x k h))
 (hk:∀ x':QS,x'.at_=a'→x'.bad=bad'→x'.out.length≤x.out.length+k→(x'.o=none→x'.out=[])→κ (.tup []) ⟨S.h0,S.cap,qC bq s mk x'⟩):CK Tryz.prog E f args [] S κ:=by
 refine CK.mut (qC bq s mk x) [] (fun kv q'=>∃ x':QS,kv = .tup []∧q'=qC bq s mk x'∧x'.at_=a'∧x'.bad=bad'∧x'.out.length≤x.out.length+k∧(x'.o=none→x'.out=[])) (by rw [List.append_nil];exact hc) (fun h _ hs=>?_) ?_
 ·rw [show args.map den1++([]:List KV).map denC=args.map den1 by simp]
  refine (hh h hs).mono fun u h' ⟨x',a1,a2,a3,a4,a5,a6⟩=>⟨.tup [],_,a1.symm,a6,x',rfl,rfl,a2,a3,a4,a5⟩
 ·rintro kv q' ⟨x',rfl,rfl,h1,h2,h3,h4⟩
  rw [List.append_nil]
  exact hk x' h1 h2 h3 h4
theorem CK.qnum(x:QS)(hc:HasC S.ch (qC bq s mk x))(cnt:Nat)(base:Int)(hb:base=16∨base=8)(hn:cnt≤8)(ha:0≤x.at_∧x.at_≤s.size)(hz:s.size≤1048576){args:List KV}(he:args.map den1=[.pointer (some ⟨bq,0,none⟩),.int .i64 cnt,.int .i64 base])
 {v a':Int} {f:Bool} (hr:numS s base cnt x.at_ 0=(v,a',f)) (hk:κ (.val (.int .i64 v)) ⟨S.h0,S.cap,qC bq s mk ⟨a',x.bad || f,x.o,x.out⟩⟩):CK Tryz.prog E 185 args [] S κ:=by
 obtain⟨a,bad,o,out⟩:=x
 refine CK.mut [(20,bq,qB s mk a (outK ⟨a,bad,o,out⟩) bad)] (outC ⟨a,bad,o,out⟩) (fun kv q'=>kv = .val (.int .i64 v)∧q'=[(20,bq,qB s mk a' (outK ⟨a,bad,o,out⟩) (bad || f))]) hc (fun h _ hs=>?_) ?_
 ·rw [show args.map den1++([]:List KV).map denC=args.map den1 by simp,he]
  have h1:HS ⟨h,[bq],[(20,bq,qB s mk a (.val (denC (outK ⟨a,bad,o,out⟩))) bad)]⟩ h:=hs.ren [20] ⟨⟨_,rfl,SC.box rfl⟩,rfl,trivial⟩
  refine (qnumber_any bq s mk a base cnt _ bad h h1 hb hn ha hz).mono fun u h' ⟨a1,a2⟩=>⟨.val (.int .i64 v),_,?_,?_,rfl,rfl⟩
  ·rw [a1];dsimp only at hr;rw [hr];rfl
  ·dsimp only at hr;rw [hr] at a2;exact a2.ren [20] ⟨⟨_,rfl,SC.box rfl⟩,rfl,trivial⟩
 ·rintro kv q' ⟨rfl,rfl⟩
  exact hk
theorem CK.ren{P:Program}{f:Nat}{args caps:List KV}(ks:List Nat)(L:Chs)(hL:RenC S.ch ks L)(hk:CK P E f args caps ⟨S.h0,S.cap,L⟩ κ):CK P E f args caps S κ:=⟨fun h hs=>hk.go h (hs.ren ks hL)⟩
end
theorem numS_rng(s:ByteArray)(base:Int)(hb:base=16∨base=8):∀ (c:Nat) (a n p:Int),0≤a∧a≤s.size→0≤n→n<p→(a≤(numS s base c a n).2.1∧(numS s base c a n).2.1≤s.size)∧0≤(numS s base c a n).1∧(numS s base c a n).1<p*base ^ c
 |0,a,n,p,h,h0,h1=>by simp only [numS];exact⟨by omega,h0,by simpa using h1⟩
 |c+1,a,n,p,h,h0,h1=>by
  simp only [numS]
  have hw:=baseF_rng (byteI s a)
  split
  ·rename_i hc
   have:=numS_rng s base hb c (a+1) (n*base+baseF (byteI s a)) (p*base) (by omega) (by rcases hb with rfl|rfl<;>omega) (by rcases hb with rfl|rfl<;>omega)
   refine⟨by omega,this.2.1,?_⟩
   rw [Int.pow_succ,Int.mul_comm (base ^ c) base,←Int.mul_assoc]
   exact this.2.2
  ·refine⟨by dsimp only;omega,Int.le_refl _,?_⟩
   have hp:0<p:=by omega
   have hq:0<base ^ (c+1):=Int.pow_pos (by rcases hb with rfl|rfl<;>decide)
   exact Int.mul_pos hp hq
theorem and255:∀ n:Int,0≤n→n<512→0≤bitsI .and .i64 n 255∧bitsI .and .i64 n 255≤255:=fun n h0 h1=>by
 have key:∀ i : _root_.Fin 512,0≤bitsI .and .i64 (i.val:Int) 255∧bitsI .and .i64 (i.val:Int) 255≤255:=by decide +kernel
 have:=key ⟨n.toNat,by omega⟩
 rw [show (((⟨n.toNat,by omega⟩ : _root_.Fin 512).val:Nat):Int)=n from Int.toNat_of_nonneg h0] at this
 exact this
abbrev escT:ByteArray:=⟨#[97,98,102,110,114,116,118,92]⟩
def escS(s:ByteArray)(mk a:Int):Int×Bool:=
 if s.size≤a then (a,true) else
 if 0≤idxB escT (byteI s a) then (a+1,false) else
 if byteI s a=mk then (a+1,false) else
 if byteI s a=120 then ((numS s 16 2 (a+1) 0).2.1,(numS s 16 2 (a+1) 0).2.2 || codeBad mk (numS s 16 2 (a+1) 0).1 false) else
 if byteI s a=85 then ((numS s 16 8 (a+1) 0).2.1,(numS s 16 8 (a+1) 0).2.2 || codeBad mk (numS s 16 8 (a+1) 0).1 true) else
 if byteI s a=117 then ((numS s 16 4 (a+1) 0).2.1,(numS s 16 4 (a+1) 0).2.2 || codeBad mk (numS s 16 4 (a+1) 0).1 true) else
 ((numS s 8 3 a 0).2.1,(numS s 8 3 a 0).2.2 || decide (255<(numS s 8 3 a 0).1) || codeBad mk (bitsI .and .i64 (numS s 8 3 a 0).1 255) false)
theorem qesc_any(bq:Nat)(s:ByteArray)(mk:Int)(x:QS)(h:Heap)(hs:HS ⟨h,blks (qC bq s mk x),qC bq s mk x⟩ h)(hx:x.o=none→x.out=[])(hbad:x.bad=false)(ha:0≤x.at_∧x.at_≤s.size)(hz:s.size≤1048576)(ho:x.out.length≤8000000) :
 CH Tryz.prog 160 #[.pointer (some ⟨bq,0,none⟩)] h (QPost bq s mk (escS s mk x.at_).1 (escS s mk x.at_).2 x 4 h):=by
 obtain⟨a,bad,o,out⟩:=x
 dsimp only at hx hbad ha ho ⊢
 subst hbad
 obtain⟨R,hR⟩:∃ R,escS s mk a=R:=⟨_,rfl⟩
 rw [hR]
 rw [escS] at hR
 have hq:=byteI_rng s a
 have hib:=fun h1=>ibyte_any escT (byteI s a) h1
 have hir:=idxB_rng escT (byteI s a)
 generalize idxB escT (byteI s a)=ix at hib hir hR
 have hir : -1≤ix∧ix<8:=hir
 have hj:((⟨#[7,8,12,10,13,9,11,92]⟩:ByteArray).size:Int)=8:=rfl
 have n2:=numS_rng s 16 (.inl rfl) 2 (a+1) 0 1
 have n8:=numS_rng s 16 (.inl rfl) 8 (a+1) 0 1
 have n4:=numS_rng s 16 (.inl rfl) 4 (a+1) 0 1
 have n3:=numS_rng s 8 (.inr rfl) 3 a 0 1 ha (Int.le_refl _) (by decide)
 obtain⟨v2,a2,f2,e2⟩:∃ v a' f,numS s 16 2 (a+1) 0=(v,a',f):=⟨_,_,_,rfl⟩
 obtain⟨v8,a8,f8,e8⟩:∃ v a' f,numS s 16 8 (a+1) 0=(v,a',f):=⟨_,_,_,rfl⟩
 obtain⟨v4,a4,f4,e4⟩:∃ v a' f,numS s 16 4 (a+1) 0=(v,a',f):=⟨_,_,_,rfl⟩
 obtain⟨v3,a3,f3,e3⟩:∃ v a' f,numS s 8 3 a 0=(v,a',f):=⟨_,_,_,rfl⟩
 rw [e2] at n2 hR
 rw [e8] at n8 hR
 rw [e4] at n4 hR
 rw [e3] at n3 hR
 dsimp only at n2 n8 n4 n3 hR
 have m2:s.size≤a∨(0≤v2∧v2≤255):=by
  by_cases h:s.size≤a
  ·exact .inl h
  ·have:=n2 (by omega) (by omega) (by omega)
   exact .inr (by omega)
 have m8:s.size≤a∨(0≤v8∧v8≤4294967295):=by
  by_cases h:s.size≤a
  ·exact .inl h
  ·have:=n8 (by omega) (by omega) (by omega)
   exact .inr (by omega)
 have m4:s.size≤a∨(0≤v4∧v4≤4294967295):=by
  by_cases h:s.size≤a
  ·exact .inl h
  ·have:=n4 (by omega) (by omega) (by omega)
   exact .inr (by omega)
 have m3:0≤v3∧v3<512:=by omega
 have m5:=and255 v3 m3.1 m3.2
 clear n2 n8 n4 n3
 rcases o with _|⟨b,c⟩
 ·have hx:=hx rfl
  subst hx
  have hx:(none:Option (Nat×Nat))=none→([]:List Int)=[]:=fun _=>rfl
  have hs:HS ⟨h,blks (qC bq s mk ⟨a,false,none,[]⟩),[(20,bq,.box 161 [.val (.string s),.val (.int .i64 a),.val (.int .u8 mk),.val (.slice none 0 0),.val (.bool false)])]⟩ h:=hs
  rcases f3 with _|_
  ·refine eIn (rep:=rep) (m:=1) (ex:=[0,2,3,4,5,15,31,50,51,57,59,61]) (cu:=[]) (args:=[.own 20 bq 0]) tO Tryz.func160 rfl (by decide) (rs:=[]) rfl rfl rfl hs ?_
   ((repeat' ((conv=>whnf);(first|(refine dW (id:=0) tO mixed (.pull 0 [1,2,3,9] (.pull 1 [2,3,9] (.pull 2 [3,9] (.pull 4 [5,6,7,8,9] (.pull 5 [6,7,8,9] (.pull 6 [7,8,9] (.pull 7 [8,9] (.pull 8 [9] (.pull 3 [9] (.pull 9 [] .done)))))))))) (by kernel_rfl) (by kernel_rfl) ?_)|(refine dW (id:=2) tO mixed (.pull 0 [1,2,3,8,9] (.pull 1 [2,3,8,9] (.pull 2 [3,8,9] (.pull 4 [5,6,7,8,9] (.pull 5 [6,7,8,9] (.pull 6 [7,8,9] (.pull 3 [8,9] (.pull 7 [8,9] (.pull 8 [9] (.pull 9 [] .done)))))))))) (by kernel_rfl) (by kernel_rfl) ?_)|(refine dW (id:=6) tO mixed (.pull 0 [9,10,11] (.pull 1 [2,3,4,8,9,10,11] (.pull 2 [3,4,8,9,10,11] (.pull 3 [4,8,9,10,11] (.pull 5 [6,7,8,9,10,11] (.pull 6 [7,8,9,10,11] (.br 4 7 (.one 7 (.one 8 (.pull 9 [10,11] (.pull 10 [11] (.one 11 .done))))) (.pull 4 [8,9,10,11] (.one 8 (.pull 9 [10,11] (.pull 10 [11] (.one 11 .done)))))))))))) (by kernel_rfl) (by kernel_rfl) ?_)|(refine Ar.fit (by omega) ?_)|(refine VC.mk (by (first|omega|(and_intros<;>first|omega|rfl|(simp only [maxLen];omega)|(simp only [List.length_append,List.length_take,List.length_replicate,List.length_cons,List.length_nil];omega)))) ?_)|(refine Br.mk ?_ ?_<;>intro hb<;>(try (contradiction)))|(refine New.mk ?_;intro b hb)|(refine New2.mk ?_;intro b c hb hbc)|(refine SR.same ?_)|(refine Two.mk ?_ ?_)|(apply CK.pure;(case hh=>(intro h1 hs;exact hib h1)))|(refine CK.qnum ⟨a+1,false,none,[]⟩ ⟨rfl,rfl,trivial⟩ 2 16 (.inl rfl) (by decide) ⟨by dsimp only;omega,by dsimp only;omega⟩ hz rfl e2 ?_)|(refine CK.qnum ⟨a+1,false,none,[]⟩ ⟨rfl,rfl,trivial⟩ 8 16 (.inl rfl) (by decide) ⟨by dsimp only;omega,by dsimp only;omega⟩ hz rfl e8 ?_)|(refine CK.qnum ⟨a+1,false,none,[]⟩ ⟨rfl,rfl,trivial⟩ 4 16 (.inl rfl) (by decide) ⟨by dsimp only;omega,by dsimp only;omega⟩ hz rfl e4 ?_)|(refine CK.qnum ⟨a,false,none,[]⟩ ⟨rfl,rfl,trivial⟩ 3 8 (.inr rfl) (by decide) ⟨by dsimp only;omega,by dsimp only;omega⟩ hz rfl e3 ?_)|(refine CK.qturn _ (qC_has _ _ _ _) _ _ 4 (fun h hs=>qcode_any bq s mk _ _ _ h hs hx ⟨by omega,by omega⟩ (fun e=>by first|omega|exact Bool.noConfusion e) ho) ?_;intro x' g1 g2 g3 g4)|(refine CK.ren [20] (qC bq s mk ⟨a3,decide (255<v3),none,[]⟩) ⟨⟨_,rfl,SC.box (by first|rfl|simp [denC,outK])⟩,rfl,trivial⟩ ?_)|fail)));all_goals (try (conv=>whnf)))
   all_goals (repeat (first|rw [if_pos (by assumption)] at hR|rw [if_neg (by assumption)] at hR));subst hR;first
    |(refine⟨fun h' hs=>QPost.none hs rfl rfl ?_⟩;first|rfl|(simp [denC];done))
    |(refine⟨fun h' hs=>QPost.own hs 47 rfl rfl rfl ?_ ?_ ?_⟩<;>first|rfl|(simp;done)|(simp;omega)|(simp [denC];done))
    |(refine⟨fun h' hs=>QPost.own hs 77 rfl rfl rfl ?_ ?_ ?_⟩<;>first|rfl|(simp;done)|(simp;omega)|(simp [denC];done))
    |(refine⟨fun h' hs=>⟨x',rfl,g1,?_,g3,g4,hs⟩⟩;rw [g2];first|rfl|(simp;done))
  ·refine eIn (rep:=rep) (m:=1) (ex:=[0,2,3,4,5,15,31,50,51,57,59,61]) (cu:=[]) (args:=[.own 20 bq 0]) tO Tryz.func160 rfl (by decide) (rs:=[]) rfl rfl rfl hs ?_
   ((repeat' ((conv=>whnf);(first|(refine dW (id:=0) tO mixed (.pull 0 [1,2,3,9] (.pull 1 [2,3,9] (.pull 2 [3,9] (.pull 4 [5,6,7,8,9] (.pull 5 [6,7,8,9] (.pull 6 [7,8,9] (.pull 7 [8,9] (.pull 8 [9] (.pull 3 [9] (.pull 9 [] .done)))))))))) (by kernel_rfl) (by kernel_rfl) ?_)|(refine dW (id:=2) tO mixed (.pull 0 [1,2,3,8,9] (.pull 1 [2,3,8,9] (.pull 2 [3,8,9] (.pull 4 [5,6,7,8,9] (.pull 5 [6,7,8,9] (.pull 6 [7,8,9] (.pull 3 [8,9] (.pull 7 [8,9] (.pull 8 [9] (.pull 9 [] .done)))))))))) (by kernel_rfl) (by kernel_rfl) ?_)|(refine dW (id:=6) tO mixed (.pull 0 [9,10,11] (.pull 1 [2,3,4,8,9,10,11] (.pull 2 [3,4,8,9,10,11] (.pull 3 [4,8,9,10,11] (.pull 5 [6,7,8,9,10,11] (.pull 6 [7,8,9,10,11] (.br 4 7 (.one 7 (.one 8 (.pull 9 [10,11] (.pull 10 [11] (.one 11 .done))))) (.pull 4 [8,9,10,11] (.one 8 (.pull 9 [10,11] (.pull 10 [11] (.one 11 .done)))))))))))) (by kernel_rfl) (by kernel_rfl) ?_)|(refine Ar.fit (by omega) ?_)|(refine VC.mk (by (first|omega|(and_intros<;>first|omega|rfl|(simp only [maxLen];omega)|(simp only [List.length_append,List.length_take,List.length_replicate,List.length_cons,List.length_nil];omega)))) ?_)|(refine Br.mk ?_ ?_<;>intro hb<;>(try (contradiction)))|(refine New.mk ?_;intro b hb)|(refine New2.mk ?_;intro b c hb hbc)|(refine SR.same ?_)|(refine Two.mk ?_ ?_)|(apply CK.pure;(case hh=>(intro h1 hs;exact hib h1)))|(refine CK.qnum ⟨a+1,false,none,[]⟩ ⟨rfl,rfl,trivial⟩ 2 16 (.inl rfl) (by decide) ⟨by dsimp only;omega,by dsimp only;omega⟩ hz rfl e2 ?_)|(refine CK.qnum ⟨a+1,false,none,[]⟩ ⟨rfl,rfl,trivial⟩ 8 16 (.inl rfl) (by decide) ⟨by dsimp only;omega,by dsimp only;omega⟩ hz rfl e8 ?_)|(refine CK.qnum ⟨a+1,false,none,[]⟩ ⟨rfl,rfl,trivial⟩ 4 16 (.inl rfl) (by decide) ⟨by dsimp only;omega,by dsimp only;omega⟩ hz rfl e4 ?_)|(refine CK.qnum ⟨a,false,none,[]⟩ ⟨rfl,rfl,trivial⟩ 3 8 (.inr rfl) (by decide) ⟨by dsimp only;omega,by dsimp only;omega⟩ hz rfl e3 ?_)|(refine CK.qturn _ (qC_has _ _ _ _) _ _ 4 (fun h hs=>qcode_any bq s mk _ _ _ h hs hx ⟨by omega,by omega⟩ (fun e=>by first|omega|exact Bool.noConfusion e) ho) ?_;intro x' g1 g2 g3 g4)|fail)));all_goals (try (conv=>whnf)))
   all_goals (repeat (first|rw [if_pos (by assumption)] at hR|rw [if_neg (by assumption)] at hR));subst hR;first
    |(refine⟨fun h' hs=>QPost.none hs rfl rfl ?_⟩;first|rfl|(simp [denC];done))
    |(refine⟨fun h' hs=>QPost.own hs 47 rfl rfl rfl ?_ ?_ ?_⟩<;>first|rfl|(simp;done)|(simp;omega)|(simp [denC];done))
    |(refine⟨fun h' hs=>QPost.own hs 77 rfl rfl rfl ?_ ?_ ?_⟩<;>first|rfl|(simp;done)|(simp;omega)|(simp [denC];done))
    |(refine⟨fun h' hs=>⟨x',rfl,g1,?_,g3,g4,hs⟩⟩;rw [g2];first|rfl|(simp;done))
 ·have hcap:out.length≤c:=by
   obtain⟨_,_,_,h1,_⟩:=(hs.chunk (21,b,.arr 5 (intR .u8) out c) (by simp [qC,outC])).2.2
   exact h1
  have hs:HS ⟨h,blks (qC bq s mk ⟨a,false,some (b,c),out⟩),[(20,bq,.box 161 [.val (.string s),.val (.int .i64 a),.val (.int .u8 mk),.osl 21 b out.length c,.val (.bool false)]),(21,b,.arr 5 (intR .u8) out c)]⟩ h:=hs
  rcases f3 with _|_
  ·refine eIn (rep:=rep) (m:=1) (ex:=[0,2,3,4,5,15,31,50,51,57,59,61]) (cu:=[]) (args:=[.own 20 bq 0]) tO Tryz.func160 rfl (by decide) (rs:=[]) rfl rfl rfl hs ?_
   ((repeat' ((conv=>whnf);(first|(refine dW (id:=0) tO mixed (.pull 0 [1,2,3,9] (.pull 1 [2,3,9] (.pull 2 [3,9] (.pull 4 [5,6,7,8,9] (.pull 5 [6,7,8,9] (.pull 6 [7,8,9] (.pull 7 [8,9] (.pull 8 [9] (.pull 3 [9] (.pull 9 [] .done)))))))))) (by kernel_rfl) (by kernel_rfl) ?_)|(refine dW (id:=2) tO mixed (.pull 0 [1,2,3,8,9] (.pull 1 [2,3,8,9] (.pull 2 [3,8,9] (.pull 4 [5,6,7,8,9] (.pull 5 [6,7,8,9] (.pull 6 [7,8,9] (.pull 3 [8,9] (.pull 7 [8,9] (.pull 8 [9] (.pull 9 [] .done)))))))))) (by kernel_rfl) (by kernel_rfl) ?_)|(refine dW (id:=6) tO mixed (.pull 0 [9,10,11] (.pull 1 [2,3,4,8,9,10,11] (.pull 2 [3,4,8,9,10,11] (.pull 3 [4,8,9,10,11] (.pull 5 [6,7,8,9,10,11] (.pull 6 [7,8,9,10,11] (.br 4 7 (.one 7 (.one 8 (.pull 9 [10,11] (.pull 10 [11] (.one 11 .done))))) (.pull 4 [8,9,10,11] (.one 8 (.pull 9 [10,11] (.pull 10 [11] (.one 11 .done)))))))))))) (by kernel_rfl) (by kernel_rfl) ?_)|(refine Ar.fit (by omega) ?_)|(refine VC.mk (by (first|omega|(and_intros<;>first|omega|rfl|(simp only [maxLen];omega)|(simp only [List.length_append,List.length_take,List.length_replicate,List.length_cons,List.length_nil];omega)))) ?_)|(refine Br.mk ?_ ?_<;>intro hb)|(refine New.mk ?_;intro b hb)|(refine NewO.mk ?_;intro b c hb hbc)|(refine SR.same ?_)|(refine Two.mk ?_ ?_)|(apply CK.pure;(case hh=>(intro h1 hs;exact hib h1)))|(refine CK.qnum ⟨a+1,false,some (b,c),out⟩ ⟨rfl,rfl,rfl,rfl,trivial⟩ 2 16 (.inl rfl) (by decide) ⟨by dsimp only;omega,by dsimp only;omega⟩ hz rfl e2 ?_)|(refine CK.qnum ⟨a+1,false,some (b,c),out⟩ ⟨rfl,rfl,rfl,rfl,trivial⟩ 8 16 (.inl rfl) (by decide) ⟨by dsimp only;omega,by dsimp only;omega⟩ hz rfl e8 ?_)|(refine CK.qnum ⟨a+1,false,some (b,c),out⟩ ⟨rfl,rfl,rfl,rfl,trivial⟩ 4 16 (.inl rfl) (by decide) ⟨by dsimp only;omega,by dsimp only;omega⟩ hz rfl e4 ?_)|(refine CK.qnum ⟨a,false,some (b,c),out⟩ ⟨rfl,rfl,rfl,rfl,trivial⟩ 3 8 (.inr rfl) (by decide) ⟨by dsimp only;omega,by dsimp only;omega⟩ hz rfl e3 ?_)|(refine CK.qturn _ (qC_has _ _ _ _) _ _ 4 (fun h hs=>qcode_any bq s mk _ _ _ h hs hx ⟨by omega,by omega⟩ (fun e=>by first|omega|exact Bool.noConfusion e) ho) ?_;intro x' g1 g2 g3 g4)|(refine CK.ren [20,21] (qC bq s mk ⟨a3,decide (255<v3),some (b,c),out⟩) ⟨⟨_,rfl,SC.box (by first|rfl|simp [denC,outK])⟩,rfl,⟨_,rfl,SC.rfl⟩,rfl,trivial⟩ ?_)|fail)));all_goals (try (conv=>whnf)))
   all_goals (repeat (first|rw [if_pos (by assumption)] at hR|rw [if_neg (by assumption)] at hR));subst hR;first
    |(refine⟨fun h' hs=>QPost.own hs 21 rfl rfl rfl (by first|rfl|simp) ?_ (by simp)⟩;first|rfl|(simp [denC];done))
    |(refine⟨fun h' hs=>QPost.own hs 47 rfl rfl rfl ?_ ?_ ?_⟩<;>first|rfl|(simp;done)|(simp;omega)|(simp [denC];done))
    |(refine⟨fun h' hs=>QPost.own hs 77 rfl rfl rfl ?_ ?_ ?_⟩<;>first|rfl|(simp;done)|(simp;omega)|(simp [denC];done))
    |(refine⟨fun h' hs=>⟨x',rfl,g1,?_,g3,g4,hs⟩⟩;rw [g2];first|rfl|(simp;done))
  ·refine eIn (rep:=rep) (m:=1) (ex:=[0,2,3,4,5,15,31,50,51,57,59,61]) (cu:=[]) (args:=[.own 20 bq 0]) tO Tryz.func160 rfl (by decide) (rs:=[]) rfl rfl rfl hs ?_
   ((repeat' ((conv=>whnf);(first|(refine dW (id:=0) tO mixed (.pull 0 [1,2,3,9] (.pull 1 [2,3,9] (.pull 2 [3,9] (.pull 4 [5,6,7,8,9] (.pull 5 [6,7,8,9] (.pull 6 [7,8,9] (.pull 7 [8,9] (.pull 8 [9] (.pull 3 [9] (.pull 9 [] .done)))))))))) (by kernel_rfl) (by kernel_rfl) ?_)|(refine dW (id:=2) tO mixed (.pull 0 [1,2,3,8,9] (.pull 1 [2,3,8,9] (.pull 2 [3,8,9] (.pull 4 [5,6,7,8,9] (.pull 5 [6,7,8,9] (.pull 6 [7,8,9] (.pull 3 [8,9] (.pull 7 [8,9] (.pull 8 [9] (.pull 9 [] .done)))))))))) (by kernel_rfl) (by kernel_rfl) ?_)|(refine dW (id:=6) tO mixed (.pull 0 [9,10,11] (.pull 1 [2,3,4,8,9,10,11] (.pull 2 [3,4,8,9,10,11] (.pull 3 [4,8,9,10,11] (.pull 5 [6,7,8,9,10,11] (.pull 6 [7,8,9,10,11] (.br 4 7 (.one 7 (.one 8 (.pull 9 [10,11] (.pull 10 [11] (.one 11 .done))))) (.pull 4 [8,9,10,11] (.one 8 (.pull 9 [10,11] (.pull 10 [11] (.one 11 .done)))))))))))) (by kernel_rfl) (by kernel_rfl) ?_)|(refine Ar.fit (by omega) ?_)|(refine VC.mk (by (first|omega|(and_intros<;>first|omega|rfl|(simp only [maxLen];omega)|(simp only [List.length_append,List.length_take,List.length_replicate,List.length_cons,List.length_nil];omega)))) ?_)|(refine Br.mk ?_ ?_<;>intro hb)|(refine New.mk ?_;intro b hb)|(refine NewO.mk ?_;intro b c hb hbc)|(refine SR.same ?_)|(refine Two.mk ?_ ?_)|(apply CK.pure;(case hh=>(intro h1 hs;exact hib h1)))|(refine CK.qnum ⟨a+1,false,some (b,c),out⟩ ⟨rfl,rfl,rfl,rfl,trivial⟩ 2 16 (.inl rfl) (by decide) ⟨by dsimp only;omega,by dsimp only;omega⟩ hz rfl e2 ?_)|(refine CK.qnum ⟨a+1,false,some (b,c),out⟩ ⟨rfl,rfl,rfl,rfl,trivial⟩ 8 16 (.inl rfl) (by decide) ⟨by dsimp only;omega,by dsimp only;omega⟩ hz rfl e8 ?_)|(refine CK.qnum ⟨a+1,false,some (b,c),out⟩ ⟨rfl,rfl,rfl,rfl,trivial⟩ 4 16 (.inl rfl) (by decide) ⟨by dsimp only;omega,by dsimp only;omega⟩ hz rfl e4 ?_)|(refine CK.qnum ⟨a,false,some (b,c),out⟩ ⟨rfl,rfl,rfl,rfl,trivial⟩ 3 8 (.inr rfl) (by decide) ⟨by dsimp only;omega,by dsimp only;omega⟩ hz rfl e3 ?_)|(refine CK.qturn _ (qC_has _ _ _ _) _ _ 4 (fun h hs=>qcode_any bq s mk _ _ _ h hs hx ⟨by omega,by omega⟩ (fun e=>by first|omega|exact Bool.noConfusion e) ho) ?_;intro x' g1 g2 g3 g4)|fail)));all_goals (try (conv=>whnf)))
   all_goals (repeat (first|rw [if_pos (by assumption)] at hR|rw [if_neg (by assumption)] at hR));subst hR;first
    |(refine⟨fun h' hs=>QPost.own hs 21 rfl rfl rfl (by first|rfl|simp) ?_ (by simp)⟩;first|rfl|(simp [denC];done))
    |(refine⟨fun h' hs=>QPost.own hs 47 rfl rfl rfl ?_ ?_ ?_⟩<;>first|rfl|(simp;done)|(simp;omega)|(simp [denC];done))
    |(refine⟨fun h' hs=>QPost.own hs 77 rfl rfl rfl ?_ ?_ ?_⟩<;>first|rfl|(simp;done)|(simp;omega)|(simp [denC];done))
    |(refine⟨fun h' hs=>⟨x',rfl,g1,?_,g3,g4,hs⟩⟩;rw [g2];first|rfl|(simp;done))
end Go.Ex
