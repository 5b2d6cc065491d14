/-
  Top: TopComments: whatever the input, the law answers true (part 36)
-/
import Derived.Test.YtpjdgifhhnjclaaGreatDoorCards
import Derived.Test.YtpjdgifhhnjclaaGreatDoorTie
import Derived.HandedShaped
import Derived.Handed
import Derived.ProofKit
import Derived.ChangeMaps5
import Derived.PinnedBridge
import Derived.Lib.LaidU8
import Derived.Shelf.Vars
import Derived.Lay
import Derived.LaidOnce
import Derived.SevenTiedAt
import Derived.Lib.RuneCountTail
import Derived.Test.YtpjdgifhhnjclaaGreatDoorM35
set_option linter.unusedVariables false
set_option linter.unusedSimpArgs false
set_option maxHeartbeats 4000000
set_option maxRecDepth 10000
namespace Go.Proofs.YtpjdgifhhnjclaaGreatDoor
open Go.ChangeShapes Go.WideShapes Go.ChangeAt Go.RowKit Go.Ex Go.ChangeMaps Go.Lib
theorem Tryz.own:ownKnob Tryz.prog.godebug=none:=by kernel_rfl
theorem Dv{w w':World}(h:w'.os=w.os∧w'.tape=w.tape∧w'.output=w.output)(g:A5 w.heap w'.heap):Below w.heap.size w w':=⟨h.1,h.2.1,h.2.2,g.size,g.same⟩
theorem Is{H:Type}{ts:List TypeId}{ds:List (DataW H)}(h:(DataW.weightsEach Tryz.prog ts ds).all (·≤reachBytes)=true){j:Nat}{t:TypeId}{d:DataW H}(ht:ts[j]?=some t)(hd:ds[j]?=some d){n:Nat}(hn:n∈d.weights Tryz.prog t):n≤140737488355328:=by
 have:=List.all_eq_true.1 h _ (DataW.weights_mem_each ht hd n hn)
 have h2:=reachBytes_lt
 simp only [decide_eq_true_eq] at this
 omega
theorem Uj{H:Type}{ts:List TypeId}{ds:List (DataW H)}(h:(DataW.weightsEach Tryz.prog ts ds).all (·≤reachBytes)=true){j:Nat}{s:ByteArray}(ht:ts[j]?=some 9)(hd:ds[j]?=some (.lit (.string s.data.toList))):s.size≤140737488355328:=by
 refine Is h ht hd ?_
 have e:s.data.toList.length=s.size:=by rw [Array.length_toList];rfl
 simp only [DataW.weights,List.mem_singleton]
 exact e.symm
abbrev sQ : List (String × DataW Unit) := [("unicode/utf8.acceptRanges", Rows.laid_unicode_utf8_acceptRanges), ("unicode/utf8.first", Rows.laid_unicode_utf8_first)]
theorem BA:(Rows.laid_unicode_utf8_acceptRanges:DataW Unit)=acceptData:=by kernel_rfl
theorem Gu:Rows.laid_unicode_utf8_first=firstData:=Pinned.utf8First_eq
set_option maxRecDepth 100000 in
theorem Gw{W:World}(hsh:W.ShapedOpen Tryz.prog)(hL:laidMet Tryz.prog sQ W):D2 W.heap:=by
 obtain⟨m,hm⟩:=cell_of_shapedOpen_int (P:=Tryz.prog) (g:=0) (t:=3) (zero:=#[.int .i64 0]) hsh (of_decide_eq_true (by kernel_rfl)) (by kernel_rfl) rfl (by kernel_rfl) (by kernel_rfl) Tryz.underlying3
 have hT:Lib.Utf8Tabs 1 2 W:=utf8Tabs_of_reads (ρ:=Tryz.lays260_ren) { Tryz.lays260 with } ⟨by kernel_rfl,by kernel_rfl,by kernel_rfl,by kernel_rfl,by kernel_rfl,by kernel_rfl,by kernel_rfl⟩
  (Gu▸Lib.laidMet.reads hL (.tail _ (.head _))) (BA▸Lib.laidMet.reads hL (.head _))
 exact⟨⟨m,by rw [←S0];exact hm⟩,fun c hc=>by rw [←S0];exact hT.1 c hc,fun i hi=>by rw [←S0,←S0];exact hT.2 i hi⟩
set_option maxRecDepth 100000 in
theorem yT{H:Type}{enc:TypeId×Value→H}{os:Os}{f:FuncId}{fn:Func}{s:ChangeSpec}{conds:List PathCond}{apart fresh handsOn again:Bool}
 (started:os.Started) (noInit:Tryz.prog.inits.idxOf? f=none) (hfn:Tryz.prog.funcs[f]?=some fn)
 (witness:∃ (w:World) (tape:Tape) (i:Input),w.os=os∧(w.forCall tape i).Shaped Tryz.prog∧i.vars=[]∧Input.okWide Tryz.prog (w.forCall tape i) .any w.heap.size f i ∧
  ((s.pre enc Tryz.prog fn conds apart (w.forCall tape i).memory i.args∧laidMetH Tryz.prog sQ (w.forCall tape i).memory)∧sizedMet enc Tryz.prog fn (OpenSpec.ofChange s) apart (w.forCall tape i).memory i.args)∧({}:Assume).holds Tryz.prog (lone (Frame.enter Tryz.prog f i.args .normal) [] (w.forCall tape i)))
 (contract:∀ (W:World) (base:Nat) (args:Array Value) (ds gs:List (DataW H)) (before:List MemPlace),
  (∀ (j:Nat) t v,fn.params[j]?=some t→args[j]?=some v→Value.okWide Tryz.prog W .any base t v) →
  DataW.Whole enc Tryz.prog fn.params.toList s.vars apart W args.toList ds gs before →
  (DataW.weightsEach Tryz.prog (fn.params.toList++s.plain.varTypes Tryz.prog) (ds++gs)).all (·≤reachBytes)=true→D2 W.heap →
  Calls Tryz.prog f args W fun e W'=>∃ v,e = .returned v∧s.post enc Tryz.prog fn apart fresh handsOn again W args v W') :
 ReturnsInHanded {} Tryz.checked os f .any (fun w args=>(s.pre enc Tryz.prog fn conds apart w args∧laidMetH Tryz.prog sQ w)∧sizedMet enc Tryz.prog fn (OpenSpec.ofChange s) apart w args) (s.post enc Tryz.prog fn apart fresh handsOn again):=by
 refine returnsInHanded_of_calls (C:=Tryz.checked) Tryz.own started noInit witness ?_
 intro w tape i _ hsh _ hok hpre hholds
 obtain⟨_,_,_,fn',hfn',_,_,_,_,hval⟩:=hok
 have e:fn'=fn:=Option.some.inj (hfn'.symm.trans hfn)
 subst e
 obtain⟨⟨⟨ds,gs,before,hw,hc⟩,hx⟩,hz⟩:=hpre
 have hw':=DataW.Whole.of_heap (w':=w.forCall tape i) (by rfl) hw
 have hL0:laidMetH Tryz.prog sQ (w.forCall tape i):=hx.of_heap (by rfl)
 rw [MakeChecks.laidMetH_plain _ _ _ (by kernel_rfl)] at hL0
 refine (contract (w.forCall tape i) w.heap.size i.args ds gs before hval hw' (hz.weights hw) (Gw hsh hL0)).mono fun e W' ⟨v,he,hp⟩=>?_
 subst he
 exact ChangeSpec.post_blind hp
end Go.Proofs.YtpjdgifhhnjclaaGreatDoor
namespace Go.Ex
open Go.Proofs
theorem N7(s:ByteArray)(a:Int)(ha:0≤a∧a<s.size)(h:A4 s a<128):C9 s a=(A4 s a,1):=by
 have e:Utf8.decode s a.toNat=((A4 s a).toNat,1):=by
  have h1:=fB s a.toNat
  rw [Int.toNat_of_nonneg ha.1] at h1
  rw [Lib.decode_at]
  generalize (s.get! a.toNat).toNat=b at h1 ⊢
  unfold Lib.decodeN
  rw [if_pos (by omega)]
  rw [show (A4 s a).toNat=b by omega]
 have h0:=L0 s a
 unfold C9
 rw [if_neg (by omega),e]
 dsimp only
 rw [if_neg (by omega),Int.toNat_of_nonneg h0.1]
 rfl
theorem Ht:¬ E7 59=true:=by decide
theorem C8(s:ByteArray)(a b i:Int)(h0:0≤a)(h1:a≤b)(h2:b≤s.size)(h3:0≤i)(h4:i<b-a):A4 (sub s a b) i=A4 s (a+i):=by
 unfold A4
 have e:(sub s a b).data.toList=(s.data.toList.drop a.toNat).take (b.toNat-a.toNat):=by
  show (s.extract a.toNat b.toNat).data.toList = _
  rw [ByteArray.data_extract,Array.toList_extract]
 rw [e]
 simp only [List.getD_eq_getElem?_getD]
 rw [List.getElem?_take_of_lt (by omega),List.getElem?_drop]
 rw [show (a+i).toNat=a.toNat+i.toNat by omega]
theorem Po(s:ByteArray)(a:Int)(ha:0≤a∧a<s.size)(h:A4 s a=59):H0 s a=(9,a+1):=by
 have e:C9 s a=(59,1):=by rw [N7 s a ha (by omega),h]
 have hp:∀ p:ByteArray,A4 p 0≠59→1≤p.size→¬ O2 (sub s a s.size) p:=by
  intro p h1 h2 h3
  apply h1
  obtain⟨h4,h5⟩:=h3
  have h6:=K1 s a s.size ha.1 (by omega) (Int.le_refl _)
  have e3:=C8 (sub s a s.size) 0 p.size 0 (Int.le_refl _) (by omega) h4 (Int.le_refl _) (by omega)
  rw [h5] at e3
  rw [e3]
  have e2:=C8 s a s.size 0 ha.1 (by omega) (Int.le_refl _) (Int.le_refl _) (by omega)
  rw [show (0:Int)+0=0 by omega,e2]
  rw [show a+0=a by omega]
  exact h
 unfold H0
 rw [e]
 dsimp only
 rw [if_neg (by omega),if_neg (by unfold O3;omega),if_neg (hp _ (by decide) (by decide)),if_neg (hp _ (by decide) (by decide)),if_neg Ht,if_pos rfl]
def oO(s:ByteArray):List M7→Int→Int→Prop
 |[],a,b=>a=b
 |t::r,a,b=>(0≤a∧a<s.size)∧¬ (H0 s a).1=0∧t=⟨(H0 s a).1,a,(H0 s a).2⟩∧oO s r t.to b
theorem oO.snoc{s:ByteArray}{t:M7}{c:Int}:∀ {l:List M7} {a b:Int},oO s l a b→oO s [t] b c→oO s (l++[t]) a c
 |[],a,b,h,h1=>by rw [show a=b from h];exact h1
 |x::r,a,b,h,h1=>⟨h.1,h.2.1,h.2.2.1,oO.snoc h.2.2.2 h1⟩
theorem uD(s:ByteArray):∀ (f:Nat) (acc:List M7) (a:Int),0≤a→a≤s.size→oO s acc 0 a→(dB s f acc a).2.1=0→oO s (dB s f acc a).1 0 s.size
 |0,acc,a,h0,h1,h2,h3=>by simp [dB] at h3
 |f+1,acc,a,h0,h1,h2,h3=>by
  rw [dB] at h3 ⊢
  split
  ·rw [show a=s.size by omega] at h2
   exact h2
  ·rename_i h4
   rw [if_neg h4] at h3
   split
   ·rename_i h5;rw [if_pos h5] at h3;cases h3
   ·rename_i h5
    rw [if_neg h5] at h3
    have hr:=mA s a (by omega) h5
    exact uD s f _ _ (by omega) (by omega) (h2.snoc ⟨by omega,h5,rfl,rfl⟩) h3
theorem oN(s:ByteArray)(h:(V5 s).2.1=0):oO s (V5 s).1 0 s.size:=by
 unfold V5 at h ⊢
 split
 ·rename_i c;rw [if_pos c] at h;cases h
 ·rename_i c
  rw [if_neg c] at h
  split
  ·rename_i c2;rw [if_pos c2] at h;cases h
  ·rename_i c2
   rw [if_neg c2] at h
   exact uD s _ [] 0 (Int.le_refl _) (by omega) rfl h
inductive Rl:Int→List M7→List M7→Prop
 |nil (e:Int):Rl e [] []
 |sil (e:Int) (t:M7) (T al:List M7) (hs:gT t.kind) (h:Rl e T al):Rl e T (t::al)
 |semi (e:Int) (T al:List M7) (h0:0≤e) (h:Rl e T al):Rl e (⟨9,e,e⟩::T) al
 |tok (e:Int) (t:M7) (T al:List M7) (hs:¬ gT t.kind) (h:Rl t.to T al):Rl e (t::T) (t::al)
theorem fD{acc:List M7}{e:Int}(h:0≤e):T4 (acc,e)=(acc++[⟨9,e,e⟩],-1):=by
 show (if 0≤e then acc++[⟨9,e,e⟩] else acc,-1) = _
 rw [if_pos h]
theorem fE{acc:List M7}{e:Int}(h:¬ 0≤e):T4 (acc,e)=(acc,-1):=by
 show (if 0≤e then acc++[⟨9,e,e⟩] else acc,-1) = _
 rw [if_neg h]
theorem lQ(s:ByteArray):∀ (al acc:List M7) (e p:Int),(∀ t∈al,0≤t.to)→(e = -1∨e=p∧0≤p)→∃ R,(T4 (al.foldl (D4 s) (acc,e))).1=acc++R∧Rl p R al
 |[],acc,e,p,hal,h=>by
  show ∃ R,(T4 (acc,e)).1=acc++R∧Rl p R []
  rcases h with rfl|⟨rfl,h⟩
  ·rw [fE (by omega)]
   exact⟨[],by simp,.nil _⟩
  ·rw [fD h]
   exact⟨[⟨9,e,e⟩],rfl,.semi _ _ _ h (.nil _)⟩
 |t::al,acc,e,p,hal,h=>by
  rw [List.foldl_cons]
  by_cases hs:gT t.kind
  ·by_cases hn:0≤H7 (sub s t.frm t.to) 10
   ·have e1:D4 s (acc,e) t=T4 (acc,e):=by unfold D4;rw [if_pos hs,if_pos hn]
    rw [e1]
    by_cases c:0≤e
    ·rw [fD c]
     have hp:e=p∧0≤p:=by omega
     obtain⟨R,h1,h2⟩:=lQ s al (acc++[⟨9,e,e⟩]) (-1) p (fun t h=>hal t (List.mem_cons_of_mem _ h)) (.inl rfl)
     refine⟨⟨9,e,e⟩::R,?_,?_⟩
     ·rw [h1]
      simp
     ·rw [hp.1]
      exact .semi _ _ _ hp.2 (.sil _ _ _ _ hs h2)
    ·rw [fE c]
     obtain⟨R,h1,h2⟩:=lQ s al acc (-1) p (fun t h=>hal t (List.mem_cons_of_mem _ h)) (.inl rfl)
     exact⟨R,h1,.sil _ _ _ _ hs h2⟩
   ·have e1:D4 s (acc,e) t=(acc,e):=by unfold D4;rw [if_pos hs,if_neg hn]
    rw [e1]
    obtain⟨R,h1,h2⟩:=lQ s al acc e p (fun t h=>hal t (List.mem_cons_of_mem _ h)) h
    exact⟨R,h1,.sil _ _ _ _ hs h2⟩
  ·have e1:D4 s (acc,e) t=(acc++[t],if aU t.kind (sub s t.frm t.to) then t.to else -1):=by unfold D4;rw [if_neg hs]
   rw [e1]
   have ht:=hal t List.mem_cons_self
   obtain⟨R,h1,h2⟩:=lQ s al (acc++[t]) (if aU t.kind (sub s t.frm t.to) then t.to else -1) t.to (fun t h=>hal t (List.mem_cons_of_mem _ h)) (by split<;>omega)
   exact⟨t::R,by rw [h1];simp,.tok _ _ _ _ hs h2⟩
theorem qG(s:ByteArray)(h:(P2 s).2.1=0)(h2:(P2 s).2.2=0):(V5 s).2.1=0∧(V5 s).2.2=0∧Rl (-1) (P2 s).1 (V5 s).1:=by
 unfold P2 at h h2 ⊢
 split
 ·rename_i c
  have ha:=mY s
  obtain⟨R,h3,h4⟩:=lQ s (V5 s).1 [] (-1) (-1) (fun t ht=>by have:=ha.1 t ht;omega) (.inl rfl)
  refine⟨c.1,c.2,?_⟩
  show Rl (-1) (uP s (V5 s).1) _
  unfold uP
  rw [h3]
  exact h4
 ·rename_i c
  rw [if_neg c] at h h2
  exact absurd ⟨h,h2⟩ c
theorem Rl.mem{e:Int}{T al:List M7}(h:Rl e T al):∀ t∈T,t∈al∧¬ gT t.kind∨∃ e,t=⟨9,e,e⟩:=by
 induction h with
 |nil e=>intro t h;cases h
 |sil e t T al hs h ih=>
  intro x hx
  rcases ih x hx with h|h
  ·exact .inl ⟨List.mem_cons_of_mem _ h.1,h.2⟩
  ·exact .inr h
 |semi e T al h0 h ih=>
  intro x hx
  rcases List.mem_cons.1 hx with rfl|hx
  ·exact .inr ⟨e,rfl⟩
  ·exact ih x hx
 |tok e t T al hs h ih=>
  intro x hx
  rcases List.mem_cons.1 hx with rfl|hx
  ·exact .inl ⟨List.mem_cons_self,hs⟩
  ·rcases ih x hx with h|h
   ·exact .inl ⟨List.mem_cons_of_mem _ h.1,h.2⟩
   ·exact .inr h
theorem oO.mem{s:ByteArray}:∀ {l:List M7} {a b:Int},oO s l a b→∀ t∈l,(0≤t.frm∧t.frm<s.size)∧¬ (H0 s t.frm).1=0∧t=⟨(H0 s t.frm).1,t.frm,(H0 s t.frm).2⟩
 |[],a,b,h,t,ht=>by cases ht
 |x::r,a,b,h,t,ht=>by
  rcases List.mem_cons.1 ht with rfl|ht
  ·obtain⟨h1,h2,h3,_⟩:=h
   have e:t.frm=a:=by rw [h3]
   rw [e]
   exact⟨h1,h2,h3⟩
  ·exact oO.mem h.2.2.2 t ht
end Go.Ex
namespace Go.Ex
open Go.Proofs
attribute [local irreducible] CH
def dY(k:Int):Int:=if k=2∨k=4∨k=11∨k=12∨k=13∨k=14∨k=20∨k=23∨k=25 then 0 else if k=10∨k=16∨k=18 then 1 else Rv k
def pE(k:Int):Bool:=decide (k=2∨k=4∨k=11∨k=12∨k=13∨k=14∨k=20∨k=23∨k=25∨k=10∨k=16∨k=18)
theorem Jv{k:Int}{n:Nat}(h:dI k n):dY k≤n∧(dY k<n→pE k=true):=by
 unfold dI at h
 unfold dY pE
 split at h
 ·rename_i c
  rw [if_pos c]
  refine⟨by omega,fun _=>?_⟩
  simp only [decide_eq_true_eq]
  omega
 ·rename_i c
  rw [if_neg c]
  split at h
  ·rename_i c2
   rw [if_pos c2]
   refine⟨by omega,fun _=>?_⟩
   simp only [decide_eq_true_eq]
   omega
  ·rename_i c2
   rw [if_neg c2,h]
   exact⟨Int.le_refl _,fun h=>absurd h (Int.lt_irrefl _)⟩
theorem Xv{a b c d:Value}(h1:a=c)(h2:b=d):Value.tuple #[a,b] = .tuple #[c,d]:=by rw [h1,h2]
theorem Lq(k:Int)(h:A3)(hk:0≤k∧k<256):CH Tryz.prog 37 #[.int .u8 k] h fun v h'=>v = .tuple #[.int .i64 (dY k),.bool (pE k)]∧A5 h h':=by
 refine Q0 1 [0,2,3,4,5,15,19,24,46,53,58] [] [.val (.int .u8 k)] Tryz.func37 rfl ?_
 obtain⟨a,ha⟩:∃ a,dY k=a:=⟨_,rfl⟩
 obtain⟨b,hb0⟩:∃ b,pE k=b:=⟨_,rfl⟩
 rw [ha,hb0]
 unfold dY Rv at ha
 unfold pE at hb0
 ((repeat' (conv=>whnf);first|(refine Br.mk ?_ ?_<;>intro hb<;>(try replace hb:=nN hb)<;>(try omega))|fail);all_goals try conv=>whnf)
 all_goals first
  | (refine⟨fun h' hs=>⟨Xv ?_ ?_,hs.grows⟩⟩
     ·rw [←ha]
      simp only [B0,A1,A0, *]
      first|rfl|(simp;done)|(simp;omega)
     ·rw [←hb0]
      simp only [B0,A1,A0, *]
      first|rfl|(simp;done)|(simp;omega))
end Go.Ex
namespace Go.Ex
open Go.Proofs
attribute [local irreducible] CH
theorem mU(s sub:ByteArray)(h:A3)(ht:D2 h)(hs:s.size<4294967281):CH Tryz.prog 34 #[.string s,.string sub] h fun v h'=>v = .bool (Lib.contains s.data.toList sub.data.toList)∧A5 h h':=
 dR (Q9 Tryz.func34 (by decide) rfl) fun w hw=>by
  obtain⟨m,hm⟩:=ht.len
  exact Tryz.strings_Contains s sub m w hs (by rw [S0,hw];exact hm)
def bO(k:Int):ByteArray:=
 if k=3∨k=4 then (⟨#[32,105,109,112,111,114,116,32,99,111,110,115,116,32,118,97,114,32,116,121,112,101,32]⟩:ByteArray) else
 if k=36 then (⟨#[32,43,32,45,32,33,32,94,32,38,32,60,45,32]⟩:ByteArray) else
 if k=37 then (⟨#[32,124,124,32,38,38,32,61,61,32,33,61,32,60,32,60,61,32,62,32,62,61,32,43,32,45,32,124,32,94,32,42,32,47,32,37,32,60,60,32,62,62,32,38,32,38,94,32]⟩:ByteArray) else
 if k=45 then (⟨#[32,99,104,97,110,32,99,104,97,110,60,45,32,60,45,99,104,97,110,32]⟩:ByteArray) else
 if k=52 then (⟨#[32,43,43,32,45,45,32]⟩:ByteArray) else
 if k=53 then (⟨#[32,61,32,58,61,32,43,61,32,45,61,32,42,61,32,47,61,32,37,61,32,38,61,32,124,61,32,94,61,32,60,60,61,32,62,62,61,32,38,94,61,32]⟩:ByteArray) else
 if k=57 then (⟨#[32,98,114,101,97,107,32,99,111,110,116,105,110,117,101,32,103,111,116,111,32,102,97,108,108,116,104,114,111,117,103,104,32]⟩:ByteArray) else ⟨#[]⟩
theorem Ml(k:Int)(h:A3)(hk:0≤k∧k<256):CH Tryz.prog 49 #[.int .u8 k] h fun v h'=>v = .string (bO k)∧A5 h h':=by
 refine Q0 1 [0,2,3,4,7,9,11,13,15,17] [] [.val (.int .u8 k)] Tryz.func49 rfl ?_
 obtain⟨a,ha⟩:∃ a,bO k=a:=⟨_,rfl⟩
 rw [ha]
 unfold bO at ha
 ((repeat' (conv=>whnf);first|(refine Br.mk ?_ ?_<;>intro hb<;>(try replace hb:=nN hb)<;>(try omega))|fail);all_goals try conv=>whnf)
 all_goals first
  | (refine⟨fun h' hs=>⟨?_,hs.grows⟩⟩
     rw [←ha]
     (repeat (first|rw [if_pos (by omega)]|rw [if_neg (by omega)]))
     rfl)
def N5(s:ByteArray)(t:M7):ByteArray:=if t.kind=9 then (⟨#[59]⟩:ByteArray) else sub s t.frm t.to
theorem Km(s:ByteArray)(t:M7)(h:A3)(ht:0≤t.frm∧t.frm≤t.to∧t.to≤s.size):CH Tryz.prog 19 #[.string s,.agg ⟨C4.cells t⟩] h fun v h'=>v = .string (N5 s t)∧A5 h h':=by
 refine Q0 2 [0,3,4,7] [] [.val (.string s),.agg [.val (.int .u8 t.kind),.val (.int .i64 t.frm),.val (.int .i64 t.to)]] Tryz.func19 rfl ?_
 obtain⟨a,ha⟩:∃ a,N5 s t=a:=⟨_,rfl⟩
 rw [ha]
 unfold N5 at ha
 ((repeat' (conv=>whnf);first|(refine VC.mk (by omega) ?_)|(refine Br.mk ?_ ?_<;>intro hb<;>(try replace hb:=nN hb))|(refine E5.mk ?_;intro b hb)|fail);all_goals try conv=>whnf)
 all_goals first
  | (refine⟨fun h' hs=>⟨?_,hs.grows⟩⟩
     rw [←ha]
     (first|rw [if_pos (by omega)]|rw [if_neg (by omega)])
     rfl)
end Go.Ex
namespace Go.Ex
open Go.Proofs
attribute [local irreducible] CH C9 hY E7 R0 dC
def Wc(s:ByteArray):Nat→Nat→Prop
 |0,_=>True
 |f+1,p=>p<s.size→(E7 ((Utf8.decode s p).1:Int)=true∨¬ p=0∧R0 ((Utf8.decode s p).1:Int))∧Wc s f (p+(Utf8.decode s p).2)
structure Kf(s:ByteArray):Prop where
 ne:¬ s=⟨#[]⟩
 word:¬ dC s
 bad:hY s<0
 all:Wc s s.size 0
theorem Aq(s:ByteArray)(h:A3)(ht:D2 h)(hs0:s.size≤140737488355328)(hN:Kf s):CH Tryz.prog 46 #[.string s] h fun v h'=>v = .bool true∧A5 h h':=by
 refine Q0 1 [0,2,3,4,15,17,18,19,33] [] [.val (.string s)] Tryz.func46 rfl ?_
 obtain⟨n1,n2,n3,n4⟩:=hN
 have cw:∀ h1,CH Tryz.prog 72 #[.string s] h1 fun v h'=>v = .bool false∧A5 h1 h':=fun h1=>(oG s h1).mono (fun v h' ⟨e1,e2⟩=>⟨e1.trans (K8 n2),e2⟩)
 have cb:=fun h1 ht=>El s h1 ht hs0
 ((repeat' (conv=>whnf);first|(refine Br.mk ?_ ?_<;>intro hb<;>(try (first|omega|exact Bool.noConfusion hb|contradiction)))|(refine E5.mk ?_;intro b hb)|(refine A7 ?_ fun h1 hs=>cw h1)|(refine A7 ?_ fun h1 hs=>cb h1 (ht.at hs))|fail);all_goals try conv=>whnf)
 all_goals (try (exact absurd ‹s = _› n1))
 all_goals (try omega)
 refine N1 tO [] (fun p:Nat=>[]) (fun p=>[(17,b,.iter s p)]) (fun μ p=>s.size≤p+μ∧Wc s μ p) s.size 0 ?_
 conv=>whnf
 refine⟨by ((repeat (refine⟨rfl,?_⟩));trivial),⟨rfl,rfl,trivial⟩,⟨by omega,n4⟩,?_⟩
 rintro μ p ⟨a0,a1⟩
 have hw:=width_pos s p
 dsimp only
 by_cases hp:p<s.size
 ·obtain⟨f,rfl⟩:∃ f,μ=f+1:=⟨μ-1,by omega⟩
  obtain⟨a2,a3⟩:=a1 hp
  obtain⟨lb,hl⟩:∃ lb,E7 ((Utf8.decode s p).1:Int)=lb:=⟨_,rfl⟩
  rw [hl] at a2
  rcases lb with _|_
  ·have a4:¬ p=0∧R0 ((Utf8.decode s p).1:Int):=by rcases a2 with a2|a2;cases a2;exact a2
   ((repeat' (conv=>whnf);first|(refine VC.mk (by omega) ?_)|(refine Br.mk ?_ ?_<;>intro hb<;>(try (first|omega|exact absurd rfl hb|contradiction)))|(refine A7 ?_ fun h1 hs=>aY hl h1)|(refine A7 ?_ fun h1 hs=>(oD _ h1).mono (fun v h' ⟨e1,e2⟩=>⟨e1.trans (D0 a4.2),e2⟩))|fail);all_goals try conv=>whnf)
   all_goals first
    |omega
    |exact⟨f,p+(Utf8.decode s p).2,⟨by omega,a3⟩,by omega,by ((repeat (refine⟨rfl,?_⟩));trivial),rfl,rfl,⟨rfl,rfl,trivial⟩⟩
  ·((repeat' (conv=>whnf);first|(refine VC.mk (by omega) ?_)|(refine Br.mk ?_ ?_<;>intro hb<;>(try (first|omega|exact absurd rfl hb)))|(refine A7 ?_ fun h1 hs=>aY hl h1)|fail);all_goals try conv=>whnf)
   all_goals first
    |omega
    |exact⟨f,p+(Utf8.decode s p).2,⟨by omega,a3⟩,by omega,by ((repeat (refine⟨rfl,?_⟩));trivial),rfl,rfl,⟨rfl,rfl,trivial⟩⟩
 ·((repeat' (conv=>whnf);first|(refine VC.mk (by omega) ?_)|(refine Br.mk ?_ ?_<;>intro hb<;>(try omega))|fail);all_goals try conv=>whnf)
  all_goals first
   |exact⟨fun h' hs=>⟨D0 rfl,hs.grows⟩⟩
   |exact⟨fun h' hs=>⟨rfl,hs.grows⟩⟩
end Go.Ex
namespace Go.Ex
open Go.Proofs
theorem jT(n n' b0 b1 b2 b3 c1 c2 c3:Nat)(h:¬ ((Lib.decodeN n b0 b1 b2 b3).1=65533∧(Lib.decodeN n b0 b1 b2 b3).2<2))(hw:(Lib.decodeN n b0 b1 b2 b3).2≤n')(e1:1<(Lib.decodeN n b0 b1 b2 b3).2→c1=b1)(e2:2<(Lib.decodeN n b0 b1 b2 b3).2→c2=b2)(e3:3<(Lib.decodeN n b0 b1 b2 b3).2→c3=b3) :
 Lib.decodeN n' b0 c1 c2 c3=Lib.decodeN n b0 b1 b2 b3:=by
 have key:b0<128∨(b0 / 32=6∧(1<n∧b1 / 64=2)∧Lib.decodeN n b0 b1 b2 b3=(b0 % 32*64+b1 % 64,2)∧¬ b0<128∧b0 % 32*64+b1 % 64≥128) ∨
  (b0 / 16=14∧(1<n∧b1 / 64=2)∧(2<n∧b2 / 64=2)∧Lib.decodeN n b0 b1 b2 b3=(b0 % 16*4096+b1 % 64*64+b2 % 64,3)∧(b0 % 16*4096+b1 % 64*64+b2 % 64≥2048∧(b0 % 16*4096+b1 % 64*64+b2 % 64<55296∨(57344≤b0 % 16*4096+b1 % 64*64+b2 % 64∧b0 % 16*4096+b1 % 64*64+b2 % 64≤1114111)))) ∨
  (b0 / 8=30∧(1<n∧b1 / 64=2)∧(2<n∧b2 / 64=2)∧(3<n∧b3 / 64=2)∧Lib.decodeN n b0 b1 b2 b3=(b0 % 8*262144+b1 % 64*4096+b2 % 64*64+b3 % 64,4)∧(b0 % 8*262144+b1 % 64*4096+b2 % 64*64+b3 % 64≥65536∧(b0 % 8*262144+b1 % 64*4096+b2 % 64*64+b3 % 64<55296∨(57344≤b0 % 8*262144+b1 % 64*4096+b2 % 64*64+b3 % 64∧b0 % 8*262144+b1 % 64*4096+b2 % 64*64+b3 % 64≤1114111)))):=by
  unfold Lib.decodeN at h ⊢
  split at h
  ·exact .inl (by assumption)
  ·rename_i hb
   rw [if_neg hb]
   split at h
   ·rename_i c
    rw [if_pos c]
    split at h
    ·rename_i c2;rw [if_pos c2];exact .inr (.inl ⟨c.1,c.2,rfl,hb,c2⟩)
    ·exact absurd ⟨rfl,by show 1<2;decide⟩ h
   ·rename_i c
    rw [if_neg c]
    split at h
    ·rename_i d
     rw [if_pos d]
     split at h
     ·rename_i c2;rw [if_pos c2];exact .inr (.inr (.inl ⟨d.1,d.2.1,d.2.2,rfl,c2⟩))
     ·exact absurd ⟨rfl,by show 1<2;decide⟩ h
    ·rename_i d
     rw [if_neg d]
     split at h
     ·rename_i f
      rw [if_pos f]
      split at h
      ·rename_i c2;rw [if_pos c2];exact .inr (.inr (.inr ⟨f.1,f.2.1,f.2.2.1,f.2.2.2,rfl,c2⟩))
      ·exact absurd ⟨rfl,by show 1<2;decide⟩ h
     ·exact absurd ⟨rfl,by show 1<2;decide⟩ h
 rcases key with k|⟨k1,k2,k3,k4,t⟩|⟨k1,k2,k3,k4,t⟩|⟨k1,k2,k3,k4,k5,t⟩
 ·unfold Lib.decodeN
  rw [if_pos k,if_pos k]
 ·rw [k3] at hw e1 ⊢
  have:=e1 (by show 1<2;decide)
  subst this
  have hn:1<n':=by simp only at hw;omega
  unfold Lib.decodeN
  rw [if_neg k4,if_pos ⟨k1,hn,k2.2⟩,if_pos t]
 ·rw [k4] at hw e1 e2 ⊢
  have h1:=e1 (by show 1<3;decide)
  have h2:=e2 (by show 2<3;decide)
  subst h1 h2
  have hn:2<n':=by simp only at hw;omega
  have a1:¬ b0<128:=by omega
  have a2:∀ m,¬ (b0 / 32=6∧(1<m∧c1 / 64=2)):=fun m q=>by omega
  unfold Lib.decodeN
  rw [if_neg a1,if_neg (a2 n'),if_pos ⟨k1,⟨by omega,k2.2⟩,⟨hn,k3.2⟩⟩,if_pos t]
 ·rw [k5] at hw e1 e2 e3 ⊢
  have h1:=e1 (by show 1<4;decide)
  have h2:=e2 (by show 2<4;decide)
  have h3:=e3 (by show 3<4;decide)
  subst h1 h2 h3
  have hn:3<n':=by simp only at hw;omega
  have a1:¬ b0<128:=by omega
  have a2:∀ m,¬ (b0 / 32=6∧(1<m∧c1 / 64=2)):=fun m q=>by omega
  have a3:∀ m,¬ (b0 / 16=14∧(1<m∧c1 / 64=2)∧(2<m∧c2 / 64=2)):=fun m q=>by omega
  unfold Lib.decodeN
  rw [if_neg a1,if_neg (a2 n'),if_neg (a3 n'),if_pos ⟨k1,⟨by omega,k2.2⟩,⟨by omega,k3.2⟩,⟨hn,k4.2⟩⟩,if_pos t]
theorem qP(s:ByteArray)(a b:Nat)(i:Nat)(hb:b≤s.size)(hi:a+i<b):(s.extract a b).get! i=s.get! (a+i):=by
 have e:(s.extract a b).data=s.data.extract a b:=ByteArray.data_extract
 show ((s.extract a b).data[i]!)=s.data[a+i]!
 rw [e,getElem!_def,getElem!_def,Array.getElem?_extract]
 have hz:s.data.size=s.size:=rfl
 rw [if_pos (by omega)]
theorem pM(s:ByteArray)(a b p:Nat)(hb:b≤s.size)(h:¬ ((Utf8.decode s (a+p)).1=65533∧(Utf8.decode s (a+p)).2<2))(hw:a+p+(Utf8.decode s (a+p)).2≤b):Utf8.decode (s.extract a b) p=Utf8.decode s (a+p):=by
 have hpos:=width_pos s (a+p)
 have hz:(s.extract a b).size=b-a:=by rw [ByteArray.size_extract];omega
 rw [Lib.decode_at] at h hw hpos
 rw [Lib.decode_at,Lib.decode_at,hz]
 have g0:(s.extract a b).get! p=s.get! (a+p):=qP s a b p hb (by omega)
 rw [g0]
 refine jT _ _ _ _ _ _ _ _ _ h (by omega) (fun q=>?_) (fun q=>?_) (fun q=>?_)
 ·rw [qP s a b (p+1) hb (by omega),show a+(p+1)=a+p+1 by omega]
 ·rw [qP s a b (p+2) hb (by omega),show a+(p+2)=a+p+2 by omega]
 ·rw [qP s a b (p+3) hb (by omega),show a+(p+3)=a+p+3 by omega]
end Go.Ex
namespace Go.Ex
open Go.Proofs
theorem Qi(n b0 b1 b2 b3:Nat)(hn:1≤n):(Lib.decodeN n b0 b1 b2 b3).2≤n:=by
 unfold Lib.decodeN
 repeat' split
 all_goals (dsimp only;omega)
theorem fF(s:ByteArray)(p:Nat)(hp:p<s.size):p+(Utf8.decode s p).2≤s.size:=by
 rw [Lib.decode_at]
 have:=Qi (s.size-p) (s.get! p).toNat (s.get! (p+1)).toNat (s.get! (p+2)).toNat (s.get! (p+3)).toNat (by omega)
 omega
theorem Vk:¬ E7 65533=true:=by decide
theorem Uu:¬ R0 65533:=by decide
theorem Rk(s:ByteArray)(a:Nat)(ha:a<s.size)(hl:E7 ((Utf8.decode s a).1:Int)=true)(g:Int)(G:Nat)(hG:(G:Int)=if 0≤g then g else (s.size:Int)-a)(hGl:a+G≤s.size) :
 ∀ (f p f':Nat),s.size-a≤p+f'→J9 (s.extract a s.size) f' p=g→p≤G→Wc (s.extract a (a+G)) f p∧bY (s.extract a (a+G)) f p = -1
 |0,p,f',h1,h2,h3=>⟨trivial,rfl⟩
 |f+1,p,f',h1,h2,h3=>by
  have hz:(s.extract a (a+G)).size=G:=by rw [ByteArray.size_extract];omega
  have hu:(s.extract a s.size).size=s.size-a:=by rw [ByteArray.size_extract];omega
  simp only [Wc,bY,hz]
  by_cases hp:p<G
  ·match f',h1,h2 with
   |0,h1,h2=>omega
   |f'+1,h1,h2=>
    have hd:Utf8.decode (s.extract a s.size) p=Utf8.decode s (a+p):=Lib.tail_decode s a p
    simp only [J9,hu] at h2
    rw [if_pos (by omega),hd] at h2
    have hle:=fF s (a+p) (by omega)
    by_cases hc:E7 ((Utf8.decode s (a+p)).1:Int)=false∧¬ R0 ((Utf8.decode s (a+p)).1:Int)
    ·rw [if_pos hc] at h2
     rw [if_pos (by omega)] at hG
     omega
    ·rw [if_neg hc] at h2
     have hr:=T8 (s.extract a s.size) f' (p+(Utf8.decode s (a+p)).2)
     rw [h2,hu] at hr
     have hpw:p+(Utf8.decode s (a+p)).2≤G:=by
      split at hG<;>omega
     have hne:¬ (Utf8.decode s (a+p)).1=65533:=fun e=>by
      rw [e] at hc
      refine hc ⟨?_,Uu⟩
      have:=Vk
      revert this
      cases E7 ((65533:Nat):Int)<;>simp
     have hv:Utf8.decode (s.extract a (a+G)) p=Utf8.decode s (a+p):=pM s a (a+G) p hGl (fun q=>hne q.1) (by omega)
     obtain⟨i1,i2⟩:=Rk s a ha hl g G hG hGl f (p+(Utf8.decode s (a+p)).2) f' (by have:=width_pos s (a+p);omega) h2 hpw
     rw [hv]
     refine⟨fun _=>⟨?_,i1⟩,?_⟩
     ·by_cases h0:p=0
      ·left
       rw [h0]
       exact hl
      ·by_cases hL:E7 ((Utf8.decode s (a+p)).1:Int)=true
       ·exact .inl hL
       ·refine .inr ⟨h0,Classical.byContradiction fun hD=>hc ⟨?_,hD⟩⟩
        simpa using hL
     ·rw [if_pos hp,if_neg (fun q=>hne (by have:=q.1;omega))]
      exact i2
  ·refine⟨fun h=>absurd h hp,?_⟩
   rw [if_neg hp]
theorem Fo(s:ByteArray)(a:Int)(ha:0≤a∧a<s.size)(h0:¬ (C9 s a).1=0)(hl:E7 (C9 s a).1=true)(hk:(aO s a).1=1):Kf (sub s a (P0 s a)):=by
 obtain⟨h1,h2⟩:=vG s a ha h0 hl
 obtain⟨h3,h4⟩:=Y4 s a h0
 rw [h4] at hl
 have hwt:P0 s a=a+((P0 s a-a).toNat:Int):=by omega
 obtain⟨g,hg⟩:∃ g,J9 (sub s a s.size) (sub s a s.size).size 0=g:=⟨_,rfl⟩
 have hT:P0 s a=if 0≤g then a+g else s.size:=by unfold P0;rw [hg]
 have hsz:(sub s a s.size)=s.extract a.toNat s.size:=by show s.extract a.toNat (s.size:Int).toNat = _;rw [Int.toNat_natCast]
 have hu:(s.extract a.toNat s.size).size=s.size-a.toNat:=by rw [ByteArray.size_extract];omega
 rw [hsz,hu] at hg
 have key:=Rk s a.toNat (by omega) hl g (P0 s a-a).toNat (by rw [hT];split<;>omega) (by omega) (P0 s a-a).toNat 0 (s.size-a.toNat) (by omega) hg (by omega)
 have e:sub s a (P0 s a)=s.extract a.toNat (a.toNat+(P0 s a-a).toNat):=by
  show s.extract a.toNat (P0 s a).toNat = _
  congr 1
  omega
 have hz:(s.extract a.toNat (a.toNat+(P0 s a-a).toNat)).size=(P0 s a-a).toNat:=by rw [ByteArray.size_extract];omega
 rw [e]
 refine⟨?_,?_,?_,?_⟩
 ·intro q
  rw [q] at hz
  have:(⟨#[]⟩:ByteArray).size=0:=rfl
  omega
 ·intro q
  rw [←e] at q
  unfold aO at hk
  rw [if_pos q] at hk
  cases hk
 ·unfold hY
  rw [hz,key.2]
  decide
 ·rw [hz]
  exact key.1
end Go.Ex
namespace Go.Ex
open Go.Proofs
structure Ll(s:ByteArray)(a b:Int)(u:ByteArray)(c:Int):Prop where
 lo:0≤a∧a≤b∧b≤s.size
 up:0≤c∧c+(b-a)≤u.size
 eq:∀ p,0≤p→p<b-a→A4 u (c+p)=A4 s (a+p)
theorem iH{s u:ByteArray}{a b c:Int}(base:Int)(h:Ll s a b u c):∀ (m:Nat) (p n:Int),0≤p→(M5 s base m (a+p) n).2.2=false→(M5 s base m (a+p) n).2.1=a+p+m∧(a+p+m≤b→M5 u base m (c+p) n=((M5 s base m (a+p) n).1,c+p+m,false))
 |0,p,n,h0,h1=>⟨by simp [M5],fun _=>by simp [M5]⟩
 |m+1,p,n,h0,h1=>by
  have hz:=h.up
  simp only [M5] at h1 ⊢
  by_cases hc:a+p<s.size∧0≤aT (A4 s (a+p))∧aT (A4 s (a+p))<base
  ·rw [if_pos hc] at h1 ⊢
   rw [show a+p+1=a+(p+1) by omega] at h1 ⊢
   obtain⟨i1,i2⟩:=iH base h m (p+1) (n*base+aT (A4 s (a+p))) (by omega) h1
   refine⟨by rw [i1];omega,fun hb=>?_⟩
   have e:=h.eq p h0 (by omega)
   rw [e,if_pos ⟨by omega,hc.2⟩,show c+p+1=c+(p+1) by omega,i2 (by omega)]
   congr 2
   omega
  ·rw [if_neg hc] at h1
   cases h1
theorem Lu{s u:ByteArray}{a b c:Int}(mk:Int)(h:Ll s a b u c)(p:Int)(h0:0≤p)(h1:(gK s mk (a+p)).2=false)(h2:(gK s mk (a+p)).1≤b) :
 gK u mk (c+p)=((gK s mk (a+p)).1-a+c,false):=by
 have hz:=h.up
 have hl:=h.lo
 have n2:=iH 16 h 2 (p+1) 0 (by omega)
 have n8:=iH 16 h 8 (p+1) 0 (by omega)
 have n4:=iH 16 h 4 (p+1) 0 (by omega)
 have n3:=iH 8 h 3 p 0 (by omega)
 rw [show a+(p+1)=a+p+1 by omega,show c+(p+1)=c+p+1 by omega] at n2 n8 n4
 have hb:=h.eq p h0
 unfold gK at h1 h2 ⊢
 by_cases c1:(s.size:Int)≤a+p
 ·rw [if_pos c1] at h1;cases h1
 rw [if_neg c1] at h1 h2 ⊢
 by_cases c2:0≤H7 Qp (A4 s (a+p))
 ·rw [if_pos c2] at h1 h2 ⊢
  rw [if_neg (by dsimp only at h2;omega),hb (by dsimp only at h2;omega),if_pos c2]
  congr 1
  dsimp only;omega
 rw [if_neg c2] at h1 h2 ⊢
 by_cases c3:A4 s (a+p)=mk
 ·rw [if_pos c3] at h1 h2 ⊢
  rw [if_neg (by dsimp only at h2;omega),hb (by dsimp only at h2;omega),if_neg c2,if_pos c3]
  congr 1
  dsimp only;omega
 rw [if_neg c3] at h1 h2 ⊢
 by_cases c4:A4 s (a+p)=120
 ·rw [if_pos c4] at h1 h2 ⊢
  dsimp only at h1 h2 ⊢
  obtain⟨q1,q2⟩:=Bool.or_eq_false_iff.1 h1
  obtain⟨e1,e2⟩:=n2 q1
  rw [e1] at h2
  rw [if_neg (by omega),hb (by omega),if_neg c2,if_neg c3,if_pos c4,e2 h2,e1]
  simp only [q2]
  congr 1
  omega
 rw [if_neg c4] at h1 h2 ⊢
 by_cases c5:A4 s (a+p)=85
 ·rw [if_pos c5] at h1 h2 ⊢
  dsimp only at h1 h2 ⊢
  obtain⟨q1,q2⟩:=Bool.or_eq_false_iff.1 h1
  obtain⟨e1,e2⟩:=n8 q1
  rw [e1] at h2
  rw [if_neg (by omega),hb (by omega),if_neg c2,if_neg c3,if_neg c4,if_pos c5,e2 h2,e1]
  simp only [q2]
  congr 1
  omega
 rw [if_neg c5] at h1 h2 ⊢
 by_cases c6:A4 s (a+p)=117
 ·rw [if_pos c6] at h1 h2 ⊢
  dsimp only at h1 h2 ⊢
  obtain⟨q1,q2⟩:=Bool.or_eq_false_iff.1 h1
  obtain⟨e1,e2⟩:=n4 q1
  rw [e1] at h2
  rw [if_neg (by omega),hb (by omega),if_neg c2,if_neg c3,if_neg c4,if_neg c5,if_pos c6,e2 h2,e1]
  simp only [q2]
  congr 1
  omega
 rw [if_neg c6] at h1 h2 ⊢
 dsimp only at h1 h2 ⊢
 obtain⟨q1,q2⟩:=Bool.or_eq_false_iff.1 h1
 obtain⟨q3,q4⟩:=Bool.or_eq_false_iff.1 q1
 obtain⟨e1,e2⟩:=n3 q3
 rw [e1] at h2
 rw [if_neg (by omega),hb (by omega),if_neg c2,if_neg c3,if_neg c4,if_neg c5,if_neg c6,e2 h2,e1]
 simp only [q2,q4]
 congr 1
 omega
theorem kV{s u:ByteArray}{a b c:Int}(h:Ll s a b u c)(p:Int)(h0:0≤p)(h1:¬ ((Utf8.decode s (a+p).toNat).1=65533∧(Utf8.decode s (a+p).toNat).2<2))(h2:a+p+(Utf8.decode s (a+p).toNat).2≤b):Utf8.decode u (c+p).toNat=Utf8.decode s (a+p).toNat:=by
 have hl:=h.lo
 have hu:=h.up
 have hpos:=width_pos s (a+p).toNat
 have g:∀ k:Nat,p+k<b-a→(u.get! ((c+p).toNat+k)).toNat=(s.get! ((a+p).toNat+k)).toNat:=fun k hk=>by
  have e:=h.eq (p+k) (by omega) hk
  have e1:=fB u ((c+p).toNat+k)
  have e2:=fB s ((a+p).toNat+k)
  rw [show (((c+p).toNat+k:Nat):Int)=c+(p+k) by omega] at e1
  rw [show (((a+p).toNat+k:Nat):Int)=a+(p+k) by omega] at e2
  omega
 rw [Lib.decode_at] at h1 h2 hpos
 rw [Lib.decode_at,Lib.decode_at]
 have g0:=g 0 (by omega)
 rw [Nat.add_zero,Nat.add_zero] at g0
 rw [g0]
 exact jT _ _ _ _ _ _ _ _ _ h1 (by omega) (fun q=>g 1 (by omega)) (fun q=>g 2 (by omega)) (fun q=>g 3 (by omega))
theorem wF{s u:ByteArray}{a b c:Int}(p:Int)(h:Ll s a b u c)(h0:0≤p)(h1:¬ (C9 s (a+p)).2=0)(h2:a+p+(C9 s (a+p)).2≤b):C9 u (c+p)=C9 s (a+p):=by
 have hl:=h.lo
 have hu:=h.up
 unfold C9 at h1 h2 ⊢
 by_cases c1:a+p<0∨(s.size:Int)≤a+p
 ·rw [if_pos c1] at h1;exact absurd rfl h1
 rw [if_neg c1] at h1 h2 ⊢
 by_cases c2:(Utf8.decode s (a+p).toNat).1=65533∧(Utf8.decode s (a+p).toNat).2<2
 ·rw [if_pos c2] at h1;exact absurd rfl h1
 rw [if_neg c2] at h1 h2 ⊢
 have hp:=width_pos s (a+p).toNat
 have e:=kV h p h0 c2 (by dsimp only at h2;omega)
 rw [if_neg (by dsimp only at h2;omega),e,if_neg c2]
theorem Vo{s u:ByteArray}{a b c:Int}(mk:Int)(h:Ll s a b u c)(p:Int)(h0:0≤p)(hp:a+p<s.size)(h1:(L5 s mk (a+p)).2=false)(h2:(L5 s mk (a+p)).1≤b) :
 L5 u mk (c+p)=((L5 s mk (a+p)).1-a+c,false):=by
 have hl:=h.lo
 have hr:=V0 s mk (a+p) ⟨by omega,hp⟩
 have hg:=hr.2 h1
 have hb:=h.eq p h0 (by omega)
 unfold L5 at h1 h2 ⊢
 rw [hb]
 by_cases c1:A4 s (a+p)=92
 ·rw [if_pos c1] at h1 h2 ⊢
  rw [if_pos c1]
  rw [show a+p+1=a+(p+1) by omega] at h1 h2 ⊢
  rw [show c+p+1=c+(p+1) by omega]
  exact Lu mk h (p+1) (by omega) h1 h2
 ·rw [if_neg c1] at h1 h2 ⊢
  rw [if_neg c1]
  unfold gE at h1 h2 ⊢
  dsimp only at h1 h2 ⊢
  have hw:X5 u mk (c+p)=X5 s mk (a+p):=by
   simp only [decide_eq_false_iff_not,not_or] at h1
   unfold X5 at h1 h2 ⊢
   by_cases c2:mk=39
   ·rw [if_pos c2] at h1 h2 ⊢
    rw [if_pos c2,wF p h h0 h1.1 h2]
   ·rw [if_neg c2,if_neg c2]
  rw [hw,hb,h1]
  congr 1
  omega
theorem sF{s u:ByteArray}{a b c:Int}(mk:Int)(h:Ll s a b u c):∀ (f:Nat) (it p:Int) (f':Nat),0≤p→b-a<p+f'→N6 s mk f it (a+p)=some b→N6 u mk f' it (c+p)=some (b-a+c)
 |0,it,p,f',h0,hf,h1=>by cases h1
 |f+1,it,p,f',h0,hf,h1=>by
  have hz:=h.up
  have hl:=h.lo
  simp only [N6] at h1
  by_cases c1:(s.size:Int)≤a+p
  ·rw [if_pos c1] at h1;cases h1
  rw [if_neg c1] at h1
  by_cases c2:A4 s (a+p)=mk
  ·rw [if_pos c2] at h1
   by_cases c3:mk=34∨it=1
   ·rw [if_pos c3] at h1
    injection h1 with h1
    match f',hf with
    |0,hf=>omega
    |f'+1,hf=>
     simp only [N6]
     rw [if_neg (by omega),h.eq p h0 (by omega),if_pos c2,if_pos c3]
     congr 1
     omega
   ·rw [if_neg c3] at h1;cases h1
  rw [if_neg c2] at h1
  by_cases c3:mk=39∧it=1
  ·rw [if_pos c3] at h1;cases h1
  rw [if_neg c3] at h1
  by_cases c4:(L5 s mk (a+p)).2=true
  ·rw [if_pos c4] at h1;cases h1
  rw [if_neg c4] at h1
  have c4:(L5 s mk (a+p)).2=false:=by simpa using c4
  obtain⟨g1,g2⟩:=V0 s mk (a+p) (by omega)
  have g2:=g2 c4
  have hle : (L5 s mk (a+p)).1≤b:=by
   have key:∀ (f:Nat) (it q:Int),N6 s mk f it q=some b→0≤q→q≤b:=by
    intro f
    induction f with
    |zero=>intro it q e _;cases e
    |succ f ih=>
     intro it q e hq
     simp only [N6] at e
     split at e
     ·cases e
     ·rename_i d1
      split at e
      ·split at e
       ·injection e with e;omega
       ·cases e
      ·split at e
       ·cases e
       ·split at e
        ·cases e
        ·have:=(V0 s mk q ⟨hq,by omega⟩).1
         have:=ih _ _ e (by omega)
         omega
   exact key f (it+1) _ h1 (by omega)
  have hi:=Vo mk h p h0 (by omega) c4 hle
  match f',hf with
  |0,hf=>omega
  |f'+1,hf=>
   simp only [N6]
   rw [if_neg (by omega),h.eq p h0 (by omega),if_neg c2,if_neg c3,hi,if_neg (fun q=>by cases q)]
   have e:a+((L5 s mk (a+p)).1-a)=(L5 s mk (a+p)).1:=by omega
   have e2:c+((L5 s mk (a+p)).1-a)=(L5 s mk (a+p)).1-a+c:=by omega
   rw [←e2]
   exact sF mk h f (it+1) ((L5 s mk (a+p)).1-a) f' (by omega) (by omega) (by rw [e];exact h1)
end Go.Ex
