/-
  Top: TopComments: whatever the input, the law answers true (part 2)
-/
import Derived.Test.YtpjdgifhhnjclaaGreatDoorM01
set_option linter.unusedVariables false
set_option linter.unusedSimpArgs false
set_option maxHeartbeats 4000000
set_option maxRecDepth 10000
namespace Go.Ex
variable {Df:List Deferred}
section
variable {P:Program}{ty:Nat→Option gS}{S:St}{K:Kn}{κ:KV→Prop}
theorem fM:∀ {ch:L8} {k b:Nat} {c:D8},B3 ch k=some (b,c)→(k,b,c)∈ch
 |[],k,b,c,h=>by simp [B3] at h
 |(j,b',c')::r,k,b,c,h=>by
  simp only [B3] at h
  split at h
  ·rename_i e
   have:=Qk e
   simp at h
   simp [this,h]
  ·exact List.mem_cons_of_mem _ (fM h)
theorem HS.box{h:A3}(hs:HS S h){k b T:Nat}{cs:List KV}(hf:B3 S.ch k=some (b,.box T cs)){j:Nat}{v:Value}(hj:(cs.map A0)[j]?=some v):K5 h b j=some v:=by
 have:=(hs.chunk _ (fM hf)).2.2
 simp only [C7] at this
 simp only [K5,this]
 simpa using hj
theorem mH{τ:Type}(R:Y7 τ)(xs:List τ):∀ (i j:Nat),i<xs.length→j<R.sz→(xs.flatMap R.cells)[i*R.sz+j]?=(R.cells (xs.getD i R.dflt))[j]?:=by
 induction xs with
 |nil=>intro i j h;simp at h
 |cons x xs ih=>
  intro i j hi hj
  have hx:=R.len x
  cases i with
  |zero=>simp only [List.flatMap_cons,Nat.zero_mul,Nat.zero_add];rw [List.getElem?_append_left (by omega)];rfl
  |succ i=>
   simp only [List.length_cons] at hi
   have:=ih i j (by omega) hj
   simp only [List.flatMap_cons]
   rw [List.getElem?_append_right (by rw [hx,Nat.succ_mul];omega),hx,show (i+1)*R.sz+j-R.sz=i*R.sz+j by rw [Nat.succ_mul];omega,this]
   rfl
theorem G4{τ:Type}(R:Y7 τ):∀ xs:List τ,(xs.flatMap R.cells).length=xs.length*R.sz
 |[]=>by simp
 |x::xs=>by rw [List.flatMap_cons,List.length_append,R.len,G4 R xs,List.length_cons,Nat.succ_mul];omega
theorem HS.arr{h:A3}(hs:HS S h){k b T:Nat}{τ:Type}{R:Y7 τ}{xs:List τ}{cap:Nat}(hf:B3 S.ch k=some (b,.arr T R xs cap)){i j:Nat}{v:Value}(hi:i<xs.length)
 (hj:(R.cells (xs.getD i R.dflt))[j]?=some v):K5 h b (i*R.sz+j)=some v:=by
 obtain⟨c,hc,ht,hcap,_,hcs⟩:=(hs.chunk _ (fM hf)).2.2
 have hl:xs.length*R.sz≤c.size:=by rw [hcs];exact Nat.mul_le_mul_right _ hcap
 have hjl:j<R.sz:=by have:=(List.getElem?_eq_some_iff.1 hj).1;rwa [R.len] at this
 have hij:i*R.sz+j<xs.length*R.sz:=by
  have:(i+1)*R.sz≤xs.length*R.sz:=Nat.mul_le_mul_right _ hi
  rw [Nat.succ_mul] at this;omega
 have h1:=mH R xs i j hi hjl
 rw [hj,←ht,List.getElem?_take_of_lt hij] at h1
 simp only [K5,hc]
 simpa using h1
theorem HS.sl_cell{h:A3}(hs:HS S h){b o:Nat}{v:Value}(hb:b<S.h0.size)(hn:¬ b∈S.cap)(hv:K5 S.h0 b o=some v):K5 h b o=some v:=by
 have:=hs.frame b hb hn
 simpa [K5,this] using hv
theorem iV{τ:Type}{R:Y7 τ}{x:τ}{f n:Nat}{l:List Value}(h:kB f n (R.cells x)=some l){j:Nat}{v:Value}(hj:l[j]?=some v):(R.cells x)[f+j]?=some v:=by
 obtain⟨rfl,h1,h2⟩:=bC h
 have hlt:j<n:=by have:=(List.getElem?_eq_some_iff.1 hj).1;rwa [h2] at this
 rw [List.getElem?_take_of_lt hlt,List.getElem?_drop] at hj
 exact hj
theorem pG(hty:H6 P ty){t:Nat}{p:KV}(h:Uk ty t p S κ):∃ kv,κ kv∧∀ w:World,HS S w.heap→(Instr.loadAt t (B0 p)).run P w = .ok (B0 kv) w:=by
 unfold Uk at h
 split at h
 ·exact h.elim
 rename_i i hi
 have ht:=hty t i hi
 split at h
 ·rename_i k b f
  split at h
  ·rename_i b' T cs hf
   obtain⟨rfl,h⟩:=h
   split at h
   ·rename_i l hl
    obtain⟨kv,hk,hd⟩:=Q4 h
    obtain⟨rfl,h1,h2⟩:=bC hl
    refine⟨kv,hk,fun w hs=>?_⟩
    rw [hd]
    refine U2 ht w b f _ (by simpa using h2) fun j v hj=>?_
    have hlt:j<i.sz:=by have:=(List.getElem?_eq_some_iff.1 hj).1;simp at this h2;omega
    refine hs.box hf (j:=f+j) ?_
    rw [List.map_take,List.map_drop,List.getElem?_take_of_lt hlt,List.getElem?_drop] at hj
    exact hj
   ·exact h.elim
  ·rename_i b' τ T R xs cap hf
   split at h
   ·split at h
    ·obtain⟨⟨rfl,h0⟩,h⟩:=h
     obtain⟨kv,hk,hd⟩:=Q4 h
     refine⟨kv,hk,fun w hs=>?_⟩
     rw [hd,N9]
     refine U2 ht w b 0 _ (by rw [G4];exact h0) fun j v hj=>?_
     obtain⟨cur,hg,htk,_⟩:=(hs.chunk _ (fM hf)).2.2
     have hj2:j<xs.length*R.sz:=by have:=(List.getElem?_eq_some_iff.1 hj).1;rwa [G4] at this
     rw [←htk,List.getElem?_take_of_lt hj2] at hj
     simp only [K5,hg,Nat.zero_add]
     simpa using hj
    ·exact h.elim
   obtain⟨⟨rfl,h0⟩,h⟩:=h
   split at h
   ·rename_i l hl
    obtain⟨kv,hk,hd⟩:=Q4 h
    refine⟨kv,hk,fun w hs=>?_⟩
    rw [hd,N9]
    refine U2 ht w b f _ (bC hl).2.2 fun j v hj=>?_
    have:=hs.arr hf (i:=0) h0 (iV hl hj)
    rw [Nat.zero_mul,Nat.zero_add] at this
    exact this
   ·exact h.elim
  ·exact h.elim
 ·rename_i k b sz ix f
  split at h
  ·rename_i b' τ T R xs cap hf
   obtain⟨⟨rfl,rfl,h0,h1⟩,h⟩:=h
   split at h
   ·rename_i l hl
    obtain⟨kv,hk,hd⟩:=Q4 h
    refine⟨kv,hk,fun w hs=>?_⟩
    rw [hd,N9]
    refine U2 ht w b _ _ (bC hl).2.2 fun j v hj=>?_
    have:=hs.arr hf (i:=ix.toNat) (by omega) (iV hl hj)
    rw [←Nat.add_assoc] at this
    exact this
   ·exact h.elim
  ·exact h.elim
 ·rename_i A sz ix f
  rcases h with ⟨τ,R,len,xs,hsl,hcap,rfl,h0,h1,l,hl,h⟩|⟨k,b,τ,T,R,xs,cap,rfl,hf,rfl,h0,h1,l,hl,h⟩
  ·obtain⟨kv,hk,hd⟩:=Q4 h
   obtain⟨b,o,rfl,hb,hc⟩:=hsl.at_ (by omega)
   refine⟨kv,hk,fun w hs=>?_⟩
   rw [hd,N9]
   refine U2 ht w b _ _ (bC hl).2.2 fun j v hj=>?_
   have:=hc ix.toNat (by omega) _ v (iV hl hj)
   have:=hs.sl_cell hb (hcap _ rfl) this
   rw [←Nat.add_assoc] at this
   exact this
  ·obtain⟨kv,hk,hd⟩:=Q4 h
   refine⟨kv,hk,fun w hs=>?_⟩
   rw [hd,N9]
   refine U2 ht w b _ _ (bC hl).2.2 fun j v hj=>?_
   have:=hs.arr hf (i:=ix.toNat) (by omega) (iV hl hj)
   rw [←Nat.add_assoc] at this
   rw [Nat.zero_add]
   exact this
 ·rename_i a
  rcases h with ⟨hb,hcap,hsp,vs,hvl,hvs,cs,hcs,h⟩|⟨k,T,cs,l,hf,hsp,hl,h⟩
  ·obtain⟨b,o,s⟩:=a
   simp only at hb hcap hsp hvs
   subst hsp
   obtain⟨kv,hk,hd⟩:=Q4 h
   refine⟨kv,hk,fun w hs=>?_⟩
   rw [hd,hcs]
   exact U2 ht w b o _ hvl fun j v hj=>hs.sl_cell hb hcap (hvs j v hj)
  ·obtain⟨b,f,s⟩:=a
   simp only at hf hsp hl
   subst hsp
   obtain⟨kv,hk,hd⟩:=Q4 h
   obtain⟨rfl,h1,h2⟩:=bC hl
   refine⟨kv,hk,fun w hs=>?_⟩
   rw [hd]
   refine U2 ht w b f _ (by simpa using h2) fun j v hj=>?_
   have hlt:j<i.sz:=by have:=(List.getElem?_eq_some_iff.1 hj).1;simp at this h2;omega
   refine hs.box hf (j:=f+j) ?_
   rw [List.map_take,List.map_drop,List.getElem?_take_of_lt hlt,List.getElem?_drop] at hj
   exact hj
 ·exact h.elim
theorem dA{k:IntKind}{n:Int}{q:Int→Prop}(h:Yd k n q):∃ m,q m∧k.wrap n=m:=by
 have key:∀ (k:IntKind) (n:Int),lo k≤n→n≤hi k→k.wrap n=n:=fun k n h1 h2=>by
  cases k<;>((try simp only [lo,hi] at h1 h2);simp only [IntKind.wrap,IntKind.bits,IntKind.signed];simp;(try split))<;>omega
 cases k<;>rcases h with ⟨⟨h1,h2⟩,hq⟩|hq<;>first|exact⟨_,hq,rfl⟩|exact⟨n,hq,key _ _ h1 h2⟩
theorem M2(op:BinOp)(t:Nat)(u v:Operand)(k k':IntKind)(a b:Int)(w:World):(eqGuard op t u v (.int k a) (.int k' b)).run P w = .ok () w:=by
 cases op<;>simp [eqGuard]
theorem gW(op:BinOp)(t:Nat)(u v:Operand)(a b:ByteArray)(w:World):(eqGuard op t u v (.string a) (.string b)).run P w = .ok () w:=by
 cases op<;>simp [eqGuard]
theorem oE(p:Prop)[Decidable p]:@decide p (Classical.propDecidable p)=decide p:=by
 by_cases h:p<;>simp [h]
theorem qA{a b:ByteArray}:(a.toList == b.toList) = @decide (a=b) (Classical.propDecidable _):=by
 rw [oE,Bool.eq_iff_iff,decide_eq_true_iff,beq_iff_eq]
 constructor
 ·intro h;exact ByteArray.ext (Array.ext' (by rw [←ByteArray.toList_eq,←ByteArray.toList_eq];exact h))
 ·rintro rfl;rfl
theorem Yi{op:BinOp}{t:Nat}{x y:KV}(h:AV P op t x y κ):∃ kv,κ kv∧∀ (u v:Operand) (w:World),(do eqGuard op t u v (B0 x) (B0 y);binOp op t (B0 x) (B0 y):Sem Value).run P w = .ok (B0 kv) w:=by
 unfold AV at h
 split at h
 ·rename_i k a k' b
  split at h
  ·have key:∀ (n:Nat) (p:Int),b=n→n≤7→(2:Int) ^ n=p→κ (.val (.int k (a / p)))→∃ kv,κ kv∧∀ (u v:Operand) (w:World),(do eqGuard .shr t u v (B0 (.val (.int k a))) (B0 (.val (.int k' b)));binOp .shr t (B0 (.val (.int k a))) (B0 (.val (.int k' b))):Sem Value).run P w = .ok (B0 kv) w:=by
    intro n p hb hn hp h
    refine⟨_,h,fun u v w=>?_⟩
    subst hb
    have e1:min n k.bits=n:=by
     have:8≤k.bits:=by cases k<;>decide
     omega
    have e2:a.fdiv (2 ^ n)=a / p:=by rw [Int.fdiv_eq_ediv_of_nonneg _ (Int.pow_nonneg (by omega)),hp]
    have e4:¬ ((n:Int)<0):=by omega
    simp only [B0,A1,A0,Sem.run_bind]
    simp [eqGuard,binOp,Op.shift,e1,e2,e4]
   unfold CA at h
   split at h
   ·exact key 0 1 rfl (by omega) rfl h
   ·exact key 1 2 rfl (by omega) rfl h
   ·exact key 2 4 rfl (by omega) rfl h
   ·exact key 3 8 rfl (by omega) rfl h
   ·exact key 4 16 rfl (by omega) rfl h
   ·exact key 5 32 rfl (by omega) rfl h
   ·exact key 6 64 rfl (by omega) rfl h
   ·exact key 7 128 rfl (by omega) rfl h
   ·exact h.elim
  ·split at h
   ·rename_i hk
    have:=sV hk
    subst this
    unfold Az at h
    cases op<;>simp only at h<;>first
     |(obtain⟨mm,h2,h1⟩:=dA h;exact⟨_,h2,fun u v w=>by simp only [B0,A1,A0,Sem.run_bind,M2];simp [binOp,Op.intArith,h1]⟩)
     | (obtain⟨hb,h⟩:=h
        have hb0:b≠0:=by omega
        by_cases ha:0≤a
        ·obtain⟨mm,h2,h1⟩:=dA (h.yes ha)
         exact⟨_,h2,fun u v w=>by
          simp only [B0,A1,A0,Sem.run_bind,M2]
          simp [binOp,Op.intDiv,hb0,Int.tdiv_eq_ediv_of_nonneg ha,h1]⟩
        ·obtain⟨mm,h2,h1⟩:=dA (h.no ha)
         have e:a.tdiv b = -((-a) / b):=by
          rw [←Int.tdiv_eq_ediv_of_nonneg (by omega),Int.neg_tdiv,Int.neg_neg]
         exact⟨_,h2,fun u v w=>by
          simp only [B0,A1,A0,Sem.run_bind,M2]
          simp [binOp,Op.intDiv,hb0,e,h1]⟩)
     | (obtain⟨hb,h⟩:=h
        have hb0:b≠0:=by omega
        by_cases ha:0≤a
        ·exact⟨_,h.yes ha,fun u v w=>by
          simp only [B0,A1,A0,Sem.run_bind,M2]
          simp [binOp,Op.intDiv,hb0,Int.tmod_eq_emod_of_nonneg ha]⟩
        ·have e:a.tmod b = -((-a) % b):=by
          rw [←Int.tmod_eq_emod_of_nonneg (by omega),Int.neg_tmod,Int.neg_neg]
         exact⟨_,h.no ha,fun u v w=>by
          simp only [B0,A1,A0,Sem.run_bind,M2]
          simp [binOp,Op.intDiv,hb0,e]⟩)
     | (have hg:κ (.val (.int k (bX _ k a b))):=h
        exact⟨_,h,fun u v w=>by simp only [B0,A1,A0,Sem.run_bind,M2];simp [binOp,Op.intBits,bX]⟩)
     |exact⟨_,h,fun u v w=>by
      simp only [B0,A1,A0,Sem.run_bind,M2,oE]
      simp [binOp,Op.intCmp]
      try (rw [Bool.eq_iff_iff];simp)⟩
     |exact h.elim
   ·exact h.elim
 ·rename_i a b
  unfold BT at h
  cases op<;>simp only at h<;>first
   | (obtain⟨h1,h2⟩:=h
      refine⟨_,h2,fun u v w=>?_⟩
      simp only [B0,A1,A0,Sem.run_bind,gW]
      have h3:¬ (IntKind.i64.max<((a.size+b.size:Nat):Int)):=by simp only [IntKind.max,IntKind.signed,IntKind.bits];simp;omega
      simp only [binOp,Op.stringOp]
      rw [if_neg h3];rfl)
   |exact⟨_,h,fun u v w=>by
    simp only [B0,A1,A0,Sem.run_bind,gW]
    simp [binOp,Op.stringOp,qA]⟩
   |exact h.elim
 ·cases op<;>simp only at h<;>first
   |(obtain⟨p,h1,h2⟩:=h;exact⟨_,h2,h1⟩)
   |exact h.elim
theorem Lh{x:KV}(h:AC x κ):∃ kv,κ kv∧∀ w:World,(Op.unary .not (B0 x)).run P w = .ok (B0 kv) w:=by
 unfold AC at h
 split at h
 ·exact⟨_,h,fun w=>by simp [B0,A1,A0,Op.unary]⟩
 ·exact⟨_,h,fun w=>by simp [B0,A1,A0,Op.unary]⟩
 ·exact⟨_,h,fun w=>by simp [B0,A1,A0,Op.unary,oE]⟩
 ·exact h.elim
theorem U4{o:Option Operand}{d:Int}{q:Int→Prop}(h:uS K o d q){n:Nat}{a:Act}(ha:H9 Df n a K):∃ v,q v∧((o=none∧v=d)∨∃ x,o=some x∧a.eval x = .int .i64 v):=by
 unfold uS at h
 split at h
 ·exact⟨_,h,.inl ⟨rfl,rfl⟩⟩
 ·rename_i x
  split at h
  ·rename_i m hm;exact⟨_,h,.inr ⟨_,rfl,ha.eval hm⟩⟩
  ·exact h.elim
theorem fW{isSlice:Bool}{len cap:Nat}{l h:Option Operand}{a:Act}{lv hv:Int}(hl:(l=none∧lv=0)∨∃ x,l=some x∧a.eval x = .int .i64 lv)(hh:(h=none∧hv=len)∨∃ x,h=some x∧a.eval x = .int .i64 hv)
 (h0:0≤lv) (h1:lv≤hv) (h2:hv≤len) (h3:len≤cap) (w:World):(Instr.sliceBounds isSlice len cap (l.map a.eval) (h.map a.eval) none).run P w = .ok (lv.toNat,hv.toNat,cap) w:=by
 have hc:(len:Int)≤cap:=by exact_mod_cast h3
 have e1:0≤hv∧hv≤(cap:Int):=by omega
 have e2:0≤lv∧lv≤((hv.toNat:Nat):Int):=by omega
 rcases hl with ⟨rfl,rfl⟩|⟨x,rfl,ex⟩<;>rcases hh with ⟨rfl,rfl⟩|⟨y,rfl,ey⟩
 ·simp [Instr.sliceBounds]
 ·simp [Instr.sliceBounds,Instr.sliceBound,asIntOf,ey,e1]
 ·simp [Instr.sliceBounds,Instr.sliceBound,asIntOf,ex]
  intro hx;have:=hx h0;omega
 ·simp [Instr.sliceBounds,Instr.sliceBound,asIntOf,ex,ey,e1]
  intro hx;have:=hx h0;omega
theorem fU{t:Nat}{d:TypeDesc}(hd:P.underlying t=some d)(hn:∀ n e,d≠.array n e)(x:Value)(l h m:Option Value)(w:World):(Instr.sliceAt t x l h m).run P w=(Instr.slice t x l h m).run P w:=by
 unfold Instr.sliceAt
 simp only [Sem.run_bind]
 simp [underlying,hd]
theorem yR(hty:H6 P ty){t:Nat}{x:KV}{l h m:Option Operand}(hk:Hg ty t K x l h m κ){n:Nat}{a:Act}(ha:H9 Df n a K) :
 ∃ kv,κ kv∧∀ w:World,(Instr.sliceAt t (B0 x) (l.map a.eval) (h.map a.eval) (m.map a.eval)).run P w = .ok (B0 kv) w:=by
 unfold Hg at hk
 split at hk
 ·exact hk.elim
 split at hk
 ·rename_i s
  split at hk
  ·rename_i heq
   obtain⟨lv,hk,hl⟩:=U4 hk ha
   obtain⟨hv,hk,hh⟩:=U4 hk ha
   obtain⟨⟨h0,h1,h2⟩,hk⟩:=hk
   have hu:P.underlying t=some .string:=(hty t _ heq).kind
   refine⟨_,hk,fun w=>?_⟩
   rw [fU hu (fun _ _ h=>by cases h)]
   have:=fW (P:=P) (isSlice:=false) (len:=s.size) (cap:=s.size) hl hh h0 h1 h2 (Nat.le_refl _) w
   simp [Instr.slice,underlying,hu,B0,A1,A0,this]
  ·exact hk.elim
 ·rename_i A c cap
  split at hk
  ·rename_i sz by_ ag ze e heq
   split at hk
   ·rename_i i hi
    obtain⟨lv,hk,hl⟩:=U4 hk ha
    obtain⟨hv,hk,hh⟩:=U4 hk ha
    obtain⟨⟨h0,h1,h2,h3⟩,hk⟩:=hk
    have hu:P.underlying t=some (.slice e):=(hty t _ heq).kind
    refine⟨_,hk,fun w=>?_⟩
    rw [fU hu (fun _ _ h=>by cases h)]
    have:=fW (P:=P) (isSlice:=true) hl hh h0 h1 h2 h3 w
    simp [Instr.slice,underlying,hu,B0,A1,A0,this,(hty e i hi).size w,Ff]
    omega
   ·exact hk.elim
  ·exact hk.elim
 ·rename_i k b c cap
  split at hk
  ·rename_i sz by_ ag ze e heq
   split at hk
   ·rename_i i hi
    have hu:P.underlying t=some (.slice e):=(hty t _ heq).kind
    have key:∀ hv:Int,((l=none∧(0:Int)=0)∨∃ x,l=some x∧a.eval x = .int .i64 0)→(h=none∧hv=c∨∃ x,h=some x∧a.eval x = .int .i64 hv)→0≤hv→hv≤c→c≤(cap:Int) →
     ∀ w:World,(Instr.sliceAt t (.slice (some ⟨b,0,none⟩) c.toNat cap) (l.map a.eval) (h.map a.eval) none).run P w = .ok (.slice (some ⟨b,0,none⟩) hv.toNat cap) w:=fun hv hl hh h0 h1 h2 w=>by
     rw [fU hu (fun _ _ h=>by cases h)]
     have:=fW (P:=P) (isSlice:=true) (len:=c.toNat) (cap:=cap) hl (hh.imp (fun⟨h1,h2⟩=>⟨h1,by omega⟩) id) (Int.le_refl 0) h0 (by omega) (by omega) w
     simp [Instr.slice,underlying,hu,this,(hty e i hi).size w,bT]
    split at hk
    ·obtain⟨hv,hk,hh⟩:=U4 hk ha
     obtain⟨⟨h0,h1,h2⟩,hk⟩:=hk
     exact⟨_,hk,fun w=>key hv (.inl ⟨rfl,rfl⟩) hh h0 h1 h2 w⟩
    ·obtain⟨hv,hk,hh⟩:=U4 hk ha
     obtain⟨⟨h0,h1,h2⟩,hk⟩:=hk
     exact⟨_,hk,fun w=>key hv (.inr ⟨_,rfl,rfl⟩) hh h0 h1 h2 w⟩
    ·obtain⟨lv,hk,hl⟩:=U4 hk ha
     obtain⟨hv,hk,hh⟩:=U4 hk ha
     obtain⟨⟨h0,h1,h2,h3⟩,hk⟩:=hk
     refine⟨_,hk,fun w=>?_⟩
     rw [fU hu (fun _ _ h=>by cases h)]
     have:=fW (P:=P) (isSlice:=true) (len:=c.toNat) (cap:=cap) hl (hh.imp (fun⟨h1,h2⟩=>⟨h1,by omega⟩) id) h0 h1 (by omega) (by omega) w
     have e1:hv.toNat-lv.toNat=(hv-lv).toNat:=by omega
     simp [Instr.slice,underlying,hu,this,(hty e i hi).size w,bT,B0,A1,A0,e1]
     split<;>simp
   ·exact hk.elim
  ·exact hk.elim
 ·exact hk.elim
theorem aI.get:∀ {fields:List Field} {fs:List (Nat×Option Nat)},aI P fields fs→∀ {j:Nat} {x:Nat×Option Nat},fs[j]?=some x→∃ f,fields[j]?=some f∧nD P f x
 |[],[],_,j,x,h=>by simp at h
 |f::r,y::q,hh,0,x,h=>by simp at h;exact⟨f,rfl,h▸hh.1⟩
 |f::r,y::q,hh,j+1,x,h=>by simpa using aI.get hh.2 (j:=j) (by simpa using h)
theorem jR(hty:H6 P ty){t j:Nat}{x:Nat×Option Nat}(h:fieldAt ty t j=some x):∃ fields,P.underlying t=some (.struct fields)∧∃ f,fields[j]?=some f∧nD P f x:=by
 unfold fieldAt at h
 split at h
 ·rename_i sz by_ ag ze fs heq
  obtain⟨fields,hu,hf⟩:=(hty t _ heq).kind
  obtain⟨f,h1,h2⟩:=hf.get h
  exact⟨fields,hu,f,by simpa using h1,h2⟩
 ·cases h
theorem dK{t j o:Nat}{n?:Option Nat}{fields:Array Field}{f:Field}(hu:P.underlying t=some (.struct fields))(hf:fields[j]?=some f)(ho:nD P f (o,n?))(b q:Nat)(w:World) :
 (Instr.fieldAt t (.pointer (some ⟨b,q,none⟩)) j).run P w = .ok (.pointer (some ⟨b,q+o,none⟩)) w:=by
 obtain⟨h1,h2,h3,h4⟩:=ho
 simp only at h1 h3 h4
 have hm:n?.getD 1≠0:=by cases n? with
  |none=>simp
  |some n=>simpa using h4
 simp [Instr.fieldAt,underlying,hu,hf,Instr.sureAddr,fieldPlace,h3,hm,h1,bT]
theorem oA(hty:H6 P ty){t j:Nat}{x:KV}(h:kT ty t x j κ):∃ kv,κ kv∧∀ w:World,(Instr.fieldAt t (B0 x) j).run P w = .ok (B0 kv) w:=by
 unfold kT at h
 split at h
 ·exact h.elim
 rename_i o n? heq
 obtain⟨fields,hu,f,hf,ho⟩:=jR hty heq
 split at h
 ·exact⟨_,h,fun w=>dK hu hf ho _ _ w⟩
 ·exact⟨_,h,fun w=>by have:=dK hu hf ho;simp only [B0,A1,A0,←Nat.add_assoc];exact this _ _ w⟩
 ·rename_i A sz i f'
  obtain⟨hA,h⟩:=h
  obtain⟨b,o',rfl⟩:=hA
  exact⟨_,h,fun w=>by have:=dK hu hf ho;simp only [B0,A1,A0,←Nat.add_assoc];exact this _ _ w⟩
 ·exact⟨_,h,fun w=>dK hu hf ho _ _ w⟩
 ·exact h.elim
theorem zN(hty:H6 P ty){t j:Nat}{x:KV}(h:Mi ty t x j κ):∃ kv,κ kv∧∀ w:World,(Instr.field t (B0 x) j).run P w = .ok (B0 kv) w:=by
 unfold Mi at h
 split at h
 ·exact h.elim
 rename_i o n? heq
 obtain⟨fields,hu,f,hf,h1,h2,h3,h4⟩:=jR hty heq
 simp only at h1 h2 h3
 split at h
 ·rename_i cs
  split at h
  ·rename_i n
   split at h
   ·rename_i l hl
    obtain⟨kv,hk,hd⟩:=Q4 h
    refine⟨kv,hk,fun w=>?_⟩
    obtain⟨rfl,h5,h6⟩:=bC hl
    have h7:=h3 w
    rw [hd]
    simp at h7
    simp [Instr.field,underlying,hu,hf,asAgg,part,h2,h7,h1,B0,A1]
   ·exact h.elim
  ·split at h
   ·rename_i l hl
    obtain⟨kv,hk,hd⟩:=Q4 h
    refine⟨kv,hk,fun w=>?_⟩
    obtain⟨rfl,h5,h6⟩:=bC hl
    have h8:(cs.map A0)[o]?=some (A0 cs[o]):=by rw [List.getElem?_map,List.getElem?_eq_getElem (by omega)];rfl
    have h9:((cs.drop o).take 1)=[cs[o]]:=by
     rw [List.drop_eq_getElem_cons (by omega)];rfl
    rw [h9] at hd
    rw [hd]
    simp only [Instr.field,B0,A1]
    simp only [Sem.run_bind]
    simp [underlying,hu,hf,asAgg,part,h2,h1]
    rw [List.getElem?_eq_getElem (by omega)]
    simp
   ·exact h.elim
 ·exact h.elim
theorem nX(hty:H6 P ty){t:Nat}{x ix:KV}(h:kP ty t x ix κ):∃ kv,κ kv∧∀ w:World,(Instr.indexAt t (B0 x) (B0 ix)).run P w = .ok (B0 kv) w:=by
 unfold kP at h
 split at h
 ·rename_i sz by_ ag ze e heq
  have hu:P.underlying t=some (.slice e):=(hty t _ heq).kind
  split at h
  ·rename_i i hi
   have hsz:=(hty e i hi).size
   split at h
   ·rename_i k n
    split at h
    ·rename_i A len cap
     obtain⟨⟨h0,h1⟩,hA,h⟩:=h
     refine⟨_,h,fun w=>?_⟩
     obtain⟨b,o,rfl⟩:=hA
     simp [Instr.indexAt,asIntOf,underlying,hu,B0,A1,A0,h0,h1,hsz,bT]
    ·rename_i k b len cap
     obtain⟨⟨h0,h1⟩,h⟩:=h
     refine⟨_,h,fun w=>?_⟩
     have:0≤n∧n<((len.toNat:Nat):Int):=by omega
     simp only [Instr.indexAt,B0,A1,A0]
     simp [asIntOf,underlying,hu,hsz,bT]
     omega
    ·exact h.elim
   ·exact h.elim
  ·exact h.elim
 ·rename_i sz by_ ag ze n0 e heq
  have hu:P.underlying t=some (.array n0 e):=(hty t _ heq).kind
  split at h
  ·rename_i i hi
   have hsz:=(hty e i hi).size
   split at h
   ·rename_i k n
    split at h
    ·rename_i k b
     obtain⟨⟨h0,h1⟩,h⟩:=h
     refine⟨_,h,fun w=>?_⟩
     simp [Instr.indexAt,Instr.sureAddr,asIntOf,underlying,hu,B0,A1,A0,h0,h1,hsz,bT]
    ·exact h.elim
   ·exact h.elim
  ·exact h.elim
 ·exact h.elim
theorem zG(hty:H6 P ty){t:Nat}{x ix:KV}(h:Bi ty t x ix κ):∃ kv,κ kv∧∀ w:World,(Instr.index t (B0 x) (B0 ix)).run P w = .ok (B0 kv) w:=by
 unfold Bi at h
 split at h
 ·rename_i sz by_ ag ze heq
  have hu:P.underlying t=some .string:=(hty t _ heq).kind
  split at h
  ·rename_i s k n
   obtain⟨⟨h0,h1⟩,h⟩:=h
   refine⟨_,h,fun w=>?_⟩
   have hlt:n.toNat<s.size:=by omega
   have e:s[n.toNat]?=some (s.data.toList.getD n.toNat 0):=by
    have:n.toNat<s.data.size:=hlt
    rw [getElem?_pos s n.toNat hlt]
    simp [ByteArray.getElem_eq_getElem_data,Array.getElem?_eq_getElem this]
   simp [Instr.index,asIntOf,underlying,hu,B0,A1,A0,h0,e,A4]
  ·exact h.elim
 ·rename_i sz by_ ag ze n0 e heq
  have hu:P.underlying t=some (.array n0 e):=(hty t _ heq).kind
  split at h
  ·rename_i by2 ze2 k2 hi
   have hsz:=(hty e _ hi).size
   have hag:=(hty e _ hi).agg
   split at h
   ·rename_i cs k j
    split at h
    ·rename_i hb
     have hlt:j<n0:=by simpa using hb
     split at h
     ·rename_i l hl
      obtain⟨kv,hk,hd⟩:=Q4 h
      refine⟨kv,hk,fun w=>?_⟩
      obtain⟨rfl,h5,h6⟩:=bC hl
      have h9:((cs.drop j).take 1)=[cs[j]'(by omega)]:=by
       rw [List.drop_eq_getElem_cons (by omega)];rfl
      rw [h9] at hd
      rw [hd]
      have h7:=hag w
      have h8:=hsz w
      simp at h7 h8
      simp [Instr.index,asIntOf,underlying,hu,B0,A1,A0,hlt,part,h7,h8]
      rw [List.getElem?_eq_getElem (by omega)]
      simp only [Option.map_some]
      generalize cs[j]=u
      cases u with
      |xel A sz i f=>cases A<;>rfl
      |_=>rfl
     ·exact h.elim
    ·exact h.elim
   ·exact h.elim
  ·exact h.elim
 ·exact h.elim
theorem Vh(hty:H6 P ty){t:Nat}{x:KV}(h:AF ty t x κ):∃ kv,κ kv∧∀ (r:Nat) (w:World),(Builtin.len_ #[t] r #[B0 x]).run P w = .ok (B0 kv) w:=by
 unfold AF at h
 split at h
 ·rename_i sz by_ ag ze heq
  have hu:P.underlying t=some .string:=(hty t _ heq).kind
  split at h
  ·exact⟨_,h,fun r w=>by simp [Builtin.len_,underlying,hu,B0,A1,A0,goInt]⟩
  ·exact h.elim
 ·rename_i sz by_ ag ze e heq
  have hu:P.underlying t=some (.slice e):=(hty t _ heq).kind
  split at h
  ·exact⟨_,h,fun r w=>by simp [Builtin.len_,underlying,hu,B0,A1,A0,goInt]⟩
  ·obtain⟨h0,h⟩:=h
   exact⟨_,h,fun r w=>by simp [Builtin.len_,underlying,hu,B0,A1,A0,goInt];omega⟩
  ·obtain⟨h0,h⟩:=h
   exact⟨_,h,fun r w=>by simp [Builtin.len_,underlying,hu,B0,A1,A0,goInt];omega⟩
  ·exact h.elim
 ·exact h.elim
theorem lR{P:Program}(w:World)(b:Nat)(vs:List Value)(h:∀ j v,vs[j]?=some v→K5 w.heap b j=some v):(loadCells ⟨b,0,none⟩ vs.length).run P w = .ok vs.toArray w:=by
 have:=Z6 (P:=P) w b 0 vs 0 #[] (fun j v hj=>by rw [Nat.zero_add,Nat.zero_add];exact h j v hj)
 simpa [loadCells] using this
theorem HS.ints{h:A3}(hs:HS S h){k b T cap:Nat}{ik:IntKind}{xs:List Int}(hf:B3 S.ch k=some (b,.arr T (E9 ik) xs cap)){n:Nat}(hn:n≤xs.length):∀ j v,((xs.take n).map (Value.int ik))[j]?=some v→K5 h b j=some v:=by
 intro j v hj
 have hj':j<n:=by
  have:=(List.getElem?_eq_some_iff.1 hj).1
  rw [List.length_map,List.length_take] at this
  omega
 rw [List.getElem?_map,List.getElem?_take_of_lt hj',List.getElem?_eq_getElem (by omega)] at hj
 have:=hs.arr hf (i:=j) (j:=0) (show j<xs.length by omega) (v:=v) (by
  have e:xs.getD j 0=xs[j]:=by simp [List.getD,List.getElem?_eq_getElem (show j<xs.length by omega)]
  show [Value.int ik (xs.getD j 0)][0]?=some v
  rw [e];simpa using hj)
 rw [show (E9 ik).sz=1 from rfl] at this
 simpa using this
theorem Si{src dst e k b T c cap:Nat}{n:Int}{xs:List Int}(hs:P.underlying src=some (.slice e))(hd:P.underlying dst=some .string)(he:P.underlying e=some (.int .u8))
 (hf:B3 S.ch k=some (b,.arr T (E9 .u8) xs cap)) (h0:0≤n) (h1:n≤xs.length) (w:World) (hw:HS S w.heap):(convert src dst (B0 (.osl k b n c))).run P w = .ok (B0 (.val (.string (AT (xs.take n.toNat))))) w:=by
 have hl:(xs.take n.toNat).length=n.toNat:=by rw [List.length_take];omega
 have:=lR (P:=P) w b ((xs.take n.toNat).map (Value.int .u8)) (hw.ints hf (by omega))
 rw [List.length_map,hl] at this
 have hr:=run_bytesToString (P:=P) w ⟨b,0,none⟩ n.toNat c (xs.take n.toNat) this
 simp [convert,underlying,hs,hd,he,B0,A1,A0,hr,AT]
theorem Ke(hty:H6 P ty){src dst:Nat}{x:KV}(h:Zu ty src dst x S κ):∃ kv,κ kv∧∀ w:World,HS S w.heap→(convert src dst (B0 x)).run P w = .ok (B0 kv) w:=by
 unfold Zu at h
 split at h
 ·exact h.elim
 ·rename_i sz by_ ag ze e heq
  have hs:P.underlying src=some (.slice e):=(hty src _ heq).kind
  split at h
  ·rename_i sz2 by2 ag2 ze2 heq2
   have he:P.underlying e=some (.int .u8):=(hty e _ heq2).kind
   split at h
   ·rename_i sz3 by3 ag3 ze3 heq3
    have hd:P.underlying dst=some .string:=(hty dst _ heq3).kind
    split at h
    ·rename_i k b n c
     split at h
     ·rename_i b' τ T R xs c' hf
      obtain⟨⟨rfl,h0,h1⟩,⟨h⟩⟩:=h
      exact⟨_,h,fun w hw=>Si hs hd he hf h0 h1 w hw⟩
     ·exact h.elim
    ·exact⟨_,h,fun w hw=>by simp [convert,underlying,hs,hd,he,B0,A1,A0,Conv.bytesToString]⟩
    ·exact h.elim
   ·exact h.elim
  ·exact h.elim
 ·rename_i i hno hi
  obtain⟨d,hd⟩:=Option.isSome_iff_exists.1 (hty src _ hi).some_
  split at h
  ·rename_i sz by_ ag ze k heq
   have hu:P.underlying dst=some (.int k):=(hty dst _ heq).kind
   split at h
   ·obtain⟨mm,h,h1⟩:=dA h
    exact⟨_,h,fun w _=>by simp [convert,underlying,hd,hu,B0,A1,A0,Conv.intToInt,h1]⟩
   ·exact h.elim
  ·rename_i sz by_ ag ze heq
   have hu:P.underlying dst=some .string:=(hty dst _ heq).kind
   split at h
   ·exact⟨_,h,fun w _=>by simp [convert,underlying,hd,hu,B0,A1,A0]⟩
   ·exact⟨_,h,fun w _=>by simp [convert,underlying,hd,hu,B0,A1,A0,Conv.intToString]⟩
   ·exact h.elim
  ·exact h.elim
theorem eS{α β:Type}(g:α→β):∀ (f:Nat) (xs l r:List α),K2 f xs l=some r→K2 f (xs.map g) (l.map g)=some (r.map g)
 |0,[],l,r,h=>by simp [K2] at h;simp [K2,h]
 |0,x::xs,[],r,h=>by simp [K2] at h
 |0,x::xs,y::l,r,h=>by
  simp only [K2] at h
  cases hr:K2 0 xs l with
  |none=>simp [hr] at h
  |some q=>simp [hr] at h;subst h;simp [K2,eS g 0 xs l q hr]
 |n+1,xs,[],r,h=>by simp [K2] at h
 |n+1,xs,y::l,r,h=>by
  simp only [K2] at h
  cases hr:K2 n xs l with
  |none=>simp [hr] at h
  |some q=>simp [hr] at h;subst h;simp [K2,eS g n xs l q hr]
theorem tE(o:Nat):∀ (xs:List Value) (k:Nat) (acc:Array Value),o+k+xs.length≤acc.size →
 ((xs.zipIdx k).foldl (fun (cs:Array Value) (x:Value×Nat)=>cs.setIfInBounds (o+x.2) x.1) acc).size=acc.size ∧
 ∀ j,((xs.zipIdx k).foldl (fun (cs:Array Value) (x:Value×Nat)=>cs.setIfInBounds (o+x.2) x.1) acc)[j]?=if o+k≤j∧j<o+k+xs.length then xs[j-(o+k)]? else acc[j]?
 |[],k,acc,hl=>⟨rfl,fun j=>by simp;intro h1 h2;omega⟩
 |x::xs,k,acc,hl=>by
  simp only [List.length_cons] at hl
  obtain⟨h1,h2⟩:=tE o xs (k+1) (acc.setIfInBounds (o+k) x) (by rw [Array.size_setIfInBounds];omega)
  simp only [List.zipIdx_cons,List.foldl_cons,List.length_cons]
  refine⟨by rw [h1];simp,fun j=>?_⟩
  rw [h2 j]
  by_cases hj:o+(k+1)≤j∧j<o+(k+1)+xs.length
  ·rw [if_pos hj,if_pos (by omega),show j-(o+k)=(j-(o+(k+1)))+1 by omega];rfl
  ·rw [if_neg hj]
   by_cases he:j=o+k
   ·subst he;rw [if_pos (by omega)];rw [Array.getElem?_setIfInBounds_self_of_lt (by omega)];simp
   ·rw [if_neg (by omega),Array.getElem?_setIfInBounds_ne (by omega)]
theorem wZ{f:Nat}{xs l r:List Value}(h:K2 f xs l=some r):(xs.zipIdx.foldl (fun (cs:Array Value) (x:Value×Nat)=>cs.setIfInBounds (f+x.2) x.1) l.toArray)=r.toArray:=by
 obtain⟨h1,h2⟩:=Y5 _ _ _ _ h
 obtain⟨h3,h4⟩:=tE f xs 0 l.toArray (by simpa using h2)
 refine Array.ext_getElem? fun j=>?_
 rw [h4 j]
 have:=eU _ _ _ _ h j
 simpa using this.symm
theorem qQ{v:KV}{κ:KV→Prop}(h:Vy v κ):κ v∧B0 v=A0 v∧(A0 v).cells = #[A0 v]:=by
 unfold Vy at h
 split at h<;>first|exact⟨h,rfl,rfl⟩|exact h.elim
end
section
variable {P:Program}{ty:Nat→Option gS}{S:St}{K:Kn}{κ:KV→Prop}
theorem aI.info:∀ {fields:List Field} {fs:List (Nat×Option Nat)},aI P fields fs→fields.mapM (fun f=>(P.info? f.type).map fun i=>(f.offset,i.size))=some (fs.map fun x=>(x.1,x.2.getD 1))
 |[],[],_=>rfl
 |f::r,x::y,h=>by
  obtain⟨⟨h1,h2,h3,h4⟩,h5⟩:=h
  have h6:=h3 default
  simp only [sizeOf,typeInfo] at h6
  cases hi:P.info? f.type with
  |none=>simp [hi,stuck,Sem.run] at h6
  |some i=>
   simp [hi] at h6
   simp [List.mapM_cons,hi,aI.info h5,h1,h6]
theorem Z7{fa:Nat→Option (Nat×Option Nat)}{pl:Nat→Option (Nat×Nat)}(hf:∀ j x,fa j=some x→pl j=some (x.1,x.2.getD 1)){n:Nat}{a:Act}(ha:H9 Df n a K):∀ (parts:List (Nat×Operand)) (l:List KV) (q:List KV→Prop),kJ fa K parts l q →
 ∃ r,q r∧Instr.fill pl (l.map A0).toArray (parts.map fun (i,x)=>(i,a.eval x))=some (r.map A0).toArray
 |[],l,q,h=>⟨l,h,rfl⟩
 |(j,x)::r,l,q,h=>by
  simp only [kJ] at h
  split at h
  ·rename_i o heq
   split at h
   ·rename_i v hv
    split at h
    ·rename_i l' hl
     obtain⟨h,hd,hcs⟩:=qQ h
     obtain⟨res,hq,hfill⟩:=Z7 hf ha r l' q h
     refine⟨res,hq,?_⟩
     have hj:=hf j _ heq
     have h1:=eS A0 _ _ _ _ hl
     have h2:=Y5 _ _ _ _ h1
     have h3:=wZ h1
     simp only [List.map_cons,List.map_nil,List.length_cons,List.length_nil] at h2 h3
     simp only [List.map_cons,ha.eval hv]
     simp only [Instr.fill,hj]
     rw [hd]
     simp only [Option.getD_none,hcs]
     rw [if_neg (by simp only [List.length_map] at h2;simp;omega)]
     rw [show #[A0 v].zipIdx.foldl (fun (cs:Array Value) (x:Value×Nat)=>cs.setIfInBounds (o+x.2) x.1) (List.map A0 l).toArray=(List.map A0 l').toArray from by simpa using h3]
     simpa using hfill
    ·exact h.elim
   ·exact h.elim
  ·rename_i o m heq
   split at h
   ·rename_i cs hv
    split at h
    ·rename_i l' hl
     obtain⟨hm,h⟩:=h
     obtain⟨res,hq,hfill⟩:=Z7 hf ha r l' q h
     refine⟨res,hq,?_⟩
     have hj:=hf j _ heq
     have h1:=eS A0 _ _ _ _ hl
     have h2:=Y5 _ _ _ _ h1
     have h3:=wZ h1
     simp only [List.map_cons,ha.eval hv]
     simp only [Instr.fill,hj,Option.getD_some,B0,A1]
     have hs:(Value.agg (List.map A0 cs).toArray).cells=(List.map A0 cs).toArray:=rfl
     simp only [hs]
     rw [if_neg (by simp at h2;simp [hm];omega)]
     rw [show (List.map A0 cs).toArray.zipIdx.foldl (fun (cs:Array Value) (x:Value×Nat)=>cs.setIfInBounds (o+x.2) x.1) (List.map A0 l).toArray=(List.map A0 l').toArray from by simpa using h3]
     simpa using hfill
    ·exact h.elim
   ·exact h.elim
  ·exact h.elim
end
end Go.Ex
