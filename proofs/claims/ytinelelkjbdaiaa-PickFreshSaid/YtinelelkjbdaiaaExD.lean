/-
  The engine, part 4: an operation that only reads.
-/
import Derived.Test.YtinelelkjbdaiaaExC
namespace Go.Ex
set_option linter.unusedVariables false
set_option linter.unusedSimpArgs false
section
variable {P : Program} {ty : Nat → Option TyI} {S : St} {K : Kn} {κ : KV → Prop}

theorem run_v {s : Sem Value} {w w' : World} {v : Value} (h : s.run P w = .ok v w') : (do pure (Next.value (← s)) : Sem Next).run P w = .ok (.value v) w' := by
  simp [h]
theorem caps_sound {n : Nat} {a : Act} (ha : Good n a K) (f : Nat) : ∀ (caps : List Operand) (acc : List KV), opQ.capsK K f caps acc κ → ∃ cs : List KV, κ (.fn f cs) ∧ cs.map denC = acc.reverse.map denC ++ caps.map a.eval
  | [], acc, h => ⟨_, h, by simp⟩
  | x :: r, acc, h => by
    simp only [opQ.capsK] at h
    split at h
    · rename_i k b j hx
      obtain ⟨cs, h1, h2⟩ := caps_sound ha f r _ h
      exact ⟨cs, h1, by rw [h2]; simp [ha.eval hx, den, den1]⟩
    · rename_i v hx
      obtain ⟨cs, h1, h2⟩ := caps_sound ha f r _ h
      exact ⟨cs, h1, by rw [h2]; simp [ha.eval hx, den, den1]⟩
    · exact h.elim
theorem fk1_iff {v : KV} {κ : KV → Prop} (h : fk1 v κ) : κ v ∧ den v = den1 v := by
  unfold fk1 at h
  split at h
  · exact h.elim
  · rename_i hv
    refine ⟨fk_iff h, ?_⟩
    cases v <;> first | rfl | exact absurd rfl (hv _)
def isLoad : Op → Bool
  | .load .. => true
  | .convert .. => true
  | _ => false
theorem nilK_sound {v : KV} (h : nilK v κ) : ∃ kv, κ kv ∧ ∃ x, den v = .pointer (some x) ∧ den kv = .pointer (some x) := by
  unfold nilK at h
  split at h
  · exact ⟨_, h, _, rfl, rfl⟩
  · exact ⟨_, h, _, rfl, rfl⟩
  · exact ⟨_, h, _, rfl, rfl⟩
  · exact ⟨_, h, _, rfl, rfl⟩
  · exact h.elim
theorem valsOf_sound : ∀ {cs : List KV} {vs : List Value}, valsOf cs = some vs → cs.map denC = vs
  | [], vs, h => by cases h; rfl
  | .val v :: r, vs, h => by
    simp only [valsOf] at h
    split at h
    · rename_i l hl; cases h; simp [denC, valsOf_sound hl]
    · cases h
  | .prop _ :: _, _, h => by simp [valsOf] at h
  | .own .. :: _, _, h => by simp [valsOf] at h
  | .elt .. :: _, _, h => by simp [valsOf] at h
  | .osl .. :: _, _, h => by simp [valsOf] at h
  | .osv .. :: _, _, h => by simp [valsOf] at h
  | .xel .. :: _, _, h => by simp [valsOf] at h
  | .fn .. :: _, _, h => by simp [valsOf] at h
  | .agg .. :: _, _, h => by simp [valsOf] at h
  | .tup .. :: _, _, h => by simp [valsOf] at h
theorem ifaceK_sound {t : Nat} {v : KV} (h : ifaceK t v κ) : ∃ kv, κ kv ∧ den kv = .iface t (den v) := by
  unfold ifaceK at h
  split at h
  · exact ⟨_, h, rfl⟩
  · split at h
    · rename_i vs hvs; exact ⟨_, h, by simp [den, den1, denC, valsOf_sound hvs]⟩
    · exact h.elim
  · exact h.elim
theorem opQ_sound (hty : TysOk P ty) {o : Oper} (h : opQ P ty o K S κ) {n : Nat} {a : Act} (ha : Good n a K) :
    ∃ kv, κ kv ∧ ∀ w : World, (isLoad o.op = true → HS S w.heap) → (execOp a.eval o).run P w = .ok (.value (den kv)) w := by
  obtain ⟨dst, op, type, pos, after, guard⟩ := o
  simp only [opQ] at h
  split at h
  -- move
  · split at h
    · rename_i v hv; exact ⟨v, fk_iff h, fun w hs => by simp [execOp, ha.eval hv]⟩
    · exact h.elim
  -- assign
  · split at h
    · rename_i v hv; exact ⟨v, fk_iff h, fun w hs => by simp [execOp, ha.eval hv]⟩
    · exact h.elim
  -- pick
  · split at h
    · rename_i hc
      split at h
      · rename_i v hv; exact ⟨v, fk_iff h, fun w hs => by simp [execOp, ha.eval hv, ha.eval hc, den, den1, denC, asBool]⟩
      · exact h.elim
    · rename_i hc
      split at h
      · rename_i v hv; exact ⟨v, fk_iff h, fun w hs => by simp [execOp, ha.eval hv, ha.eval hc, den, den1, denC, asBool]⟩
      · exact h.elim
    · rename_i p hc
      split at h
      · rename_i v hv
        split at h
        · rename_i u hu
          by_cases hp : p
          · exact ⟨v, fk_iff (h.yes hp), fun w hs => by simp [execOp, ha.eval hv, ha.eval hc, den, den1, denC, asBool, hp]⟩
          · exact ⟨u, fk_iff (h.no hp), fun w hs => by simp [execOp, ha.eval hu, ha.eval hc, den, den1, denC, asBool, hp]⟩
        · exact h.elim
      · exact h.elim
    · exact h.elim
  -- load
  · split at h
    · rename_i v hv
      obtain ⟨kv, h1, h2⟩ := loadK_sound hty h
      exact ⟨kv, h1, fun w hs => run_v (by rw [ha.eval hv]; exact h2 w (hs rfl))⟩
    · exact h.elim
  -- binOp
  · split at h
    · rename_i u hu
      split at h
      · rename_i v hv
        obtain ⟨kv, h1, h2⟩ := binK_sound h
        refine ⟨kv, h1, fun w hs => ?_⟩
        simp only [execOp]
        refine run_v ?_
        rw [ha.eval hu, ha.eval hv]
        exact h2 _ _ w
      · exact h.elim
    · exact h.elim
  -- not
  · split at h
    · rename_i v hv
      obtain ⟨kv, h1, h2⟩ := notK_sound h
      exact ⟨kv, h1, fun w hs => run_v (by rw [ha.eval hv]; exact h2 w)⟩
    · exact h.elim
  -- neg
  · split at h
    · rename_i k m hv
      obtain ⟨mm, h2, h1⟩ := fits_sound h
      exact ⟨_, h2, fun w hs => run_v (by rw [ha.eval hv]; simp [den, den1, denC, Op.unary, Op.intArith] at h1 ⊢; exact h1)⟩
    · exact h.elim
  -- convert
  · split at h
    · rename_i v hv
      obtain ⟨kv, h1, h2⟩ := convK_sound hty h
      exact ⟨kv, h1, fun w hs => run_v (by rw [ha.eval hv]; exact h2 w (hs rfl))⟩
    · exact h.elim
  -- slice
  · split at h
    · rename_i v hv
      obtain ⟨kv, h1, h2⟩ := sliceK_sound hty h ha
      exact ⟨kv, h1, fun w hs => run_v (by rw [ha.eval hv]; exact h2 w)⟩
    · exact h.elim
  -- fieldAddr
  · split at h
    · rename_i v hv
      obtain ⟨kv, h1, h2⟩ := fieldAddrK_sound hty h
      exact ⟨kv, h1, fun w hs => run_v (by rw [ha.eval hv]; exact h2 w)⟩
    · exact h.elim
  -- field
  · split at h
    · rename_i v hv
      obtain ⟨kv, h1, h2⟩ := fieldK_sound hty h
      exact ⟨kv, h1, fun w hs => run_v (by rw [ha.eval hv]; exact h2 w)⟩
    · exact h.elim
  -- indexAddr
  · split at h
    · rename_i v hv
      split at h
      · rename_i i hi
        obtain ⟨kv, h1, h2⟩ := indexAddrK_sound hty h
        exact ⟨kv, h1, fun w hs => run_v (by rw [ha.eval hv, ha.eval hi]; exact h2 w)⟩
      · exact h.elim
    · exact h.elim
  -- index
  · split at h
    · rename_i v hv
      split at h
      · rename_i i hi
        obtain ⟨kv, h1, h2⟩ := indexK_sound hty h
        exact ⟨kv, h1, fun w hs => run_v (by rw [ha.eval hv, ha.eval hi]; exact h2 w)⟩
      · exact h.elim
    · exact h.elim
  -- extract
  · split at h
    · rename_i vs hv
      split at h
      · rename_i v hj
        obtain ⟨h1, h2⟩ := fk1_iff h
        exact ⟨v, h1, fun w hs => run_v (by rw [ha.eval hv, h2]; simp [Instr.extract, den, hj])⟩
      · exact h.elim
    · exact h.elim
  -- build
  · split at h
    · rename_i sz by_ zero fs heq
      have ht := hty _ _ heq
      obtain ⟨fields, hu, hf⟩ := ht.kind
      obtain ⟨x, hx, hz, _, _⟩ := ht.parts
      obtain ⟨r, hq, hfill⟩ := partsK_sound (fs := fs) (fun j => by simp only [fieldAt, heq]) ha _ _ _ h
      refine ⟨_, fkl_iff hq, fun w hs => run_v ?_⟩
      refine run_build w _ _ _ ?_
      simp only [Program.built, hx, hu, hz, hf.info]
      rw [lits_map] at hfill
      simpa [zeroV, Value.cells] using hfill
    · exact h.elim
  -- len
  · split at h
    · rename_i v hv
      obtain ⟨kv, h1, h2⟩ := lenK_sound hty h
      exact ⟨kv, h1, fun w hs => by simp [execOp, resolve, invoke, builtin, ha.eval hv, h2]⟩
    · exact h.elim
  -- max
  · split at h
    · rename_i k x hx
      split at h
      · rename_i k' y hy
        refine ⟨_, h, fun w hs => ?_⟩
        simp [execOp, resolve, invoke, builtin, ha.eval hx, ha.eval hy, Builtin.max_, Builtin.max2, den, den1, denC]
        split <;> omega
      · exact h.elim
    · exact h.elim
  -- min
  · split at h
    · rename_i k x hx
      split at h
      · rename_i k' y hy
        refine ⟨_, h, fun w hs => ?_⟩
        simp [execOp, resolve, invoke, builtin, ha.eval hx, ha.eval hy, Builtin.min_, Builtin.min2, den, den1, denC]
        split <;> omega
      · exact h.elim
    · exact h.elim
  -- makeFunc
  · obtain ⟨cs, h1, h2⟩ := caps_sound ha _ _ _ h
    refine ⟨_, h1, fun w hs => ?_⟩
    simp [execOp, Instr.makeFunc, den, den1, h2]
    exact Array.ext' (by simp)
  -- a bound method
  · split at h
    · rename_i hv
      refine ⟨_, h, fun w hs => ?_⟩
      simp [execOp, Instr.makeFunc, ha.eval hv, den, den1, denC]
    · exact h.elim
  -- nilCheck
  · split at h
    · rename_i v hv
      obtain ⟨kv, h1, x, h2, h3⟩ := nilK_sound h
      refine ⟨kv, h1, fun w hs => ?_⟩
      simp only [execOp, ha.eval hv, h2, h3]
      rfl
    · exact h.elim
  -- makeInterface
  · rename_i t x
    split at h
    · rename_i heq
      obtain ⟨e, hu⟩ := (hty _ _ heq).kind
      split at h
      · rename_i v hv
        obtain ⟨kv, h1, h2⟩ := ifaceK_sound h
        exact ⟨kv, h1, fun w hs => run_v (by rw [ha.eval hv]; simp [Instr.makeInterface, underlying, hu, h2])⟩
      · exact h.elim
    · rename_i heq
      obtain ⟨e, hu, _⟩ := (hty _ _ heq).kind
      split at h
      · rename_i v hv
        obtain ⟨kv, h1, h2⟩ := ifaceK_sound h
        exact ⟨kv, h1, fun w hs => run_v (by rw [ha.eval hv]; simp [Instr.makeInterface, underlying, hu, h2])⟩
      · exact h.elim
    · exact h.elim
  -- typeAssert
  · rename_i x xt t
    split at h
    · rename_i heq
      obtain ⟨e, hu, _⟩ := (hty _ _ heq).kind
      split at h
      · rename_i t' vs hv
        split at h
        · rename_i ht
          have := nat_beq_true ht
          subst this
          refine ⟨_, h, fun w hs => run_v ?_⟩
          rw [ha.eval hv]
          simp [Instr.typeAssert, underlying, hu, den, den1, denC, lits_map]
        · exact h.elim
      · exact h.elim
    · exact h.elim
  · exact h.elim
end
end Go.Ex
