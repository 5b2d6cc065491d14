/-
  Span: the edits that come in, read as a list.
-/
import Derived.Test.YtckodkjaiopmoaaSpM
import Derived.ProofKit
import Derived.Deep.Strs
namespace Go.Ex
open Go.Proofs Go.ChangeShapes Go.WideShapes Go.Deep Go.RowKit
set_option linter.unusedVariables false

theorem st36 : ∃ f0 f1 f2, Try.prog.underlying 36 = some (.struct #[f0, f1, f2]) ∧ f0.type = 3 ∧ f0.offset = 0 ∧ f1.type = 3 ∧ f1.offset = 1 ∧ f2.type = 9 ∧ f2.offset = 2 := ⟨_, _, _, Try.underlying36, rfl, rfl, rfl, rfl, rfl, rfl⟩
theorem cells36 : Try.prog.cellsOf 36 = 3 := by kernel_rfl
theorem cells3 : Try.prog.cellsOf 3 = 1 := by kernel_rfl
theorem cells9 : Try.prog.cellsOf 9 = 1 := by kernel_rfl
def edAt (h : Heap) (b o : Nat) : Ed := match hcell h b o, hcell h b (o + 1), hcell h b (o + 2) with
  | some (.int .i64 f), some (.int .i64 t), some (.string s) => ⟨f, t, s⟩
  | _, _, _ => ⟨0, 0, ⟨#[]⟩⟩
theorem cell_h {w : World} {a : Addr} {v : Value} (h : w.cell? a = some v) : a.spot = none ∧ hcell w.heap a.block a.off = some v ∧ a.block < w.heap.size := by
  unfold World.cell? at h
  unfold hcell
  split at h
  · rename_i c _ _ hc
    split at h
    · cases h
    · rename_i hs
      refine ⟨by cases hsp : a.spot <;> simp_all, by rw [hc]; exact h, ?_⟩
      exact (Array.getElem?_eq_some_iff.1 hc).1
  · cases h
theorem add_block (a : Addr) (n : Nat) : (a.add n).block = a.block ∧ (a.add n).off = a.off + n := by
  unfold Addr.add
  split
  · rename_i h; subst h; exact ⟨rfl, rfl⟩
  · exact ⟨rfl, rfl⟩
theorem edAt_of {h : Heap} {b o : Nat} {f t : Int} {s : ByteArray} (h0 : hcell h b o = some (.int .i64 f)) (h1 : hcell h b (o + 1) = some (.int .i64 t)) (h2 : hcell h b (o + 2) = some (.string s)) : edAt h b o = ⟨f, t, s⟩ := by
  simp only [edAt, h0, h1, h2]
theorem bytes36 : Try.prog.bytesOf 36 = 32 := by kernel_rfl
theorem weights_mem_all {H : Type} {P : Program} {e : TypeId} {n : Nat} : ∀ {ds : List (DataW H)} {d : DataW H}, d ∈ ds → n ∈ d.weights P e → n ∈ DataW.weightsAll P e ds
  | [], d, h, _ => by simp at h
  | c :: r, d, h, hn => by
    simp only [DataW.weightsAll, List.mem_append]
    rcases List.mem_cons.1 h with rfl | h
    · exact .inl hn
    · exact .inr (weights_mem_all h hn)
theorem weights_str3 {H : Type} {P : Program} {t : TypeId} {f0 f1 f2 : Field} (hu : P.underlying t = some (.struct #[f0, f1, f2])) {d0 d1 : DataW H} {b : List UInt8} {n : Nat} (hn : b.length = n) : n ∈ (DataW.agg [d0, d1, .lit (.string b)]).weights P t := by
  subst hn
  simp [DataW.weights, hu, DataW.weightsEach]
set_option maxRecDepth 10000 in
theorem eds_open {H : Type} {enc : TypeId × Value → H} {w : World} {base : Nat} {spare : Nat → Bool} {held : Bool} {v : Value} {d : DataW H} {p : List MemPlace} {fuel : Nat}
    (h : DataW.trod enc Try.prog w base spare held fuel 22 [v] = some (d, p)) : ∃ A len cap L, v = .slice A len cap ∧ Sl edR w.heap A len L ∧ (∀ x ∈ L, x.s.size ∈ d.weights Try.prog 22) ∧ (len = 0 ∨ ∃ n ∈ d.weights Try.prog 22, len * 32 ≤ n) := by
  rcases open_slice Try.underlying22 h with ⟨h0, _⟩ | ⟨a, len, cap, m, n, D, Pl, hcs, hb, hl, hm, hmm, hx, hi⟩
  · simp only [List.cons.injEq, and_true] at h0
    exact ⟨none, 0, 0, [], h0, Sl.nil _ _ _, by simp, .inl rfl⟩
  · simp only [List.cons.injEq, and_true] at hcs
    have hml : len ≤ m := by rw [hmm]; split <;> omega
    obtain ⟨f0, f1, f2, hu, g0, g1, g2, g3, g4, g5⟩ := st36
    have key : ∀ i, i < len → (i = 0 → a.spot = none) ∧ a.block < w.heap.size ∧ ∃ f t s, hcell w.heap a.block (a.off + i * 3) = some (.int .i64 f) ∧ hcell w.heap a.block (a.off + i * 3 + 1) = some (.int .i64 t) ∧ hcell w.heap a.block (a.off + i * 3 + 2) = some (.string s) ∧ s.size ∈ (D i).weights Try.prog 36 := by
      intro i hil
      obtain ⟨cs, hc, ht⟩ := hi i (by omega)
      rw [cells36] at hc
      obtain ⟨y0, y1, y2, n', hy, hlen, e0, e1, e2⟩ := trod_struct3 hu ht
      rw [g0, g1, cells3] at e0
      rw [g2, g3, cells3] at e1
      rw [g4, g5, cells9] at e2
      rw [cells36] at hlen
      obtain ⟨_, hcl, hat⟩ := World.cells?_some hc
      match cs, hlen with
      | [c0, c1, c2], _ =>
        simp only [List.drop_zero, List.take_succ_cons, List.take_zero, List.drop_succ_cons] at e0 e1 e2
        obtain ⟨z0, q0, _, _⟩ := DataW.trod_int Try.underlying3 e0
        obtain ⟨z1, q1, _, _⟩ := DataW.trod_int Try.underlying3 e1
        obtain ⟨z2, q2, q4, _⟩ := DataW.trod_string Try.underlying9 e2
        have q3 : z2.size ∈ (D i).weights Try.prog 36 := by
          have hD : D i = .agg [y0.1, y1.1, y2.1] := congrArg Prod.fst hy
          rw [hD, q4]
          exact weights_str3 hu rfl
        simp only [List.cons.injEq, and_true] at q0 q1 q2
        subst q0 q1 q2
        have r0 := hat 0 (by omega)
        have r1 := hat 1 (by omega)
        have r2 := hat 2 (by omega)
        rw [Go.Deep.add_add] at r0 r1 r2
        obtain ⟨s0, t0, u0⟩ := cell_h r0
        obtain ⟨_, t1, _⟩ := cell_h r1
        obtain ⟨_, t2, _⟩ := cell_h r2
        rw [(add_block _ _).1, (add_block _ _).2] at t0 t1 t2
        rw [(add_block _ _).1] at u0
        refine ⟨fun h => ?_, u0, z0, z1, z2, t0, by rw [← t1, Nat.add_assoc], by rw [← t2, Nat.add_assoc], q3⟩
        subst h
        exact s0
    refine ⟨some a, len, cap, (List.range len).map fun i => edAt w.heap a.block (a.off + i * 3), hcs, ⟨by simp, by simp only [maxLen] at hm; omega, fun h0 => ?_⟩, ?_, ?_⟩
    · have hs := (key 0 h0).1 rfl
      refine ⟨a.block, a.off, by obtain ⟨x, y, z⟩ := a; simp only at hs; subst hs; rfl, (key 0 h0).2.1, fun i hil j v hv => ?_⟩
      obtain ⟨_, _, f, t, s, k0, k1, k2, _⟩ := key i hil
      have e : ((List.range len).map fun i => edAt w.heap a.block (a.off + i * 3)).getD i edR.dflt = ⟨f, t, s⟩ := by
        simp only [List.getD, List.getElem?_map, List.getElem?_range hil, Option.map_some, Option.getD_some]
        exact edAt_of k0 k1 k2
      rw [e] at hv
      show hcell w.heap a.block (a.off + i * 3 + j) = some v
      match j, hv with
      | 0, hv => simp [edR] at hv; subst hv; exact k0
      | 1, hv => simp [edR] at hv; subst hv; exact k1
      | 2, hv => simp [edR] at hv; subst hv; exact k2
      | j + 3, hv => simp [edR] at hv
    · intro x hxx
      obtain ⟨i, hi', rfl⟩ := List.mem_map.1 hxx
      obtain ⟨_, _, f, t, s, k0, k1, k2, k3⟩ := key i (by simpa using hi')
      have hd := congrArg Prod.fst hx
      dsimp only at hd
      rw [edAt_of k0 k1 k2, hd]
      simp only [DataW.weights, Try.underlying22, List.mem_cons, List.mem_append]
      exact .inr (.inl (weights_mem_all (List.mem_map.2 ⟨i, hi', rfl⟩) k3))
    · right
      have hd := congrArg Prod.fst hx
      dsimp only at hd
      rw [hd]
      simp only [DataW.weights, Try.underlying22, List.mem_cons, List.mem_append]
      exact ⟨_, .inl rfl, by rw [bytes36]; simp only [List.length_map, List.length_range]; exact Nat.mul_le_mul (Nat.le_add_right _ _) (Nat.le_refl _)⟩
end Go.Ex
