/-
  Tree: the nodes that come in, read as a list.
-/
import Derived.Test.YtggbpdhhfgmocaaTrK
import Derived.ProofKit
import Derived.Deep.Strs
namespace Go.Ex
open Go.Proofs Go.ChangeShapes Go.WideShapes Go.Deep Go.RowKit
set_option linter.unusedVariables false

theorem cells28 : Try.prog.cellsOf 28 = 5 := by kernel_rfl
theorem cells3 : Try.prog.cellsOf 3 = 1 := by kernel_rfl
theorem cells5 : Try.prog.cellsOf 5 = 1 := by kernel_rfl
theorem bytes28 : Try.prog.bytesOf 28 = 40 := by kernel_rfl
def ndAt (h : Heap) (b o : Nat) : Nd := match hcell h b o, hcell h b (o + 1), hcell h b (o + 2), hcell h b (o + 3), hcell h b (o + 4) with
  | some (.int .u8 k), some (.int .i64 c), some (.int .i64 w), some (.int .i64 f), some (.int .i64 t) => ⟨k, c, w, f, t⟩
  | _, _, _, _, _ => ⟨0, 0, 0, 0, 0⟩
theorem cell_h {w : World} {a : Addr} {v : Value} (h : w.cell? a = some v) : a.spot = none ∧ hcell w.heap a.block a.off = some v ∧ a.block < w.heap.size := by
  unfold World.cell? at h
  unfold hcell
  split at h
  · rename_i c _ _ hc
    split at h
    · cases h
    · rename_i hs
      refine ⟨by cases hsp : a.spot <;> simp_all, by rw [hc]; exact h, ?_⟩
      exact (Array.getElem?_eq_some_iff.1 hc).1
  · cases h
theorem add_block (a : Addr) (n : Nat) : (a.add n).block = a.block ∧ (a.add n).off = a.off + n := by
  unfold Addr.add
  split
  · rename_i h; subst h; exact ⟨rfl, rfl⟩
  · exact ⟨rfl, rfl⟩
theorem ndAt_of {h : Heap} {b o : Nat} {k c w f t : Int} (h0 : hcell h b o = some (.int .u8 k)) (h1 : hcell h b (o + 1) = some (.int .i64 c)) (h2 : hcell h b (o + 2) = some (.int .i64 w)) (h3 : hcell h b (o + 3) = some (.int .i64 f)) (h4 : hcell h b (o + 4) = some (.int .i64 t)) : ndAt h b o = ⟨k, c, w, f, t⟩ := by
  simp only [ndAt, h0, h1, h2, h3, h4]
theorem st28 : ∃ f0 f1 f2 f3 f4, Try.prog.underlying 28 = some (.struct #[f0, f1, f2, f3, f4]) ∧ (f0.type = 5 ∧ f0.offset = 0) ∧ (f1.type = 3 ∧ f1.offset = 1) ∧ (f2.type = 3 ∧ f2.offset = 2) ∧ (f3.type = 3 ∧ f3.offset = 3) ∧ (f4.type = 3 ∧ f4.offset = 4) := ⟨_, _, _, _, _, Try.underlying28, ⟨rfl, rfl⟩, ⟨rfl, rfl⟩, ⟨rfl, rfl⟩, ⟨rfl, rfl⟩, ⟨rfl, rfl⟩⟩
set_option maxRecDepth 10000 in
theorem nds_open {H : Type} {enc : TypeId × Value → H} {w : World} {base : Nat} {spare : Nat → Bool} {held : Bool} {v : Value} {d : DataW H} {p : List MemPlace} {fuel : Nat}
    (h : DataW.trod enc Try.prog w base spare held fuel 22 [v] = some (d, p)) : ∃ A len cap L, v = .slice A len cap ∧ Sl ndR w.heap A len L ∧ (len = 0 ∨ ∃ n ∈ d.weights Try.prog 22, len * 40 ≤ n) := by
  rcases open_slice Try.underlying22 h with ⟨h0, _⟩ | ⟨a, len, cap, m, n, D, Pl, hcs, hb, hl, hm, hmm, hx, hi⟩
  · simp only [List.cons.injEq, and_true] at h0
    exact ⟨none, 0, 0, [], h0, Sl.nil _ _ _, .inl rfl⟩
  · simp only [List.cons.injEq, and_true] at hcs
    have hml : len ≤ m := by rw [hmm]; split <;> omega
    obtain ⟨f0, f1, f2, f3, f4, hu, ⟨t0', o0⟩, ⟨t1', o1⟩, ⟨t2', o2⟩, ⟨t3', o3⟩, ⟨t4', o4⟩⟩ := st28
    have key : ∀ i, i < len → (i = 0 → a.spot = none) ∧ a.block < w.heap.size ∧ ∃ k c x f t, hcell w.heap a.block (a.off + i * 5) = some (.int .u8 k) ∧ hcell w.heap a.block (a.off + i * 5 + 1) = some (.int .i64 c) ∧ hcell w.heap a.block (a.off + i * 5 + 2) = some (.int .i64 x) ∧ hcell w.heap a.block (a.off + i * 5 + 3) = some (.int .i64 f) ∧ hcell w.heap a.block (a.off + i * 5 + 4) = some (.int .i64 t) := by
      intro i hil
      obtain ⟨cs, hc, ht⟩ := hi i (by omega)
      rw [cells28] at hc
      obtain ⟨xs, n', hy, hlen, hq, hxl, hf⟩ := DataW.trod_struct hu ht
      rw [cells28] at hq
      obtain ⟨_, hcl, hat⟩ := World.cells?_some hc
      match cs, hq, xs, hxl with
      | [c0, c1, c2, c3, c4], _, [y0, y1, y2, y3, y4], _ =>
        have e0 := hf 0 f0 rfl
        rw [t0', o0] at e0
        have e1 := hf 1 f1 rfl
        rw [t1', o1] at e1
        have e2 := hf 2 f2 rfl
        rw [t2', o2] at e2
        have e3 := hf 3 f3 rfl
        rw [t3', o3] at e3
        have e4 := hf 4 f4 rfl
        rw [t4', o4] at e4
        simp only [cells5, cells3, List.drop_zero, List.take_succ_cons, List.take_zero, List.drop_succ_cons, List.getElem?_cons_zero, List.getElem?_cons_succ] at e0 e1 e2 e3 e4
        obtain ⟨z0, q0, _, _⟩ := DataW.trod_int Try.underlying5 e0
        obtain ⟨z1, q1, _, _⟩ := DataW.trod_int Try.underlying3 e1
        obtain ⟨z2, q2, _, _⟩ := DataW.trod_int Try.underlying3 e2
        obtain ⟨z3, q3, _, _⟩ := DataW.trod_int Try.underlying3 e3
        obtain ⟨z4, q4, _, _⟩ := DataW.trod_int Try.underlying3 e4
        simp only [List.cons.injEq, and_true] at q0 q1 q2 q3 q4
        subst q0 q1 q2 q3 q4
        have r0 := hat 0 (by omega)
        have r1 := hat 1 (by omega)
        have r2 := hat 2 (by omega)
        have r3 := hat 3 (by omega)
        have r4 := hat 4 (by omega)
        rw [Go.Deep.add_add] at r0 r1 r2 r3 r4
        obtain ⟨s0, t0, u0⟩ := cell_h r0
        obtain ⟨_, t1, _⟩ := cell_h r1
        obtain ⟨_, t2, _⟩ := cell_h r2
        obtain ⟨_, t3, _⟩ := cell_h r3
        obtain ⟨_, t4, _⟩ := cell_h r4
        rw [(add_block _ _).1, (add_block _ _).2] at t0 t1 t2 t3 t4
        rw [(add_block _ _).1] at u0
        refine ⟨fun h => ?_, u0, z0, z1, z2, z3, z4, t0, by rw [← t1, Nat.add_assoc], by rw [← t2, Nat.add_assoc], by rw [← t3, Nat.add_assoc], by rw [← t4, Nat.add_assoc]⟩
        subst h
        exact s0
    refine ⟨some a, len, cap, (List.range len).map fun i => ndAt w.heap a.block (a.off + i * 5), hcs, ⟨by simp, by simp only [maxLen] at hm; omega, fun h0 => ?_⟩, ?_⟩
    · have hs := (key 0 h0).1 rfl
      refine ⟨a.block, a.off, by obtain ⟨x, y, z⟩ := a; simp only at hs; subst hs; rfl, (key 0 h0).2.1, fun i hil j v hv => ?_⟩
      obtain ⟨_, _, k, c, x, f, t, k0, k1, k2, k3, k4⟩ := key i hil
      have e : ((List.range len).map fun i => ndAt w.heap a.block (a.off + i * 5)).getD i ndR.dflt = ⟨k, c, x, f, t⟩ := by
        simp only [List.getD, List.getElem?_map, List.getElem?_range hil, Option.map_some, Option.getD_some]
        exact ndAt_of k0 k1 k2 k3 k4
      rw [e] at hv
      show hcell w.heap a.block (a.off + i * 5 + j) = some v
      match j, hv with
      | 0, hv => simp [ndR] at hv; subst hv; exact k0
      | 1, hv => simp [ndR] at hv; subst hv; exact k1
      | 2, hv => simp [ndR] at hv; subst hv; exact k2
      | 3, hv => simp [ndR] at hv; subst hv; exact k3
      | 4, hv => simp [ndR] at hv; subst hv; exact k4
      | j + 5, hv => simp [ndR] at hv
    · right
      have hd := congrArg Prod.fst hx
      dsimp only at hd
      rw [hd]
      simp only [DataW.weights, Try.underlying22, List.mem_cons, List.mem_append]
      exact ⟨_, .inl rfl, by rw [bytes28]; simp only [List.length_map, List.length_range]; exact Nat.mul_le_mul (Nat.le_add_right _ _) (Nat.le_refl _)⟩
end Go.Ex
