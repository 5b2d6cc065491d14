/-
  Pick: what comes in, read as lists.
-/
import Derived.Test.YtinelelkjbdaiaaPkU
import Derived.ProofKit
import Derived.Deep.Strs
namespace Go.Ex
open Go.Proofs Go.ChangeShapes Go.WideShapes Go.Deep Go.RowKit
set_option linter.unusedVariables false
set_option linter.unusedSimpArgs false

theorem cell_h {w : World} {a : Addr} {v : Value} (h : w.cell? a = some v) : a.spot = none ∧ hcell w.heap a.block a.off = some v ∧ a.block < w.heap.size := by
  unfold World.cell? at h
  unfold hcell
  split at h
  · rename_i c _ _ hc
    split at h
    · cases h
    · rename_i hs
      refine ⟨by cases hsp : a.spot <;> simp_all, by rw [hc]; exact h, ?_⟩
      exact (Array.getElem?_eq_some_iff.1 hc).1
  · cases h
theorem add_block (a : Addr) (n : Nat) : (a.add n).block = a.block ∧ (a.add n).off = a.off + n := by
  unfold Addr.add
  split
  · rename_i h; subst h; exact ⟨rfl, rfl⟩
  · exact ⟨rfl, rfl⟩
theorem weights_mem_all {H : Type} {P : Program} {e : TypeId} {n : Nat} : ∀ {ds : List (DataW H)} {d : DataW H}, d ∈ ds → n ∈ d.weights P e → n ∈ DataW.weightsAll P e ds
  | [], d, h, _ => by simp at h
  | c :: r, d, h, hn => by
    simp only [DataW.weightsAll, List.mem_append]
    rcases List.mem_cons.1 h with rfl | h
    · exact .inl hn
    · exact .inr (weights_mem_all h hn)
theorem pick_fun {τ : Type} (d : τ) {n : Nat} {Q : Nat → τ → Prop} (h : ∀ i, i < n → ∃ x, Q i x) : ∃ f : Nat → τ, ∀ i, i < n → Q i (f i) :=
  ⟨fun i => @dite _ (i < n) (Classical.propDecidable _) (fun hi => (h i hi).choose) (fun _ => d), fun i hi => by
    dsimp only
    rw [dif_pos hi]
    exact (h i hi).choose_spec⟩
set_option maxRecDepth 10000 in
/-- a slice that comes in, read as a list -/
theorem slice_open {H : Type} {enc : TypeId × Value → H} {w : World} {base : Nat} {spare : Nat → Bool} {held : Bool} {v : Value} {d : DataW H} {p : List MemPlace} {fuel : Nat} {t e : TypeId} {τ : Type} {R : Rep τ} {El : DataW H → τ → Prop}
    (ht : Try.prog.underlying t = some (.slice e)) (hce : Try.prog.cellsOf e = R.sz)
    (hel : ∀ n cs y, cs.length = R.sz → DataW.trod enc Try.prog w base spare held n e cs = some y → ∃ x, R.cells x = cs ∧ El y.1 x)
    (h : DataW.trod enc Try.prog w base spare held fuel t [v] = some (d, p)) :
    ∃ A len cap L, v = .slice A len cap ∧ Sl R w.heap A len L ∧ (len = 0 ∨ ∃ n ∈ d.weights Try.prog t, len * Try.prog.bytesOf e ≤ n) ∧ ∀ x ∈ L, ∃ y, El y x ∧ ∀ n ∈ y.weights Try.prog e, n ∈ d.weights Try.prog t := by
  rcases open_slice ht h with ⟨h0, _⟩ | ⟨a, len, cap, m, n, D, Pl, hcs, hb, hl, hm, hmm, hx, hi⟩
  · simp only [List.cons.injEq, and_true] at h0
    exact ⟨none, 0, 0, [], h0, Sl.nil _ _ _, .inl rfl, fun x hx => (by cases hx)⟩
  · simp only [List.cons.injEq, and_true] at hcs
    have hml : len ≤ m := by rw [hmm]; split <;> omega
    have hd := congrArg Prod.fst hx
    dsimp only at hd
    have key : ∀ i, i < len → ∃ x : τ, ((i = 0 → a.spot = none) ∧ a.block < w.heap.size ∧ ∀ j v, (R.cells x)[j]? = some v → hcell w.heap a.block (a.off + i * R.sz + j) = some v) ∧ El (D i) x := by
      intro i hil
      obtain ⟨cs, hc, ht⟩ := hi i (by omega)
      rw [hce] at hc
      obtain ⟨_, hcl, hat⟩ := World.cells?_some hc
      obtain ⟨x, hx1, hx2⟩ := hel _ _ _ hcl ht
      refine ⟨x, ?_, hx2⟩
      have hat2 : ∀ j v, (R.cells x)[j]? = some v → (i = 0 → a.spot = none) ∧ hcell w.heap a.block (a.off + i * R.sz + j) = some v ∧ a.block < w.heap.size := by
        intro j v hv
        rw [hx1] at hv
        have hj : j < cs.length := (List.getElem?_eq_some_iff.1 hv).1
        have r := hat j (by omega)
        rw [Go.Deep.add_add, hv] at r
        obtain ⟨s0, t0, u0⟩ := cell_h r
        rw [(add_block _ _).1, (add_block _ _).2] at t0
        rw [(add_block _ _).1] at u0
        refine ⟨fun h0 => ?_, by rw [← t0]; congr 1; omega, u0⟩
        subst h0
        by_cases hj0 : j = 0
        · subst hj0
          simpa [Addr.add] using s0
        · have r0 := hat 0 (by omega)
          have hcx : ∃ v0, cs[0]? = some v0 := ⟨_, List.getElem?_eq_getElem (by omega)⟩
          obtain ⟨v0, hv0⟩ := hcx
          rw [Go.Deep.add_add, hv0] at r0
          obtain ⟨s1, _, _⟩ := cell_h r0
          simpa [Addr.add] using s1
      have hpos : 0 < (R.cells x).length := by rw [R.len]; exact R.pos
      have h0 := hat2 0 _ (List.getElem?_eq_getElem hpos)
      exact ⟨h0.1, h0.2.2, fun j v hv => (hat2 j v hv).2.1⟩
    obtain ⟨f, hf⟩ := pick_fun R.dflt key
    refine ⟨some a, len, cap, (List.range len).map f, hcs, ⟨by simp, by simp only [maxLen] at hm; omega, fun h0 => ?_⟩, ?_, ?_⟩
    · have hs := (hf 0 h0).1.1 rfl
      refine ⟨a.block, a.off, by obtain ⟨x, y, z⟩ := a; simp only at hs; subst hs; rfl, (hf 0 h0).1.2.1, fun i hil j v hv => ?_⟩
      have e : ((List.range len).map f).getD i R.dflt = f i := by
        simp only [List.getD, List.getElem?_map, List.getElem?_range hil, Option.map_some, Option.getD_some]
      rw [e] at hv
      exact (hf i hil).1.2.2 j v hv
    · right
      rw [hd]
      simp only [DataW.weights, ht, List.mem_cons, List.mem_append]
      exact ⟨_, .inl rfl, Nat.mul_le_mul (by simp only [List.length_map, List.length_range]; exact Nat.le_add_right _ _) (Nat.le_refl _)⟩
    · intro x hxx
      obtain ⟨i, hi', rfl⟩ := List.mem_map.1 hxx
      have hil : i < len := by simpa using hi'
      refine ⟨D i, (hf i hil).2, fun n hn => ?_⟩
      rw [hd]
      simp only [DataW.weights, ht, List.mem_cons, List.mem_append]
      exact .inr (.inl (weights_mem_all (List.mem_map.2 ⟨i, hi', rfl⟩) hn))
theorem cells42 : Try.prog.cellsOf 42 = 3 := by kernel_rfl
theorem cells33 : Try.prog.cellsOf 33 = 3 := by kernel_rfl
theorem cells40 : Try.prog.cellsOf 40 = 3 := by kernel_rfl
theorem cells36 : Try.prog.cellsOf 36 = 1 := by kernel_rfl
theorem cells31 : Try.prog.cellsOf 31 = 1 := by kernel_rfl
theorem cells3 : Try.prog.cellsOf 3 = 1 := by kernel_rfl
theorem cells5 : Try.prog.cellsOf 5 = 1 := by kernel_rfl
theorem cells9 : Try.prog.cellsOf 9 = 1 := by kernel_rfl
theorem bytes40 : Try.prog.bytesOf 40 = 32 := by kernel_rfl
theorem st42 : ∃ f0 f1 f2, Try.prog.underlying 42 = some (.struct #[f0, f1, f2]) ∧ f0.type = 5 ∧ f0.offset = 0 ∧ f1.type = 3 ∧ f1.offset = 1 ∧ f2.type = 9 ∧ f2.offset = 2 := ⟨_, _, _, Try.underlying42, rfl, rfl, rfl, rfl, rfl, rfl⟩
theorem st40 : ∃ f0 f1 f2, Try.prog.underlying 40 = some (.struct #[f0, f1, f2]) ∧ f0.type = 9 ∧ f0.offset = 0 ∧ f1.type = 3 ∧ f1.offset = 1 ∧ f2.type = 3 ∧ f2.offset = 2 := ⟨_, _, _, Try.underlying40, rfl, rfl, rfl, rfl, rfl, rfl⟩
theorem st33 : ∃ f0 f1 f2, Try.prog.underlying 33 = some (.struct #[f0, f1, f2]) ∧ f0.type = 3 ∧ f0.offset = 0 ∧ f1.type = 3 ∧ f1.offset = 1 ∧ f2.type = 31 ∧ f2.offset = 2 := ⟨_, _, _, Try.underlying33, rfl, rfl, rfl, rfl, rfl, rfl⟩
section
variable {H : Type} {enc : TypeId × Value → H} {w : World} {base : Nat} {spare : Nat → Bool} {held : Bool} {v : Value} {d : DataW H} {p : List MemPlace} {fuel : Nat}
theorem parts_open (h : DataW.trod enc Try.prog w base spare held fuel 22 [v] = some (d, p)) : ∃ A len cap L, v = .slice A len cap ∧ Sl partR w.heap A len L := by
  obtain ⟨A, len, cap, L, h1, h2, _⟩ := slice_open (R := partR) (El := fun _ _ => True) Try.underlying22 cells42 (fun n cs y hl hy => by
    obtain ⟨f0, f1, f2, hu, g0, g1, g2, g3, g4, g5⟩ := st42
    obtain ⟨y0, y1, y2, n', hy, hlen, e0, e1, e2⟩ := trod_struct3 hu hy
    rw [g0, g1, cells5] at e0
    rw [g2, g3, cells3] at e1
    rw [g4, g5, cells9] at e2
    match cs, hl with
    | [c0, c1, c2], _ =>
      simp only [List.drop_zero, List.take_succ_cons, List.take_zero, List.drop_succ_cons] at e0 e1 e2
      obtain ⟨z0, q0, _, _⟩ := DataW.trod_int Try.underlying5 e0
      obtain ⟨z1, q1, _, _⟩ := DataW.trod_int Try.underlying3 e1
      obtain ⟨z2, q2, _, _⟩ := DataW.trod_string Try.underlying9 e2
      simp only [List.cons.injEq, and_true] at q0 q1 q2
      subst q0 q1 q2
      exact ⟨⟨z0, z1, z2⟩, rfl, trivial⟩) h
  exact ⟨A, len, cap, L, h1, h2⟩
theorem binds_open (h : DataW.trod enc Try.prog w base spare held fuel 31 [v] = some (d, p)) : ∃ A len cap L, v = .slice A len cap ∧ Sl bindR w.heap A len L ∧ (len = 0 ∨ ∃ n ∈ d.weights Try.prog 31, len * 32 ≤ n) := by
  obtain ⟨A, len, cap, L, h1, h2, h3, _⟩ := slice_open (R := bindR) (El := fun _ _ => True) Try.underlying31 cells40 (fun n cs y hl hy => by
    obtain ⟨f0, f1, f2, hu, g0, g1, g2, g3, g4, g5⟩ := st40
    obtain ⟨y0, y1, y2, n', hy, hlen, e0, e1, e2⟩ := trod_struct3 hu hy
    rw [g0, g1, cells9] at e0
    rw [g2, g3, cells3] at e1
    rw [g4, g5, cells3] at e2
    match cs, hl with
    | [c0, c1, c2], _ =>
      simp only [List.drop_zero, List.take_succ_cons, List.take_zero, List.drop_succ_cons] at e0 e1 e2
      obtain ⟨z0, q0, _, _⟩ := DataW.trod_string Try.underlying9 e0
      obtain ⟨z1, q1, _, _⟩ := DataW.trod_int Try.underlying3 e1
      obtain ⟨z2, q2, _, _⟩ := DataW.trod_int Try.underlying3 e2
      simp only [List.cons.injEq, and_true] at q0 q1 q2
      subst q0 q1 q2
      exact ⟨⟨z0, z1, z2⟩, rfl, trivial⟩) h
  rw [bytes40] at h3
  exact ⟨A, len, cap, L, h1, h2, h3⟩
theorem weights_3 {P : Program} {t : TypeId} {f0 f1 f2 : Field} (hu : P.underlying t = some (.struct #[f0, f1, f2])) {d0 d1 d2 : DataW H} {n : Nat} (hn : n ∈ d2.weights P f2.type) : n ∈ (DataW.agg [d0, d1, d2]).weights P t := by
  simp [DataW.weights, hu, DataW.weightsEach, hn]
theorem mats_open (h : DataW.trod enc Try.prog w base spare held fuel 23 [v] = some (d, p)) :
    ∃ A len cap M X, v = .slice A len cap ∧ Sl matR w.heap A len M ∧ All2 (RM w.heap) M X ∧ ∀ a ∈ X, a.bs.length = 0 ∨ ∃ n ∈ d.weights Try.prog 23, a.bs.length * 32 ≤ n := by
  obtain ⟨A, len, cap, M, h1, h2, _, h4⟩ := slice_open (R := matR) (El := fun y m => ∃ bs : List Bd, Sl bindR w.heap m.A m.n bs ∧ (bs.length = 0 ∨ ∃ n ∈ y.weights Try.prog 33, bs.length * 32 ≤ n)) Try.underlying23 cells33 (fun n cs y hl hy => by
    obtain ⟨f0, f1, f2, hu, g0, g1, g2, g3, g4, g5⟩ := st33
    obtain ⟨y0, y1, y2, n', hyy, hlen, e0, e1, e2⟩ := trod_struct3 hu hy
    rw [g0, g1, cells3] at e0
    rw [g2, g3, cells3] at e1
    rw [g4, g5, cells31] at e2
    match cs, hl with
    | [c0, c1, c2], _ =>
      simp only [List.drop_zero, List.take_succ_cons, List.take_zero, List.drop_succ_cons] at e0 e1 e2
      obtain ⟨z0, q0, _, _⟩ := DataW.trod_int Try.underlying3 e0
      obtain ⟨z1, q1, _, _⟩ := DataW.trod_int Try.underlying3 e1
      obtain ⟨y2d, y2p⟩ := y2
      obtain ⟨A, k, c, bs, rfl, hs, hw⟩ := binds_open e2
      simp only [List.cons.injEq, and_true] at q0 q1
      subst q0 q1
      refine ⟨⟨z0, z1, A, k, c⟩, rfl, bs, hs, ?_⟩
      have hbl := hs.len_eq
      rcases hw with hw | ⟨m, hm, hle⟩
      · exact .inl (hbl.trans hw)
      · right
        refine ⟨m, ?_, by rw [hbl]; exact hle⟩
        rw [hyy]
        exact weights_3 hu (by rw [g4]; exact hm)) h
  obtain ⟨Z, hZ⟩ := All2.exists (P := fun (m : Mt) (a : Am) => RM w.heap m a ∧ (a.bs.length = 0 ∨ ∃ n ∈ d.weights Try.prog 23, a.bs.length * 32 ≤ n)) (l := M) fun m hm => by
    obtain ⟨y, ⟨bs, q1, q2⟩, q3⟩ := h4 m hm
    refine ⟨⟨m.rule, m.part, bs⟩, ⟨rfl, rfl, q1⟩, ?_⟩
    rcases q2 with q2 | ⟨n, q2, q4⟩
    · exact .inl q2
    · exact .inr ⟨n, q3 n q2, q4⟩
  refine ⟨A, len, cap, M, Z, h1, h2, hZ.mono fun m _ a x => x.1, ?_⟩
  have aux : ∀ (l : List Mt) (z : List Am), All2 (fun (m : Mt) (a : Am) => RM w.heap m a ∧ (a.bs.length = 0 ∨ ∃ n ∈ d.weights Try.prog 23, a.bs.length * 32 ≤ n)) l z → ∀ a ∈ z, a.bs.length = 0 ∨ ∃ n ∈ d.weights Try.prog 23, a.bs.length * 32 ≤ n := by
    intro l
    induction l with
    | nil => intro z hz a ha; cases z with
      | nil => cases ha
      | cons b z => exact hz.elim
    | cons m l ih => intro z hz a ha; cases z with
      | nil => exact hz.elim
      | cons b z =>
        rcases List.mem_cons.1 ha with rfl | ha
        · exact hz.1.2
        · exact ih z hz.2 a ha
  exact aux M Z hZ
theorem nums_open (h : DataW.trod enc Try.prog w base spare held fuel 35 [v] = some (d, p)) : ∃ A len cap L, v = .slice A len cap ∧ Sl (intR .u16) w.heap A len L ∧ ∀ x ∈ L, 0 ≤ x ∧ x < 65536 := by
  obtain ⟨A, len, cap, L, h1, h2, _, h4⟩ := slice_open (R := intR .u16) (El := fun _ x => 0 ≤ x ∧ x < 65536) Try.underlying35 cells36 (fun n cs y hl hy => by
    obtain ⟨z, rfl, _, hz⟩ := DataW.trod_int Try.underlying36 hy
    refine ⟨z, rfl, ?_⟩
    simp [Lit.wf, IntKind.min, IntKind.max, IntKind.signed, IntKind.bits] at hz
    omega) h
  exact ⟨A, len, cap, L, h1, h2, fun x hx => (h4 x hx).choose_spec.1⟩
end
end Go.Ex
