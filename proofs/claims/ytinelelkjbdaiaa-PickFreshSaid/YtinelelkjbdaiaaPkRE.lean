/-
  PickFresh: whatever the input, the law answers true, and the input reads as it did. No conditions.
-/
import Derived.Test.YtinelelkjbdaiaaPkRA
import Derived.Test.YtinelelkjbdaiaaPkZ
namespace Go.Proofs.Ytinelelkjbdaiaa
open Go.ChangeShapes Go.WideShapes Go.ChangeAt Go.RowKit Go.Ex Go.ChangeMaps
set_option linter.unusedVariables false
set_option linter.unusedSimpArgs false

theorem params7 : Try.f7.params = #[22, 23] := rfl
set_option maxHeartbeats 2000000 in
set_option maxRecDepth 100000 in
theorem pick_fresh_lifted (os : Os) (started : os.Started) (H : Type) (enc : TypeId × Value → H) :
    ReturnsInHanded {} Try.checked os 7 .any (Rows.pickFreshSpec.pre6 enc Try.prog Try.f7 Rows.pickFreshRow.domain false) (Rows.pickFreshSpec.post enc Try.prog Try.f7 false true false false) := by
  refine returnsInHanded_of_change_sized (C := Try.checked) Try.own started (by kernel_rfl) Try.func7
    (ChangeSpec.witness6 (enc := enc) (C := Try.checked) false ⟨#[], #[.slice none 0 0, .slice none 0 0], []⟩ 8 (by kernel_rfl) (by kernel_rfl) (by kernel_rfl) (by kernel_rfl)) ?_
  intro W base args ds gs before hval0 hW hcnd hsz0 _
  have hsz : (DataW.weightsEach Try.prog (Try.f7.params.toList ++ Rows.pickFreshSpec.plain.varTypes Try.prog) (ds ++ gs)).all (· ≤ reachBytes) = true := hsz0
  clear hsz0
  have hval : ∀ (j : Nat) t v, Try.f7.params[j]? = some t → args[j]? = some v → Value.okWide Try.prog W .any base t v := hval0
  have hW' := hW
  obtain ⟨p, q, hA0, hV, rfl, hfz, hnd⟩ := hW
  have hA : DataW.TrodAll enc Try.prog W 0 (fun _ => true) true Try.f7.params.toList args.toList ds p := hA0
  rw [params7] at hA hval hsz
  obtain ⟨v0, v1, d0, d1, p0, p1, rfl, rfl, rfl, h0, h1⟩ := trodAll_two hA
  obtain ⟨rfl, rfl⟩ := trodVars_none hV
  obtain ⟨a0, n0, c0, rfl⟩ := okWide_slice Try.underlying22 (hval 0 22 v0 rfl rfl)
  obtain ⟨a1, n1, c1, rfl⟩ := okWide_slice Try.underlying23 (hval 1 23 v1 rfl rfl)
  have h0k := h0
  obtain ⟨fuel0, hf0⟩ := h0
  have h1k := h1
  obtain ⟨fuel1, hf1⟩ := h1
  clear hA0 hval0
  simp only [List.append_nil] at hW'
  have hlt0 : ∀ x ∈ p0, x.block < W.heap.size := fun x hx => by simpa using hW'.lt x (by simpa using Or.inl hx)
  have hlt1 : ∀ x ∈ p1, x.block < W.heap.size := fun x hx => by simpa using hW'.lt x (by simp [hx])
  obtain ⟨A, n, c, L, hv0, hL⟩ := parts_open hf0
  cases hv0
  obtain ⟨B, k, c2, M, X, hv1, hM, hX, hwl⟩ := mats_open hf1
  cases hv1
  have hbz : ∀ a ∈ X, a.bs.length * 32 ≤ 140737488355328 := fun a ha => by
    rcases hwl a ha with h | ⟨n, hn, hle⟩
    · omega
    · have := reach_le hsz (j := 1) (t := 23) rfl rfl hn; omega
  refine ((fresh_law a0 _ _ L a1 _ _ M X W.heap hL hM hX hbz).2 W rfl).mono fun e W' ⟨he, v, hv1, hv2, hv3⟩ => ?_
  subst hv1 hv2
  have hb := below_of he hv3
  exact ⟨_, rfl, _, _, _, [], _, [], hW', trodAll_mk1 (shut_bool Try.underlying4 true), trodAll_mk2 (Below.trod Try.laidOut (by kernel_rfl) (of_decide_eq_true (by kernel_rfl)) h0k hb hlt0) (Below.trod Try.laidOut (by kernel_rfl) (of_decide_eq_true (by kernel_rfl)) h1k hb hlt1), rfl, hb.frame _, fun h => by cases h⟩
theorem pick_fresh : Rows.PickFreshSaid :=
  OpenClaim.holds_of_wide 7 Try.f7 rfl rfl rfl rfl rfl rfl rfl ⟨rfl, rfl, rfl, rfl, rfl⟩ rfl rfl rfl rfl rfl (by kernel_rfl) Try.func7 (by kernel_rfl)
    (of_decide_eq_true (by kernel_rfl)) (by unfold Func.isWrapper; first | (rw [if_pos (by decide +kernel)]; kernel_rfl) | (rw [if_neg (by decide +kernel)]; exact ⟨rfl, rfl⟩))
    (fun os started H enc _ => pick_fresh_lifted os started H enc)
end Go.Proofs.Ytinelelkjbdaiaa
