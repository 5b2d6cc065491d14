/-
  TreeCovers: whatever the input, the law answers true, and the input reads as it did. No conditions.
-/
import Derived.Test.YtggbpdhhfgmocaaTrRC
import Derived.Test.YtggbpdhhfgmocaaTrM
namespace Go.Proofs.Ytggbpdhhfgmocaa
open Go.ChangeShapes Go.WideShapes Go.ChangeAt Go.RowKit Go.Ex
set_option linter.unusedVariables false

theorem params4 : Try.f4.params = #[22] := rfl
set_option maxRecDepth 100000 in
theorem covers_lifted (os : Os) (started : os.Started) (H : Type) (enc : TypeId × Value → H) :
    ReturnsInHanded {} Try.checked os 4 .any (Rows.treeCoversSpec.pre6 enc Try.prog Try.f4 Rows.treeCoversRow.domain false) (Rows.treeCoversSpec.post enc Try.prog Try.f4 false true false false) := by
  refine returnsInHanded_of_change_sized (C := Try.checked) Try.own started (by kernel_rfl) Try.func4
    (ChangeSpec.witness6 (enc := enc) (C := Try.checked) false ⟨#[], #[.slice none 0 0], []⟩ 8 (by kernel_rfl) (by kernel_rfl) (by kernel_rfl) (by kernel_rfl)) ?_
  intro W base args ds gs before hval0 hW hcnd hsz0 _
  have hsz : (DataW.weightsEach Try.prog (Try.f4.params.toList ++ Rows.treeCoversSpec.plain.varTypes Try.prog) (ds ++ gs)).all (· ≤ reachBytes) = true := hsz0
  clear hsz0
  have hval : ∀ (j : Nat) t v, Try.f4.params[j]? = some t → args[j]? = some v → Value.okWide Try.prog W .any base t v := hval0
  have hW' := hW
  obtain ⟨p, q, hA0, hV, rfl, hfz, hnd⟩ := hW
  have hA : DataW.TrodAll enc Try.prog W 0 (fun _ => true) true Try.f4.params.toList args.toList ds p := hA0
  rw [params4] at hA hval hsz
  obtain ⟨v0, d0, rfl, rfl, h0⟩ := trodAll_one hA
  obtain ⟨rfl, rfl⟩ := trodVars_none hV
  obtain ⟨a0, len, cap, rfl⟩ := okWide_slice Try.underlying22 (hval 0 22 v0 rfl rfl)
  obtain ⟨p0, rfl⟩ : ∃ p0, p0 = p := ⟨_, rfl⟩
  have h0k := h0
  obtain ⟨fuel, hf⟩ := h0
  clear hA0 hval0
  simp only [List.append_nil] at hW'
  have hlt : ∀ x ∈ p0, x.block < W.heap.size := fun x hx => by simpa using hW'.lt x (by simpa using hx)
  obtain ⟨A, len', cap', L, hv, hL, hwl⟩ := nds_open hf
  cases hv
  have hr : len * 40 ≤ 140737488355328 := by
    rcases hwl with h | ⟨n, hn, hle⟩
    · omega
    · have := reach_le hsz (j := 0) (t := 22) rfl rfl hn; omega
  refine ((covers_law a0 len cap L W.heap hL hr).2 W rfl).mono fun e W' ⟨he, v, hv1, hv2, hv3⟩ => ?_
  subst hv1 hv2
  have hb := below_of he hv3
  exact ⟨_, rfl, _, _, _, [], _, [], hW', trodAll_mk1 (shut_bool Try.underlying4 true), trodAll_mk1 (Below.trod Try.laidOut (by kernel_rfl) (of_decide_eq_true (by kernel_rfl)) h0k hb hlt), rfl, hb.frame _, fun h => by cases h⟩
theorem tree_covers : Rows.TreeCoversSaid :=
  OpenClaim.holds_of_wide 4 Try.f4 rfl rfl rfl rfl rfl rfl rfl ⟨rfl, rfl, rfl, rfl, rfl⟩ rfl rfl rfl rfl rfl (by kernel_rfl) Try.func4 (by kernel_rfl)
    (of_decide_eq_true (by kernel_rfl)) (by unfold Func.isWrapper; first | (rw [if_pos (by decide +kernel)]; kernel_rfl) | (rw [if_neg (by decide +kernel)]; exact ⟨rfl, rfl⟩))
    (fun os started H enc _ => covers_lifted os started H enc)
end Go.Proofs.Ytggbpdhhfgmocaa
