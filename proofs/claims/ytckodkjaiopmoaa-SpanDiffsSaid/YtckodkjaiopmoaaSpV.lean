/-
  SpanDiffs: whatever the two texts, the law answers true, and the input reads as it did. No conditions.
-/
import Derived.Test.YtckodkjaiopmoaaSpQ
import Derived.Test.YtckodkjaiopmoaaSpU
namespace Go.Proofs.Ytckodkjaiopmoaa
open Go.ChangeShapes Go.WideShapes Go.ChangeAt Go.RowKit Go.Ex Go.ChangeMaps
set_option linter.unusedVariables false

theorem weights_str {H : Type} {P : Program} {t : TypeId} {b : List UInt8} {n : Nat} (hn : b.length = n) : n ∈ (DataW.lit (H := H) (.string b)).weights P t := by
  subst hn; simp [DataW.weights]
theorem params8 : Try.f8.params = #[9, 9] := rfl
set_option maxRecDepth 100000 in
theorem diffs_lifted (os : Os) (started : os.Started) (H : Type) (enc : TypeId × Value → H) :
    ReturnsInHanded {} Try.checked os 8 .any (Rows.spanDiffsSpec.pre6 enc Try.prog Try.f8 Rows.spanDiffsRow.domain false) (Rows.spanDiffsSpec.post enc Try.prog Try.f8 false true false false) := by
  refine returnsInHanded_of_change_sized (C := Try.checked) Try.own started (by kernel_rfl) Try.func8
    (ChangeSpec.witness6 (enc := enc) (C := Try.checked) false ⟨#[], #[.string ⟨#[]⟩, .string ⟨#[]⟩], []⟩ 8 (by kernel_rfl) (by kernel_rfl) (by kernel_rfl) (by kernel_rfl)) ?_
  intro W base args ds gs before hval0 hW hcnd hsz0 _
  have hsz : (DataW.weightsEach Try.prog (Try.f8.params.toList ++ Rows.spanDiffsSpec.plain.varTypes Try.prog) (ds ++ gs)).all (· ≤ reachBytes) = true := hsz0
  clear hsz0
  have hval : ∀ (j : Nat) t v, Try.f8.params[j]? = some t → args[j]? = some v → Value.okWide Try.prog W .any base t v := hval0
  have hW' := hW
  obtain ⟨p, q, hA0, hV, rfl, hfz, hnd⟩ := hW
  have hA : DataW.TrodAll enc Try.prog W 0 (fun _ => true) true Try.f8.params.toList args.toList ds p := hA0
  rw [params8] at hA hval hsz
  obtain ⟨v0, v1, d0, d1, p0, p1, rfl, rfl, rfl, h0, h1⟩ := trodAll_two hA
  obtain ⟨rfl, rfl⟩ := trodVars_none hV
  obtain ⟨s, rfl, rfl, rfl, ws⟩ := open_string Try.underlying9 (hval 0 9 v0 rfl rfl) h0
  obtain ⟨u, rfl, rfl, rfl, wu⟩ := open_string Try.underlying9 (hval 1 9 v1 rfl rfl) h1
  clear hA0 hval0
  simp only [List.append_nil] at hW'
  have hs : s.size ≤ 140737488355328 := reach_le hsz (j := 0) (t := 9) rfl rfl (weights_str rfl)
  have hu : u.size ≤ 140737488355328 := reach_le hsz (j := 1) (t := 9) rfl rfl (weights_str rfl)
  refine ((diffs_law s u W.heap hs hu).2 W rfl).mono fun e W' ⟨he, v, hv1, hv2, hv3⟩ => ?_
  subst hv1 hv2
  have hb := below_of he hv3
  exact ⟨_, rfl, _, _, _, [], _, [], hW', trodAll_mk1 (shut_bool Try.underlying4 true), trodAll_mk2 (shut_string Try.underlying9 ws) (shut_string Try.underlying9 wu), rfl, hb.frame _, fun h => by cases h⟩
theorem span_diffs : Rows.SpanDiffsSaid :=
  OpenClaim.holds_of_wide 8 Try.f8 rfl rfl rfl rfl rfl rfl rfl ⟨rfl, rfl, rfl, rfl, rfl⟩ rfl rfl rfl rfl rfl (by kernel_rfl) Try.func8 (by kernel_rfl)
    (of_decide_eq_true (by kernel_rfl)) (by unfold Func.isWrapper; first | (rw [if_pos (by decide +kernel)]; kernel_rfl) | (rw [if_neg (by decide +kernel)]; exact ⟨rfl, rfl⟩))
    (fun os started H enc _ => diffs_lifted os started H enc)
end Go.Proofs.Ytckodkjaiopmoaa
