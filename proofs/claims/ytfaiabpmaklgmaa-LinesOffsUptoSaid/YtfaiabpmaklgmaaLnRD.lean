/-
  LinesOffs: whatever the input (of bulk at most 1048576), the law answers true, and the input reads as it did. One condition: the bulk.
-/
import Derived.Test.YtfaiabpmaklgmaaLnRA
namespace Go.Proofs.Ytfaiabpmaklgmaa
open Go.ChangeShapes Go.WideShapes Go.ChangeAt Go.RowKit Go.Ex Go.ChangeMaps
set_option linter.unusedVariables false
set_option linter.unusedSimpArgs false

theorem params6 : Try.f6.params = #[9, 33] := rfl
set_option maxRecDepth 100000 in
theorem offs_lifted (os : Os) (started : os.Started) (H : Type) (enc : TypeId × Value → H) (F : Stop.Interp) :
    ReturnsInHanded {} Try.checked os 6 .any ((Rows.OpenSpec.upto Rows.linesOffsSpec).pre6 enc Try.prog Try.f6 Rows.linesOffsUptoRow.domain false) (((Rows.OpenSpec.upto Rows.linesOffsSpec).at F).post enc Try.prog Try.f6 false true false false) := by
  refine returnsInHanded_of_cond (C := Try.checked) (s := Rows.OpenSpec.upto Rows.linesOffsSpec) (k := Rows.uptoSmall) rfl Try.own started (by kernel_rfl) Try.func6
    (OpenSpec.witness (enc := enc) (C := Try.checked) (s := Rows.OpenSpec.upto Rows.linesOffsSpec) (k := Rows.uptoSmall) rfl false ⟨#[], #[.string .empty, .agg #[.int .i64 0, .int .i64 0]], []⟩ 8 (by kernel_rfl) (by kernel_rfl) (by kernel_rfl)
      (x := ([.lit (.string []), .agg [.lit (.int .i64 0), .lit (.int .i64 0)]], [], [])) (by kernel_rfl) rfl (by kernel_rfl)) ?_
  intro W base args ds gs before hval0 hW _ hk _
  have hval : ∀ (j : Nat) t v, Try.f6.params[j]? = some t → args[j]? = some v → Value.okWide Try.prog W .any base t v := hval0
  have hW' := hW
  obtain ⟨p, q, hA0, hV, rfl, hfz, hnd⟩ := hW
  have hA : DataW.TrodAll enc Try.prog W 0 (fun _ => true) true Try.f6.params.toList args.toList ds p := hA0
  rw [params6] at hA hval
  obtain ⟨v0, v1, d0, d1, p0, p1, rfl, rfl, rfl, h0, h1⟩ := trodAll_two hA
  obtain ⟨rfl, rfl⟩ := trodVars_none hV
  obtain ⟨s, rfl, rfl, rfl, ws⟩ := open_string Try.underlying9 (hval 0 9 v0 rfl rfl) h0
  obtain ⟨l, c, rfl, hc⟩ := open_pos (hval 1 33 v1 rfl rfl) h1
  have hlt : ∀ x ∈ p1, x.block < W.heap.size := fun x hx => by simpa using hW'.lt x (by simpa using hx)
  clear hA0 hval0
  simp only [List.append_nil] at hW' hk
  have hz : s.size ≤ 1048576 := short hk
  refine ((offs_law s l c W.heap hz hc).2 W rfl).mono fun e W' ⟨he, v, hv1, hv2, hv3⟩ => ?_
  subst hv1 hv2
  have hb := below_of he hv3
  exact ⟨_, rfl, _, _, _, [], _, [], hW', trodAll_mk1 (shut_bool Try.underlying4 true), trodAll_mk2 (shut_string Try.underlying9 ws) (Below.trod Try.laidOut (by kernel_rfl) (of_decide_eq_true (by kernel_rfl)) h1 hb hlt), rfl, hb.frame _, fun h => by cases h⟩
theorem lines_offs : Rows.LinesOffsUptoSaid :=
  OpenClaim.holds_of_cond 6 Try.f6 rfl rfl rfl rfl rfl rfl rfl ⟨rfl, rfl, rfl, rfl, rfl⟩ rfl rfl rfl rfl rfl (by kernel_rfl) Try.func6 (by kernel_rfl)
    (of_decide_eq_true (by kernel_rfl)) (by unfold Func.isWrapper; first | (rw [if_pos (by decide +kernel)]; kernel_rfl) | (rw [if_neg (by decide +kernel)]; exact ⟨rfl, rfl⟩))
    (fun os started H enc _ F => offs_lifted os started H enc F)
end Go.Proofs.Ytfaiabpmaklgmaa
