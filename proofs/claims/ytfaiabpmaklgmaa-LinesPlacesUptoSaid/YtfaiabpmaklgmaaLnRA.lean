/-
  LinesStarts: whatever the input (of bulk at most 1048576), the law answers true, and the input reads as it did. One condition: the bulk.
-/
import Derived.Test.YtfaiabpmaklgmaaRows
import Derived.Test.YtfaiabpmaklgmaaLnG
import Derived.SizedLaws
import Derived.JoinedCond
import Derived.ProofKit
namespace Go.Proofs.Ytfaiabpmaklgmaa
open Go.ChangeShapes Go.WideShapes Go.ChangeAt Go.RowKit Go.Ex Go.ChangeMaps
set_option linter.unusedVariables false
set_option linter.unusedSimpArgs false

theorem Try.own : ownKnob Try.prog.godebug = none := by kernel_rfl
theorem Try.laidOut : laidOutB Try.prog = true := by kernel_rfl
theorem below_of {w w' : World} (h : w'.os = w.os ∧ w'.tape = w.tape ∧ w'.output = w.output) (g : Grows w.heap w'.heap) : Below w.heap.size w w' := ⟨h.1, h.2.1, h.2.2, g.size, g.same⟩
theorem short {H : Type} {s : ByteArray} {r : List (DataW H)} (hk : Rows.uptoSmall H (.lit (.string s.data.toList) :: r) = true) : s.size ≤ 1048576 := by
  have h : Rows.uptoBulkAll (DataW.lit (H := H) (.string s.data.toList) :: r) ≤ 1048576 := of_decide_eq_true hk
  simp only [Rows.uptoBulkAll, Rows.uptoBulk] at h
  have e : s.data.toList.length = s.size := by rw [Array.length_toList]; rfl
  omega
theorem st33 : ∃ f0 f1, Try.prog.underlying 33 = some (.struct #[f0, f1]) ∧ (f0.type = 3 ∧ f0.offset = 0) ∧ (f1.type = 3 ∧ f1.offset = 1) := ⟨_, _, Try.underlying33, ⟨rfl, rfl⟩, ⟨rfl, rfl⟩⟩
theorem cells33 : Try.prog.cellsOf 33 = 2 := by kernel_rfl
theorem cells3 : Try.prog.cellsOf 3 = 1 := by kernel_rfl
theorem open_pos {H : Type} {enc : TypeId × Value → H} {w : World} {base b0 : Nat} {spare : Nat → Bool} {held : Bool} {r : Reach} {v : Value} {d : DataW H} {p : List MemPlace} (hv : Value.okWide Try.prog w r b0 33 v)
    (h : DataW.Trod enc Try.prog w base spare held 33 v d p) : ∃ l c : Int, v = .agg #[.int .i64 l, .int .i64 c] ∧ c ≤ 9223372036854775807 := by
  obtain ⟨f0, f1, hu, ⟨t0, o0⟩, ⟨t1, o1⟩⟩ := st33
  obtain ⟨cs, rfl, hsz⟩ := okWide_struct hu hv
  obtain ⟨fuel, ht⟩ := h
  obtain ⟨xs, n', hy, hlen, hq, hxl, hf⟩ := DataW.trod_struct hu ht
  rw [cells33] at hsz
  obtain ⟨l⟩ := cs
  match l, hsz, xs, hxl with
  | [c0, c1], _, [y0, y1], _ =>
    have e0 := hf 0 f0 rfl
    rw [t0, o0] at e0
    have e1 := hf 1 f1 rfl
    rw [t1, o1] at e1
    simp only [Value.cells, cells3, List.drop_zero, List.take_succ_cons, List.take_zero, List.drop_succ_cons, List.getElem?_cons_zero, List.getElem?_cons_succ] at e0 e1
    obtain ⟨z0, q0, _, _⟩ := DataW.trod_int Try.underlying3 e0
    obtain ⟨z1, q1, _, w1⟩ := DataW.trod_int Try.underlying3 e1
    simp only [List.cons.injEq, and_true] at q0 q1
    subst q0 q1
    refine ⟨z0, z1, rfl, ?_⟩
    simp [Lit.wf, IntKind.min, IntKind.max, IntKind.signed, IntKind.bits] at w1
    omega

theorem params3 : Try.f3.params = #[9] := rfl
set_option maxRecDepth 100000 in
theorem starts_lifted (os : Os) (started : os.Started) (H : Type) (enc : TypeId × Value → H) (F : Stop.Interp) :
    ReturnsInHanded {} Try.checked os 3 .any ((Rows.OpenSpec.upto Rows.linesStartsSpec).pre6 enc Try.prog Try.f3 Rows.linesStartsUptoRow.domain false) (((Rows.OpenSpec.upto Rows.linesStartsSpec).at F).post enc Try.prog Try.f3 false true false false) := by
  refine returnsInHanded_of_cond (C := Try.checked) (s := Rows.OpenSpec.upto Rows.linesStartsSpec) (k := Rows.uptoSmall) rfl Try.own started (by kernel_rfl) Try.func3
    (OpenSpec.witness (enc := enc) (C := Try.checked) (s := Rows.OpenSpec.upto Rows.linesStartsSpec) (k := Rows.uptoSmall) rfl false ⟨#[], #[.string .empty], []⟩ 8 (by kernel_rfl) (by kernel_rfl) (by kernel_rfl)
      (x := ([.lit (.string [])], [], [])) (by kernel_rfl) rfl (by kernel_rfl)) ?_
  intro W base args ds gs before hval0 hW _ hk _
  have hval : ∀ (j : Nat) t v, Try.f3.params[j]? = some t → args[j]? = some v → Value.okWide Try.prog W .any base t v := hval0
  have hW' := hW
  obtain ⟨p, q, hA0, hV, rfl, hfz, hnd⟩ := hW
  have hA : DataW.TrodAll enc Try.prog W 0 (fun _ => true) true Try.f3.params.toList args.toList ds p := hA0
  rw [params3] at hA hval
  obtain ⟨v0, d0, rfl, rfl, h0⟩ := trodAll_one hA
  obtain ⟨rfl, rfl⟩ := trodVars_none hV
  obtain ⟨s, rfl, rfl, rfl, ws⟩ := open_string Try.underlying9 (hval 0 9 v0 rfl rfl) h0
  clear hA0 hval0
  simp only [List.append_nil] at hW' hk
  have hz : s.size ≤ 1048576 := short hk
  refine ((starts_law s W.heap hz).2 W rfl).mono fun e W' ⟨he, v, hv1, hv2, hv3⟩ => ?_
  subst hv1 hv2
  have hb := below_of he hv3
  exact ⟨_, rfl, _, _, _, [], _, [], hW', trodAll_mk1 (shut_bool Try.underlying4 true), trodAll_mk1 (shut_string Try.underlying9 ws), rfl, hb.frame _, fun h => by cases h⟩
theorem lines_starts : Rows.LinesStartsUptoSaid :=
  OpenClaim.holds_of_cond 3 Try.f3 rfl rfl rfl rfl rfl rfl rfl ⟨rfl, rfl, rfl, rfl, rfl⟩ rfl rfl rfl rfl rfl (by kernel_rfl) Try.func3 (by kernel_rfl)
    (of_decide_eq_true (by kernel_rfl)) (by unfold Func.isWrapper; first | (rw [if_pos (by decide +kernel)]; kernel_rfl) | (rw [if_neg (by decide +kernel)]; exact ⟨rfl, rfl⟩))
    (fun os started H enc _ F => starts_lifted os started H enc F)
end Go.Proofs.Ytfaiabpmaklgmaa
