/-
  No cell of these rows narrows 'for every input' (looked for: loops, veiled, ifaces, maps, wideKeys, modest, calm, conditions, laid).
  DERIVED. THE GIVEN ROWS OF THIS SEAT. 8 by the template 'for every input the law returns true; each argument reads behind the call as it read before'; 0 by the template 'total and deterministic' (their statements: YtckodkjaiopmoaaTotals.lean).
  GIVEN WITH THE SEED: the statements are not yours to turn. If you find one false, say at which input.
  Laid BY PROGRAM, IN A SANDBOX (cutbox-rows.mjs): the forced cells as the released guide's own fill.sh prints them over the translation 2c4dd0eac271e048… (all of the seat's roots in one cut). By AI agents, Wed Nov 11 2026. No macro, syntax, notation, axiom, sorry.
-/
import Derived.Test.YtckodkjaiopmoaaChecked
import GoSem.Claim
import GoSem.ClaimJoined
import GoSem.ClaimMapViews
import Derived.JoinedTies
import Derived.KernelRfl
namespace Go.Proofs.Ytckodkjaiopmoaa
/- THE CELL 'sum', in the pinned program and in every row, IS THE sha256 OF THE DUMP (.gsa) THAT YtckodkjaiopmoaaProg.lean LOADS. Nothing in Lean hashes anything: it is a label: what it is worth is what the hold of that sum in a sandbox is worth. -/
noncomputable def Try.pinned : Pinned := { name := "ytckodkjaiopmoaa", sum := "2c4dd0eac271e048b5315200d0cd9b4a532ab8e0a8d8e3692fc6687f6618dc3d", checked := Try.checked }
namespace Rows
def none {H : Type} : Left H := { results := [], args := [] }

/-- 'emendlaw03.SpanChecks': WHATEVER THE INPUT: true; the input reads as it did. -/
def spanChecksSpec : ChangeSpec := { name := "spanChecks", fn := fun _ => fun
  | [d1, d2] => { results := [.lit (.bool true)], args := [d1, d2] }
  | _ => none }
def spanChecksRow : OpenClaim := { program := "ytckodkjaiopmoaa", sum := "2c4dd0eac271e048b5315200d0cd9b4a532ab8e0a8d8e3692fc6687f6618dc3d", func := "emend/emendlaw03.SpanChecks", spec := "spanChecks", unfollowed := true, recurses := true, apart := false }
def SpanChecksSaid : Prop := spanChecksRow.holds Try.pinned (OpenSpec.ofChange spanChecksSpec)

/-- ITS FALSE NEIGHBOUR: 'it returns false'. Refute it at one input. -/
def spanChecksWrong : ChangeSpec := { name := "spanChecks", fn := fun _ => fun
  | [d1, d2] => { results := [.lit (.bool false)], args := [d1, d2] }
  | _ => none }
def SpanChecksWrongFalsely : Prop := spanChecksRow.holds Try.pinned (OpenSpec.ofChange spanChecksWrong)

/-- 'emendlaw03.SpanApplies': WHATEVER THE INPUT: true; the input reads as it did. -/
def spanAppliesSpec : ChangeSpec := { name := "spanApplies", fn := fun _ => fun
  | [d1, d2] => { results := [.lit (.bool true)], args := [d1, d2] }
  | _ => none }
def spanAppliesRow : OpenClaim := { program := "ytckodkjaiopmoaa", sum := "2c4dd0eac271e048b5315200d0cd9b4a532ab8e0a8d8e3692fc6687f6618dc3d", func := "emend/emendlaw03.SpanApplies", spec := "spanApplies", unfollowed := true, recurses := true, apart := false }
def SpanAppliesSaid : Prop := spanAppliesRow.holds Try.pinned (OpenSpec.ofChange spanAppliesSpec)

/-- ITS FALSE NEIGHBOUR: 'it returns false'. Refute it at one input. -/
def spanAppliesWrong : ChangeSpec := { name := "spanApplies", fn := fun _ => fun
  | [d1, d2] => { results := [.lit (.bool false)], args := [d1, d2] }
  | _ => none }
def SpanAppliesWrongFalsely : Prop := spanAppliesRow.holds Try.pinned (OpenSpec.ofChange spanAppliesWrong)

/-- 'emendlaw03.SpanMoves': WHATEVER THE INPUT: true; the input reads as it did. -/
def spanMovesSpec : ChangeSpec := { name := "spanMoves", fn := fun _ => fun
  | [d1, d2, d3] => { results := [.lit (.bool true)], args := [d1, d2, d3] }
  | _ => none }
def spanMovesRow : OpenClaim := { program := "ytckodkjaiopmoaa", sum := "2c4dd0eac271e048b5315200d0cd9b4a532ab8e0a8d8e3692fc6687f6618dc3d", func := "emend/emendlaw03.SpanMoves", spec := "spanMoves", unfollowed := true, recurses := true, apart := false }
def SpanMovesSaid : Prop := spanMovesRow.holds Try.pinned (OpenSpec.ofChange spanMovesSpec)

/-- ITS FALSE NEIGHBOUR: 'it returns false'. Refute it at one input. -/
def spanMovesWrong : ChangeSpec := { name := "spanMoves", fn := fun _ => fun
  | [d1, d2, d3] => { results := [.lit (.bool false)], args := [d1, d2, d3] }
  | _ => none }
def SpanMovesWrongFalsely : Prop := spanMovesRow.holds Try.pinned (OpenSpec.ofChange spanMovesWrong)

/-- 'emendlaw03.SpanUndoes': WHATEVER THE INPUT: true; the input reads as it did. -/
def spanUndoesSpec : ChangeSpec := { name := "spanUndoes", fn := fun _ => fun
  | [d1, d2] => { results := [.lit (.bool true)], args := [d1, d2] }
  | _ => none }
def spanUndoesRow : OpenClaim := { program := "ytckodkjaiopmoaa", sum := "2c4dd0eac271e048b5315200d0cd9b4a532ab8e0a8d8e3692fc6687f6618dc3d", func := "emend/emendlaw03.SpanUndoes", spec := "spanUndoes", unfollowed := true, recurses := true, apart := false }
def SpanUndoesSaid : Prop := spanUndoesRow.holds Try.pinned (OpenSpec.ofChange spanUndoesSpec)

/-- ITS FALSE NEIGHBOUR: 'it returns false'. Refute it at one input. -/
def spanUndoesWrong : ChangeSpec := { name := "spanUndoes", fn := fun _ => fun
  | [d1, d2] => { results := [.lit (.bool false)], args := [d1, d2] }
  | _ => none }
def SpanUndoesWrongFalsely : Prop := spanUndoesRow.holds Try.pinned (OpenSpec.ofChange spanUndoesWrong)

/-- 'emendlaw03.SpanKeeps': WHATEVER THE INPUT: true; the input reads as it did. -/
def spanKeepsSpec : ChangeSpec := { name := "spanKeeps", fn := fun _ => fun
  | [d1, d2] => { results := [.lit (.bool true)], args := [d1, d2] }
  | _ => none }
def spanKeepsRow : OpenClaim := { program := "ytckodkjaiopmoaa", sum := "2c4dd0eac271e048b5315200d0cd9b4a532ab8e0a8d8e3692fc6687f6618dc3d", func := "emend/emendlaw03.SpanKeeps", spec := "spanKeeps", unfollowed := true, recurses := true, apart := false }
def SpanKeepsSaid : Prop := spanKeepsRow.holds Try.pinned (OpenSpec.ofChange spanKeepsSpec)

/-- ITS FALSE NEIGHBOUR: 'it returns false'. Refute it at one input. -/
def spanKeepsWrong : ChangeSpec := { name := "spanKeeps", fn := fun _ => fun
  | [d1, d2] => { results := [.lit (.bool false)], args := [d1, d2] }
  | _ => none }
def SpanKeepsWrongFalsely : Prop := spanKeepsRow.holds Try.pinned (OpenSpec.ofChange spanKeepsWrong)

/-- 'emendlaw03.SpanDiffs': WHATEVER THE INPUT: true; the input reads as it did. -/
def spanDiffsSpec : ChangeSpec := { name := "spanDiffs", fn := fun _ => fun
  | [d1, d2] => { results := [.lit (.bool true)], args := [d1, d2] }
  | _ => none }
def spanDiffsRow : OpenClaim := { program := "ytckodkjaiopmoaa", sum := "2c4dd0eac271e048b5315200d0cd9b4a532ab8e0a8d8e3692fc6687f6618dc3d", func := "emend/emendlaw03.SpanDiffs", spec := "spanDiffs", unfollowed := true, recurses := true, apart := false }
def SpanDiffsSaid : Prop := spanDiffsRow.holds Try.pinned (OpenSpec.ofChange spanDiffsSpec)

/-- ITS FALSE NEIGHBOUR: 'it returns false'. Refute it at one input. -/
def spanDiffsWrong : ChangeSpec := { name := "spanDiffs", fn := fun _ => fun
  | [d1, d2] => { results := [.lit (.bool false)], args := [d1, d2] }
  | _ => none }
def SpanDiffsWrongFalsely : Prop := spanDiffsRow.holds Try.pinned (OpenSpec.ofChange spanDiffsWrong)

/-- 'emendlaw03.SpanTrims': WHATEVER THE INPUT: true; the input reads as it did. -/
def spanTrimsSpec : ChangeSpec := { name := "spanTrims", fn := fun _ => fun
  | [d1, d2] => { results := [.lit (.bool true)], args := [d1, d2] }
  | _ => none }
def spanTrimsRow : OpenClaim := { program := "ytckodkjaiopmoaa", sum := "2c4dd0eac271e048b5315200d0cd9b4a532ab8e0a8d8e3692fc6687f6618dc3d", func := "emend/emendlaw03.SpanTrims", spec := "spanTrims", unfollowed := true, recurses := true, apart := false }
def SpanTrimsSaid : Prop := spanTrimsRow.holds Try.pinned (OpenSpec.ofChange spanTrimsSpec)

/-- ITS FALSE NEIGHBOUR: 'it returns false'. Refute it at one input. -/
def spanTrimsWrong : ChangeSpec := { name := "spanTrims", fn := fun _ => fun
  | [d1, d2] => { results := [.lit (.bool false)], args := [d1, d2] }
  | _ => none }
def SpanTrimsWrongFalsely : Prop := spanTrimsRow.holds Try.pinned (OpenSpec.ofChange spanTrimsWrong)

/-- 'emendlaw03.SpanFresh': WHATEVER THE INPUT: true; the input reads as it did. -/
def spanFreshSpec : ChangeSpec := { name := "spanFresh", fn := fun _ => fun
  | [d1, d2] => { results := [.lit (.bool true)], args := [d1, d2] }
  | _ => none }
def spanFreshRow : OpenClaim := { program := "ytckodkjaiopmoaa", sum := "2c4dd0eac271e048b5315200d0cd9b4a532ab8e0a8d8e3692fc6687f6618dc3d", func := "emend/emendlaw03.SpanFresh", spec := "spanFresh", unfollowed := true, recurses := true, apart := false }
def SpanFreshSaid : Prop := spanFreshRow.holds Try.pinned (OpenSpec.ofChange spanFreshSpec)

/-- ITS FALSE NEIGHBOUR: 'it returns false'. Refute it at one input. -/
def spanFreshWrong : ChangeSpec := { name := "spanFresh", fn := fun _ => fun
  | [d1, d2] => { results := [.lit (.bool false)], args := [d1, d2] }
  | _ => none }
def SpanFreshWrongFalsely : Prop := spanFreshRow.holds Try.pinned (OpenSpec.ofChange spanFreshWrong)

/- THE SECOND FORM. 'bulk': how many values and letters a reading holds, each counted each time it is reached (what is shared counts as often as it is met; a slice's spare places count too). A statement '..UptoSaid' is the law's where the arguments, and the package variables that the reading takes, are together of bulk at most 1048576: NARROWER than '..Said'. Prove '..Said' where nothing that the law and all that it calls make is longer than what came in: it says more and counts as full. Else prove '..UptoSaid'. A law counts once. -/
mutual
def uptoBulk {H : Type} : DataW H → Nat
  | .lit (.string bytes) => bytes.length + 1
  | .lit _ => 1
  | .nil => 1
  | .ptr d => uptoBulk d + 1
  | .slice elems spare => uptoBulkAll elems + uptoBulkAll spare + 1
  | .agg parts => uptoBulkAll parts + 1
  | .iface _ d => uptoBulk d + 1
  | .map entries => uptoBulkEntries entries + 1
  | .held _ => 1
def uptoBulkAll {H : Type} : List (DataW H) → Nat
  | [] => 0
  | d :: r => uptoBulk d + uptoBulkAll r
def uptoBulkEntries {H : Type} : List (Lit × DataW H) → Nat
  | [] => 0
  | x :: r => uptoBulkEntry x + uptoBulkEntries r
def uptoBulkEntry {H : Type} : Lit × DataW H → Nat
  | (.string bytes, d) => bytes.length + uptoBulk d + 1
  | (_, d) => uptoBulk d + 1
 end
def uptoSmall : (H : Type) → List (DataW H) → Bool := fun _ ds => decide (uptoBulkAll ds ≤ 1048576)
def OpenSpec.upto (s : _root_.Go.ChangeSpec) : _root_.Go.OpenSpec := { _root_.Go.OpenSpec.ofChange s with cond := some uptoSmall }

/-- 'emendlaw03.SpanChecks', WHERE WHAT IT READS IS OF BULK AT MOST 1048576: true; the input reads as it did. -/
def spanChecksUptoRow : OpenClaim := { program := "ytckodkjaiopmoaa", sum := "2c4dd0eac271e048b5315200d0cd9b4a532ab8e0a8d8e3692fc6687f6618dc3d", func := "emend/emendlaw03.SpanChecks", spec := "spanChecks", unfollowed := true, recurses := true, apart := false, narrowed := true }
def SpanChecksUptoSaid : Prop := spanChecksUptoRow.holds Try.pinned (OpenSpec.upto spanChecksSpec)

/-- 'emendlaw03.SpanApplies', WHERE WHAT IT READS IS OF BULK AT MOST 1048576: true; the input reads as it did. -/
def spanAppliesUptoRow : OpenClaim := { program := "ytckodkjaiopmoaa", sum := "2c4dd0eac271e048b5315200d0cd9b4a532ab8e0a8d8e3692fc6687f6618dc3d", func := "emend/emendlaw03.SpanApplies", spec := "spanApplies", unfollowed := true, recurses := true, apart := false, narrowed := true }
def SpanAppliesUptoSaid : Prop := spanAppliesUptoRow.holds Try.pinned (OpenSpec.upto spanAppliesSpec)

/-- 'emendlaw03.SpanMoves', WHERE WHAT IT READS IS OF BULK AT MOST 1048576: true; the input reads as it did. -/
def spanMovesUptoRow : OpenClaim := { program := "ytckodkjaiopmoaa", sum := "2c4dd0eac271e048b5315200d0cd9b4a532ab8e0a8d8e3692fc6687f6618dc3d", func := "emend/emendlaw03.SpanMoves", spec := "spanMoves", unfollowed := true, recurses := true, apart := false, narrowed := true }
def SpanMovesUptoSaid : Prop := spanMovesUptoRow.holds Try.pinned (OpenSpec.upto spanMovesSpec)

/-- 'emendlaw03.SpanUndoes', WHERE WHAT IT READS IS OF BULK AT MOST 1048576: true; the input reads as it did. -/
def spanUndoesUptoRow : OpenClaim := { program := "ytckodkjaiopmoaa", sum := "2c4dd0eac271e048b5315200d0cd9b4a532ab8e0a8d8e3692fc6687f6618dc3d", func := "emend/emendlaw03.SpanUndoes", spec := "spanUndoes", unfollowed := true, recurses := true, apart := false, narrowed := true }
def SpanUndoesUptoSaid : Prop := spanUndoesUptoRow.holds Try.pinned (OpenSpec.upto spanUndoesSpec)

/-- 'emendlaw03.SpanKeeps', WHERE WHAT IT READS IS OF BULK AT MOST 1048576: true; the input reads as it did. -/
def spanKeepsUptoRow : OpenClaim := { program := "ytckodkjaiopmoaa", sum := "2c4dd0eac271e048b5315200d0cd9b4a532ab8e0a8d8e3692fc6687f6618dc3d", func := "emend/emendlaw03.SpanKeeps", spec := "spanKeeps", unfollowed := true, recurses := true, apart := false, narrowed := true }
def SpanKeepsUptoSaid : Prop := spanKeepsUptoRow.holds Try.pinned (OpenSpec.upto spanKeepsSpec)

/-- 'emendlaw03.SpanDiffs', WHERE WHAT IT READS IS OF BULK AT MOST 1048576: true; the input reads as it did. -/
def spanDiffsUptoRow : OpenClaim := { program := "ytckodkjaiopmoaa", sum := "2c4dd0eac271e048b5315200d0cd9b4a532ab8e0a8d8e3692fc6687f6618dc3d", func := "emend/emendlaw03.SpanDiffs", spec := "spanDiffs", unfollowed := true, recurses := true, apart := false, narrowed := true }
def SpanDiffsUptoSaid : Prop := spanDiffsUptoRow.holds Try.pinned (OpenSpec.upto spanDiffsSpec)

/-- 'emendlaw03.SpanTrims', WHERE WHAT IT READS IS OF BULK AT MOST 1048576: true; the input reads as it did. -/
def spanTrimsUptoRow : OpenClaim := { program := "ytckodkjaiopmoaa", sum := "2c4dd0eac271e048b5315200d0cd9b4a532ab8e0a8d8e3692fc6687f6618dc3d", func := "emend/emendlaw03.SpanTrims", spec := "spanTrims", unfollowed := true, recurses := true, apart := false, narrowed := true }
def SpanTrimsUptoSaid : Prop := spanTrimsUptoRow.holds Try.pinned (OpenSpec.upto spanTrimsSpec)

/-- 'emendlaw03.SpanFresh', WHERE WHAT IT READS IS OF BULK AT MOST 1048576: true; the input reads as it did. -/
def spanFreshUptoRow : OpenClaim := { program := "ytckodkjaiopmoaa", sum := "2c4dd0eac271e048b5315200d0cd9b4a532ab8e0a8d8e3692fc6687f6618dc3d", func := "emend/emendlaw03.SpanFresh", spec := "spanFresh", unfollowed := true, recurses := true, apart := false, narrowed := true }
def SpanFreshUptoSaid : Prop := spanFreshUptoRow.holds Try.pinned (OpenSpec.upto spanFreshSpec)

end Rows
end Go.Proofs.Ytckodkjaiopmoaa
