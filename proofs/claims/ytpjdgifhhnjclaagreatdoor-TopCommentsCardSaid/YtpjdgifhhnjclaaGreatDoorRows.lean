/-
  NARROWER THAN 'FOR EVERY INPUT', by the rows' own cells (each row's printed sentence says how): TopFaults: laid · TopLossless: laid · TopWords: laid · TopDeep: laid · TopComments: laid.
  DERIVED. THE GIVEN ROWS OF THIS SEAT. 5 by the template 'for every input the law returns true; each argument reads behind the call as it read before'; 0 by the template 'total and deterministic' (their statements: YtpjdgifhhnjclaaGreatDoorTotals.lean).
  GIVEN WITH THE SEED: the statements are not yours to turn. If you find one false, say at which input.
  Laid BY PROGRAM, IN A SANDBOX (cutbox-rows.mjs): the forced cells as the released guide's own fill.sh prints them over the translation b64f3cecb1096e1c… (all of the seat's roots in one cut). By AI agents, Wed Nov 11 2026. No macro, syntax, notation, axiom, sorry.
-/
import Derived.Test.YtpjdgifhhnjclaaGreatDoorChecked
import GoSem.PinnedTables
import GoSem.Claim
import GoSem.ClaimJoined
import GoSem.ClaimMapViews
import Derived.JoinedTies
import Derived.KernelRfl
namespace Go.Proofs.YtpjdgifhhnjclaaGreatDoor
/- THE CELL 'sum', in the pinned program and in every row, IS THE sha256 OF THE DUMP (.gsa) THAT YtpjdgifhhnjclaaGreatDoorProg.lean LOADS. Nothing in Lean hashes anything: it is a label: what it is worth is what the hold of that sum in a sandbox is worth. -/
noncomputable def Tryz.pinned : Pinned := { name := "ytpjdgifhhnjclaagreatdoor", sum := "b64f3cecb1096e1ce773df4ee8c22c28e2e8422e16242c43d0e0000753a6a3f0", checked := Tryz.checked }
namespace Rows
def none {H : Type} : Left H := { results := [], args := [] }

/- WHAT THE LISTED PACKAGE-LEVEL VARIABLES READ AS WHEN THE CALL BEGINS. Each datum BY PROGRAM (the guide's laid-datum.mjs) off the statement by which the dump's own 'gosem.cut.vars' lays the variable. In a bare row this is a premise. The card (YtpjdgifhhnjclaaGreatDoorCards.lean) ties it to the program's text. -/
def laid_unicode_utf8_acceptRanges {H : Type} : DataW H := .agg [.agg [.lit (.int .u8 128), .lit (.int .u8 191)], .agg [.lit (.int .u8 160), .lit (.int .u8 191)], .agg [.lit (.int .u8 128), .lit (.int .u8 159)], .agg [.lit (.int .u8 144), .lit (.int .u8 191)], .agg [.lit (.int .u8 128), .lit (.int .u8 143)], .agg [.lit (.int .u8 0), .lit (.int .u8 0)], .agg [.lit (.int .u8 0), .lit (.int .u8 0)], .agg [.lit (.int .u8 0), .lit (.int .u8 0)], .agg [.lit (.int .u8 0), .lit (.int .u8 0)], .agg [.lit (.int .u8 0), .lit (.int .u8 0)], .agg [.lit (.int .u8 0), .lit (.int .u8 0)], .agg [.lit (.int .u8 0), .lit (.int .u8 0)], .agg [.lit (.int .u8 0), .lit (.int .u8 0)], .agg [.lit (.int .u8 0), .lit (.int .u8 0)], .agg [.lit (.int .u8 0), .lit (.int .u8 0)], .agg [.lit (.int .u8 0), .lit (.int .u8 0)]]
/-- One of Go's own tables, pinned by name: the form's constant. -/
def laid_unicode_utf8_first : DataW Unit := Go.Pinned.utf8First

/-- 'emendtop.TopFaults': WHATEVER THE INPUT: true; the input reads as it did. -/
def topFaultsSpec : ChangeSpec := { name := "topFaults", fn := fun _ => fun
  | [d1, d2] => { results := [.lit (.bool true)], args := [d1, d2] }
  | _ => none }
def topFaultsRow : OpenClaim := { program := "ytpjdgifhhnjclaagreatdoor", sum := "b64f3cecb1096e1ce773df4ee8c22c28e2e8422e16242c43d0e0000753a6a3f0", func := "emend/emendtop.TopFaults", spec := "topFaults", inPlace := ["internal/bytealg.IndexByteString", "internal/bytealg.IndexString", "internal/bytealg.CountString", "internal/abi.NoEscape", "internal/bytealg.MakeNoZero"], unfollowed := true, recurses := true, named := ["unicode/utf8.first", "unicode/utf8.acceptRanges", "internal/bytealg.MaxLen"], apart := false, laid := [("unicode/utf8.acceptRanges", laid_unicode_utf8_acceptRanges), ("unicode/utf8.first", laid_unicode_utf8_first)] }
def TopFaultsSaid : Prop := topFaultsRow.holds Tryz.pinned (OpenSpec.ofChange topFaultsSpec)

/-- ITS FALSE NEIGHBOUR: 'it returns false'. Refute it at one input. -/
def topFaultsWrong : ChangeSpec := { name := "topFaults", fn := fun _ => fun
  | [d1, d2] => { results := [.lit (.bool false)], args := [d1, d2] }
  | _ => none }
def TopFaultsWrongFalsely : Prop := topFaultsRow.holds Tryz.pinned (OpenSpec.ofChange topFaultsWrong)

/-- 'emendtop.TopLossless': WHATEVER THE INPUT: true; the input reads as it did. -/
def topLosslessSpec : ChangeSpec := { name := "topLossless", fn := fun _ => fun
  | [d1, d2] => { results := [.lit (.bool true)], args := [d1, d2] }
  | _ => none }
def topLosslessRow : OpenClaim := { program := "ytpjdgifhhnjclaagreatdoor", sum := "b64f3cecb1096e1ce773df4ee8c22c28e2e8422e16242c43d0e0000753a6a3f0", func := "emend/emendtop.TopLossless", spec := "topLossless", inPlace := ["internal/bytealg.IndexByteString", "internal/bytealg.IndexString", "internal/bytealg.CountString", "internal/abi.NoEscape", "internal/bytealg.MakeNoZero"], unfollowed := true, recurses := true, named := ["unicode/utf8.first", "unicode/utf8.acceptRanges", "internal/bytealg.MaxLen"], apart := false, laid := [("unicode/utf8.acceptRanges", laid_unicode_utf8_acceptRanges), ("unicode/utf8.first", laid_unicode_utf8_first)] }
def TopLosslessSaid : Prop := topLosslessRow.holds Tryz.pinned (OpenSpec.ofChange topLosslessSpec)

/-- ITS FALSE NEIGHBOUR: 'it returns false'. Refute it at one input. -/
def topLosslessWrong : ChangeSpec := { name := "topLossless", fn := fun _ => fun
  | [d1, d2] => { results := [.lit (.bool false)], args := [d1, d2] }
  | _ => none }
def TopLosslessWrongFalsely : Prop := topLosslessRow.holds Tryz.pinned (OpenSpec.ofChange topLosslessWrong)

/-- 'emendtop.TopWords': WHATEVER THE INPUT: true; the input reads as it did. -/
def topWordsSpec : ChangeSpec := { name := "topWords", fn := fun _ => fun
  | [d1, d2] => { results := [.lit (.bool true)], args := [d1, d2] }
  | _ => none }
def topWordsRow : OpenClaim := { program := "ytpjdgifhhnjclaagreatdoor", sum := "b64f3cecb1096e1ce773df4ee8c22c28e2e8422e16242c43d0e0000753a6a3f0", func := "emend/emendtop.TopWords", spec := "topWords", inPlace := ["internal/bytealg.IndexByteString", "internal/bytealg.IndexString", "internal/bytealg.CountString", "internal/abi.NoEscape", "internal/bytealg.MakeNoZero"], unfollowed := true, recurses := true, named := ["unicode/utf8.first", "unicode/utf8.acceptRanges", "internal/bytealg.MaxLen"], apart := false, laid := [("unicode/utf8.acceptRanges", laid_unicode_utf8_acceptRanges), ("unicode/utf8.first", laid_unicode_utf8_first)] }
def TopWordsSaid : Prop := topWordsRow.holds Tryz.pinned (OpenSpec.ofChange topWordsSpec)

/-- ITS FALSE NEIGHBOUR: 'it returns false'. Refute it at one input. -/
def topWordsWrong : ChangeSpec := { name := "topWords", fn := fun _ => fun
  | [d1, d2] => { results := [.lit (.bool false)], args := [d1, d2] }
  | _ => none }
def TopWordsWrongFalsely : Prop := topWordsRow.holds Tryz.pinned (OpenSpec.ofChange topWordsWrong)

/-- 'emendtop.TopDeep': WHATEVER THE INPUT: true; the input reads as it did. -/
def topDeepSpec : ChangeSpec := { name := "topDeep", fn := fun _ => fun
  | [d1, d2] => { results := [.lit (.bool true)], args := [d1, d2] }
  | _ => none }
def topDeepRow : OpenClaim := { program := "ytpjdgifhhnjclaagreatdoor", sum := "b64f3cecb1096e1ce773df4ee8c22c28e2e8422e16242c43d0e0000753a6a3f0", func := "emend/emendtop.TopDeep", spec := "topDeep", inPlace := ["internal/bytealg.IndexByteString", "internal/bytealg.IndexString", "internal/bytealg.CountString", "internal/abi.NoEscape", "internal/bytealg.MakeNoZero"], unfollowed := true, recurses := true, named := ["unicode/utf8.first", "unicode/utf8.acceptRanges", "internal/bytealg.MaxLen"], apart := false, laid := [("unicode/utf8.acceptRanges", laid_unicode_utf8_acceptRanges), ("unicode/utf8.first", laid_unicode_utf8_first)] }
def TopDeepSaid : Prop := topDeepRow.holds Tryz.pinned (OpenSpec.ofChange topDeepSpec)

/-- ITS FALSE NEIGHBOUR: 'it returns false'. Refute it at one input. -/
def topDeepWrong : ChangeSpec := { name := "topDeep", fn := fun _ => fun
  | [d1, d2] => { results := [.lit (.bool false)], args := [d1, d2] }
  | _ => none }
def TopDeepWrongFalsely : Prop := topDeepRow.holds Tryz.pinned (OpenSpec.ofChange topDeepWrong)

/-- 'emendtop.TopComments': WHATEVER THE INPUT: true; the input reads as it did. -/
def topCommentsSpec : ChangeSpec := { name := "topComments", fn := fun _ => fun
  | [d1, d2, d3] => { results := [.lit (.bool true)], args := [d1, d2, d3] }
  | _ => none }
def topCommentsRow : OpenClaim := { program := "ytpjdgifhhnjclaagreatdoor", sum := "b64f3cecb1096e1ce773df4ee8c22c28e2e8422e16242c43d0e0000753a6a3f0", func := "emend/emendtop.TopComments", spec := "topComments", inPlace := ["internal/bytealg.IndexByteString", "internal/bytealg.IndexString", "internal/bytealg.CountString", "internal/abi.NoEscape", "internal/bytealg.MakeNoZero"], unfollowed := true, recurses := true, named := ["unicode/utf8.first", "unicode/utf8.acceptRanges", "internal/bytealg.MaxLen"], apart := false, laid := [("unicode/utf8.acceptRanges", laid_unicode_utf8_acceptRanges), ("unicode/utf8.first", laid_unicode_utf8_first)] }
def TopCommentsSaid : Prop := topCommentsRow.holds Tryz.pinned (OpenSpec.ofChange topCommentsSpec)

/-- ITS FALSE NEIGHBOUR: 'it returns false'. Refute it at one input. -/
def topCommentsWrong : ChangeSpec := { name := "topComments", fn := fun _ => fun
  | [d1, d2, d3] => { results := [.lit (.bool false)], args := [d1, d2, d3] }
  | _ => none }
def TopCommentsWrongFalsely : Prop := topCommentsRow.holds Tryz.pinned (OpenSpec.ofChange topCommentsWrong)

/- THE SECOND FORM. 'bulk': how many values and letters a reading holds, each counted each time it is reached (what is shared counts as often as it is met; a slice's spare places count too). A statement '..UptoSaid' is the law's where the arguments, and the package variables that the reading takes, are together of bulk at most 1048576: NARROWER than '..Said'. Prove '..Said' where nothing that the law and all that it calls make is longer than what came in: it says more and counts as full. Else prove '..UptoSaid'. A law counts once. -/
mutual
def uptoBulk {H : Type} : DataW H → Nat
  | .lit (.string bytes) => bytes.length + 1
  | .lit _ => 1
  | .nil => 1
  | .ptr d => uptoBulk d + 1
  | .slice elems spare => uptoBulkAll elems + uptoBulkAll spare + 1
  | .agg parts => uptoBulkAll parts + 1
  | .iface _ d => uptoBulk d + 1
  | .map entries => uptoBulkEntries entries + 1
  | .held _ => 1
def uptoBulkAll {H : Type} : List (DataW H) → Nat
  | [] => 0
  | d :: r => uptoBulk d + uptoBulkAll r
def uptoBulkEntries {H : Type} : List (Lit × DataW H) → Nat
  | [] => 0
  | x :: r => uptoBulkEntry x + uptoBulkEntries r
def uptoBulkEntry {H : Type} : Lit × DataW H → Nat
  | (.string bytes, d) => bytes.length + uptoBulk d + 1
  | (_, d) => uptoBulk d + 1
 end
def uptoSmall : (H : Type) → List (DataW H) → Bool := fun _ ds => decide (uptoBulkAll ds ≤ 1048576)
def OpenSpec.upto (s : _root_.Go.ChangeSpec) : _root_.Go.OpenSpec := { _root_.Go.OpenSpec.ofChange s with cond := some uptoSmall }

/-- 'emendtop.TopFaults', WHERE WHAT IT READS IS OF BULK AT MOST 1048576: true; the input reads as it did. -/
def topFaultsUptoRow : OpenClaim := { program := "ytpjdgifhhnjclaagreatdoor", sum := "b64f3cecb1096e1ce773df4ee8c22c28e2e8422e16242c43d0e0000753a6a3f0", func := "emend/emendtop.TopFaults", spec := "topFaults", inPlace := ["internal/bytealg.IndexByteString", "internal/bytealg.IndexString", "internal/bytealg.CountString", "internal/abi.NoEscape", "internal/bytealg.MakeNoZero"], unfollowed := true, recurses := true, named := ["unicode/utf8.first", "unicode/utf8.acceptRanges", "internal/bytealg.MaxLen"], apart := false, laid := [("unicode/utf8.acceptRanges", laid_unicode_utf8_acceptRanges), ("unicode/utf8.first", laid_unicode_utf8_first)], narrowed := true }
def TopFaultsUptoSaid : Prop := topFaultsUptoRow.holds Tryz.pinned (OpenSpec.upto topFaultsSpec)

/-- 'emendtop.TopLossless', WHERE WHAT IT READS IS OF BULK AT MOST 1048576: true; the input reads as it did. -/
def topLosslessUptoRow : OpenClaim := { program := "ytpjdgifhhnjclaagreatdoor", sum := "b64f3cecb1096e1ce773df4ee8c22c28e2e8422e16242c43d0e0000753a6a3f0", func := "emend/emendtop.TopLossless", spec := "topLossless", inPlace := ["internal/bytealg.IndexByteString", "internal/bytealg.IndexString", "internal/bytealg.CountString", "internal/abi.NoEscape", "internal/bytealg.MakeNoZero"], unfollowed := true, recurses := true, named := ["unicode/utf8.first", "unicode/utf8.acceptRanges", "internal/bytealg.MaxLen"], apart := false, laid := [("unicode/utf8.acceptRanges", laid_unicode_utf8_acceptRanges), ("unicode/utf8.first", laid_unicode_utf8_first)], narrowed := true }
def TopLosslessUptoSaid : Prop := topLosslessUptoRow.holds Tryz.pinned (OpenSpec.upto topLosslessSpec)

/-- 'emendtop.TopWords', WHERE WHAT IT READS IS OF BULK AT MOST 1048576: true; the input reads as it did. -/
def topWordsUptoRow : OpenClaim := { program := "ytpjdgifhhnjclaagreatdoor", sum := "b64f3cecb1096e1ce773df4ee8c22c28e2e8422e16242c43d0e0000753a6a3f0", func := "emend/emendtop.TopWords", spec := "topWords", inPlace := ["internal/bytealg.IndexByteString", "internal/bytealg.IndexString", "internal/bytealg.CountString", "internal/abi.NoEscape", "internal/bytealg.MakeNoZero"], unfollowed := true, recurses := true, named := ["unicode/utf8.first", "unicode/utf8.acceptRanges", "internal/bytealg.MaxLen"], apart := false, laid := [("unicode/utf8.acceptRanges", laid_unicode_utf8_acceptRanges), ("unicode/utf8.first", laid_unicode_utf8_first)], narrowed := true }
def TopWordsUptoSaid : Prop := topWordsUptoRow.holds Tryz.pinned (OpenSpec.upto topWordsSpec)

/-- 'emendtop.TopDeep', WHERE WHAT IT READS IS OF BULK AT MOST 1048576: true; the input reads as it did. -/
def topDeepUptoRow : OpenClaim := { program := "ytpjdgifhhnjclaagreatdoor", sum := "b64f3cecb1096e1ce773df4ee8c22c28e2e8422e16242c43d0e0000753a6a3f0", func := "emend/emendtop.TopDeep", spec := "topDeep", inPlace := ["internal/bytealg.IndexByteString", "internal/bytealg.IndexString", "internal/bytealg.CountString", "internal/abi.NoEscape", "internal/bytealg.MakeNoZero"], unfollowed := true, recurses := true, named := ["unicode/utf8.first", "unicode/utf8.acceptRanges", "internal/bytealg.MaxLen"], apart := false, laid := [("unicode/utf8.acceptRanges", laid_unicode_utf8_acceptRanges), ("unicode/utf8.first", laid_unicode_utf8_first)], narrowed := true }
def TopDeepUptoSaid : Prop := topDeepUptoRow.holds Tryz.pinned (OpenSpec.upto topDeepSpec)

/-- 'emendtop.TopComments', WHERE WHAT IT READS IS OF BULK AT MOST 1048576: true; the input reads as it did. -/
def topCommentsUptoRow : OpenClaim := { program := "ytpjdgifhhnjclaagreatdoor", sum := "b64f3cecb1096e1ce773df4ee8c22c28e2e8422e16242c43d0e0000753a6a3f0", func := "emend/emendtop.TopComments", spec := "topComments", inPlace := ["internal/bytealg.IndexByteString", "internal/bytealg.IndexString", "internal/bytealg.CountString", "internal/abi.NoEscape", "internal/bytealg.MakeNoZero"], unfollowed := true, recurses := true, named := ["unicode/utf8.first", "unicode/utf8.acceptRanges", "internal/bytealg.MaxLen"], apart := false, laid := [("unicode/utf8.acceptRanges", laid_unicode_utf8_acceptRanges), ("unicode/utf8.first", laid_unicode_utf8_first)], narrowed := true }
def TopCommentsUptoSaid : Prop := topCommentsUptoRow.holds Tryz.pinned (OpenSpec.upto topCommentsSpec)

end Rows
end Go.Proofs.YtpjdgifhhnjclaaGreatDoor
