/-
  No cell of these rows narrows 'for every input' (looked for: loops, veiled, ifaces, maps, wideKeys, modest, calm, conditions, laid).
  DERIVED. THE GIVEN ROWS OF THIS SEAT. 7 by the template 'for every input the law returns true; each argument reads behind the call as it read before'; 0 by the template 'total and deterministic' (their statements: YtfaiabpmaklgmaaTotals.lean).
  GIVEN WITH THE SEED: the statements are not yours to turn. If you find one false, say at which input.
  Laid BY PROGRAM, IN A SANDBOX (cutbox-rows.mjs): the forced cells as the released guide's own fill.sh prints them over the translation 46811e2146ec06e5… (all of the seat's roots in one cut). By AI agents, Wed Nov 11 2026. No macro, syntax, notation, axiom, sorry.
-/
import Derived.Test.YtfaiabpmaklgmaaChecked
import GoSem.Claim
import GoSem.ClaimJoined
import GoSem.ClaimMapViews
import Derived.JoinedTies
import Derived.KernelRfl
namespace Go.Proofs.Ytfaiabpmaklgmaa
/- THE CELL 'sum', in the pinned program and in every row, IS THE sha256 OF THE DUMP (.gsa) THAT YtfaiabpmaklgmaaProg.lean LOADS. Nothing in Lean hashes anything: it is a label: what it is worth is what the hold of that sum in a sandbox is worth. -/
noncomputable def Try.pinned : Pinned := { name := "ytfaiabpmaklgmaa", sum := "46811e2146ec06e53d5ce7f2092a49a6c0eec5944d79d2144bd0a689a8e3ce41", checked := Try.checked }
namespace Rows
def none {H : Type} : Left H := { results := [], args := [] }

/-- 'emendlaw04.LinesStarts': WHATEVER THE INPUT: true; the input reads as it did. -/
def linesStartsSpec : ChangeSpec := { name := "linesStarts", fn := fun _ => fun
  | [d] => { results := [.lit (.bool true)], args := [d] }
  | _ => none }
def linesStartsRow : OpenClaim := { program := "ytfaiabpmaklgmaa", sum := "46811e2146ec06e53d5ce7f2092a49a6c0eec5944d79d2144bd0a689a8e3ce41", func := "emend/emendlaw04.LinesStarts", spec := "linesStarts", inPlace := ["internal/bytealg.CountString", "internal/bytealg.IndexByteString", "internal/bytealg.IndexString"], unfollowed := true, recurses := true, named := ["internal/bytealg.MaxLen"], apart := false }
def LinesStartsSaid : Prop := linesStartsRow.holds Try.pinned (OpenSpec.ofChange linesStartsSpec)

/-- ITS FALSE NEIGHBOUR: 'it returns false'. Refute it at one input. -/
def linesStartsWrong : ChangeSpec := { name := "linesStarts", fn := fun _ => fun
  | [d] => { results := [.lit (.bool false)], args := [d] }
  | _ => none }
def LinesStartsWrongFalsely : Prop := linesStartsRow.holds Try.pinned (OpenSpec.ofChange linesStartsWrong)

/-- 'emendlaw04.LinesTexts': WHATEVER THE INPUT: true; the input reads as it did. -/
def linesTextsSpec : ChangeSpec := { name := "linesTexts", fn := fun _ => fun
  | [d1, d2] => { results := [.lit (.bool true)], args := [d1, d2] }
  | _ => none }
def linesTextsRow : OpenClaim := { program := "ytfaiabpmaklgmaa", sum := "46811e2146ec06e53d5ce7f2092a49a6c0eec5944d79d2144bd0a689a8e3ce41", func := "emend/emendlaw04.LinesTexts", spec := "linesTexts", inPlace := ["internal/bytealg.CountString", "internal/bytealg.IndexByteString", "internal/bytealg.IndexString"], unfollowed := true, recurses := true, named := ["internal/bytealg.MaxLen"], apart := false }
def LinesTextsSaid : Prop := linesTextsRow.holds Try.pinned (OpenSpec.ofChange linesTextsSpec)

/-- ITS FALSE NEIGHBOUR: 'it returns false'. Refute it at one input. -/
def linesTextsWrong : ChangeSpec := { name := "linesTexts", fn := fun _ => fun
  | [d1, d2] => { results := [.lit (.bool false)], args := [d1, d2] }
  | _ => none }
def LinesTextsWrongFalsely : Prop := linesTextsRow.holds Try.pinned (OpenSpec.ofChange linesTextsWrong)

/-- 'emendlaw04.LinesPlaces': WHATEVER THE INPUT: true; the input reads as it did. -/
def linesPlacesSpec : ChangeSpec := { name := "linesPlaces", fn := fun _ => fun
  | [d1, d2] => { results := [.lit (.bool true)], args := [d1, d2] }
  | _ => none }
def linesPlacesRow : OpenClaim := { program := "ytfaiabpmaklgmaa", sum := "46811e2146ec06e53d5ce7f2092a49a6c0eec5944d79d2144bd0a689a8e3ce41", func := "emend/emendlaw04.LinesPlaces", spec := "linesPlaces", inPlace := ["internal/bytealg.CountString", "internal/bytealg.IndexByteString", "internal/bytealg.IndexString"], unfollowed := true, recurses := true, named := ["internal/bytealg.MaxLen"], apart := false }
def LinesPlacesSaid : Prop := linesPlacesRow.holds Try.pinned (OpenSpec.ofChange linesPlacesSpec)

/-- ITS FALSE NEIGHBOUR: 'it returns false'. Refute it at one input. -/
def linesPlacesWrong : ChangeSpec := { name := "linesPlaces", fn := fun _ => fun
  | [d1, d2] => { results := [.lit (.bool false)], args := [d1, d2] }
  | _ => none }
def LinesPlacesWrongFalsely : Prop := linesPlacesRow.holds Try.pinned (OpenSpec.ofChange linesPlacesWrong)

/-- 'emendlaw04.LinesOffs': WHATEVER THE INPUT: true; the input reads as it did. -/
def linesOffsSpec : ChangeSpec := { name := "linesOffs", fn := fun _ => fun
  | [d1, d2] => { results := [.lit (.bool true)], args := [d1, d2] }
  | _ => none }
def linesOffsRow : OpenClaim := { program := "ytfaiabpmaklgmaa", sum := "46811e2146ec06e53d5ce7f2092a49a6c0eec5944d79d2144bd0a689a8e3ce41", func := "emend/emendlaw04.LinesOffs", spec := "linesOffs", inPlace := ["internal/bytealg.CountString", "internal/bytealg.IndexByteString", "internal/bytealg.IndexString"], unfollowed := true, recurses := true, named := ["internal/bytealg.MaxLen"], apart := false }
def LinesOffsSaid : Prop := linesOffsRow.holds Try.pinned (OpenSpec.ofChange linesOffsSpec)

/-- ITS FALSE NEIGHBOUR: 'it returns false'. Refute it at one input. -/
def linesOffsWrong : ChangeSpec := { name := "linesOffs", fn := fun _ => fun
  | [d1, d2] => { results := [.lit (.bool false)], args := [d1, d2] }
  | _ => none }
def LinesOffsWrongFalsely : Prop := linesOffsRow.holds Try.pinned (OpenSpec.ofChange linesOffsWrong)

/-- 'emendlaw04.LinesBack': WHATEVER THE INPUT: true; the input reads as it did. -/
def linesBackSpec : ChangeSpec := { name := "linesBack", fn := fun _ => fun
  | [d1, d2, d3] => { results := [.lit (.bool true)], args := [d1, d2, d3] }
  | _ => none }
def linesBackRow : OpenClaim := { program := "ytfaiabpmaklgmaa", sum := "46811e2146ec06e53d5ce7f2092a49a6c0eec5944d79d2144bd0a689a8e3ce41", func := "emend/emendlaw04.LinesBack", spec := "linesBack", inPlace := ["internal/bytealg.CountString", "internal/bytealg.IndexByteString", "internal/bytealg.IndexString"], unfollowed := true, recurses := true, named := ["internal/bytealg.MaxLen"], apart := false }
def LinesBackSaid : Prop := linesBackRow.holds Try.pinned (OpenSpec.ofChange linesBackSpec)

/-- ITS FALSE NEIGHBOUR: 'it returns false'. Refute it at one input. -/
def linesBackWrong : ChangeSpec := { name := "linesBack", fn := fun _ => fun
  | [d1, d2, d3] => { results := [.lit (.bool false)], args := [d1, d2, d3] }
  | _ => none }
def LinesBackWrongFalsely : Prop := linesBackRow.holds Try.pinned (OpenSpec.ofChange linesBackWrong)

/-- 'emendlaw04.LinesWhole': WHATEVER THE INPUT: true; the input reads as it did. -/
def linesWholeSpec : ChangeSpec := { name := "linesWhole", fn := fun _ => fun
  | [d] => { results := [.lit (.bool true)], args := [d] }
  | _ => none }
def linesWholeRow : OpenClaim := { program := "ytfaiabpmaklgmaa", sum := "46811e2146ec06e53d5ce7f2092a49a6c0eec5944d79d2144bd0a689a8e3ce41", func := "emend/emendlaw04.LinesWhole", spec := "linesWhole", inPlace := ["internal/bytealg.CountString", "internal/bytealg.IndexByteString", "internal/bytealg.IndexString"], unfollowed := true, recurses := true, named := ["internal/bytealg.MaxLen"], apart := false }
def LinesWholeSaid : Prop := linesWholeRow.holds Try.pinned (OpenSpec.ofChange linesWholeSpec)

/-- ITS FALSE NEIGHBOUR: 'it returns false'. Refute it at one input. -/
def linesWholeWrong : ChangeSpec := { name := "linesWhole", fn := fun _ => fun
  | [d] => { results := [.lit (.bool false)], args := [d] }
  | _ => none }
def LinesWholeWrongFalsely : Prop := linesWholeRow.holds Try.pinned (OpenSpec.ofChange linesWholeWrong)

/-- 'emendlaw04.LinesOrder': WHATEVER THE INPUT: true; the input reads as it did. -/
def linesOrderSpec : ChangeSpec := { name := "linesOrder", fn := fun _ => fun
  | [d1, d2, d3] => { results := [.lit (.bool true)], args := [d1, d2, d3] }
  | _ => none }
def linesOrderRow : OpenClaim := { program := "ytfaiabpmaklgmaa", sum := "46811e2146ec06e53d5ce7f2092a49a6c0eec5944d79d2144bd0a689a8e3ce41", func := "emend/emendlaw04.LinesOrder", spec := "linesOrder", inPlace := ["internal/bytealg.CountString", "internal/bytealg.IndexByteString", "internal/bytealg.IndexString"], unfollowed := true, recurses := true, named := ["internal/bytealg.MaxLen"], apart := false }
def LinesOrderSaid : Prop := linesOrderRow.holds Try.pinned (OpenSpec.ofChange linesOrderSpec)

/-- ITS FALSE NEIGHBOUR: 'it returns false'. Refute it at one input. -/
def linesOrderWrong : ChangeSpec := { name := "linesOrder", fn := fun _ => fun
  | [d1, d2, d3] => { results := [.lit (.bool false)], args := [d1, d2, d3] }
  | _ => none }
def LinesOrderWrongFalsely : Prop := linesOrderRow.holds Try.pinned (OpenSpec.ofChange linesOrderWrong)

/- THE SECOND FORM. 'bulk': how many values and letters a reading holds, each counted each time it is reached (what is shared counts as often as it is met; a slice's spare places count too). A statement '..UptoSaid' is the law's where the arguments, and the package variables that the reading takes, are together of bulk at most 1048576: NARROWER than '..Said'. Prove '..Said' where nothing that the law and all that it calls make is longer than what came in: it says more and counts as full. Else prove '..UptoSaid'. A law counts once. -/
mutual
def uptoBulk {H : Type} : DataW H → Nat
  | .lit (.string bytes) => bytes.length + 1
  | .lit _ => 1
  | .nil => 1
  | .ptr d => uptoBulk d + 1
  | .slice elems spare => uptoBulkAll elems + uptoBulkAll spare + 1
  | .agg parts => uptoBulkAll parts + 1
  | .iface _ d => uptoBulk d + 1
  | .map entries => uptoBulkEntries entries + 1
  | .held _ => 1
def uptoBulkAll {H : Type} : List (DataW H) → Nat
  | [] => 0
  | d :: r => uptoBulk d + uptoBulkAll r
def uptoBulkEntries {H : Type} : List (Lit × DataW H) → Nat
  | [] => 0
  | x :: r => uptoBulkEntry x + uptoBulkEntries r
def uptoBulkEntry {H : Type} : Lit × DataW H → Nat
  | (.string bytes, d) => bytes.length + uptoBulk d + 1
  | (_, d) => uptoBulk d + 1
 end
def uptoSmall : (H : Type) → List (DataW H) → Bool := fun _ ds => decide (uptoBulkAll ds ≤ 1048576)
def OpenSpec.upto (s : _root_.Go.ChangeSpec) : _root_.Go.OpenSpec := { _root_.Go.OpenSpec.ofChange s with cond := some uptoSmall }

/-- 'emendlaw04.LinesStarts', WHERE WHAT IT READS IS OF BULK AT MOST 1048576: true; the input reads as it did. -/
def linesStartsUptoRow : OpenClaim := { program := "ytfaiabpmaklgmaa", sum := "46811e2146ec06e53d5ce7f2092a49a6c0eec5944d79d2144bd0a689a8e3ce41", func := "emend/emendlaw04.LinesStarts", spec := "linesStarts", inPlace := ["internal/bytealg.CountString", "internal/bytealg.IndexByteString", "internal/bytealg.IndexString"], unfollowed := true, recurses := true, named := ["internal/bytealg.MaxLen"], apart := false, narrowed := true }
def LinesStartsUptoSaid : Prop := linesStartsUptoRow.holds Try.pinned (OpenSpec.upto linesStartsSpec)

/-- 'emendlaw04.LinesTexts', WHERE WHAT IT READS IS OF BULK AT MOST 1048576: true; the input reads as it did. -/
def linesTextsUptoRow : OpenClaim := { program := "ytfaiabpmaklgmaa", sum := "46811e2146ec06e53d5ce7f2092a49a6c0eec5944d79d2144bd0a689a8e3ce41", func := "emend/emendlaw04.LinesTexts", spec := "linesTexts", inPlace := ["internal/bytealg.CountString", "internal/bytealg.IndexByteString", "internal/bytealg.IndexString"], unfollowed := true, recurses := true, named := ["internal/bytealg.MaxLen"], apart := false, narrowed := true }
def LinesTextsUptoSaid : Prop := linesTextsUptoRow.holds Try.pinned (OpenSpec.upto linesTextsSpec)

/-- 'emendlaw04.LinesPlaces', WHERE WHAT IT READS IS OF BULK AT MOST 1048576: true; the input reads as it did. -/
def linesPlacesUptoRow : OpenClaim := { program := "ytfaiabpmaklgmaa", sum := "46811e2146ec06e53d5ce7f2092a49a6c0eec5944d79d2144bd0a689a8e3ce41", func := "emend/emendlaw04.LinesPlaces", spec := "linesPlaces", inPlace := ["internal/bytealg.CountString", "internal/bytealg.IndexByteString", "internal/bytealg.IndexString"], unfollowed := true, recurses := true, named := ["internal/bytealg.MaxLen"], apart := false, narrowed := true }
def LinesPlacesUptoSaid : Prop := linesPlacesUptoRow.holds Try.pinned (OpenSpec.upto linesPlacesSpec)

/-- 'emendlaw04.LinesOffs', WHERE WHAT IT READS IS OF BULK AT MOST 1048576: true; the input reads as it did. -/
def linesOffsUptoRow : OpenClaim := { program := "ytfaiabpmaklgmaa", sum := "46811e2146ec06e53d5ce7f2092a49a6c0eec5944d79d2144bd0a689a8e3ce41", func := "emend/emendlaw04.LinesOffs", spec := "linesOffs", inPlace := ["internal/bytealg.CountString", "internal/bytealg.IndexByteString", "internal/bytealg.IndexString"], unfollowed := true, recurses := true, named := ["internal/bytealg.MaxLen"], apart := false, narrowed := true }
def LinesOffsUptoSaid : Prop := linesOffsUptoRow.holds Try.pinned (OpenSpec.upto linesOffsSpec)

/-- 'emendlaw04.LinesBack', WHERE WHAT IT READS IS OF BULK AT MOST 1048576: true; the input reads as it did. -/
def linesBackUptoRow : OpenClaim := { program := "ytfaiabpmaklgmaa", sum := "46811e2146ec06e53d5ce7f2092a49a6c0eec5944d79d2144bd0a689a8e3ce41", func := "emend/emendlaw04.LinesBack", spec := "linesBack", inPlace := ["internal/bytealg.CountString", "internal/bytealg.IndexByteString", "internal/bytealg.IndexString"], unfollowed := true, recurses := true, named := ["internal/bytealg.MaxLen"], apart := false, narrowed := true }
def LinesBackUptoSaid : Prop := linesBackUptoRow.holds Try.pinned (OpenSpec.upto linesBackSpec)

/-- 'emendlaw04.LinesWhole', WHERE WHAT IT READS IS OF BULK AT MOST 1048576: true; the input reads as it did. -/
def linesWholeUptoRow : OpenClaim := { program := "ytfaiabpmaklgmaa", sum := "46811e2146ec06e53d5ce7f2092a49a6c0eec5944d79d2144bd0a689a8e3ce41", func := "emend/emendlaw04.LinesWhole", spec := "linesWhole", inPlace := ["internal/bytealg.CountString", "internal/bytealg.IndexByteString", "internal/bytealg.IndexString"], unfollowed := true, recurses := true, named := ["internal/bytealg.MaxLen"], apart := false, narrowed := true }
def LinesWholeUptoSaid : Prop := linesWholeUptoRow.holds Try.pinned (OpenSpec.upto linesWholeSpec)

/-- 'emendlaw04.LinesOrder', WHERE WHAT IT READS IS OF BULK AT MOST 1048576: true; the input reads as it did. -/
def linesOrderUptoRow : OpenClaim := { program := "ytfaiabpmaklgmaa", sum := "46811e2146ec06e53d5ce7f2092a49a6c0eec5944d79d2144bd0a689a8e3ce41", func := "emend/emendlaw04.LinesOrder", spec := "linesOrder", inPlace := ["internal/bytealg.CountString", "internal/bytealg.IndexByteString", "internal/bytealg.IndexString"], unfollowed := true, recurses := true, named := ["internal/bytealg.MaxLen"], apart := false, narrowed := true }
def LinesOrderUptoSaid : Prop := linesOrderUptoRow.holds Try.pinned (OpenSpec.upto linesOrderSpec)

end Rows
end Go.Proofs.Ytfaiabpmaklgmaa
