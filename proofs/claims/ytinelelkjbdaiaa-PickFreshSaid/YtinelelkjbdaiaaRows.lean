/-
  No cell of these rows narrows 'for every input' (looked for: loops, veiled, ifaces, maps, wideKeys, modest, calm, conditions, laid).
  DERIVED. THE GIVEN ROWS OF THIS SEAT. 5 by the template 'for every input the law returns true; each argument reads behind the call as it read before'; 0 by the template 'total and deterministic' (their statements: YtinelelkjbdaiaaTotals.lean).
  GIVEN WITH THE SEED: the statements are not yours to turn. If you find one false, say at which input.
  Laid BY PROGRAM, IN A SANDBOX (cutbox-rows.mjs): the forced cells as the released guide's own fill.sh prints them over the translation 79507758e47de784… (all of the seat's roots in one cut). By AI agents, Wed Nov 11 2026. No macro, syntax, notation, axiom, sorry.
-/
import Derived.Test.YtinelelkjbdaiaaChecked
import GoSem.Claim
import GoSem.ClaimJoined
import GoSem.ClaimMapViews
import Derived.JoinedTies
import Derived.KernelRfl
namespace Go.Proofs.Ytinelelkjbdaiaa
/- THE CELL 'sum', in the pinned program and in every row, IS THE sha256 OF THE DUMP (.gsa) THAT YtinelelkjbdaiaaProg.lean LOADS. Nothing in Lean hashes anything: it is a label: what it is worth is what the hold of that sum in a sandbox is worth. -/
noncomputable def Try.pinned : Pinned := { name := "ytinelelkjbdaiaa", sum := "79507758e47de784b63dd6583e8dac2f9913a0448755291fca5e6d6b969aff71", checked := Try.checked }
namespace Rows
def none {H : Type} : Left H := { results := [], args := [] }

/-- 'emendlaw19.PickPicks': WHATEVER THE INPUT: true; the input reads as it did. -/
def pickPicksSpec : ChangeSpec := { name := "pickPicks", fn := fun _ => fun
  | [d1, d2] => { results := [.lit (.bool true)], args := [d1, d2] }
  | _ => none }
def pickPicksRow : OpenClaim := { program := "ytinelelkjbdaiaa", sum := "79507758e47de784b63dd6583e8dac2f9913a0448755291fca5e6d6b969aff71", func := "emend/emendlaw19.PickPicks", spec := "pickPicks", unfollowed := true, recurses := true, apart := false }
def PickPicksSaid : Prop := pickPicksRow.holds Try.pinned (OpenSpec.ofChange pickPicksSpec)

/-- ITS FALSE NEIGHBOUR: 'it returns false'. Refute it at one input. -/
def pickPicksWrong : ChangeSpec := { name := "pickPicks", fn := fun _ => fun
  | [d1, d2] => { results := [.lit (.bool false)], args := [d1, d2] }
  | _ => none }
def PickPicksWrongFalsely : Prop := pickPicksRow.holds Try.pinned (OpenSpec.ofChange pickPicksWrong)

/-- 'emendlaw19.PickApart': WHATEVER THE INPUT: true; the input reads as it did. -/
def pickApartSpec : ChangeSpec := { name := "pickApart", fn := fun _ => fun
  | [d1, d2] => { results := [.lit (.bool true)], args := [d1, d2] }
  | _ => none }
def pickApartRow : OpenClaim := { program := "ytinelelkjbdaiaa", sum := "79507758e47de784b63dd6583e8dac2f9913a0448755291fca5e6d6b969aff71", func := "emend/emendlaw19.PickApart", spec := "pickApart", unfollowed := true, recurses := true, apart := false }
def PickApartSaid : Prop := pickApartRow.holds Try.pinned (OpenSpec.ofChange pickApartSpec)

/-- ITS FALSE NEIGHBOUR: 'it returns false'. Refute it at one input. -/
def pickApartWrong : ChangeSpec := { name := "pickApart", fn := fun _ => fun
  | [d1, d2] => { results := [.lit (.bool false)], args := [d1, d2] }
  | _ => none }
def PickApartWrongFalsely : Prop := pickApartRow.holds Try.pinned (OpenSpec.ofChange pickApartWrong)

/-- 'emendlaw19.PickOrder': WHATEVER THE INPUT: true; the input reads as it did. -/
def pickOrderSpec : ChangeSpec := { name := "pickOrder", fn := fun _ => fun
  | [d1, d2, d3] => { results := [.lit (.bool true)], args := [d1, d2, d3] }
  | _ => none }
def pickOrderRow : OpenClaim := { program := "ytinelelkjbdaiaa", sum := "79507758e47de784b63dd6583e8dac2f9913a0448755291fca5e6d6b969aff71", func := "emend/emendlaw19.PickOrder", spec := "pickOrder", unfollowed := true, recurses := true, apart := false }
def PickOrderSaid : Prop := pickOrderRow.holds Try.pinned (OpenSpec.ofChange pickOrderSpec)

/-- ITS FALSE NEIGHBOUR: 'it returns false'. Refute it at one input. -/
def pickOrderWrong : ChangeSpec := { name := "pickOrder", fn := fun _ => fun
  | [d1, d2, d3] => { results := [.lit (.bool false)], args := [d1, d2, d3] }
  | _ => none }
def PickOrderWrongFalsely : Prop := pickOrderRow.holds Try.pinned (OpenSpec.ofChange pickOrderWrong)

/-- 'emendlaw19.PickOne': WHATEVER THE INPUT: true; the input reads as it did. -/
def pickOneSpec : ChangeSpec := { name := "pickOne", fn := fun _ => fun
  | [d1, d2, d3] => { results := [.lit (.bool true)], args := [d1, d2, d3] }
  | _ => none }
def pickOneRow : OpenClaim := { program := "ytinelelkjbdaiaa", sum := "79507758e47de784b63dd6583e8dac2f9913a0448755291fca5e6d6b969aff71", func := "emend/emendlaw19.PickOne", spec := "pickOne", unfollowed := true, recurses := true, apart := false }
def PickOneSaid : Prop := pickOneRow.holds Try.pinned (OpenSpec.ofChange pickOneSpec)

/-- ITS FALSE NEIGHBOUR: 'it returns false'. Refute it at one input. -/
def pickOneWrong : ChangeSpec := { name := "pickOne", fn := fun _ => fun
  | [d1, d2, d3] => { results := [.lit (.bool false)], args := [d1, d2, d3] }
  | _ => none }
def PickOneWrongFalsely : Prop := pickOneRow.holds Try.pinned (OpenSpec.ofChange pickOneWrong)

/-- 'emendlaw19.PickFresh': WHATEVER THE INPUT: true; the input reads as it did. -/
def pickFreshSpec : ChangeSpec := { name := "pickFresh", fn := fun _ => fun
  | [d1, d2] => { results := [.lit (.bool true)], args := [d1, d2] }
  | _ => none }
def pickFreshRow : OpenClaim := { program := "ytinelelkjbdaiaa", sum := "79507758e47de784b63dd6583e8dac2f9913a0448755291fca5e6d6b969aff71", func := "emend/emendlaw19.PickFresh", spec := "pickFresh", unfollowed := true, recurses := true, apart := false }
def PickFreshSaid : Prop := pickFreshRow.holds Try.pinned (OpenSpec.ofChange pickFreshSpec)

/-- ITS FALSE NEIGHBOUR: 'it returns false'. Refute it at one input. -/
def pickFreshWrong : ChangeSpec := { name := "pickFresh", fn := fun _ => fun
  | [d1, d2] => { results := [.lit (.bool false)], args := [d1, d2] }
  | _ => none }
def PickFreshWrongFalsely : Prop := pickFreshRow.holds Try.pinned (OpenSpec.ofChange pickFreshWrong)

/- THE SECOND FORM. 'bulk': how many values and letters a reading holds, each counted each time it is reached (what is shared counts as often as it is met; a slice's spare places count too). A statement '..UptoSaid' is the law's where the arguments, and the package variables that the reading takes, are together of bulk at most 1048576: NARROWER than '..Said'. Prove '..Said' where nothing that the law and all that it calls make is longer than what came in: it says more and counts as full. Else prove '..UptoSaid'. A law counts once. -/
mutual
def uptoBulk {H : Type} : DataW H → Nat
  | .lit (.string bytes) => bytes.length + 1
  | .lit _ => 1
  | .nil => 1
  | .ptr d => uptoBulk d + 1
  | .slice elems spare => uptoBulkAll elems + uptoBulkAll spare + 1
  | .agg parts => uptoBulkAll parts + 1
  | .iface _ d => uptoBulk d + 1
  | .map entries => uptoBulkEntries entries + 1
  | .held _ => 1
def uptoBulkAll {H : Type} : List (DataW H) → Nat
  | [] => 0
  | d :: r => uptoBulk d + uptoBulkAll r
def uptoBulkEntries {H : Type} : List (Lit × DataW H) → Nat
  | [] => 0
  | x :: r => uptoBulkEntry x + uptoBulkEntries r
def uptoBulkEntry {H : Type} : Lit × DataW H → Nat
  | (.string bytes, d) => bytes.length + uptoBulk d + 1
  | (_, d) => uptoBulk d + 1
 end
def uptoSmall : (H : Type) → List (DataW H) → Bool := fun _ ds => decide (uptoBulkAll ds ≤ 1048576)
def OpenSpec.upto (s : _root_.Go.ChangeSpec) : _root_.Go.OpenSpec := { _root_.Go.OpenSpec.ofChange s with cond := some uptoSmall }

/-- 'emendlaw19.PickPicks', WHERE WHAT IT READS IS OF BULK AT MOST 1048576: true; the input reads as it did. -/
def pickPicksUptoRow : OpenClaim := { program := "ytinelelkjbdaiaa", sum := "79507758e47de784b63dd6583e8dac2f9913a0448755291fca5e6d6b969aff71", func := "emend/emendlaw19.PickPicks", spec := "pickPicks", unfollowed := true, recurses := true, apart := false, narrowed := true }
def PickPicksUptoSaid : Prop := pickPicksUptoRow.holds Try.pinned (OpenSpec.upto pickPicksSpec)

/-- 'emendlaw19.PickApart', WHERE WHAT IT READS IS OF BULK AT MOST 1048576: true; the input reads as it did. -/
def pickApartUptoRow : OpenClaim := { program := "ytinelelkjbdaiaa", sum := "79507758e47de784b63dd6583e8dac2f9913a0448755291fca5e6d6b969aff71", func := "emend/emendlaw19.PickApart", spec := "pickApart", unfollowed := true, recurses := true, apart := false, narrowed := true }
def PickApartUptoSaid : Prop := pickApartUptoRow.holds Try.pinned (OpenSpec.upto pickApartSpec)

/-- 'emendlaw19.PickOrder', WHERE WHAT IT READS IS OF BULK AT MOST 1048576: true; the input reads as it did. -/
def pickOrderUptoRow : OpenClaim := { program := "ytinelelkjbdaiaa", sum := "79507758e47de784b63dd6583e8dac2f9913a0448755291fca5e6d6b969aff71", func := "emend/emendlaw19.PickOrder", spec := "pickOrder", unfollowed := true, recurses := true, apart := false, narrowed := true }
def PickOrderUptoSaid : Prop := pickOrderUptoRow.holds Try.pinned (OpenSpec.upto pickOrderSpec)

/-- 'emendlaw19.PickOne', WHERE WHAT IT READS IS OF BULK AT MOST 1048576: true; the input reads as it did. -/
def pickOneUptoRow : OpenClaim := { program := "ytinelelkjbdaiaa", sum := "79507758e47de784b63dd6583e8dac2f9913a0448755291fca5e6d6b969aff71", func := "emend/emendlaw19.PickOne", spec := "pickOne", unfollowed := true, recurses := true, apart := false, narrowed := true }
def PickOneUptoSaid : Prop := pickOneUptoRow.holds Try.pinned (OpenSpec.upto pickOneSpec)

/-- 'emendlaw19.PickFresh', WHERE WHAT IT READS IS OF BULK AT MOST 1048576: true; the input reads as it did. -/
def pickFreshUptoRow : OpenClaim := { program := "ytinelelkjbdaiaa", sum := "79507758e47de784b63dd6583e8dac2f9913a0448755291fca5e6d6b969aff71", func := "emend/emendlaw19.PickFresh", spec := "pickFresh", unfollowed := true, recurses := true, apart := false, narrowed := true }
def PickFreshUptoSaid : Prop := pickFreshUptoRow.holds Try.pinned (OpenSpec.upto pickFreshSpec)

end Rows
end Go.Proofs.Ytinelelkjbdaiaa
