/-
  DERIVED. GIVEN WITH THE SEED: THE CARDS: each row of YtpjdgifhhnjclaaGreatDoorRows.lean that lists a variable, with what it lists TIED to the program's text (the seventh form; the later family's looks); each row that meets fmt, with fmt's text TOLD by the authors' own Lean function (tested against real Go, not proved from fmt's source: count such statements apart). THE CARD IS WHAT COUNTS. Prove the row's statement (the work); the ties are given (YtpjdgifhhnjclaaGreatDoorTie.lean); close each card by the builder's one call (the guide's Derived/Test/ToyasCard.lean, 'card_holds'). Laid BY PROGRAM, IN A SANDBOX (cutbox-door.mjs). By AI agents, Wed Nov 11 2026. No macro, syntax, notation, axiom, sorry.
-/
import Derived.Test.YtpjdgifhhnjclaaGreatDoorRows
import GoSem.ClaimSeven
namespace Go.Proofs.YtpjdgifhhnjclaaGreatDoor
namespace Rows

/-- THE TIED CARD OF 'emendtop.TopFaults'. -/
def topFaultsCard : Claim7 := { stood := { row := topFaultsRow, standIns := [], harness := (true, "01368e8ac3df85631796006d99623880856978b0f1264a2890e951fdff56247b"), looks := true }, kinds := [], alts := [], laidByText := true, laidKinds := [.data, .pinned], laidTests := true, laidLooks := .later }
def TopFaultsCardSaid : Prop := Claim7.holds Tryz.pinned (.plain (OpenSpec.ofChange topFaultsSpec)) topFaultsCard

/-- THE TIED CARD OF 'emendtop.TopLossless'. -/
def topLosslessCard : Claim7 := { stood := { row := topLosslessRow, standIns := [], harness := (true, "01368e8ac3df85631796006d99623880856978b0f1264a2890e951fdff56247b"), looks := true }, kinds := [], alts := [], laidByText := true, laidKinds := [.data, .pinned], laidTests := true, laidLooks := .later }
def TopLosslessCardSaid : Prop := Claim7.holds Tryz.pinned (.plain (OpenSpec.ofChange topLosslessSpec)) topLosslessCard

/-- THE TIED CARD OF 'emendtop.TopWords'. -/
def topWordsCard : Claim7 := { stood := { row := topWordsRow, standIns := [], harness := (true, "01368e8ac3df85631796006d99623880856978b0f1264a2890e951fdff56247b"), looks := true }, kinds := [], alts := [], laidByText := true, laidKinds := [.data, .pinned], laidTests := true, laidLooks := .later }
def TopWordsCardSaid : Prop := Claim7.holds Tryz.pinned (.plain (OpenSpec.ofChange topWordsSpec)) topWordsCard

/-- THE TIED CARD OF 'emendtop.TopDeep'. -/
def topDeepCard : Claim7 := { stood := { row := topDeepRow, standIns := [], harness := (true, "01368e8ac3df85631796006d99623880856978b0f1264a2890e951fdff56247b"), looks := true }, kinds := [], alts := [], laidByText := true, laidKinds := [.data, .pinned], laidTests := true, laidLooks := .later }
def TopDeepCardSaid : Prop := Claim7.holds Tryz.pinned (.plain (OpenSpec.ofChange topDeepSpec)) topDeepCard

/-- THE TIED CARD OF 'emendtop.TopComments'. -/
def topCommentsCard : Claim7 := { stood := { row := topCommentsRow, standIns := [], harness := (true, "01368e8ac3df85631796006d99623880856978b0f1264a2890e951fdff56247b"), looks := true }, kinds := [], alts := [], laidByText := true, laidKinds := [.data, .pinned], laidTests := true, laidLooks := .later }
def TopCommentsCardSaid : Prop := Claim7.holds Tryz.pinned (.plain (OpenSpec.ofChange topCommentsSpec)) topCommentsCard

/-- THE SECOND FORM's CARD OF 'emendtop.TopFaults'. -/
def topFaultsUptoCard : Claim7 := { stood := { row := topFaultsUptoRow, standIns := [], harness := (true, "01368e8ac3df85631796006d99623880856978b0f1264a2890e951fdff56247b"), looks := true }, kinds := [], alts := [], laidByText := true, laidKinds := [.data, .pinned], laidTests := true, laidLooks := .later }
def TopFaultsUptoCardSaid : Prop := Claim7.holds Tryz.pinned (.plain (OpenSpec.upto topFaultsSpec)) topFaultsUptoCard

/-- THE SECOND FORM's CARD OF 'emendtop.TopLossless'. -/
def topLosslessUptoCard : Claim7 := { stood := { row := topLosslessUptoRow, standIns := [], harness := (true, "01368e8ac3df85631796006d99623880856978b0f1264a2890e951fdff56247b"), looks := true }, kinds := [], alts := [], laidByText := true, laidKinds := [.data, .pinned], laidTests := true, laidLooks := .later }
def TopLosslessUptoCardSaid : Prop := Claim7.holds Tryz.pinned (.plain (OpenSpec.upto topLosslessSpec)) topLosslessUptoCard

/-- THE SECOND FORM's CARD OF 'emendtop.TopWords'. -/
def topWordsUptoCard : Claim7 := { stood := { row := topWordsUptoRow, standIns := [], harness := (true, "01368e8ac3df85631796006d99623880856978b0f1264a2890e951fdff56247b"), looks := true }, kinds := [], alts := [], laidByText := true, laidKinds := [.data, .pinned], laidTests := true, laidLooks := .later }
def TopWordsUptoCardSaid : Prop := Claim7.holds Tryz.pinned (.plain (OpenSpec.upto topWordsSpec)) topWordsUptoCard

/-- THE SECOND FORM's CARD OF 'emendtop.TopDeep'. -/
def topDeepUptoCard : Claim7 := { stood := { row := topDeepUptoRow, standIns := [], harness := (true, "01368e8ac3df85631796006d99623880856978b0f1264a2890e951fdff56247b"), looks := true }, kinds := [], alts := [], laidByText := true, laidKinds := [.data, .pinned], laidTests := true, laidLooks := .later }
def TopDeepUptoCardSaid : Prop := Claim7.holds Tryz.pinned (.plain (OpenSpec.upto topDeepSpec)) topDeepUptoCard

/-- THE SECOND FORM's CARD OF 'emendtop.TopComments'. -/
def topCommentsUptoCard : Claim7 := { stood := { row := topCommentsUptoRow, standIns := [], harness := (true, "01368e8ac3df85631796006d99623880856978b0f1264a2890e951fdff56247b"), looks := true }, kinds := [], alts := [], laidByText := true, laidKinds := [.data, .pinned], laidTests := true, laidLooks := .later }
def TopCommentsUptoCardSaid : Prop := Claim7.holds Tryz.pinned (.plain (OpenSpec.upto topCommentsSpec)) topCommentsUptoCard
end Rows
end Go.Proofs.YtpjdgifhhnjclaaGreatDoor
