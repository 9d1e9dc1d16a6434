/-
  DERIVED. GIVEN WITH THE SEED: THE CARDS: each row of YtiahadohgfahcaaDoorRows.lean that lists a variable, with what it lists TIED to the program's text (the seventh form; the later family's looks); each row that meets fmt, with fmt's text TOLD by the authors' own Lean function (tested against real Go, not proved from fmt's source: count such statements apart). THE CARD IS WHAT COUNTS. Prove the row's statement (the work); the ties are given (YtiahadohgfahcaaDoorTie.lean); close each card by the builder's one call (the guide's Derived/Test/ToyasCard.lean, 'card_holds'). Laid BY PROGRAM, IN A SANDBOX (cutbox-door.mjs). By AI agents, Wed Nov 11 2026. No macro, syntax, notation, axiom, sorry.
-/
import Derived.Test.YtiahadohgfahcaaDoorRows
import GoSem.ClaimSeven
namespace Go.Proofs.YtiahadohgfahcaaDoor
namespace Rows

/-- THE TIED CARD OF 'asoflaw02.DecimalSums'. -/
def decimalSumsCard : Claim7 := { stood := { row := decimalSumsRow, standIns := [], harness := (true, "225924d43a96e330b398fcdd318131b3d33ff26b8fc93871d5bfd4809763ff0c"), looks := false }, kinds := [], alts := [], laidByText := true, laidKinds := [.data, .data, .data, .data], laidTests := true, laidLooks := .later }
def DecimalSumsCardSaid : Prop := Claim7.holds Tryd.pinned (.plain (OpenSpec.ofChange decimalSumsSpec)) decimalSumsCard

/-- THE TIED CARD OF 'asoflaw02.DecimalRing'. -/
def decimalRingCard : Claim7 := { stood := { row := decimalRingRow, standIns := [], harness := (true, "225924d43a96e330b398fcdd318131b3d33ff26b8fc93871d5bfd4809763ff0c"), looks := false }, kinds := [], alts := [], laidByText := true, laidKinds := [.data, .data, .data, .data], laidTests := true, laidLooks := .later }
def DecimalRingCardSaid : Prop := Claim7.holds Tryd.pinned (.plain (OpenSpec.ofChange decimalRingSpec)) decimalRingCard

/-- THE TIED CARD OF 'asoflaw02.DecimalWhole'. -/
def decimalWholeCard : Claim7 := { stood := { row := decimalWholeRow, standIns := [], harness := (true, "225924d43a96e330b398fcdd318131b3d33ff26b8fc93871d5bfd4809763ff0c"), looks := false }, kinds := [], alts := [], laidByText := true, laidKinds := [.data, .data, .data, .data], laidTests := true, laidLooks := .later }
def DecimalWholeCardSaid : Prop := Claim7.holds Tryd.pinned (.plain (OpenSpec.ofChange decimalWholeSpec)) decimalWholeCard

/-- THE TIED CARD OF 'asoflaw02.DecimalMissing'. -/
def decimalMissingCard : Claim7 := { stood := { row := decimalMissingRow, standIns := [], harness := (true, "225924d43a96e330b398fcdd318131b3d33ff26b8fc93871d5bfd4809763ff0c"), looks := false }, kinds := [], alts := [], laidByText := true, laidKinds := [.data, .data, .data, .data], laidTests := true, laidLooks := .later }
def DecimalMissingCardSaid : Prop := Claim7.holds Tryd.pinned (.plain (OpenSpec.ofChange decimalMissingSpec)) decimalMissingCard

/-- THE SECOND FORM's CARD OF 'asoflaw02.DecimalSums'. -/
def decimalSumsUptoCard : Claim7 := { stood := { row := decimalSumsUptoRow, standIns := [], harness := (true, "225924d43a96e330b398fcdd318131b3d33ff26b8fc93871d5bfd4809763ff0c"), looks := false }, kinds := [], alts := [], laidByText := true, laidKinds := [.data, .data, .data, .data], laidTests := true, laidLooks := .later }
def DecimalSumsUptoCardSaid : Prop := Claim7.holds Tryd.pinned (.plain (OpenSpec.upto decimalSumsSpec)) decimalSumsUptoCard

/-- THE SECOND FORM's CARD OF 'asoflaw02.DecimalRing'. -/
def decimalRingUptoCard : Claim7 := { stood := { row := decimalRingUptoRow, standIns := [], harness := (true, "225924d43a96e330b398fcdd318131b3d33ff26b8fc93871d5bfd4809763ff0c"), looks := false }, kinds := [], alts := [], laidByText := true, laidKinds := [.data, .data, .data, .data], laidTests := true, laidLooks := .later }
def DecimalRingUptoCardSaid : Prop := Claim7.holds Tryd.pinned (.plain (OpenSpec.upto decimalRingSpec)) decimalRingUptoCard

/-- THE SECOND FORM's CARD OF 'asoflaw02.DecimalWhole'. -/
def decimalWholeUptoCard : Claim7 := { stood := { row := decimalWholeUptoRow, standIns := [], harness := (true, "225924d43a96e330b398fcdd318131b3d33ff26b8fc93871d5bfd4809763ff0c"), looks := false }, kinds := [], alts := [], laidByText := true, laidKinds := [.data, .data, .data, .data], laidTests := true, laidLooks := .later }
def DecimalWholeUptoCardSaid : Prop := Claim7.holds Tryd.pinned (.plain (OpenSpec.upto decimalWholeSpec)) decimalWholeUptoCard

/-- THE SECOND FORM's CARD OF 'asoflaw02.DecimalMissing'. -/
def decimalMissingUptoCard : Claim7 := { stood := { row := decimalMissingUptoRow, standIns := [], harness := (true, "225924d43a96e330b398fcdd318131b3d33ff26b8fc93871d5bfd4809763ff0c"), looks := false }, kinds := [], alts := [], laidByText := true, laidKinds := [.data, .data, .data, .data], laidTests := true, laidLooks := .later }
def DecimalMissingUptoCardSaid : Prop := Claim7.holds Tryd.pinned (.plain (OpenSpec.upto decimalMissingSpec)) decimalMissingUptoCard
end Rows
end Go.Proofs.YtiahadohgfahcaaDoor
