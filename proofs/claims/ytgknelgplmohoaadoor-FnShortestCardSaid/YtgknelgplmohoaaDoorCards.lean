/-
  DERIVED. GIVEN WITH THE SEED: THE CARDS: each row of YtgknelgplmohoaaDoorRows.lean that lists a variable, with what it lists TIED to the program's text (the seventh form; the later family's looks); each row that meets fmt, with fmt's text TOLD by the authors' own Lean function (tested against real Go, not proved from fmt's source: count such statements apart). THE CARD IS WHAT COUNTS. Prove the row's statement (the work); the ties are given (YtgknelgplmohoaaDoorTie.lean); close each card by the builder's one call (the guide's Derived/Test/ToyasCard.lean, 'card_holds'). Laid BY PROGRAM, IN A SANDBOX (cutbox-door.mjs). By AI agents, Wed Nov 11 2026. No macro, syntax, notation, axiom, sorry.
-/
import Derived.Test.YtgknelgplmohoaaDoorRows
import GoSem.ClaimSeven
namespace Go.Proofs.YtgknelgplmohoaaDoor
namespace Rows

/-- THE TIED CARD OF 'laws.FnNearest'. -/
def fnNearestCard : Claim7 := { stood := { row := fnNearestRow, standIns := [], harness := (true, "8acf51dd352197777fcd9328606bfdf4fe1d90fdd9a376a4406ae5a33b898595"), looks := true }, kinds := [], alts := [], laidByText := true, laidKinds := [.data], laidTests := true, laidLooks := .later }
def FnNearestCardSaid : Prop := Claim7.holds Tryd.pinned (.plain (OpenSpec.ofChange fnNearestSpec)) fnNearestCard

/-- THE TIED CARD OF 'laws.FnExactParseExact'. -/
def fnExactParseExactCard : Claim7 := { stood := { row := fnExactParseExactRow, standIns := [], harness := (true, "8acf51dd352197777fcd9328606bfdf4fe1d90fdd9a376a4406ae5a33b898595"), looks := true }, kinds := [], alts := [], laidByText := true, laidKinds := [.data], laidTests := true, laidLooks := .later }
def FnExactParseExactCardSaid : Prop := Claim7.holds Tryd.pinned (.plain (OpenSpec.ofChange fnExactParseExactSpec)) fnExactParseExactCard

/-- THE TIED CARD OF 'laws.FnExactShortest'. -/
def fnExactShortestCard : Claim7 := { stood := { row := fnExactShortestRow, standIns := [], harness := (true, "8acf51dd352197777fcd9328606bfdf4fe1d90fdd9a376a4406ae5a33b898595"), looks := true }, kinds := [], alts := [], laidByText := true, laidKinds := [.data], laidTests := true, laidLooks := .later }
def FnExactShortestCardSaid : Prop := Claim7.holds Tryd.pinned (.plain (OpenSpec.ofChange fnExactShortestSpec)) fnExactShortestCard

/-- THE TIED CARD OF 'laws.FnShortest'. -/
def fnShortestCard : Claim7 := { stood := { row := fnShortestRow, standIns := [], harness := (true, "8acf51dd352197777fcd9328606bfdf4fe1d90fdd9a376a4406ae5a33b898595"), looks := true }, kinds := [], alts := [], laidByText := true, laidKinds := [.data], laidTests := true, laidLooks := .later }
def FnShortestCardSaid : Prop := Claim7.holds Tryd.pinned (.plain (OpenSpec.ofChange fnShortestSpec)) fnShortestCard

/-- THE SECOND FORM's CARD OF 'laws.FnNearest'. -/
def fnNearestUptoCard : Claim7 := { stood := { row := fnNearestUptoRow, standIns := [], harness := (true, "8acf51dd352197777fcd9328606bfdf4fe1d90fdd9a376a4406ae5a33b898595"), looks := true }, kinds := [], alts := [], laidByText := true, laidKinds := [.data], laidTests := true, laidLooks := .later }
def FnNearestUptoCardSaid : Prop := Claim7.holds Tryd.pinned (.plain (OpenSpec.upto fnNearestSpec)) fnNearestUptoCard

/-- THE SECOND FORM's CARD OF 'laws.FnExactParseExact'. -/
def fnExactParseExactUptoCard : Claim7 := { stood := { row := fnExactParseExactUptoRow, standIns := [], harness := (true, "8acf51dd352197777fcd9328606bfdf4fe1d90fdd9a376a4406ae5a33b898595"), looks := true }, kinds := [], alts := [], laidByText := true, laidKinds := [.data], laidTests := true, laidLooks := .later }
def FnExactParseExactUptoCardSaid : Prop := Claim7.holds Tryd.pinned (.plain (OpenSpec.upto fnExactParseExactSpec)) fnExactParseExactUptoCard

/-- THE SECOND FORM's CARD OF 'laws.FnExactShortest'. -/
def fnExactShortestUptoCard : Claim7 := { stood := { row := fnExactShortestUptoRow, standIns := [], harness := (true, "8acf51dd352197777fcd9328606bfdf4fe1d90fdd9a376a4406ae5a33b898595"), looks := true }, kinds := [], alts := [], laidByText := true, laidKinds := [.data], laidTests := true, laidLooks := .later }
def FnExactShortestUptoCardSaid : Prop := Claim7.holds Tryd.pinned (.plain (OpenSpec.upto fnExactShortestSpec)) fnExactShortestUptoCard

/-- THE SECOND FORM's CARD OF 'laws.FnShortest'. -/
def fnShortestUptoCard : Claim7 := { stood := { row := fnShortestUptoRow, standIns := [], harness := (true, "8acf51dd352197777fcd9328606bfdf4fe1d90fdd9a376a4406ae5a33b898595"), looks := true }, kinds := [], alts := [], laidByText := true, laidKinds := [.data], laidTests := true, laidLooks := .later }
def FnShortestUptoCardSaid : Prop := Claim7.holds Tryd.pinned (.plain (OpenSpec.upto fnShortestSpec)) fnShortestUptoCard
end Rows
end Go.Proofs.YtgknelgplmohoaaDoor
