/-
  DERIVED. GIVEN WITH THE SEED: THE CARDS: each row of YtkbkjmhkchagbaaDoorRows.lean that lists a variable, with what it lists TIED to the program's text (the seventh form; the later family's looks); each row that meets fmt, with fmt's text TOLD by the authors' own Lean function (tested against real Go, not proved from fmt's source: count such statements apart). THE CARD IS WHAT COUNTS. Prove the row's statement (the work); the ties are given (YtkbkjmhkchagbaaDoorTie.lean); close each card by the builder's one call (the guide's Derived/Test/ToyasCard.lean, 'card_holds'). Laid BY PROGRAM, IN A SANDBOX (cutbox-door.mjs). By AI agents, Wed Nov 11 2026. No macro, syntax, notation, axiom, sorry.
-/
import Derived.Test.YtkbkjmhkchagbaaDoorRows
import GoSem.ClaimSeven
namespace Go.Proofs.YtkbkjmhkchagbaaDoor
namespace Rows

/-- THE TIED CARD OF 'laws.FnExactDescribe'. -/
def fnExactDescribeCard : Claim7 := { stood := { row := fnExactDescribeRow, standIns := [], harness := (true, "8f835da27757503863bb78df8566909d9947964b71cb49f497aabccd8a6289fb"), looks := false }, kinds := [], alts := [], laidByText := true, laidKinds := [.data], laidTests := true, laidLooks := .later }
def FnExactDescribeCardSaid : Prop := Claim7.holds Tryd.pinned (.plain (OpenSpec.ofChange fnExactDescribeSpec)) fnExactDescribeCard

/-- THE SECOND FORM's CARD OF 'laws.FnExactDescribe'. -/
def fnExactDescribeUptoCard : Claim7 := { stood := { row := fnExactDescribeUptoRow, standIns := [], harness := (true, "8f835da27757503863bb78df8566909d9947964b71cb49f497aabccd8a6289fb"), looks := false }, kinds := [], alts := [], laidByText := true, laidKinds := [.data], laidTests := true, laidLooks := .later }
def FnExactDescribeUptoCardSaid : Prop := Claim7.holds Tryd.pinned (.plain (OpenSpec.upto fnExactDescribeSpec)) fnExactDescribeUptoCard
end Rows
end Go.Proofs.YtkbkjmhkchagbaaDoor
