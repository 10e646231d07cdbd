/-
  NARROWER THAN 'FOR EVERY INPUT', by the rows' own cells (each row's printed sentence says how): FnExactDescribe: laid.
  DERIVED. THE GIVEN ROWS OF THIS SEAT. 1 by the template 'for every input the law returns true; each argument reads behind the call as it read before'; 0 by the template 'total and deterministic' (their statements: YtkbkjmhkchagbaaDoorTotals.lean).
  GIVEN WITH THE SEED: the statements are not yours to turn. If you find one false, say at which input.
  Laid BY PROGRAM, IN A SANDBOX (cutbox-rows.mjs): the forced cells as the released guide's own fill.sh prints them over the translation 37b2382edeb19eb8… (all of the seat's roots in one cut). By AI agents, Wed Nov 11 2026. No macro, syntax, notation, axiom, sorry.
-/
import Derived.Test.YtkbkjmhkchagbaaDoorChecked
import GoSem.Claim
import GoSem.ClaimJoined
import GoSem.ClaimMapViews
import Derived.JoinedTies
import Derived.KernelRfl
namespace Go.Proofs.YtkbkjmhkchagbaaDoor
/- THE CELL 'sum', in the pinned program and in every row, IS THE sha256 OF THE DUMP (.gsa) THAT YtkbkjmhkchagbaaDoorProg.lean LOADS. Nothing in Lean hashes anything: it is a label: what it is worth is what the hold of that sum in a sandbox is worth. -/
noncomputable def Tryd.pinned : Pinned := { name := "ytkbkjmhkchagbaadoor", sum := "37b2382edeb19eb8228b1291f8f6b1a9faed53a5d8d5c304d4e651cf562941b1", checked := Tryd.checked }
namespace Rows
def none {H : Type} : Left H := { results := [], args := [] }

/- WHAT THE LISTED PACKAGE-LEVEL VARIABLES READ AS WHEN THE CALL BEGINS. Each datum BY PROGRAM (the guide's laid-datum.mjs) off the statement by which the dump's own 'gosem.cut.vars' lays the variable. In a bare row this is a premise. The card (YtkbkjmhkchagbaaDoorCards.lean) ties it to the program's text. -/
def laid_loop_example_s01493_impl_formats {H : Type} : DataW H := .agg [.agg [.lit (.int .i64 24), .lit (.int .i64 (-126)), .lit (.int .i64 127), .lit (.int .i64 32), .lit (.int .i64 8), .lit (.bool false)], .agg [.lit (.int .i64 53), .lit (.int .i64 (-1022)), .lit (.int .i64 1023), .lit (.int .i64 64), .lit (.int .i64 11), .lit (.bool false)], .agg [.lit (.int .i64 64), .lit (.int .i64 (-16382)), .lit (.int .i64 16383), .lit (.int .i64 80), .lit (.int .i64 15), .lit (.bool true)], .agg [.lit (.int .i64 113), .lit (.int .i64 (-16382)), .lit (.int .i64 16383), .lit (.int .i64 128), .lit (.int .i64 15), .lit (.bool false)]]

/-- 'laws.FnExactDescribe': WHATEVER THE INPUT: true; the input reads as it did. -/
def fnExactDescribeSpec : ChangeSpec := { name := "fnExactDescribe", vars := ["loop.example/s01493/impl.formats"], fn := fun _ => fun
  | [d, g1] => { results := [.lit (.bool true)], args := [d], vars := [g1] }
  | _ => none }
def fnExactDescribeRow : OpenClaim := { program := "ytkbkjmhkchagbaadoor", sum := "37b2382edeb19eb8228b1291f8f6b1a9faed53a5d8d5c304d4e651cf562941b1", func := "loop.example/s01493/laws.FnExactDescribe", spec := "fnExactDescribe", named := ["loop.example/s01493/impl.formats"], apart := false, laid := [("loop.example/s01493/impl.formats", laid_loop_example_s01493_impl_formats)] }
def FnExactDescribeSaid : Prop := fnExactDescribeRow.holds Tryd.pinned (OpenSpec.ofChange fnExactDescribeSpec)

/-- ITS FALSE NEIGHBOUR: 'it returns false'. Refute it at one input. -/
def fnExactDescribeWrong : ChangeSpec := { name := "fnExactDescribe", vars := ["loop.example/s01493/impl.formats"], fn := fun _ => fun
  | [d, g1] => { results := [.lit (.bool false)], args := [d], vars := [g1] }
  | _ => none }
def FnExactDescribeWrongFalsely : Prop := fnExactDescribeRow.holds Tryd.pinned (OpenSpec.ofChange fnExactDescribeWrong)

/- THE SECOND FORM. 'bulk': how many values and letters a reading holds, each counted each time it is reached (what is shared counts as often as it is met; a slice's spare places count too). A statement '..UptoSaid' is the law's where the arguments, and the package variables that the reading takes, are together of bulk at most 1048576: NARROWER than '..Said'. Prove '..Said' where nothing that the law and all that it calls make is longer than what came in: it says more and counts as full. Else prove '..UptoSaid'. A law counts once. -/
mutual
def uptoBulk {H : Type} : DataW H → Nat
  | .lit (.string bytes) => bytes.length + 1
  | .lit _ => 1
  | .nil => 1
  | .ptr d => uptoBulk d + 1
  | .slice elems spare => uptoBulkAll elems + uptoBulkAll spare + 1
  | .agg parts => uptoBulkAll parts + 1
  | .iface _ d => uptoBulk d + 1
  | .map entries => uptoBulkEntries entries + 1
  | .held _ => 1
def uptoBulkAll {H : Type} : List (DataW H) → Nat
  | [] => 0
  | d :: r => uptoBulk d + uptoBulkAll r
def uptoBulkEntries {H : Type} : List (Lit × DataW H) → Nat
  | [] => 0
  | x :: r => uptoBulkEntry x + uptoBulkEntries r
def uptoBulkEntry {H : Type} : Lit × DataW H → Nat
  | (.string bytes, d) => bytes.length + uptoBulk d + 1
  | (_, d) => uptoBulk d + 1
 end
def uptoSmall : (H : Type) → List (DataW H) → Bool := fun _ ds => decide (uptoBulkAll ds ≤ 1048576)
def OpenSpec.upto (s : _root_.Go.ChangeSpec) : _root_.Go.OpenSpec := { _root_.Go.OpenSpec.ofChange s with cond := some uptoSmall }

/-- 'laws.FnExactDescribe', WHERE WHAT IT READS IS OF BULK AT MOST 1048576: true; the input reads as it did. -/
def fnExactDescribeUptoRow : OpenClaim := { program := "ytkbkjmhkchagbaadoor", sum := "37b2382edeb19eb8228b1291f8f6b1a9faed53a5d8d5c304d4e651cf562941b1", func := "loop.example/s01493/laws.FnExactDescribe", spec := "fnExactDescribe", named := ["loop.example/s01493/impl.formats"], apart := false, laid := [("loop.example/s01493/impl.formats", laid_loop_example_s01493_impl_formats)], narrowed := true }
def FnExactDescribeUptoSaid : Prop := fnExactDescribeUptoRow.holds Tryd.pinned (OpenSpec.upto fnExactDescribeSpec)

end Rows
end Go.Proofs.YtkbkjmhkchagbaaDoor
