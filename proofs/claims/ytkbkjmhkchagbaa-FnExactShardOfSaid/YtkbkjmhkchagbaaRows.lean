/-
  No cell of these rows narrows 'for every input' (looked for: loops, veiled, ifaces, maps, wideKeys, modest, calm, conditions, laid).
  DERIVED. THE GIVEN ROWS OF THIS SEAT. 11 by the template 'for every input the law returns true; each argument reads behind the call as it read before'; 0 by the template 'total and deterministic' (their statements: YtkbkjmhkchagbaaTotals.lean).
  GIVEN WITH THE SEED: the statements are not yours to turn. If you find one false, say at which input.
  Laid BY PROGRAM, IN A SANDBOX (cutbox-rows.mjs): the forced cells as the released guide's own fill.sh prints them over the translation 10a54b6dd381de0b… (all of the seat's roots in one cut). By AI agents, Wed Nov 11 2026. No macro, syntax, notation, axiom, sorry.
-/
import Derived.Test.YtkbkjmhkchagbaaChecked
import GoSem.Claim
import GoSem.ClaimJoined
import GoSem.ClaimMapViews
import Derived.JoinedTies
import Derived.KernelRfl
namespace Go.Proofs.Ytkbkjmhkchagbaa
/- THE CELL 'sum', in the pinned program and in every row, IS THE sha256 OF THE DUMP (.gsa) THAT YtkbkjmhkchagbaaProg.lean LOADS. Nothing in Lean hashes anything: it is a label: what it is worth is what the hold of that sum in a sandbox is worth. -/
noncomputable def Try.pinned : Pinned := { name := "ytkbkjmhkchagbaa", sum := "10a54b6dd381de0b0ba42a6e4f07533559aeea4689d22f10c2445c86dbfa5ce8", checked := Try.checked }
namespace Rows
def none {H : Type} : Left H := { results := [], args := [] }

/-- 'laws.FnExactConstants': WHATEVER THE INPUT: true; the input reads as it did. -/
def fnExactConstantsSpec : ChangeSpec := { name := "fnExactConstants", fn := fun _ => fun
  | [] => { results := [.lit (.bool true)], args := [] }
  | _ => none }
def fnExactConstantsRow : OpenClaim := { program := "ytkbkjmhkchagbaa", sum := "10a54b6dd381de0b0ba42a6e4f07533559aeea4689d22f10c2445c86dbfa5ce8", func := "loop.example/s01493/laws.FnExactConstants", spec := "fnExactConstants", apart := false }
def FnExactConstantsSaid : Prop := fnExactConstantsRow.holds Try.pinned (OpenSpec.ofChange fnExactConstantsSpec)

/-- ITS FALSE NEIGHBOUR: 'it returns false'. Refute it at one input. -/
def fnExactConstantsWrong : ChangeSpec := { name := "fnExactConstants", fn := fun _ => fun
  | [] => { results := [.lit (.bool false)], args := [] }
  | _ => none }
def FnExactConstantsWrongFalsely : Prop := fnExactConstantsRow.holds Try.pinned (OpenSpec.ofChange fnExactConstantsWrong)

/-- 'laws.FnExactHomeOf': WHATEVER THE INPUT: true; the input reads as it did. -/
def fnExactHomeOfSpec : ChangeSpec := { name := "fnExactHomeOf", fn := fun _ => fun
  | [d1, d2] => { results := [.lit (.bool true)], args := [d1, d2] }
  | _ => none }
def fnExactHomeOfRow : OpenClaim := { program := "ytkbkjmhkchagbaa", sum := "10a54b6dd381de0b0ba42a6e4f07533559aeea4689d22f10c2445c86dbfa5ce8", func := "loop.example/s01493/laws.FnExactHomeOf", spec := "fnExactHomeOf", apart := false }
def FnExactHomeOfSaid : Prop := fnExactHomeOfRow.holds Try.pinned (OpenSpec.ofChange fnExactHomeOfSpec)

/-- ITS FALSE NEIGHBOUR: 'it returns false'. Refute it at one input. -/
def fnExactHomeOfWrong : ChangeSpec := { name := "fnExactHomeOf", fn := fun _ => fun
  | [d1, d2] => { results := [.lit (.bool false)], args := [d1, d2] }
  | _ => none }
def FnExactHomeOfWrongFalsely : Prop := fnExactHomeOfRow.holds Try.pinned (OpenSpec.ofChange fnExactHomeOfWrong)

/-- 'laws.FnExactShardOf': WHATEVER THE INPUT: true; the input reads as it did. -/
def fnExactShardOfSpec : ChangeSpec := { name := "fnExactShardOf", fn := fun _ => fun
  | [d1, d2] => { results := [.lit (.bool true)], args := [d1, d2] }
  | _ => none }
def fnExactShardOfRow : OpenClaim := { program := "ytkbkjmhkchagbaa", sum := "10a54b6dd381de0b0ba42a6e4f07533559aeea4689d22f10c2445c86dbfa5ce8", func := "loop.example/s01493/laws.FnExactShardOf", spec := "fnExactShardOf", apart := false }
def FnExactShardOfSaid : Prop := fnExactShardOfRow.holds Try.pinned (OpenSpec.ofChange fnExactShardOfSpec)

/-- ITS FALSE NEIGHBOUR: 'it returns false'. Refute it at one input. -/
def fnExactShardOfWrong : ChangeSpec := { name := "fnExactShardOf", fn := fun _ => fun
  | [d1, d2] => { results := [.lit (.bool false)], args := [d1, d2] }
  | _ => none }
def FnExactShardOfWrongFalsely : Prop := fnExactShardOfRow.holds Try.pinned (OpenSpec.ofChange fnExactShardOfWrong)

/-- 'laws.FnExactNatCmp': WHATEVER THE INPUT: true; the input reads as it did. -/
def fnExactNatCmpSpec : ChangeSpec := { name := "fnExactNatCmp", fn := fun _ => fun
  | [d1, d2] => { results := [.lit (.bool true)], args := [d1, d2] }
  | _ => none }
def fnExactNatCmpRow : OpenClaim := { program := "ytkbkjmhkchagbaa", sum := "10a54b6dd381de0b0ba42a6e4f07533559aeea4689d22f10c2445c86dbfa5ce8", func := "loop.example/s01493/laws.FnExactNatCmp", spec := "fnExactNatCmp", apart := false }
def FnExactNatCmpSaid : Prop := fnExactNatCmpRow.holds Try.pinned (OpenSpec.ofChange fnExactNatCmpSpec)

/-- ITS FALSE NEIGHBOUR: 'it returns false'. Refute it at one input. -/
def fnExactNatCmpWrong : ChangeSpec := { name := "fnExactNatCmp", fn := fun _ => fun
  | [d1, d2] => { results := [.lit (.bool false)], args := [d1, d2] }
  | _ => none }
def FnExactNatCmpWrongFalsely : Prop := fnExactNatCmpRow.holds Try.pinned (OpenSpec.ofChange fnExactNatCmpWrong)

/-- 'laws.FnExactNatAdd': WHATEVER THE INPUT: true; the input reads as it did. -/
def fnExactNatAddSpec : ChangeSpec := { name := "fnExactNatAdd", fn := fun _ => fun
  | [d1, d2] => { results := [.lit (.bool true)], args := [d1, d2] }
  | _ => none }
def fnExactNatAddRow : OpenClaim := { program := "ytkbkjmhkchagbaa", sum := "10a54b6dd381de0b0ba42a6e4f07533559aeea4689d22f10c2445c86dbfa5ce8", func := "loop.example/s01493/laws.FnExactNatAdd", spec := "fnExactNatAdd", inPlace := ["math/bits.Add64"], apart := false }
def FnExactNatAddSaid : Prop := fnExactNatAddRow.holds Try.pinned (OpenSpec.ofChange fnExactNatAddSpec)

/-- ITS FALSE NEIGHBOUR: 'it returns false'. Refute it at one input. -/
def fnExactNatAddWrong : ChangeSpec := { name := "fnExactNatAdd", fn := fun _ => fun
  | [d1, d2] => { results := [.lit (.bool false)], args := [d1, d2] }
  | _ => none }
def FnExactNatAddWrongFalsely : Prop := fnExactNatAddRow.holds Try.pinned (OpenSpec.ofChange fnExactNatAddWrong)

/-- 'laws.FnExactNatMul': WHATEVER THE INPUT: true; the input reads as it did. -/
def fnExactNatMulSpec : ChangeSpec := { name := "fnExactNatMul", fn := fun _ => fun
  | [d1, d2] => { results := [.lit (.bool true)], args := [d1, d2] }
  | _ => none }
def fnExactNatMulRow : OpenClaim := { program := "ytkbkjmhkchagbaa", sum := "10a54b6dd381de0b0ba42a6e4f07533559aeea4689d22f10c2445c86dbfa5ce8", func := "loop.example/s01493/laws.FnExactNatMul", spec := "fnExactNatMul", inPlace := ["math/bits.Add64"], apart := false }
def FnExactNatMulSaid : Prop := fnExactNatMulRow.holds Try.pinned (OpenSpec.ofChange fnExactNatMulSpec)

/-- ITS FALSE NEIGHBOUR: 'it returns false'. Refute it at one input. -/
def fnExactNatMulWrong : ChangeSpec := { name := "fnExactNatMul", fn := fun _ => fun
  | [d1, d2] => { results := [.lit (.bool false)], args := [d1, d2] }
  | _ => none }
def FnExactNatMulWrongFalsely : Prop := fnExactNatMulRow.holds Try.pinned (OpenSpec.ofChange fnExactNatMulWrong)

/-- 'laws.FnExactNatShift': WHATEVER THE INPUT: true; the input reads as it did. -/
def fnExactNatShiftSpec : ChangeSpec := { name := "fnExactNatShift", fn := fun _ => fun
  | [d1, d2] => { results := [.lit (.bool true)], args := [d1, d2] }
  | _ => none }
def fnExactNatShiftRow : OpenClaim := { program := "ytkbkjmhkchagbaa", sum := "10a54b6dd381de0b0ba42a6e4f07533559aeea4689d22f10c2445c86dbfa5ce8", func := "loop.example/s01493/laws.FnExactNatShift", spec := "fnExactNatShift", apart := false }
def FnExactNatShiftSaid : Prop := fnExactNatShiftRow.holds Try.pinned (OpenSpec.ofChange fnExactNatShiftSpec)

/-- ITS FALSE NEIGHBOUR: 'it returns false'. Refute it at one input. -/
def fnExactNatShiftWrong : ChangeSpec := { name := "fnExactNatShift", fn := fun _ => fun
  | [d1, d2] => { results := [.lit (.bool false)], args := [d1, d2] }
  | _ => none }
def FnExactNatShiftWrongFalsely : Prop := fnExactNatShiftRow.holds Try.pinned (OpenSpec.ofChange fnExactNatShiftWrong)

/-- 'laws.FnExactNatSub': WHATEVER THE INPUT: true; the input reads as it did. -/
def fnExactNatSubSpec : ChangeSpec := { name := "fnExactNatSub", fn := fun _ => fun
  | [d1, d2] => { results := [.lit (.bool true)], args := [d1, d2] }
  | _ => none }
def fnExactNatSubRow : OpenClaim := { program := "ytkbkjmhkchagbaa", sum := "10a54b6dd381de0b0ba42a6e4f07533559aeea4689d22f10c2445c86dbfa5ce8", func := "loop.example/s01493/laws.FnExactNatSub", spec := "fnExactNatSub", inPlace := ["math/bits.Sub64"], apart := false }
def FnExactNatSubSaid : Prop := fnExactNatSubRow.holds Try.pinned (OpenSpec.ofChange fnExactNatSubSpec)

/-- ITS FALSE NEIGHBOUR: 'it returns false'. Refute it at one input. -/
def fnExactNatSubWrong : ChangeSpec := { name := "fnExactNatSub", fn := fun _ => fun
  | [d1, d2] => { results := [.lit (.bool false)], args := [d1, d2] }
  | _ => none }
def FnExactNatSubWrongFalsely : Prop := fnExactNatSubRow.holds Try.pinned (OpenSpec.ofChange fnExactNatSubWrong)

/-- 'laws.FnExactNatPow': WHATEVER THE INPUT: true; the input reads as it did. -/
def fnExactNatPowSpec : ChangeSpec := { name := "fnExactNatPow", fn := fun _ => fun
  | [d1, d2] => { results := [.lit (.bool true)], args := [d1, d2] }
  | _ => none }
def fnExactNatPowRow : OpenClaim := { program := "ytkbkjmhkchagbaa", sum := "10a54b6dd381de0b0ba42a6e4f07533559aeea4689d22f10c2445c86dbfa5ce8", func := "loop.example/s01493/laws.FnExactNatPow", spec := "fnExactNatPow", inPlace := ["math/bits.Add64"], apart := false }
def FnExactNatPowSaid : Prop := fnExactNatPowRow.holds Try.pinned (OpenSpec.ofChange fnExactNatPowSpec)

/-- ITS FALSE NEIGHBOUR: 'it returns false'. Refute it at one input. -/
def fnExactNatPowWrong : ChangeSpec := { name := "fnExactNatPow", fn := fun _ => fun
  | [d1, d2] => { results := [.lit (.bool false)], args := [d1, d2] }
  | _ => none }
def FnExactNatPowWrongFalsely : Prop := fnExactNatPowRow.holds Try.pinned (OpenSpec.ofChange fnExactNatPowWrong)

/-- 'laws.FnExactNatToText': WHATEVER THE INPUT: true; the input reads as it did. -/
def fnExactNatToTextSpec : ChangeSpec := { name := "fnExactNatToText", fn := fun _ => fun
  | [d] => { results := [.lit (.bool true)], args := [d] }
  | _ => none }
def fnExactNatToTextRow : OpenClaim := { program := "ytkbkjmhkchagbaa", sum := "10a54b6dd381de0b0ba42a6e4f07533559aeea4689d22f10c2445c86dbfa5ce8", func := "loop.example/s01493/laws.FnExactNatToText", spec := "fnExactNatToText", unfollowed := true, recurses := true, named := ["math/bits.divideError", "math/bits.overflowError"], apart := false }
def FnExactNatToTextSaid : Prop := fnExactNatToTextRow.holds Try.pinned (OpenSpec.ofChange fnExactNatToTextSpec)

/-- ITS FALSE NEIGHBOUR: 'it returns false'. Refute it at one input. -/
def fnExactNatToTextWrong : ChangeSpec := { name := "fnExactNatToText", fn := fun _ => fun
  | [d] => { results := [.lit (.bool false)], args := [d] }
  | _ => none }
def FnExactNatToTextWrongFalsely : Prop := fnExactNatToTextRow.holds Try.pinned (OpenSpec.ofChange fnExactNatToTextWrong)

/-- 'laws.FnExactNatFromText': WHATEVER THE INPUT: true; the input reads as it did. -/
def fnExactNatFromTextSpec : ChangeSpec := { name := "fnExactNatFromText", fn := fun _ => fun
  | [d] => { results := [.lit (.bool true)], args := [d] }
  | _ => none }
def fnExactNatFromTextRow : OpenClaim := { program := "ytkbkjmhkchagbaa", sum := "10a54b6dd381de0b0ba42a6e4f07533559aeea4689d22f10c2445c86dbfa5ce8", func := "loop.example/s01493/laws.FnExactNatFromText", spec := "fnExactNatFromText", inPlace := ["math/bits.Add64"], recurses := true, apart := false }
def FnExactNatFromTextSaid : Prop := fnExactNatFromTextRow.holds Try.pinned (OpenSpec.ofChange fnExactNatFromTextSpec)

/-- ITS FALSE NEIGHBOUR: 'it returns false'. Refute it at one input. -/
def fnExactNatFromTextWrong : ChangeSpec := { name := "fnExactNatFromText", fn := fun _ => fun
  | [d] => { results := [.lit (.bool false)], args := [d] }
  | _ => none }
def FnExactNatFromTextWrongFalsely : Prop := fnExactNatFromTextRow.holds Try.pinned (OpenSpec.ofChange fnExactNatFromTextWrong)

/- THE SECOND FORM. 'bulk': how many values and letters a reading holds, each counted each time it is reached (what is shared counts as often as it is met; a slice's spare places count too). A statement '..UptoSaid' is the law's where the arguments, and the package variables that the reading takes, are together of bulk at most 1048576: NARROWER than '..Said'. Prove '..Said' where nothing that the law and all that it calls make is longer than what came in: it says more and counts as full. Else prove '..UptoSaid'. A law counts once. -/
mutual
def uptoBulk {H : Type} : DataW H → Nat
  | .lit (.string bytes) => bytes.length + 1
  | .lit _ => 1
  | .nil => 1
  | .ptr d => uptoBulk d + 1
  | .slice elems spare => uptoBulkAll elems + uptoBulkAll spare + 1
  | .agg parts => uptoBulkAll parts + 1
  | .iface _ d => uptoBulk d + 1
  | .map entries => uptoBulkEntries entries + 1
  | .held _ => 1
def uptoBulkAll {H : Type} : List (DataW H) → Nat
  | [] => 0
  | d :: r => uptoBulk d + uptoBulkAll r
def uptoBulkEntries {H : Type} : List (Lit × DataW H) → Nat
  | [] => 0
  | x :: r => uptoBulkEntry x + uptoBulkEntries r
def uptoBulkEntry {H : Type} : Lit × DataW H → Nat
  | (.string bytes, d) => bytes.length + uptoBulk d + 1
  | (_, d) => uptoBulk d + 1
 end
def uptoSmall : (H : Type) → List (DataW H) → Bool := fun _ ds => decide (uptoBulkAll ds ≤ 1048576)
def OpenSpec.upto (s : _root_.Go.ChangeSpec) : _root_.Go.OpenSpec := { _root_.Go.OpenSpec.ofChange s with cond := some uptoSmall }

/-- 'laws.FnExactConstants', WHERE WHAT IT READS IS OF BULK AT MOST 1048576: true; the input reads as it did. -/
def fnExactConstantsUptoRow : OpenClaim := { program := "ytkbkjmhkchagbaa", sum := "10a54b6dd381de0b0ba42a6e4f07533559aeea4689d22f10c2445c86dbfa5ce8", func := "loop.example/s01493/laws.FnExactConstants", spec := "fnExactConstants", apart := false, narrowed := true }
def FnExactConstantsUptoSaid : Prop := fnExactConstantsUptoRow.holds Try.pinned (OpenSpec.upto fnExactConstantsSpec)

/-- 'laws.FnExactHomeOf', WHERE WHAT IT READS IS OF BULK AT MOST 1048576: true; the input reads as it did. -/
def fnExactHomeOfUptoRow : OpenClaim := { program := "ytkbkjmhkchagbaa", sum := "10a54b6dd381de0b0ba42a6e4f07533559aeea4689d22f10c2445c86dbfa5ce8", func := "loop.example/s01493/laws.FnExactHomeOf", spec := "fnExactHomeOf", apart := false, narrowed := true }
def FnExactHomeOfUptoSaid : Prop := fnExactHomeOfUptoRow.holds Try.pinned (OpenSpec.upto fnExactHomeOfSpec)

/-- 'laws.FnExactShardOf', WHERE WHAT IT READS IS OF BULK AT MOST 1048576: true; the input reads as it did. -/
def fnExactShardOfUptoRow : OpenClaim := { program := "ytkbkjmhkchagbaa", sum := "10a54b6dd381de0b0ba42a6e4f07533559aeea4689d22f10c2445c86dbfa5ce8", func := "loop.example/s01493/laws.FnExactShardOf", spec := "fnExactShardOf", apart := false, narrowed := true }
def FnExactShardOfUptoSaid : Prop := fnExactShardOfUptoRow.holds Try.pinned (OpenSpec.upto fnExactShardOfSpec)

/-- 'laws.FnExactNatCmp', WHERE WHAT IT READS IS OF BULK AT MOST 1048576: true; the input reads as it did. -/
def fnExactNatCmpUptoRow : OpenClaim := { program := "ytkbkjmhkchagbaa", sum := "10a54b6dd381de0b0ba42a6e4f07533559aeea4689d22f10c2445c86dbfa5ce8", func := "loop.example/s01493/laws.FnExactNatCmp", spec := "fnExactNatCmp", apart := false, narrowed := true }
def FnExactNatCmpUptoSaid : Prop := fnExactNatCmpUptoRow.holds Try.pinned (OpenSpec.upto fnExactNatCmpSpec)

/-- 'laws.FnExactNatAdd', WHERE WHAT IT READS IS OF BULK AT MOST 1048576: true; the input reads as it did. -/
def fnExactNatAddUptoRow : OpenClaim := { program := "ytkbkjmhkchagbaa", sum := "10a54b6dd381de0b0ba42a6e4f07533559aeea4689d22f10c2445c86dbfa5ce8", func := "loop.example/s01493/laws.FnExactNatAdd", spec := "fnExactNatAdd", inPlace := ["math/bits.Add64"], apart := false, narrowed := true }
def FnExactNatAddUptoSaid : Prop := fnExactNatAddUptoRow.holds Try.pinned (OpenSpec.upto fnExactNatAddSpec)

/-- 'laws.FnExactNatMul', WHERE WHAT IT READS IS OF BULK AT MOST 1048576: true; the input reads as it did. -/
def fnExactNatMulUptoRow : OpenClaim := { program := "ytkbkjmhkchagbaa", sum := "10a54b6dd381de0b0ba42a6e4f07533559aeea4689d22f10c2445c86dbfa5ce8", func := "loop.example/s01493/laws.FnExactNatMul", spec := "fnExactNatMul", inPlace := ["math/bits.Add64"], apart := false, narrowed := true }
def FnExactNatMulUptoSaid : Prop := fnExactNatMulUptoRow.holds Try.pinned (OpenSpec.upto fnExactNatMulSpec)

/-- 'laws.FnExactNatShift', WHERE WHAT IT READS IS OF BULK AT MOST 1048576: true; the input reads as it did. -/
def fnExactNatShiftUptoRow : OpenClaim := { program := "ytkbkjmhkchagbaa", sum := "10a54b6dd381de0b0ba42a6e4f07533559aeea4689d22f10c2445c86dbfa5ce8", func := "loop.example/s01493/laws.FnExactNatShift", spec := "fnExactNatShift", apart := false, narrowed := true }
def FnExactNatShiftUptoSaid : Prop := fnExactNatShiftUptoRow.holds Try.pinned (OpenSpec.upto fnExactNatShiftSpec)

/-- 'laws.FnExactNatSub', WHERE WHAT IT READS IS OF BULK AT MOST 1048576: true; the input reads as it did. -/
def fnExactNatSubUptoRow : OpenClaim := { program := "ytkbkjmhkchagbaa", sum := "10a54b6dd381de0b0ba42a6e4f07533559aeea4689d22f10c2445c86dbfa5ce8", func := "loop.example/s01493/laws.FnExactNatSub", spec := "fnExactNatSub", inPlace := ["math/bits.Sub64"], apart := false, narrowed := true }
def FnExactNatSubUptoSaid : Prop := fnExactNatSubUptoRow.holds Try.pinned (OpenSpec.upto fnExactNatSubSpec)

/-- 'laws.FnExactNatPow', WHERE WHAT IT READS IS OF BULK AT MOST 1048576: true; the input reads as it did. -/
def fnExactNatPowUptoRow : OpenClaim := { program := "ytkbkjmhkchagbaa", sum := "10a54b6dd381de0b0ba42a6e4f07533559aeea4689d22f10c2445c86dbfa5ce8", func := "loop.example/s01493/laws.FnExactNatPow", spec := "fnExactNatPow", inPlace := ["math/bits.Add64"], apart := false, narrowed := true }
def FnExactNatPowUptoSaid : Prop := fnExactNatPowUptoRow.holds Try.pinned (OpenSpec.upto fnExactNatPowSpec)

/-- 'laws.FnExactNatToText', WHERE WHAT IT READS IS OF BULK AT MOST 1048576: true; the input reads as it did. -/
def fnExactNatToTextUptoRow : OpenClaim := { program := "ytkbkjmhkchagbaa", sum := "10a54b6dd381de0b0ba42a6e4f07533559aeea4689d22f10c2445c86dbfa5ce8", func := "loop.example/s01493/laws.FnExactNatToText", spec := "fnExactNatToText", unfollowed := true, recurses := true, named := ["math/bits.divideError", "math/bits.overflowError"], apart := false, narrowed := true }
def FnExactNatToTextUptoSaid : Prop := fnExactNatToTextUptoRow.holds Try.pinned (OpenSpec.upto fnExactNatToTextSpec)

/-- 'laws.FnExactNatFromText', WHERE WHAT IT READS IS OF BULK AT MOST 1048576: true; the input reads as it did. -/
def fnExactNatFromTextUptoRow : OpenClaim := { program := "ytkbkjmhkchagbaa", sum := "10a54b6dd381de0b0ba42a6e4f07533559aeea4689d22f10c2445c86dbfa5ce8", func := "loop.example/s01493/laws.FnExactNatFromText", spec := "fnExactNatFromText", inPlace := ["math/bits.Add64"], recurses := true, apart := false, narrowed := true }
def FnExactNatFromTextUptoSaid : Prop := fnExactNatFromTextUptoRow.holds Try.pinned (OpenSpec.upto fnExactNatFromTextSpec)

end Rows
end Go.Proofs.Ytkbkjmhkchagbaa
