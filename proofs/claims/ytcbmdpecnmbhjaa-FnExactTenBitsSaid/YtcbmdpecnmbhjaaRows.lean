/-
  No cell of these rows narrows 'for every input' (looked for: loops, veiled, ifaces, maps, wideKeys, modest, calm, conditions, laid).
  DERIVED. THE GIVEN ROWS OF THIS SEAT. 7 by the template 'for every input the law returns true; each argument reads behind the call as it read before'; 0 by the template 'total and deterministic' (their statements: YtcbmdpecnmbhjaaTotals.lean).
  GIVEN WITH THE SEED: the statements are not yours to turn. If you find one false, say at which input.
  Laid BY PROGRAM, IN A SANDBOX (cutbox-rows.mjs): the forced cells as the released guide's own fill.sh prints them over the translation f081dafb7a247a40… (all of the seat's roots in one cut). By AI agents, Wed Nov 11 2026. No macro, syntax, notation, axiom, sorry.
-/
import Derived.Test.YtcbmdpecnmbhjaaChecked
import GoSem.Claim
import GoSem.ClaimJoined
import GoSem.ClaimMapViews
import Derived.JoinedTies
import Derived.KernelRfl
namespace Go.Proofs.Ytcbmdpecnmbhjaa
/- THE CELL 'sum', in the pinned program and in every row, IS THE sha256 OF THE DUMP (.gsa) THAT YtcbmdpecnmbhjaaProg.lean LOADS. Nothing in Lean hashes anything: it is a label: what it is worth is what the hold of that sum in a sandbox is worth. -/
noncomputable def Try.pinned : Pinned := { name := "ytcbmdpecnmbhjaa", sum := "f081dafb7a247a408d25826c974a310257c3bfee8d399ce3303caacfc7ea5e5e", checked := Try.checked }
namespace Rows
def none {H : Type} : Left H := { results := [], args := [] }

/-- 'laws.FnExactTenBits': WHATEVER THE INPUT: true; the input reads as it did. -/
def fnExactTenBitsSpec : ChangeSpec := { name := "fnExactTenBits", fn := fun _ => fun
  | [d] => { results := [.lit (.bool true)], args := [d] }
  | _ => none }
def fnExactTenBitsRow : OpenClaim := { program := "ytcbmdpecnmbhjaa", sum := "f081dafb7a247a408d25826c974a310257c3bfee8d399ce3303caacfc7ea5e5e", func := "loop.example/s01493/laws.FnExactTenBits", spec := "fnExactTenBits", inPlace := ["math/bits.Add64"], unfollowed := true, recurses := true, apart := false }
def FnExactTenBitsSaid : Prop := fnExactTenBitsRow.holds Try.pinned (OpenSpec.ofChange fnExactTenBitsSpec)

/-- ITS FALSE NEIGHBOUR: 'it returns false'. Refute it at one input. -/
def fnExactTenBitsWrong : ChangeSpec := { name := "fnExactTenBits", fn := fun _ => fun
  | [d] => { results := [.lit (.bool false)], args := [d] }
  | _ => none }
def FnExactTenBitsWrongFalsely : Prop := fnExactTenBitsRow.holds Try.pinned (OpenSpec.ofChange fnExactTenBitsWrong)

/-- 'laws.FnExactNatToText': WHATEVER THE INPUT: true; the input reads as it did. -/
def fnExactNatToTextSpec : ChangeSpec := { name := "fnExactNatToText", fn := fun _ => fun
  | [d] => { results := [.lit (.bool true)], args := [d] }
  | _ => none }
def fnExactNatToTextRow : OpenClaim := { program := "ytcbmdpecnmbhjaa", sum := "f081dafb7a247a408d25826c974a310257c3bfee8d399ce3303caacfc7ea5e5e", func := "loop.example/s01493/laws.FnExactNatToText", spec := "fnExactNatToText", unfollowed := true, recurses := true, named := ["math/bits.divideError", "math/bits.overflowError"], apart := false }
def FnExactNatToTextSaid : Prop := fnExactNatToTextRow.holds Try.pinned (OpenSpec.ofChange fnExactNatToTextSpec)

/-- ITS FALSE NEIGHBOUR: 'it returns false'. Refute it at one input. -/
def fnExactNatToTextWrong : ChangeSpec := { name := "fnExactNatToText", fn := fun _ => fun
  | [d] => { results := [.lit (.bool false)], args := [d] }
  | _ => none }
def FnExactNatToTextWrongFalsely : Prop := fnExactNatToTextRow.holds Try.pinned (OpenSpec.ofChange fnExactNatToTextWrong)

/-- 'laws.FnShift': WHATEVER THE INPUT: true; the input reads as it did. -/
def fnShiftSpec : ChangeSpec := { name := "fnShift", fn := fun _ => fun
  | [d] => { results := [.lit (.bool true)], args := [d] }
  | _ => none }
def fnShiftRow : OpenClaim := { program := "ytcbmdpecnmbhjaa", sum := "f081dafb7a247a408d25826c974a310257c3bfee8d399ce3303caacfc7ea5e5e", func := "loop.example/s01493/laws.FnShift", spec := "fnShift", inPlace := ["math/bits.Add64"], apart := false }
def FnShiftSaid : Prop := fnShiftRow.holds Try.pinned (OpenSpec.ofChange fnShiftSpec)

/-- ITS FALSE NEIGHBOUR: 'it returns false'. Refute it at one input. -/
def fnShiftWrong : ChangeSpec := { name := "fnShift", fn := fun _ => fun
  | [d] => { results := [.lit (.bool false)], args := [d] }
  | _ => none }
def FnShiftWrongFalsely : Prop := fnShiftRow.holds Try.pinned (OpenSpec.ofChange fnShiftWrong)

/-- 'laws.FnExactNatDivMod': WHATEVER THE INPUT: true; the input reads as it did. -/
def fnExactNatDivModSpec : ChangeSpec := { name := "fnExactNatDivMod", fn := fun _ => fun
  | [d1, d2] => { results := [.lit (.bool true)], args := [d1, d2] }
  | _ => none }
def fnExactNatDivModRow : OpenClaim := { program := "ytcbmdpecnmbhjaa", sum := "f081dafb7a247a408d25826c974a310257c3bfee8d399ce3303caacfc7ea5e5e", func := "loop.example/s01493/laws.FnExactNatDivMod", spec := "fnExactNatDivMod", inPlace := ["math/bits.Add64", "math/bits.Sub64"], named := ["math/bits.divideError", "math/bits.overflowError"], apart := false }
def FnExactNatDivModSaid : Prop := fnExactNatDivModRow.holds Try.pinned (OpenSpec.ofChange fnExactNatDivModSpec)

/-- ITS FALSE NEIGHBOUR: 'it returns false'. Refute it at one input. -/
def fnExactNatDivModWrong : ChangeSpec := { name := "fnExactNatDivMod", fn := fun _ => fun
  | [d1, d2] => { results := [.lit (.bool false)], args := [d1, d2] }
  | _ => none }
def FnExactNatDivModWrongFalsely : Prop := fnExactNatDivModRow.holds Try.pinned (OpenSpec.ofChange fnExactNatDivModWrong)

/-- 'laws.FnNatText': WHATEVER THE INPUT: true; the input reads as it did. -/
def fnNatTextSpec : ChangeSpec := { name := "fnNatText", fn := fun _ => fun
  | [d] => { results := [.lit (.bool true)], args := [d] }
  | _ => none }
def fnNatTextRow : OpenClaim := { program := "ytcbmdpecnmbhjaa", sum := "f081dafb7a247a408d25826c974a310257c3bfee8d399ce3303caacfc7ea5e5e", func := "loop.example/s01493/laws.FnNatText", spec := "fnNatText", inPlace := ["math/bits.Add64"], unfollowed := true, recurses := true, named := ["math/bits.divideError", "math/bits.overflowError"], apart := false }
def FnNatTextSaid : Prop := fnNatTextRow.holds Try.pinned (OpenSpec.ofChange fnNatTextSpec)

/-- ITS FALSE NEIGHBOUR: 'it returns false'. Refute it at one input. -/
def fnNatTextWrong : ChangeSpec := { name := "fnNatText", fn := fun _ => fun
  | [d] => { results := [.lit (.bool false)], args := [d] }
  | _ => none }
def FnNatTextWrongFalsely : Prop := fnNatTextRow.holds Try.pinned (OpenSpec.ofChange fnNatTextWrong)

/-- 'laws.FnDivMod': WHATEVER THE INPUT: true; the input reads as it did. -/
def fnDivModSpec : ChangeSpec := { name := "fnDivMod", fn := fun _ => fun
  | [d] => { results := [.lit (.bool true)], args := [d] }
  | _ => none }
def fnDivModRow : OpenClaim := { program := "ytcbmdpecnmbhjaa", sum := "f081dafb7a247a408d25826c974a310257c3bfee8d399ce3303caacfc7ea5e5e", func := "loop.example/s01493/laws.FnDivMod", spec := "fnDivMod", inPlace := ["math/bits.Add64", "math/bits.Sub64"], named := ["math/bits.divideError", "math/bits.overflowError"], apart := false }
def FnDivModSaid : Prop := fnDivModRow.holds Try.pinned (OpenSpec.ofChange fnDivModSpec)

/-- ITS FALSE NEIGHBOUR: 'it returns false'. Refute it at one input. -/
def fnDivModWrong : ChangeSpec := { name := "fnDivMod", fn := fun _ => fun
  | [d] => { results := [.lit (.bool false)], args := [d] }
  | _ => none }
def FnDivModWrongFalsely : Prop := fnDivModRow.holds Try.pinned (OpenSpec.ofChange fnDivModWrong)

/-- 'laws.FnExactScanDecimal': WHATEVER THE INPUT: true; the input reads as it did. -/
def fnExactScanDecimalSpec : ChangeSpec := { name := "fnExactScanDecimal", fn := fun _ => fun
  | [d] => { results := [.lit (.bool true)], args := [d] }
  | _ => none }
def fnExactScanDecimalRow : OpenClaim := { program := "ytcbmdpecnmbhjaa", sum := "f081dafb7a247a408d25826c974a310257c3bfee8d399ce3303caacfc7ea5e5e", func := "loop.example/s01493/laws.FnExactScanDecimal", spec := "fnExactScanDecimal", unfollowed := true, recurses := true, apart := false }
def FnExactScanDecimalSaid : Prop := fnExactScanDecimalRow.holds Try.pinned (OpenSpec.ofChange fnExactScanDecimalSpec)

/-- ITS FALSE NEIGHBOUR: 'it returns false'. Refute it at one input. -/
def fnExactScanDecimalWrong : ChangeSpec := { name := "fnExactScanDecimal", fn := fun _ => fun
  | [d] => { results := [.lit (.bool false)], args := [d] }
  | _ => none }
def FnExactScanDecimalWrongFalsely : Prop := fnExactScanDecimalRow.holds Try.pinned (OpenSpec.ofChange fnExactScanDecimalWrong)

/- THE SECOND FORM. 'bulk': how many values and letters a reading holds, each counted each time it is reached (what is shared counts as often as it is met; a slice's spare places count too). A statement '..UptoSaid' is the law's where the arguments, and the package variables that the reading takes, are together of bulk at most 1048576: NARROWER than '..Said'. Prove '..Said' where nothing that the law and all that it calls make is longer than what came in: it says more and counts as full. Else prove '..UptoSaid'. A law counts once. -/
mutual
def uptoBulk {H : Type} : DataW H → Nat
  | .lit (.string bytes) => bytes.length + 1
  | .lit _ => 1
  | .nil => 1
  | .ptr d => uptoBulk d + 1
  | .slice elems spare => uptoBulkAll elems + uptoBulkAll spare + 1
  | .agg parts => uptoBulkAll parts + 1
  | .iface _ d => uptoBulk d + 1
  | .map entries => uptoBulkEntries entries + 1
  | .held _ => 1
def uptoBulkAll {H : Type} : List (DataW H) → Nat
  | [] => 0
  | d :: r => uptoBulk d + uptoBulkAll r
def uptoBulkEntries {H : Type} : List (Lit × DataW H) → Nat
  | [] => 0
  | x :: r => uptoBulkEntry x + uptoBulkEntries r
def uptoBulkEntry {H : Type} : Lit × DataW H → Nat
  | (.string bytes, d) => bytes.length + uptoBulk d + 1
  | (_, d) => uptoBulk d + 1
 end
def uptoSmall : (H : Type) → List (DataW H) → Bool := fun _ ds => decide (uptoBulkAll ds ≤ 1048576)
def OpenSpec.upto (s : _root_.Go.ChangeSpec) : _root_.Go.OpenSpec := { _root_.Go.OpenSpec.ofChange s with cond := some uptoSmall }

/-- 'laws.FnExactTenBits', WHERE WHAT IT READS IS OF BULK AT MOST 1048576: true; the input reads as it did. -/
def fnExactTenBitsUptoRow : OpenClaim := { program := "ytcbmdpecnmbhjaa", sum := "f081dafb7a247a408d25826c974a310257c3bfee8d399ce3303caacfc7ea5e5e", func := "loop.example/s01493/laws.FnExactTenBits", spec := "fnExactTenBits", inPlace := ["math/bits.Add64"], unfollowed := true, recurses := true, apart := false, narrowed := true }
def FnExactTenBitsUptoSaid : Prop := fnExactTenBitsUptoRow.holds Try.pinned (OpenSpec.upto fnExactTenBitsSpec)

/-- 'laws.FnExactNatToText', WHERE WHAT IT READS IS OF BULK AT MOST 1048576: true; the input reads as it did. -/
def fnExactNatToTextUptoRow : OpenClaim := { program := "ytcbmdpecnmbhjaa", sum := "f081dafb7a247a408d25826c974a310257c3bfee8d399ce3303caacfc7ea5e5e", func := "loop.example/s01493/laws.FnExactNatToText", spec := "fnExactNatToText", unfollowed := true, recurses := true, named := ["math/bits.divideError", "math/bits.overflowError"], apart := false, narrowed := true }
def FnExactNatToTextUptoSaid : Prop := fnExactNatToTextUptoRow.holds Try.pinned (OpenSpec.upto fnExactNatToTextSpec)

/-- 'laws.FnShift', WHERE WHAT IT READS IS OF BULK AT MOST 1048576: true; the input reads as it did. -/
def fnShiftUptoRow : OpenClaim := { program := "ytcbmdpecnmbhjaa", sum := "f081dafb7a247a408d25826c974a310257c3bfee8d399ce3303caacfc7ea5e5e", func := "loop.example/s01493/laws.FnShift", spec := "fnShift", inPlace := ["math/bits.Add64"], apart := false, narrowed := true }
def FnShiftUptoSaid : Prop := fnShiftUptoRow.holds Try.pinned (OpenSpec.upto fnShiftSpec)

/-- 'laws.FnExactNatDivMod', WHERE WHAT IT READS IS OF BULK AT MOST 1048576: true; the input reads as it did. -/
def fnExactNatDivModUptoRow : OpenClaim := { program := "ytcbmdpecnmbhjaa", sum := "f081dafb7a247a408d25826c974a310257c3bfee8d399ce3303caacfc7ea5e5e", func := "loop.example/s01493/laws.FnExactNatDivMod", spec := "fnExactNatDivMod", inPlace := ["math/bits.Add64", "math/bits.Sub64"], named := ["math/bits.divideError", "math/bits.overflowError"], apart := false, narrowed := true }
def FnExactNatDivModUptoSaid : Prop := fnExactNatDivModUptoRow.holds Try.pinned (OpenSpec.upto fnExactNatDivModSpec)

/-- 'laws.FnNatText', WHERE WHAT IT READS IS OF BULK AT MOST 1048576: true; the input reads as it did. -/
def fnNatTextUptoRow : OpenClaim := { program := "ytcbmdpecnmbhjaa", sum := "f081dafb7a247a408d25826c974a310257c3bfee8d399ce3303caacfc7ea5e5e", func := "loop.example/s01493/laws.FnNatText", spec := "fnNatText", inPlace := ["math/bits.Add64"], unfollowed := true, recurses := true, named := ["math/bits.divideError", "math/bits.overflowError"], apart := false, narrowed := true }
def FnNatTextUptoSaid : Prop := fnNatTextUptoRow.holds Try.pinned (OpenSpec.upto fnNatTextSpec)

/-- 'laws.FnDivMod', WHERE WHAT IT READS IS OF BULK AT MOST 1048576: true; the input reads as it did. -/
def fnDivModUptoRow : OpenClaim := { program := "ytcbmdpecnmbhjaa", sum := "f081dafb7a247a408d25826c974a310257c3bfee8d399ce3303caacfc7ea5e5e", func := "loop.example/s01493/laws.FnDivMod", spec := "fnDivMod", inPlace := ["math/bits.Add64", "math/bits.Sub64"], named := ["math/bits.divideError", "math/bits.overflowError"], apart := false, narrowed := true }
def FnDivModUptoSaid : Prop := fnDivModUptoRow.holds Try.pinned (OpenSpec.upto fnDivModSpec)

/-- 'laws.FnExactScanDecimal', WHERE WHAT IT READS IS OF BULK AT MOST 1048576: true; the input reads as it did. -/
def fnExactScanDecimalUptoRow : OpenClaim := { program := "ytcbmdpecnmbhjaa", sum := "f081dafb7a247a408d25826c974a310257c3bfee8d399ce3303caacfc7ea5e5e", func := "loop.example/s01493/laws.FnExactScanDecimal", spec := "fnExactScanDecimal", unfollowed := true, recurses := true, apart := false, narrowed := true }
def FnExactScanDecimalUptoSaid : Prop := fnExactScanDecimalUptoRow.holds Try.pinned (OpenSpec.upto fnExactScanDecimalSpec)

end Rows
end Go.Proofs.Ytcbmdpecnmbhjaa
