/-
  No cell of these rows narrows 'for every input' (looked for: loops, veiled, ifaces, maps, wideKeys, modest, calm, conditions, laid).
  DERIVED. THE GIVEN ROWS OF THIS SEAT. 6 by the template 'for every input the law returns true; each argument reads behind the call as it read before'; 0 by the template 'total and deterministic' (their statements: YtlggnljibebfeaaTotals.lean).
  GIVEN WITH THE SEED: the statements are not yours to turn. If you find one false, say at which input.
  Laid BY PROGRAM, IN A SANDBOX (cutbox-rows.mjs): the forced cells as the released guide's own fill.sh prints them over the translation 9ed7470f9cc59b72… (all of the seat's roots in one cut). By AI agents, Wed Nov 11 2026. No macro, syntax, notation, axiom, sorry.
-/
import Derived.Test.YtlggnljibebfeaaChecked
import GoSem.Claim
import GoSem.ClaimJoined
import GoSem.ClaimMapViews
import Derived.JoinedTies
import Derived.KernelRfl
namespace Go.Proofs.Ytlggnljibebfeaa
/- THE CELL 'sum', in the pinned program and in every row, IS THE sha256 OF THE DUMP (.gsa) THAT YtlggnljibebfeaaProg.lean LOADS. Nothing in Lean hashes anything: it is a label: what it is worth is what the hold of that sum in a sandbox is worth. -/
noncomputable def Try.pinned : Pinned := { name := "ytlggnljibebfeaa", sum := "9ed7470f9cc59b7226fba35d0f7091b331190a1dfe914149f4dd1053ca878145", checked := Try.checked }
namespace Rows
def none {H : Type} : Left H := { results := [], args := [] }

/-- 'laws.FnExactNatToText': WHATEVER THE INPUT: true; the input reads as it did. -/
def fnExactNatToTextSpec : ChangeSpec := { name := "fnExactNatToText", fn := fun _ => fun
  | [d] => { results := [.lit (.bool true)], args := [d] }
  | _ => none }
def fnExactNatToTextRow : OpenClaim := { program := "ytlggnljibebfeaa", sum := "9ed7470f9cc59b7226fba35d0f7091b331190a1dfe914149f4dd1053ca878145", func := "loop.example/s01493/laws.FnExactNatToText", spec := "fnExactNatToText", unfollowed := true, recurses := true, named := ["math/bits.divideError", "math/bits.overflowError"], plainKeys := false, apart := false }
def FnExactNatToTextSaid : Prop := fnExactNatToTextRow.holds Try.pinned (OpenSpec.ofChange fnExactNatToTextSpec)

/-- ITS FALSE NEIGHBOUR: 'it returns false'. Refute it at one input. -/
def fnExactNatToTextWrong : ChangeSpec := { name := "fnExactNatToText", fn := fun _ => fun
  | [d] => { results := [.lit (.bool false)], args := [d] }
  | _ => none }
def FnExactNatToTextWrongFalsely : Prop := fnExactNatToTextRow.holds Try.pinned (OpenSpec.ofChange fnExactNatToTextWrong)

/-- 'laws.FnNatText': WHATEVER THE INPUT: true; the input reads as it did. -/
def fnNatTextSpec : ChangeSpec := { name := "fnNatText", fn := fun _ => fun
  | [d] => { results := [.lit (.bool true)], args := [d] }
  | _ => none }
def fnNatTextRow : OpenClaim := { program := "ytlggnljibebfeaa", sum := "9ed7470f9cc59b7226fba35d0f7091b331190a1dfe914149f4dd1053ca878145", func := "loop.example/s01493/laws.FnNatText", spec := "fnNatText", inPlace := ["math/bits.Add64"], unfollowed := true, recurses := true, named := ["math/bits.divideError", "math/bits.overflowError"], plainKeys := false, apart := false }
def FnNatTextSaid : Prop := fnNatTextRow.holds Try.pinned (OpenSpec.ofChange fnNatTextSpec)

/-- ITS FALSE NEIGHBOUR: 'it returns false'. Refute it at one input. -/
def fnNatTextWrong : ChangeSpec := { name := "fnNatText", fn := fun _ => fun
  | [d] => { results := [.lit (.bool false)], args := [d] }
  | _ => none }
def FnNatTextWrongFalsely : Prop := fnNatTextRow.holds Try.pinned (OpenSpec.ofChange fnNatTextWrong)

/-- 'laws.FnExactScanDecimal': WHATEVER THE INPUT: true; the input reads as it did. -/
def fnExactScanDecimalSpec : ChangeSpec := { name := "fnExactScanDecimal", fn := fun _ => fun
  | [d] => { results := [.lit (.bool true)], args := [d] }
  | _ => none }
def fnExactScanDecimalRow : OpenClaim := { program := "ytlggnljibebfeaa", sum := "9ed7470f9cc59b7226fba35d0f7091b331190a1dfe914149f4dd1053ca878145", func := "loop.example/s01493/laws.FnExactScanDecimal", spec := "fnExactScanDecimal", unfollowed := true, recurses := true, plainKeys := false, apart := false }
def FnExactScanDecimalSaid : Prop := fnExactScanDecimalRow.holds Try.pinned (OpenSpec.ofChange fnExactScanDecimalSpec)

/-- ITS FALSE NEIGHBOUR: 'it returns false'. Refute it at one input. -/
def fnExactScanDecimalWrong : ChangeSpec := { name := "fnExactScanDecimal", fn := fun _ => fun
  | [d] => { results := [.lit (.bool false)], args := [d] }
  | _ => none }
def FnExactScanDecimalWrongFalsely : Prop := fnExactScanDecimalRow.holds Try.pinned (OpenSpec.ofChange fnExactScanDecimalWrong)

/-- 'laws.FnExactRunCache': WHATEVER THE INPUT: true; the input reads as it did. -/
def fnExactRunCacheSpec : ChangeSpec := { name := "fnExactRunCache", fn := fun _ => fun
  | [d1, d2, d3] => { results := [.lit (.bool true)], args := [d1, d2, d3] }
  | _ => none }
def fnExactRunCacheRow : OpenClaim := { program := "ytlggnljibebfeaa", sum := "9ed7470f9cc59b7226fba35d0f7091b331190a1dfe914149f4dd1053ca878145", func := "loop.example/s01493/laws.FnExactRunCache", spec := "fnExactRunCache", unfollowed := true, recurses := true, plainKeys := false, apart := false }
def FnExactRunCacheSaid : Prop := fnExactRunCacheRow.holds Try.pinned (OpenSpec.ofChange fnExactRunCacheSpec)

/-- ITS FALSE NEIGHBOUR: 'it returns false'. Refute it at one input. -/
def fnExactRunCacheWrong : ChangeSpec := { name := "fnExactRunCache", fn := fun _ => fun
  | [d1, d2, d3] => { results := [.lit (.bool false)], args := [d1, d2, d3] }
  | _ => none }
def FnExactRunCacheWrongFalsely : Prop := fnExactRunCacheRow.holds Try.pinned (OpenSpec.ofChange fnExactRunCacheWrong)

/-- 'laws.FnCache': WHATEVER THE INPUT: true; the input reads as it did. -/
def fnCacheSpec : ChangeSpec := { name := "fnCache", fn := fun _ => fun
  | [d] => { results := [.lit (.bool true)], args := [d] }
  | _ => none }
def fnCacheRow : OpenClaim := { program := "ytlggnljibebfeaa", sum := "9ed7470f9cc59b7226fba35d0f7091b331190a1dfe914149f4dd1053ca878145", func := "loop.example/s01493/laws.FnCache", spec := "fnCache", unfollowed := true, recurses := true, plainKeys := false, apart := false }
def FnCacheSaid : Prop := fnCacheRow.holds Try.pinned (OpenSpec.ofChange fnCacheSpec)

/-- ITS FALSE NEIGHBOUR: 'it returns false'. Refute it at one input. -/
def fnCacheWrong : ChangeSpec := { name := "fnCache", fn := fun _ => fun
  | [d] => { results := [.lit (.bool false)], args := [d] }
  | _ => none }
def FnCacheWrongFalsely : Prop := fnCacheRow.holds Try.pinned (OpenSpec.ofChange fnCacheWrong)

/-- 'laws.FnAlone': WHATEVER THE INPUT: true; the input reads as it did. -/
def fnAloneSpec : ChangeSpec := { name := "fnAlone", fn := fun _ => fun
  | [d] => { results := [.lit (.bool true)], args := [d] }
  | _ => none }
def fnAloneRow : OpenClaim := { program := "ytlggnljibebfeaa", sum := "9ed7470f9cc59b7226fba35d0f7091b331190a1dfe914149f4dd1053ca878145", func := "loop.example/s01493/laws.FnAlone", spec := "fnAlone", unfollowed := true, recurses := true, plainKeys := false, apart := false }
def FnAloneSaid : Prop := fnAloneRow.holds Try.pinned (OpenSpec.ofChange fnAloneSpec)

/-- ITS FALSE NEIGHBOUR: 'it returns false'. Refute it at one input. -/
def fnAloneWrong : ChangeSpec := { name := "fnAlone", fn := fun _ => fun
  | [d] => { results := [.lit (.bool false)], args := [d] }
  | _ => none }
def FnAloneWrongFalsely : Prop := fnAloneRow.holds Try.pinned (OpenSpec.ofChange fnAloneWrong)

/- THE SECOND FORM. 'bulk': how many values and letters a reading holds, each counted each time it is reached (what is shared counts as often as it is met; a slice's spare places count too). A statement '..UptoSaid' is the law's where the arguments, and the package variables that the reading takes, are together of bulk at most 1048576: NARROWER than '..Said'. Prove '..Said' where nothing that the law and all that it calls make is longer than what came in: it says more and counts as full. Else prove '..UptoSaid'. A law counts once. -/
mutual
def uptoBulk {H : Type} : DataW H → Nat
  | .lit (.string bytes) => bytes.length + 1
  | .lit _ => 1
  | .nil => 1
  | .ptr d => uptoBulk d + 1
  | .slice elems spare => uptoBulkAll elems + uptoBulkAll spare + 1
  | .agg parts => uptoBulkAll parts + 1
  | .iface _ d => uptoBulk d + 1
  | .map entries => uptoBulkEntries entries + 1
  | .held _ => 1
def uptoBulkAll {H : Type} : List (DataW H) → Nat
  | [] => 0
  | d :: r => uptoBulk d + uptoBulkAll r
def uptoBulkEntries {H : Type} : List (Lit × DataW H) → Nat
  | [] => 0
  | x :: r => uptoBulkEntry x + uptoBulkEntries r
def uptoBulkEntry {H : Type} : Lit × DataW H → Nat
  | (.string bytes, d) => bytes.length + uptoBulk d + 1
  | (_, d) => uptoBulk d + 1
 end
def uptoSmall : (H : Type) → List (DataW H) → Bool := fun _ ds => decide (uptoBulkAll ds ≤ 1048576)
def OpenSpec.upto (s : _root_.Go.ChangeSpec) : _root_.Go.OpenSpec := { _root_.Go.OpenSpec.ofChange s with cond := some uptoSmall }

/-- 'laws.FnExactNatToText', WHERE WHAT IT READS IS OF BULK AT MOST 1048576: true; the input reads as it did. -/
def fnExactNatToTextUptoRow : OpenClaim := { program := "ytlggnljibebfeaa", sum := "9ed7470f9cc59b7226fba35d0f7091b331190a1dfe914149f4dd1053ca878145", func := "loop.example/s01493/laws.FnExactNatToText", spec := "fnExactNatToText", unfollowed := true, recurses := true, named := ["math/bits.divideError", "math/bits.overflowError"], plainKeys := false, apart := false, narrowed := true }
def FnExactNatToTextUptoSaid : Prop := fnExactNatToTextUptoRow.holds Try.pinned (OpenSpec.upto fnExactNatToTextSpec)

/-- 'laws.FnNatText', WHERE WHAT IT READS IS OF BULK AT MOST 1048576: true; the input reads as it did. -/
def fnNatTextUptoRow : OpenClaim := { program := "ytlggnljibebfeaa", sum := "9ed7470f9cc59b7226fba35d0f7091b331190a1dfe914149f4dd1053ca878145", func := "loop.example/s01493/laws.FnNatText", spec := "fnNatText", inPlace := ["math/bits.Add64"], unfollowed := true, recurses := true, named := ["math/bits.divideError", "math/bits.overflowError"], plainKeys := false, apart := false, narrowed := true }
def FnNatTextUptoSaid : Prop := fnNatTextUptoRow.holds Try.pinned (OpenSpec.upto fnNatTextSpec)

/-- 'laws.FnExactScanDecimal', WHERE WHAT IT READS IS OF BULK AT MOST 1048576: true; the input reads as it did. -/
def fnExactScanDecimalUptoRow : OpenClaim := { program := "ytlggnljibebfeaa", sum := "9ed7470f9cc59b7226fba35d0f7091b331190a1dfe914149f4dd1053ca878145", func := "loop.example/s01493/laws.FnExactScanDecimal", spec := "fnExactScanDecimal", unfollowed := true, recurses := true, plainKeys := false, apart := false, narrowed := true }
def FnExactScanDecimalUptoSaid : Prop := fnExactScanDecimalUptoRow.holds Try.pinned (OpenSpec.upto fnExactScanDecimalSpec)

/-- 'laws.FnExactRunCache', WHERE WHAT IT READS IS OF BULK AT MOST 1048576: true; the input reads as it did. -/
def fnExactRunCacheUptoRow : OpenClaim := { program := "ytlggnljibebfeaa", sum := "9ed7470f9cc59b7226fba35d0f7091b331190a1dfe914149f4dd1053ca878145", func := "loop.example/s01493/laws.FnExactRunCache", spec := "fnExactRunCache", unfollowed := true, recurses := true, plainKeys := false, apart := false, narrowed := true }
def FnExactRunCacheUptoSaid : Prop := fnExactRunCacheUptoRow.holds Try.pinned (OpenSpec.upto fnExactRunCacheSpec)

/-- 'laws.FnCache', WHERE WHAT IT READS IS OF BULK AT MOST 1048576: true; the input reads as it did. -/
def fnCacheUptoRow : OpenClaim := { program := "ytlggnljibebfeaa", sum := "9ed7470f9cc59b7226fba35d0f7091b331190a1dfe914149f4dd1053ca878145", func := "loop.example/s01493/laws.FnCache", spec := "fnCache", unfollowed := true, recurses := true, plainKeys := false, apart := false, narrowed := true }
def FnCacheUptoSaid : Prop := fnCacheUptoRow.holds Try.pinned (OpenSpec.upto fnCacheSpec)

/-- 'laws.FnAlone', WHERE WHAT IT READS IS OF BULK AT MOST 1048576: true; the input reads as it did. -/
def fnAloneUptoRow : OpenClaim := { program := "ytlggnljibebfeaa", sum := "9ed7470f9cc59b7226fba35d0f7091b331190a1dfe914149f4dd1053ca878145", func := "loop.example/s01493/laws.FnAlone", spec := "fnAlone", unfollowed := true, recurses := true, plainKeys := false, apart := false, narrowed := true }
def FnAloneUptoSaid : Prop := fnAloneUptoRow.holds Try.pinned (OpenSpec.upto fnAloneSpec)

end Rows
end Go.Proofs.Ytlggnljibebfeaa
