import Derived.Laws.Externs
import Derived.Test.YtdbnmdchecacdaaDoorQFnExactStepi
section
namespace Go.Proofs.YtdbnmdchecacdaaDoor.G
set_option linter.unusedVariables false
def add64s (a b c : Int) : Int := ((a.toNat + b.toNat + c.toNat) % 18446744073709551616 : Nat)
def add64c (a b c : Int) : Int := ((a.toNat + b.toNat + c.toNat) / 18446744073709551616 : Nat)
def sub64s (a b c : Int) : Int := ((a.toNat + 18446744073709551616 - b.toNat - c.toNat) % 18446744073709551616 : Nat)
def sub64c (a b c : Int) : Int := if a.toNat < b.toNat + c.toNat then 1 else 0
def sub64Entry : Array Value → Sem Value := fun args => do
  let (x, y, b) ← Extern.MathBitsCarry.three "Sub64" args
  pure (Extern.MathBitsCarry.pair ((x + Extern.MathBitsCarry.m64 - y - b) % Extern.MathBitsCarry.m64) (if x < y + b then 1 else 0))
theorem add64_entry {P : Program} (a b c : Int) (hc : c.toNat ≤ 1) (w : World) :
    (add64Entry #[.int .u64 a, .int .u64 b, .int .u64 c]).run P w = .ok (.tuple #[.int .u64 (add64s a b c), .int .u64 (add64c a b c)]) w := by
  match c, hc with
  | .ofNat 0, _ => rfl
  | .ofNat 1, _ => rfl
  | .ofNat (n + 2), hc => exact absurd (show n + 2 ≤ 1 from hc) (by omega)
  | .negSucc n, _ => rfl
theorem sub64_entry {P : Program} (a b c : Int) (hc : c.toNat ≤ 1) (w : World) :
    (sub64Entry #[.int .u64 a, .int .u64 b, .int .u64 c]).run P w = .ok (.tuple #[.int .u64 (sub64s a b c), .int .u64 (sub64c a b c)]) w := by
  have key : ∀ k : Nat, c.toNat = k → (sub64Entry #[.int .u64 a, .int .u64 b, .int .u64 c]).run P w = .ok (Extern.MathBitsCarry.pair ((a.toNat + Extern.MathBitsCarry.m64 - b.toNat - c.toNat) % Extern.MathBitsCarry.m64) (if a.toNat < b.toNat + c.toNat then 1 else 0)) w := by
    intro k hk
    match c, hc with
    | .ofNat 0, _ => rfl
    | .ofNat 1, _ => rfl
    | .ofNat (n + 2), hc => exact absurd (show n + 2 ≤ 1 from hc) (by omega)
    | .negSucc n, _ => rfl
  rw [key _ rfl]
  unfold sub64c
  by_cases h : a.toNat < b.toNat + c.toNat
  · rw [if_pos h, if_pos h]; rfl
  · rw [if_neg h, if_neg h]; rfl
theorem run_Add64 (a b c : Int) (hc : c.toNat ≤ 1) (w : World) :
    (callFunc 125 #[.int .u64 a, .int .u64 b, .int .u64 c]).run Tryd.prog w = .ok (.value (.tuple #[.int .u64 (add64s a b c), .int .u64 (add64c a b c)])) w := by
  rw [run_callFunc_extern Tryd.func125 (by kernel_rfl) (by kernel_rfl) (by kernel_rfl) (e := add64Entry) (by kernel_rfl), add64_entry a b c hc]
  rfl
theorem run_Sub64 (a b c : Int) (hc : c.toNat ≤ 1) (w : World) :
    (callFunc 126 #[.int .u64 a, .int .u64 b, .int .u64 c]).run Tryd.prog w = .ok (.value (.tuple #[.int .u64 (sub64s a b c), .int .u64 (sub64c a b c)])) w := by
  rw [run_callFunc_extern Tryd.func126 (by kernel_rfl) (by kernel_rfl) (by kernel_rfl) (e := sub64Entry) (by kernel_rfl), sub64_entry a b c hc]
  rfl
end Go.Proofs.YtdbnmdchecacdaaDoor.G
end
