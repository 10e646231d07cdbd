import Derived.Test.YtcbmdpecnmbhjaaQFnDivModf
section
namespace Go.Proofs.Ytcbmdpecnmbhjaa.PA
open Go.RowKit Go.Proofs.Ytcbmdpecnmbhjaa.G Go.Proofs.YtcbmdpecnmbhjaaV.PrintWords Go.Proofs.YtcbmdpecnmbhjaaV.PrintLast Go.Proofs.YtcbmdpecnmbhjaaV.PrintMore
attribute [local go_sem] max2_int min2_int max_two min_two max_three min_three max_four min_four run_Add64 run_Sub64
set_option linter.unusedVariables false
set_option linter.unusedSimpArgs false
mutual
def bits_Div64.j2 : Nat → Int → Int → Int → Int → Int → Int → Int → Int → Option (Int × Int)
 | 0, _, _, _, _, _, _, _, _ => none
 | k + 1, x2, x8, x9, x10, x11, x13, x14, x15 => if x9 = 0 then (none) else (bits_Div64.l1 k x2 x8 x9 x10 x14 x15 (IntKind.u64.wrap ((IntKind.u64.wrap ((IntKind.u64.wrap ((IntKind.u64.wrap (x11 * 4294967296)) + x13)) - (IntKind.u64.wrap (x15 * x2)))) - (IntKind.u64.wrap ((IntKind.u64.wrap (Int.tdiv (IntKind.u64.wrap ((IntKind.u64.wrap ((IntKind.u64.wrap (x11 * 4294967296)) + x13)) - (IntKind.u64.wrap (x15 * x2)))) x9)) * x9)))) (IntKind.u64.wrap ((IntKind.u64.wrap ((IntKind.u64.wrap (x11 * 4294967296)) + x13)) - (IntKind.u64.wrap (x15 * x2)))) (IntKind.u64.wrap (Int.tdiv (IntKind.u64.wrap ((IntKind.u64.wrap ((IntKind.u64.wrap (x11 * 4294967296)) + x13)) - (IntKind.u64.wrap (x15 * x2)))) x9)))
def bits_Div64.l1 : Nat → Int → Int → Int → Int → Int → Int → Int → Int → Int → Option (Int × Int)
 | 0, _, _, _, _, _, _, _, _, _ => none
 | k + 1, x2, x8, x9, x10, x14, x15, x16, x17, x18 => if x18 ≥ 4294967296 then (bits_Div64.j4 k x2 x8 x9 x10 x14 x15 x16 x17 x18 true) else (bits_Div64.j4 k x2 x8 x9 x10 x14 x15 x16 x17 x18 (decide ((IntKind.u64.wrap (x18 * x10)) > (IntKind.u64.wrap ((IntKind.u64.wrap (4294967296 * x16)) + x14)))))
def bits_Div64.j4 : Nat → Int → Int → Int → Int → Int → Int → Int → Int → Int → Bool → Option (Int × Int)
 | 0, _, _, _, _, _, _, _, _, _, _ => none
 | k + 1, x2, x8, x9, x10, x14, x15, x16, x17, x18, x113 => if x113 = true then (if (IntKind.u64.wrap (x16 + x9)) ≥ 4294967296 then (if 0 ≤ x8 then (some (IntKind.u64.wrap ((IntKind.u64.wrap (x15 * 4294967296)) + (IntKind.u64.wrap (x18 - 1))), shr .u64 (IntKind.u64.wrap ((IntKind.u64.wrap ((IntKind.u64.wrap (x17 * 4294967296)) + x14)) - (IntKind.u64.wrap ((IntKind.u64.wrap (x18 - 1)) * x2)))) x8)) else (none)) else (bits_Div64.l1 k x2 x8 x9 x10 x14 x15 (IntKind.u64.wrap (x16 + x9)) x17 (IntKind.u64.wrap (x18 - 1)))) else (if 0 ≤ x8 then (some (IntKind.u64.wrap ((IntKind.u64.wrap (x15 * 4294967296)) + x18), shr .u64 (IntKind.u64.wrap ((IntKind.u64.wrap ((IntKind.u64.wrap (x17 * 4294967296)) + x14)) - (IntKind.u64.wrap (x18 * x2)))) x8)) else (none))
def bits_Div64.l0 : Nat → Int → Int → Int → Int → Int → Int → Int → Int → Int → Option (Int × Int)
 | 0, _, _, _, _, _, _, _, _, _ => none
 | k + 1, x2, x8, x9, x10, x11, x13, x14, x15, x16 => if x15 ≥ 4294967296 then (bits_Div64.j1 k x2 x8 x9 x10 x11 x13 x14 x15 x16 true) else (bits_Div64.j1 k x2 x8 x9 x10 x11 x13 x14 x15 x16 (decide ((IntKind.u64.wrap (x15 * x10)) > (IntKind.u64.wrap ((IntKind.u64.wrap (4294967296 * x16)) + x13)))))
def bits_Div64.j1 : Nat → Int → Int → Int → Int → Int → Int → Int → Int → Int → Bool → Option (Int × Int)
 | 0, _, _, _, _, _, _, _, _, _, _ => none
 | k + 1, x2, x8, x9, x10, x11, x13, x14, x15, x16, x78 => if x78 = true then (if (IntKind.u64.wrap (x16 + x9)) ≥ 4294967296 then (bits_Div64.j2 k x2 x8 x9 x10 x11 x13 x14 (IntKind.u64.wrap (x15 - 1))) else (bits_Div64.l0 k x2 x8 x9 x10 x11 x13 x14 (IntKind.u64.wrap (x15 - 1)) (IntKind.u64.wrap (x16 + x9)))) else (bits_Div64.j2 k x2 x8 x9 x10 x11 x13 x14 x15)
end
def bits_Div64.f (k : Nat) (a0 : Int) (a1 : Int) (a2 : Int) : Option (Int × Int) := if a2 = 0 then (none) else (if a2 ≤ a0 then (none) else (if a0 = 0 then (some (IntKind.u64.wrap (Int.tdiv a1 a2), Int.tmod a1 a2)) else ((bits_LeadingZeros64.f k a2).bind fun t467 => (if 0 ≤ (IntKind.u64.wrap (t467)) then (if 0 ≤ (IntKind.u64.wrap (64 - (IntKind.u64.wrap (t467)))) then (if ((shl .u64 a2 (IntKind.u64.wrap (t467))) / 4294967296) = 0 then (none) else (bits_Div64.l0 k (shl .u64 a2 (IntKind.u64.wrap (t467))) (IntKind.u64.wrap (t467)) ((shl .u64 a2 (IntKind.u64.wrap (t467))) / 4294967296) (Go.bits .and .u64 (shl .u64 a2 (IntKind.u64.wrap (t467))) 4294967295) (Go.bits .or .u64 (shl .u64 a0 (IntKind.u64.wrap (t467))) (shr .u64 a1 (IntKind.u64.wrap (64 - (IntKind.u64.wrap (t467)))))) ((shl .u64 a1 (IntKind.u64.wrap (t467))) / 4294967296) (Go.bits .and .u64 (shl .u64 a1 (IntKind.u64.wrap (t467))) 4294967295) (IntKind.u64.wrap (Int.tdiv (Go.bits .or .u64 (shl .u64 a0 (IntKind.u64.wrap (t467))) (shr .u64 a1 (IntKind.u64.wrap (64 - (IntKind.u64.wrap (t467)))))) ((shl .u64 a2 (IntKind.u64.wrap (t467))) / 4294967296))) (IntKind.u64.wrap ((Go.bits .or .u64 (shl .u64 a0 (IntKind.u64.wrap (t467))) (shr .u64 a1 (IntKind.u64.wrap (64 - (IntKind.u64.wrap (t467)))))) - (IntKind.u64.wrap ((IntKind.u64.wrap (Int.tdiv (Go.bits .or .u64 (shl .u64 a0 (IntKind.u64.wrap (t467))) (shr .u64 a1 (IntKind.u64.wrap (64 - (IntKind.u64.wrap (t467)))))) ((shl .u64 a2 (IntKind.u64.wrap (t467))) / 4294967296))) * ((shl .u64 a2 (IntKind.u64.wrap (t467))) / 4294967296))))))) else (none)) else (none)))))
set_option maxHeartbeats 8000000 in
set_option maxRecDepth 100000 in
theorem bits_Div64.calls (k : Nat) (a0 : Int) (a1 : Int) (a2 : Int) (r1 : Int) (r2 : Int) (w : World) (h : bits_Div64.f k a0 a1 a2 = some (r1, r2)) :
  Calls Try.prog 97 #[.int .u64 a0, .int .u64 a1, .int .u64 a2] w fun e w' => e = .returned (.tuple #[.int .u64 r1, .int .u64 r2]) ∧ Drawn0 w w' := by
 have H : (if a2 = 0 then (none) else (if a2 ≤ a0 then (none) else (if a0 = 0 then (some (IntKind.u64.wrap (Int.tdiv a1 a2), Int.tmod a1 a2)) else ((bits_LeadingZeros64.f k a2).bind fun t467 => (if 0 ≤ (IntKind.u64.wrap (t467)) then (if 0 ≤ (IntKind.u64.wrap (64 - (IntKind.u64.wrap (t467)))) then (if ((shl .u64 a2 (IntKind.u64.wrap (t467))) / 4294967296) = 0 then (none) else (bits_Div64.l0 k (shl .u64 a2 (IntKind.u64.wrap (t467))) (IntKind.u64.wrap (t467)) ((shl .u64 a2 (IntKind.u64.wrap (t467))) / 4294967296) (Go.bits .and .u64 (shl .u64 a2 (IntKind.u64.wrap (t467))) 4294967295) (Go.bits .or .u64 (shl .u64 a0 (IntKind.u64.wrap (t467))) (shr .u64 a1 (IntKind.u64.wrap (64 - (IntKind.u64.wrap (t467)))))) ((shl .u64 a1 (IntKind.u64.wrap (t467))) / 4294967296) (Go.bits .and .u64 (shl .u64 a1 (IntKind.u64.wrap (t467))) 4294967295) (IntKind.u64.wrap (Int.tdiv (Go.bits .or .u64 (shl .u64 a0 (IntKind.u64.wrap (t467))) (shr .u64 a1 (IntKind.u64.wrap (64 - (IntKind.u64.wrap (t467)))))) ((shl .u64 a2 (IntKind.u64.wrap (t467))) / 4294967296))) (IntKind.u64.wrap ((Go.bits .or .u64 (shl .u64 a0 (IntKind.u64.wrap (t467))) (shr .u64 a1 (IntKind.u64.wrap (64 - (IntKind.u64.wrap (t467)))))) - (IntKind.u64.wrap ((IntKind.u64.wrap (Int.tdiv (Go.bits .or .u64 (shl .u64 a0 (IntKind.u64.wrap (t467))) (shr .u64 a1 (IntKind.u64.wrap (64 - (IntKind.u64.wrap (t467)))))) ((shl .u64 a2 (IntKind.u64.wrap (t467))) / 4294967296))) * ((shl .u64 a2 (IntKind.u64.wrap (t467))) / 4294967296))))))) else (none)) else (none)))))) = some (r1, r2) := h
 clear h
 by_cases c4 : a2 = 0
 ·rw [if_pos c4] at H
  exact absurd H (by simp)
 ·rw [if_neg c4] at H
  have c4b0 : (a2 == 0) = false := beq_eq_false_iff_ne.mpr c4
  have c4b1 : (a2 != 0) = true := bne_iff_ne.mpr c4
  by_cases c5 : a2 ≤ a0
  ·rw [if_pos c5] at H
   exact absurd H (by simp)
  ·rw [if_neg c5] at H
   have c5b0 : decide (a2 ≤ a0) = false := decide_eq_false c5
   clear c5
   by_cases c6 : a0 = 0
   ·rw [if_pos c6] at H
    have c6b0 : (a0 == 0) = true := beq_iff_eq.mpr c6
    have c6b1 : (a0 != 0) = false := bne_eq_false_iff_eq.mpr c6
    clear c6
    simp only [Option.some.injEq, Prod.mk.injEq] at H
    obtain ⟨rfl, rfl⟩ := H
    go_enter Try.func97, Try.ntmps97
    go_wp2
    repeat (go_quiet (fail); try go_wp2)
    go_ret2
    exact ⟨by first | rfl | (simp; done) | (simp [*]; done), by repeat (first | exact Drawn0.refl _ | apply Drawn0.step)⟩
   ·rw [if_neg c6] at H
    have c6b0 : (a0 == 0) = false := beq_eq_false_iff_ne.mpr c6
    have c6b1 : (a0 != 0) = true := bne_iff_ne.mpr c6
    replace H := Option.bind_eq_some_iff.mp H
    obtain ⟨t467, A70, H⟩ := H
    replace H : (if 0 ≤ (IntKind.u64.wrap (t467)) then (if 0 ≤ (IntKind.u64.wrap (64 - (IntKind.u64.wrap (t467)))) then (if ((shl .u64 a2 (IntKind.u64.wrap (t467))) / 4294967296) = 0 then (none) else (bits_Div64.l0 k (shl .u64 a2 (IntKind.u64.wrap (t467))) (IntKind.u64.wrap (t467)) ((shl .u64 a2 (IntKind.u64.wrap (t467))) / 4294967296) (Go.bits .and .u64 (shl .u64 a2 (IntKind.u64.wrap (t467))) 4294967295) (Go.bits .or .u64 (shl .u64 a0 (IntKind.u64.wrap (t467))) (shr .u64 a1 (IntKind.u64.wrap (64 - (IntKind.u64.wrap (t467)))))) ((shl .u64 a1 (IntKind.u64.wrap (t467))) / 4294967296) (Go.bits .and .u64 (shl .u64 a1 (IntKind.u64.wrap (t467))) 4294967295) (IntKind.u64.wrap (Int.tdiv (Go.bits .or .u64 (shl .u64 a0 (IntKind.u64.wrap (t467))) (shr .u64 a1 (IntKind.u64.wrap (64 - (IntKind.u64.wrap (t467)))))) ((shl .u64 a2 (IntKind.u64.wrap (t467))) / 4294967296))) (IntKind.u64.wrap ((Go.bits .or .u64 (shl .u64 a0 (IntKind.u64.wrap (t467))) (shr .u64 a1 (IntKind.u64.wrap (64 - (IntKind.u64.wrap (t467)))))) - (IntKind.u64.wrap ((IntKind.u64.wrap (Int.tdiv (Go.bits .or .u64 (shl .u64 a0 (IntKind.u64.wrap (t467))) (shr .u64 a1 (IntKind.u64.wrap (64 - (IntKind.u64.wrap (t467)))))) ((shl .u64 a2 (IntKind.u64.wrap (t467))) / 4294967296))) * ((shl .u64 a2 (IntKind.u64.wrap (t467))) / 4294967296))))))) else (none)) else (none)) = some (r1, r2) := H
    have A7 := Aside0.mk A70
    clear A70
    obtain ⟨ji8, hji8⟩ : ∃ j_ : Int, (IntKind.u64.wrap (t467)) = j_ := ⟨_, rfl⟩
    replace H : (if 0 ≤ (ji8) then (if 0 ≤ (IntKind.u64.wrap (64 - (ji8))) then (if ((shl .u64 a2 (ji8)) / 4294967296) = 0 then (none) else (bits_Div64.l0 k (shl .u64 a2 (ji8)) ji8 ((shl .u64 a2 (ji8)) / 4294967296) (Go.bits .and .u64 (shl .u64 a2 (ji8)) 4294967295) (Go.bits .or .u64 (shl .u64 a0 (ji8)) (shr .u64 a1 (IntKind.u64.wrap (64 - (ji8))))) ((shl .u64 a1 (ji8)) / 4294967296) (Go.bits .and .u64 (shl .u64 a1 (ji8)) 4294967295) (IntKind.u64.wrap (Int.tdiv (Go.bits .or .u64 (shl .u64 a0 (ji8)) (shr .u64 a1 (IntKind.u64.wrap (64 - (ji8))))) ((shl .u64 a2 (ji8)) / 4294967296))) (IntKind.u64.wrap ((Go.bits .or .u64 (shl .u64 a0 (ji8)) (shr .u64 a1 (IntKind.u64.wrap (64 - (ji8))))) - (IntKind.u64.wrap ((IntKind.u64.wrap (Int.tdiv (Go.bits .or .u64 (shl .u64 a0 (ji8)) (shr .u64 a1 (IntKind.u64.wrap (64 - (ji8))))) ((shl .u64 a2 (ji8)) / 4294967296))) * ((shl .u64 a2 (ji8)) / 4294967296))))))) else (none)) else (none)) = some (r1, r2) := by first | (rw [hji8] at H; exact H) | (simp only [hji8] at H ⊢; exact H)
    (try rw [hji8] at A7)
    by_cases c9 : 0 ≤ (ji8)
    ·rw [if_pos c9] at H
     have c9b0 := eq_true c9
     have c9b1 : decide (0 ≤ (ji8)) = true := decide_eq_true c9
     clear c9
     obtain ⟨ji10, hji10⟩ : ∃ j_ : Int, (shl .u64 a2 (ji8)) = j_ := ⟨_, rfl⟩
     replace H : (if 0 ≤ (IntKind.u64.wrap (64 - (ji8))) then (if ((ji10) / 4294967296) = 0 then (none) else (bits_Div64.l0 k ji10 ji8 ((ji10) / 4294967296) (Go.bits .and .u64 (ji10) 4294967295) (Go.bits .or .u64 (shl .u64 a0 (ji8)) (shr .u64 a1 (IntKind.u64.wrap (64 - (ji8))))) ((shl .u64 a1 (ji8)) / 4294967296) (Go.bits .and .u64 (shl .u64 a1 (ji8)) 4294967295) (IntKind.u64.wrap (Int.tdiv (Go.bits .or .u64 (shl .u64 a0 (ji8)) (shr .u64 a1 (IntKind.u64.wrap (64 - (ji8))))) ((ji10) / 4294967296))) (IntKind.u64.wrap ((Go.bits .or .u64 (shl .u64 a0 (ji8)) (shr .u64 a1 (IntKind.u64.wrap (64 - (ji8))))) - (IntKind.u64.wrap ((IntKind.u64.wrap (Int.tdiv (Go.bits .or .u64 (shl .u64 a0 (ji8)) (shr .u64 a1 (IntKind.u64.wrap (64 - (ji8))))) ((ji10) / 4294967296))) * ((ji10) / 4294967296))))))) else (none)) = some (r1, r2) := by first | (rw [hji10] at H; exact H) | (simp only [hji10] at H ⊢; exact H)
     (try rw [hji10] at A7)
     have hji10_ : (IntKind.u64.wrap (a2 * 2 ^ min (ji8).toNat 64)) = ji10 := hji10
     have hji10z : (ji8) ≤ 64 → (IntKind.u64.wrap (a2 * 2 ^ (ji8).toNat)) = ji10 := shl_small hji10
     have c11b0 := eq_true (of_decide_eq_true (by first | (with_reducible assumption) | assumption) : 0 ≤ (ji8))
     obtain ⟨ji12, hji12⟩ : ∃ j_ : Int, (shl .u64 a0 (ji8)) = j_ := ⟨_, rfl⟩
     replace H : (if 0 ≤ (IntKind.u64.wrap (64 - (ji8))) then (if ((ji10) / 4294967296) = 0 then (none) else (bits_Div64.l0 k ji10 ji8 ((ji10) / 4294967296) (Go.bits .and .u64 (ji10) 4294967295) (Go.bits .or .u64 (ji12) (shr .u64 a1 (IntKind.u64.wrap (64 - (ji8))))) ((shl .u64 a1 (ji8)) / 4294967296) (Go.bits .and .u64 (shl .u64 a1 (ji8)) 4294967295) (IntKind.u64.wrap (Int.tdiv (Go.bits .or .u64 (ji12) (shr .u64 a1 (IntKind.u64.wrap (64 - (ji8))))) ((ji10) / 4294967296))) (IntKind.u64.wrap ((Go.bits .or .u64 (ji12) (shr .u64 a1 (IntKind.u64.wrap (64 - (ji8))))) - (IntKind.u64.wrap ((IntKind.u64.wrap (Int.tdiv (Go.bits .or .u64 (ji12) (shr .u64 a1 (IntKind.u64.wrap (64 - (ji8))))) ((ji10) / 4294967296))) * ((ji10) / 4294967296))))))) else (none)) = some (r1, r2) := by first | (rw [hji12] at H; exact H) | (simp only [hji12] at H ⊢; exact H)
     (try rw [hji12] at A7)
     have hji12_ : (IntKind.u64.wrap (a0 * 2 ^ min (ji8).toNat 64)) = ji12 := hji12
     have hji12z : (ji8) ≤ 64 → (IntKind.u64.wrap (a0 * 2 ^ (ji8).toNat)) = ji12 := shl_small hji12
     obtain ⟨ji13, hji13⟩ : ∃ j_ : Int, (IntKind.u64.wrap (64 - (ji8))) = j_ := ⟨_, rfl⟩
     replace H : (if 0 ≤ (ji13) then (if ((ji10) / 4294967296) = 0 then (none) else (bits_Div64.l0 k ji10 ji8 ((ji10) / 4294967296) (Go.bits .and .u64 (ji10) 4294967295) (Go.bits .or .u64 (ji12) (shr .u64 a1 (ji13))) ((shl .u64 a1 (ji8)) / 4294967296) (Go.bits .and .u64 (shl .u64 a1 (ji8)) 4294967295) (IntKind.u64.wrap (Int.tdiv (Go.bits .or .u64 (ji12) (shr .u64 a1 (ji13))) ((ji10) / 4294967296))) (IntKind.u64.wrap ((Go.bits .or .u64 (ji12) (shr .u64 a1 (ji13))) - (IntKind.u64.wrap ((IntKind.u64.wrap (Int.tdiv (Go.bits .or .u64 (ji12) (shr .u64 a1 (ji13))) ((ji10) / 4294967296))) * ((ji10) / 4294967296))))))) else (none)) = some (r1, r2) := by first | (rw [hji13] at H; exact H) | (simp only [hji13] at H ⊢; exact H)
     (try rw [hji13] at A7)
     by_cases c14 : 0 ≤ (ji13)
     ·rw [if_pos c14] at H
      have c14b0 := eq_true c14
      have c14b1 : decide (0 ≤ (ji13)) = true := decide_eq_true c14
      clear c14
      obtain ⟨ji15, hji15⟩ : ∃ j_ : Int, (shr .u64 a1 (ji13)) = j_ := ⟨_, rfl⟩
      replace H : (if ((ji10) / 4294967296) = 0 then (none) else (bits_Div64.l0 k ji10 ji8 ((ji10) / 4294967296) (Go.bits .and .u64 (ji10) 4294967295) (Go.bits .or .u64 (ji12) (ji15)) ((shl .u64 a1 (ji8)) / 4294967296) (Go.bits .and .u64 (shl .u64 a1 (ji8)) 4294967295) (IntKind.u64.wrap (Int.tdiv (Go.bits .or .u64 (ji12) (ji15)) ((ji10) / 4294967296))) (IntKind.u64.wrap ((Go.bits .or .u64 (ji12) (ji15)) - (IntKind.u64.wrap ((IntKind.u64.wrap (Int.tdiv (Go.bits .or .u64 (ji12) (ji15)) ((ji10) / 4294967296))) * ((ji10) / 4294967296))))))) = some (r1, r2) := by first | (rw [hji15] at H; exact H) | (simp only [hji15] at H ⊢; exact H)
      (try rw [hji15] at A7)
      have hji15_ : (a1 / 2 ^ min (ji13).toNat 64) = ji15 := hji15
      have hji15z : (ji13) ≤ 64 → (a1 / 2 ^ (ji13).toNat) = ji15 := shr_small hji15
      have c16b0 := eq_true (of_decide_eq_true (by first | (with_reducible assumption) | assumption) : 0 ≤ (ji8))
      obtain ⟨ji17, hji17⟩ : ∃ j_ : Int, (shl .u64 a1 (ji8)) = j_ := ⟨_, rfl⟩
      replace H : (if ((ji10) / 4294967296) = 0 then (none) else (bits_Div64.l0 k ji10 ji8 ((ji10) / 4294967296) (Go.bits .and .u64 (ji10) 4294967295) (Go.bits .or .u64 (ji12) (ji15)) ((ji17) / 4294967296) (Go.bits .and .u64 (ji17) 4294967295) (IntKind.u64.wrap (Int.tdiv (Go.bits .or .u64 (ji12) (ji15)) ((ji10) / 4294967296))) (IntKind.u64.wrap ((Go.bits .or .u64 (ji12) (ji15)) - (IntKind.u64.wrap ((IntKind.u64.wrap (Int.tdiv (Go.bits .or .u64 (ji12) (ji15)) ((ji10) / 4294967296))) * ((ji10) / 4294967296))))))) = some (r1, r2) := by first | (rw [hji17] at H; exact H) | (simp only [hji17] at H ⊢; exact H)
      (try rw [hji17] at A7)
      have hji17_ : (IntKind.u64.wrap (a1 * 2 ^ min (ji8).toNat 64)) = ji17 := hji17
      have hji17z : (ji8) ≤ 64 → (IntKind.u64.wrap (a1 * 2 ^ (ji8).toNat)) = ji17 := shl_small hji17
      by_cases c18 : ((ji10) / 4294967296) = 0
      ·rw [if_pos c18] at H
       exact absurd H (by simp)
      ·rw [if_neg c18] at H
       have c18b0 : (((ji10) / 4294967296) == 0) = false := beq_eq_false_iff_ne.mpr c18
       have c18b1 : (((ji10) / 4294967296) != 0) = true := bne_iff_ne.mpr c18
       have HC19 := Aside0.mk H
       clear H
       go_enter Try.func97, Try.ntmps97
       go_upto_block 0 with (first | (go_at_call 86; (with_reducible refine (bits_LeadingZeros64.calls k a2 t467 _ A7.out).mono ?_); rintro e w' ⟨rfl, ⟨nd, rfl⟩⟩; (try first | exact ⟨rfl, _, World.drewN_drewN _ _ _⟩ | exact ⟨rfl, _, Eq.trans (World.drewN_drewN _ _ _) (congrArg (World.drewN _) (Nat.add_assoc _ _ _))⟩)))
       repeat (go_quiet (first | (go_at_call 86; (with_reducible refine (bits_LeadingZeros64.calls k a2 t467 _ A7.out).mono ?_); rintro e w' ⟨rfl, ⟨nd, rfl⟩⟩; (try first | exact ⟨rfl, _, World.drewN_drewN _ _ _⟩ | exact ⟨rfl, _, Eq.trans (World.drewN_drewN _ _ _) (congrArg (World.drewN _) (Nat.add_assoc _ _ _))⟩))); go_upto_block 0 with (first | (go_at_call 86; (with_reducible refine (bits_LeadingZeros64.calls k a2 t467 _ A7.out).mono ?_); rintro e w' ⟨rfl, ⟨nd, rfl⟩⟩; (try first | exact ⟨rfl, _, World.drewN_drewN _ _ _⟩ | exact ⟨rfl, _, Eq.trans (World.drewN_drewN _ _ _) (congrArg (World.drewN _) (Nat.add_assoc _ _ _))⟩))))
       (try simp only [Act.put, List.setIfInBounds_toArray, List.set_cons_zero, List.set_cons_succ])
       go_cut [15] (fun v15 wc => ∃ (kq : Nat) (x15_18 : Int), v15 = .int .u64 x15_18 ∧ Aside0 (bits_Div64.j2 kq ji10 ji8 ((ji10) / 4294967296) (Go.bits .and .u64 (ji10) 4294967295) (Go.bits .or .u64 (ji12) (ji15)) ((ji17) / 4294967296) (Go.bits .and .u64 (ji17) 4294967295) x15_18 = some (r1, r2)) ∧ Aside0 (kq ≤ k) ∧ Drawn0 w wc)
       case first =>
        have H := HC19.out
        clear HC19
        have H' := Aside0.mk H
        clear H
        go_wp2
        repeat (go_quiet (fail); try go_wp2)
        go_loopg [15, 16] k (fun kq v15 v16 w' => ∃ (x15_1 : Int) (x16_1 : Int), v15 = .int .u64 x15_1 ∧ v16 = .int .u64 x16_1 ∧ Aside0 (bits_Div64.l0 kq ji10 ji8 ((ji10) / 4294967296) (Go.bits .and .u64 (ji10) 4294967295) (Go.bits .or .u64 (ji12) (ji15)) ((ji17) / 4294967296) (Go.bits .and .u64 (ji17) 4294967295) x15_1 x16_1 = some (r1, r2)) ∧ Aside0 (kq ≤ k) ∧ Drawn0 w w')
        case atStart => exact ⟨(IntKind.u64.wrap (Int.tdiv (Go.bits .or .u64 (ji12) (ji15)) ((ji10) / 4294967296))), (IntKind.u64.wrap ((Go.bits .or .u64 (ji12) (ji15)) - (IntKind.u64.wrap ((IntKind.u64.wrap (Int.tdiv (Go.bits .or .u64 (ji12) (ji15)) ((ji10) / 4294967296))) * ((ji10) / 4294967296))))), (by first | rfl | (simp; done) | (simp only [← hji10, ← hji12, ← hji15] <;> (first | rfl | simp)) | (simp [*]; done)), (by first | rfl | (simp; done) | (simp only [← hji10, ← hji12, ← hji15] <;> (first | rfl | simp)) | (simp [*]; done)), H', ⟨Nat.le_refl _⟩, by repeat (first | exact Drawn0.refl _ | apply Drawn0.step)⟩
        case round =>
         clear H'
         try clear c1; try clear p2; try clear c4; try clear c4b0; try clear c4b1; try clear c5; try clear c5b0; try clear c6; try clear c6b0; try clear c6b1; try clear c9; try clear c9b0; try clear c9b1; try clear c11; try clear c11b0; try clear c14; try clear c14b0; try clear c14b1; try clear c16; try clear c16b0; try clear c18; try clear c18b0; try clear c18b1
         obtain ⟨x15_1, x16_1, rfl, rfl, HA, HK1, ⟨m1, rfl⟩⟩ := hrel
         cases gk with
         | zero => exact absurd HA.out (by simp [bits_Div64.l0])
         | succ k1 =>
          have H := HA.out
          clear HA
          simp only [bits_Div64.l0] at H
          have HC20 := Aside0.mk H
          clear H
          go_upto_region 17 with (fail)
          repeat (go_quiet (fail); go_upto_region 17 with (fail))
          go_cut [78] (fun v78 wc => ∃ (kq : Nat) (x78_19 : Bool), v78 = .bool x78_19 ∧ Aside0 (bits_Div64.j1 kq ji10 ji8 ((ji10) / 4294967296) (Go.bits .and .u64 (ji10) 4294967295) (Go.bits .or .u64 (ji12) (ji15)) ((ji17) / 4294967296) (Go.bits .and .u64 (ji17) 4294967295) x15_1 x16_1 x78_19 = some (r1, r2)) ∧ Aside0 (kq ≤ k1) ∧ Drawn0 w wc)
          case first =>
           have H := HC20.out
           clear HC20
           by_cases c21 : x15_1 ≥ 4294967296
           ·rw [if_pos c21] at H
            have c21b0 : decide (4294967296 ≤ x15_1) = true := decide_eq_true c21
            clear c21
            (first | rw [c21b0] | (simp only [i64_w, i32_w]; rw [c21b0]) | rw [c21b1] | (simp only [c21b1]) | skip)
            have H' := Aside0.mk H
            clear H
            go_wp2
            repeat (go_quiet (fail); try go_wp2)
            go_meet
            case rel => exact ⟨_, (true), (by first | rfl | (simp; done) | (simp [*]; done)), H', ⟨by have := HK1.out; first | omega | exact Nat.le_refl _⟩, by repeat (first | exact Drawn0.refl _ | apply Drawn0.step)⟩
           ·rw [if_neg c21] at H
            have c21b0 : decide (4294967296 ≤ x15_1) = false := decide_eq_false c21
            clear c21
            (first | rw [c21b0] | (simp only [i64_w, i32_w]; rw [c21b0]) | rw [c21b1] | (simp only [c21b1]) | skip)
            have H' := Aside0.mk H
            clear H
            go_wp2
            repeat (go_quiet (fail); try go_wp2)
            go_meet
            case rel => exact ⟨_, (decide ((IntKind.u64.wrap (x15_1 * (Go.bits .and .u64 (ji10) 4294967295))) > (IntKind.u64.wrap ((IntKind.u64.wrap (4294967296 * x16_1)) + ((ji17) / 4294967296))))), (by first | rfl | (simp; done) | (simp only [← hji10, ← hji17] <;> (first | rfl | simp)) | (simp [*]; done)), H', ⟨by have := HK1.out; first | omega | exact Nat.le_refl _⟩, by repeat (first | exact Drawn0.refl _ | apply Drawn0.step)⟩
          case rest =>
           clear HC20
           try clear c1; try clear c2; try clear p2; try clear c4; try clear c4b0; try clear c4b1; try clear c5; try clear c5b0; try clear c6; try clear c6b0; try clear c6b1; try clear c9; try clear c9b0; try clear c9b1; try clear c11; try clear c11b0; try clear c14; try clear c14b0; try clear c14b1; try clear c16; try clear c16b0; try clear c18; try clear c18b0; try clear c18b1; try clear c21; try clear c21b0; try clear c21b1; try clear p2
           obtain ⟨kq, x78_19, rfl, HA, HJ19, ⟨mc19, rfl⟩⟩ := hcut
           cases kq with
           | zero => exact absurd HA.out (by simp [bits_Div64.j1])
           | succ kj19 =>
            have H := HA.out
            clear HA
            simp only [bits_Div64.j1] at H
            by_cases c22 : x78_19 = true
            ·subst c22
             have H1 : (if (IntKind.u64.wrap (x16_1 + ((ji10) / 4294967296))) ≥ 4294967296 then (bits_Div64.j2 kj19 ji10 ji8 ((ji10) / 4294967296) (Go.bits .and .u64 (ji10) 4294967295) (Go.bits .or .u64 (ji12) (ji15)) ((ji17) / 4294967296) (Go.bits .and .u64 (ji17) 4294967295) (IntKind.u64.wrap (x15_1 - 1))) else (bits_Div64.l0 kj19 ji10 ji8 ((ji10) / 4294967296) (Go.bits .and .u64 (ji10) 4294967295) (Go.bits .or .u64 (ji12) (ji15)) ((ji17) / 4294967296) (Go.bits .and .u64 (ji17) 4294967295) (IntKind.u64.wrap (x15_1 - 1)) (IntKind.u64.wrap (x16_1 + ((ji10) / 4294967296))))) = some (r1, r2) := by rw [if_pos rfl] at H; exact H
             clear H
             have H := H1
             clear H1
             by_cases c23 : (IntKind.u64.wrap (x16_1 + ((ji10) / 4294967296))) ≥ 4294967296
             ·rw [if_pos c23] at H
              have c23b0 : decide (4294967296 ≤ (IntKind.u64.wrap (x16_1 + ((ji10) / 4294967296)))) = true := decide_eq_true c23
              clear c23
              have H' := Aside0.mk H
              clear H
              go_wp2
              repeat (go_quiet (fail); try go_wp2)
              go_meet
              case rel => exact ⟨_, (IntKind.u64.wrap (x15_1 - 1)), (by first | rfl | (simp; done) | (simp [*]; done)), H', ⟨by have := HK1.out; have := HJ19.out; first | omega | exact Nat.le_refl _⟩, by repeat (first | exact Drawn0.refl _ | apply Drawn0.step)⟩
             ·rw [if_neg c23] at H
              have c23b0 : decide (4294967296 ≤ (IntKind.u64.wrap (x16_1 + ((ji10) / 4294967296)))) = false := decide_eq_false c23
              clear c23
              have H' := Aside0.mk H
              clear H
              go_wp2
              repeat (go_quiet (fail); try go_wp2)
              go_roundg kj19
              case measure => have := HK1.out; have := HJ19.out; omega
              case rel => exact ⟨(IntKind.u64.wrap (x15_1 - 1)), (IntKind.u64.wrap (x16_1 + ((ji10) / 4294967296))), (by first | rfl | (simp; done) | (simp [*]; done)), (by first | rfl | (simp; done) | (simp only [← hji10] <;> (first | rfl | simp)) | (simp [*]; done)), H', ⟨by have := HK1.out; have := HJ19.out; omega⟩, by repeat (first | exact Drawn0.refl _ | apply Drawn0.step)⟩
            ·replace c22 := Bool.eq_false_iff.mpr c22
             subst c22
             have H1 : (bits_Div64.j2 kj19 ji10 ji8 ((ji10) / 4294967296) (Go.bits .and .u64 (ji10) 4294967295) (Go.bits .or .u64 (ji12) (ji15)) ((ji17) / 4294967296) (Go.bits .and .u64 (ji17) 4294967295) x15_1) = some (r1, r2) := by rw [if_neg (show ¬ (false = true) by decide)] at H; exact H
             clear H
             have H := H1
             clear H1
             have H' := Aside0.mk H
             clear H
             go_wp2
             repeat (go_quiet (fail); try go_wp2)
             go_meet
             case rel => exact ⟨_, (x15_1), (by first | rfl | (simp; done) | (simp [*]; done)), H', ⟨by have := HK1.out; have := HJ19.out; first | omega | exact Nat.le_refl _⟩, by repeat (first | exact Drawn0.refl _ | apply Drawn0.step)⟩
       case rest =>
        clear HC19
        try clear c1; try clear c2; try clear p2; try clear c4; try clear c4b0; try clear c4b1; try clear c5; try clear c5b0; try clear c6; try clear c6b0; try clear c6b1; try clear c9; try clear c9b0; try clear c9b1; try clear c11; try clear c11b0; try clear c14; try clear c14b0; try clear c14b1; try clear c16; try clear c16b0; try clear c18; try clear c18b0; try clear c18b1; try clear c19; try clear c21; try clear c21b0; try clear c21b1; try clear c22; try clear c23; try clear c23b0; try clear p2
        obtain ⟨kq, x15_18, rfl, HA, HJ18, ⟨mc18, rfl⟩⟩ := hcut
        cases kq with
        | zero => exact absurd HA.out (by simp [bits_Div64.j2])
        | succ kj18 =>
         have H := HA.out
         clear HA
         simp only [bits_Div64.j2] at H
         by_cases c24 : ((ji10) / 4294967296) = 0
         ·rw [if_pos c24] at H
          exact absurd H (by simp)
         ·rw [if_neg c24] at H
          have c24b0 : (((ji10) / 4294967296) == 0) = false := beq_eq_false_iff_ne.mpr c24
          have c24b1 : (((ji10) / 4294967296) != 0) = true := bne_iff_ne.mpr c24
          have H' := Aside0.mk H
          clear H
          go_wp2
          repeat (go_quiet (fail); try go_wp2)
          go_loopg [16, 18] kj18 (fun kq v16 v18 w' => ∃ (x16_2 : Int) (x18_2 : Int), v16 = .int .u64 x16_2 ∧ v18 = .int .u64 x18_2 ∧ Aside0 (bits_Div64.l1 kq ji10 ji8 ((ji10) / 4294967296) (Go.bits .and .u64 (ji10) 4294967295) (Go.bits .and .u64 (ji17) 4294967295) x15_18 x16_2 (IntKind.u64.wrap ((IntKind.u64.wrap ((IntKind.u64.wrap ((Go.bits .or .u64 (ji12) (ji15)) * 4294967296)) + ((ji17) / 4294967296))) - (IntKind.u64.wrap (x15_18 * ji10)))) x18_2 = some (r1, r2)) ∧ Aside0 (kq ≤ kj18) ∧ Drawn0 w w')
          case atStart => exact ⟨(IntKind.u64.wrap ((IntKind.u64.wrap ((IntKind.u64.wrap ((IntKind.u64.wrap ((Go.bits .or .u64 (ji12) (ji15)) * 4294967296)) + ((ji17) / 4294967296))) - (IntKind.u64.wrap (x15_18 * ji10)))) - (IntKind.u64.wrap ((IntKind.u64.wrap (Int.tdiv (IntKind.u64.wrap ((IntKind.u64.wrap ((IntKind.u64.wrap ((Go.bits .or .u64 (ji12) (ji15)) * 4294967296)) + ((ji17) / 4294967296))) - (IntKind.u64.wrap (x15_18 * ji10)))) ((ji10) / 4294967296))) * ((ji10) / 4294967296))))), (IntKind.u64.wrap (Int.tdiv (IntKind.u64.wrap ((IntKind.u64.wrap ((IntKind.u64.wrap ((Go.bits .or .u64 (ji12) (ji15)) * 4294967296)) + ((ji17) / 4294967296))) - (IntKind.u64.wrap (x15_18 * ji10)))) ((ji10) / 4294967296))), (by first | rfl | (simp; done) | (simp only [← hji10, ← hji12, ← hji15, ← hji17] <;> (first | rfl | simp)) | (simp [*]; done)), (by first | rfl | (simp; done) | (simp only [← hji10, ← hji12, ← hji15, ← hji17] <;> (first | rfl | simp)) | (simp [*]; done)), H', ⟨Nat.le_refl _⟩, by repeat (first | exact Drawn0.refl _ | apply Drawn0.step)⟩
          case round =>
           clear H'
           try clear c1; try clear c2; try clear p2; try clear c4; try clear c4b0; try clear c4b1; try clear c5; try clear c5b0; try clear c6; try clear c6b0; try clear c6b1; try clear c9; try clear c9b0; try clear c9b1; try clear c11; try clear c11b0; try clear c14; try clear c14b0; try clear c14b1; try clear c16; try clear c16b0; try clear c18; try clear c18b0; try clear c18b1; try clear c19; try clear c21; try clear c21b0; try clear c21b1; try clear c22; try clear c23; try clear c23b0; try clear c24; try clear c24b0; try clear c24b1; try clear p2
           obtain ⟨x16_2, x18_2, rfl, rfl, HA, HK2, ⟨m2, rfl⟩⟩ := hrel
           cases gk with
           | zero => exact absurd HA.out (by simp [bits_Div64.l1])
           | succ k2 =>
            have H := HA.out
            clear HA
            simp only [bits_Div64.l1] at H
            have HC25 := Aside0.mk H
            clear H
            go_upto_region 24 with (fail)
            repeat (go_quiet (fail); go_upto_region 24 with (fail))
            go_cut [113] (fun v113 wc => ∃ (kq : Nat) (x113_24 : Bool), v113 = .bool x113_24 ∧ Aside0 (bits_Div64.j4 kq ji10 ji8 ((ji10) / 4294967296) (Go.bits .and .u64 (ji10) 4294967295) (Go.bits .and .u64 (ji17) 4294967295) x15_18 x16_2 (IntKind.u64.wrap ((IntKind.u64.wrap ((IntKind.u64.wrap ((Go.bits .or .u64 (ji12) (ji15)) * 4294967296)) + ((ji17) / 4294967296))) - (IntKind.u64.wrap (x15_18 * ji10)))) x18_2 x113_24 = some (r1, r2)) ∧ Aside0 (kq ≤ k2) ∧ Drawn0 w wc)
            case first =>
             have H := HC25.out
             clear HC25
             by_cases c26 : x18_2 ≥ 4294967296
             ·rw [if_pos c26] at H
              have c26b0 : decide (4294967296 ≤ x18_2) = true := decide_eq_true c26
              clear c26
              (first | rw [c26b0] | (simp only [i64_w, i32_w]; rw [c26b0]) | rw [c26b1] | (simp only [c26b1]) | skip)
              have H' := Aside0.mk H
              clear H
              go_wp2
              repeat (go_quiet (fail); try go_wp2)
              go_meet
              case rel => exact ⟨_, (true), (by first | rfl | (simp; done) | (simp [*]; done)), H', ⟨by have := HJ18.out; have := HK2.out; first | omega | exact Nat.le_refl _⟩, by repeat (first | exact Drawn0.refl _ | apply Drawn0.step)⟩
             ·rw [if_neg c26] at H
              have c26b0 : decide (4294967296 ≤ x18_2) = false := decide_eq_false c26
              clear c26
              (first | rw [c26b0] | (simp only [i64_w, i32_w]; rw [c26b0]) | rw [c26b1] | (simp only [c26b1]) | skip)
              have H' := Aside0.mk H
              clear H
              go_wp2
              repeat (go_quiet (fail); try go_wp2)
              go_meet
              case rel => exact ⟨_, (decide ((IntKind.u64.wrap (x18_2 * (Go.bits .and .u64 (ji10) 4294967295))) > (IntKind.u64.wrap ((IntKind.u64.wrap (4294967296 * x16_2)) + (Go.bits .and .u64 (ji17) 4294967295))))), (by first | rfl | (simp; done) | (simp only [← hji10, ← hji17] <;> (first | rfl | simp)) | (simp [*]; done)), H', ⟨by have := HJ18.out; have := HK2.out; first | omega | exact Nat.le_refl _⟩, by repeat (first | exact Drawn0.refl _ | apply Drawn0.step)⟩
            case rest =>
             clear HC25
             try clear c1; try clear c2; try clear p2; try clear c4; try clear c4b0; try clear c4b1; try clear c5; try clear c5b0; try clear c6; try clear c6b0; try clear c6b1; try clear c9; try clear c9b0; try clear c9b1; try clear c11; try clear c11b0; try clear c14; try clear c14b0; try clear c14b1; try clear c16; try clear c16b0; try clear c18; try clear c18b0; try clear c18b1; try clear c19; try clear c21; try clear c21b0; try clear c21b1; try clear c22; try clear c23; try clear c23b0; try clear c24; try clear c24b0; try clear c24b1; try clear c26; try clear c26b0; try clear c26b1; try clear p2
             obtain ⟨kq, x113_24, rfl, HA, HJ24, ⟨mc24, rfl⟩⟩ := hcut
             cases kq with
             | zero => exact absurd HA.out (by simp [bits_Div64.j4])
             | succ kj24 =>
              have H := HA.out
              clear HA
              simp only [bits_Div64.j4] at H
              by_cases c27 : x113_24 = true
              ·subst c27
               have H1 : (if (IntKind.u64.wrap (x16_2 + ((ji10) / 4294967296))) ≥ 4294967296 then (if 0 ≤ ji8 then (some (IntKind.u64.wrap ((IntKind.u64.wrap (x15_18 * 4294967296)) + (IntKind.u64.wrap (x18_2 - 1))), shr .u64 (IntKind.u64.wrap ((IntKind.u64.wrap ((IntKind.u64.wrap ((IntKind.u64.wrap ((IntKind.u64.wrap ((IntKind.u64.wrap ((Go.bits .or .u64 (ji12) (ji15)) * 4294967296)) + ((ji17) / 4294967296))) - (IntKind.u64.wrap (x15_18 * ji10)))) * 4294967296)) + (Go.bits .and .u64 (ji17) 4294967295))) - (IntKind.u64.wrap ((IntKind.u64.wrap (x18_2 - 1)) * ji10)))) ji8)) else (none)) else (bits_Div64.l1 kj24 ji10 ji8 ((ji10) / 4294967296) (Go.bits .and .u64 (ji10) 4294967295) (Go.bits .and .u64 (ji17) 4294967295) x15_18 (IntKind.u64.wrap (x16_2 + ((ji10) / 4294967296))) (IntKind.u64.wrap ((IntKind.u64.wrap ((IntKind.u64.wrap ((Go.bits .or .u64 (ji12) (ji15)) * 4294967296)) + ((ji17) / 4294967296))) - (IntKind.u64.wrap (x15_18 * ji10)))) (IntKind.u64.wrap (x18_2 - 1)))) = some (r1, r2) := by rw [if_pos rfl] at H; exact H
               clear H
               have H := H1
               clear H1
               by_cases c28 : (IntKind.u64.wrap (x16_2 + ((ji10) / 4294967296))) ≥ 4294967296
               ·rw [if_pos c28] at H
                have c28b0 : decide (4294967296 ≤ (IntKind.u64.wrap (x16_2 + ((ji10) / 4294967296)))) = true := decide_eq_true c28
                clear c28
                by_cases c29 : 0 ≤ ji8
                ·rw [if_pos c29] at H
                 have c29b0 := eq_true c29
                 have c29b1 : decide (0 ≤ ji8) = true := decide_eq_true c29
                 clear c29
                 obtain ⟨ji30, hji30⟩ : ∃ j_ : Int, (shr .u64 (IntKind.u64.wrap ((IntKind.u64.wrap ((IntKind.u64.wrap ((IntKind.u64.wrap ((IntKind.u64.wrap ((IntKind.u64.wrap ((Go.bits .or .u64 (ji12) (ji15)) * 4294967296)) + ((ji17) / 4294967296))) - (IntKind.u64.wrap (x15_18 * ji10)))) * 4294967296)) + (Go.bits .and .u64 (ji17) 4294967295))) - (IntKind.u64.wrap ((IntKind.u64.wrap (x18_2 - 1)) * ji10)))) ji8) = j_ := ⟨_, rfl⟩
                 replace H : (some (IntKind.u64.wrap ((IntKind.u64.wrap (x15_18 * 4294967296)) + (IntKind.u64.wrap (x18_2 - 1))), ji30)) = some (r1, r2) := by first | (rw [hji30] at H; exact H) | (simp only [hji30] at H ⊢; exact H)
                 have hji30_ : ((IntKind.u64.wrap ((IntKind.u64.wrap ((IntKind.u64.wrap ((IntKind.u64.wrap ((IntKind.u64.wrap ((IntKind.u64.wrap ((Go.bits .or .u64 (ji12) (ji15)) * 4294967296)) + ((ji17) / 4294967296))) - (IntKind.u64.wrap (x15_18 * ji10)))) * 4294967296)) + (Go.bits .and .u64 (ji17) 4294967295))) - (IntKind.u64.wrap ((IntKind.u64.wrap (x18_2 - 1)) * ji10)))) / 2 ^ min ji8.toNat 64) = ji30 := hji30
                 have hji30z : ji8 ≤ 64 → ((IntKind.u64.wrap ((IntKind.u64.wrap ((IntKind.u64.wrap ((IntKind.u64.wrap ((IntKind.u64.wrap ((IntKind.u64.wrap ((Go.bits .or .u64 (ji12) (ji15)) * 4294967296)) + ((ji17) / 4294967296))) - (IntKind.u64.wrap (x15_18 * ji10)))) * 4294967296)) + (Go.bits .and .u64 (ji17) 4294967295))) - (IntKind.u64.wrap ((IntKind.u64.wrap (x18_2 - 1)) * ji10)))) / 2 ^ ji8.toNat) = ji30 := shr_small hji30
                 simp only [Option.some.injEq, Prod.mk.injEq] at H
                 obtain ⟨rfl, rfl⟩ := H
                 go_wp2
                 repeat (go_quiet (fail); try go_wp2)
                 go_ret2
                 exact ⟨by first | rfl | (simp; done) | (simp only [← hji8, ← hji10, ← hji12, ← hji13, ← hji15, ← hji17, ← hji30] <;> (first | rfl | simp)) | (simp [*]; done), by repeat (first | exact Drawn0.refl _ | apply Drawn0.step)⟩
                ·rw [if_neg c29] at H
                 exact absurd H (by simp)
               ·rw [if_neg c28] at H
                have c28b0 : decide (4294967296 ≤ (IntKind.u64.wrap (x16_2 + ((ji10) / 4294967296)))) = false := decide_eq_false c28
                clear c28
                have H' := Aside0.mk H
                clear H
                go_wp2
                repeat (go_quiet (fail); try go_wp2)
                go_roundg kj24
                case measure => have := HJ18.out; have := HK2.out; have := HJ24.out; omega
                case rel => exact ⟨(IntKind.u64.wrap (x16_2 + ((ji10) / 4294967296))), (IntKind.u64.wrap (x18_2 - 1)), (by first | rfl | (simp; done) | (simp only [← hji10] <;> (first | rfl | simp)) | (simp [*]; done)), (by first | rfl | (simp; done) | (simp [*]; done)), H', ⟨by have := HJ18.out; have := HK2.out; have := HJ24.out; omega⟩, by repeat (first | exact Drawn0.refl _ | apply Drawn0.step)⟩
              ·replace c27 := Bool.eq_false_iff.mpr c27
               subst c27
               have H1 : (if 0 ≤ ji8 then (some (IntKind.u64.wrap ((IntKind.u64.wrap (x15_18 * 4294967296)) + x18_2), shr .u64 (IntKind.u64.wrap ((IntKind.u64.wrap ((IntKind.u64.wrap ((IntKind.u64.wrap ((IntKind.u64.wrap ((IntKind.u64.wrap ((Go.bits .or .u64 (ji12) (ji15)) * 4294967296)) + ((ji17) / 4294967296))) - (IntKind.u64.wrap (x15_18 * ji10)))) * 4294967296)) + (Go.bits .and .u64 (ji17) 4294967295))) - (IntKind.u64.wrap (x18_2 * ji10)))) ji8)) else (none)) = some (r1, r2) := by rw [if_neg (show ¬ (false = true) by decide)] at H; exact H
               clear H
               have H := H1
               clear H1
               by_cases c31 : 0 ≤ ji8
               ·rw [if_pos c31] at H
                have c31b0 := eq_true c31
                have c31b1 : decide (0 ≤ ji8) = true := decide_eq_true c31
                clear c31
                obtain ⟨ji32, hji32⟩ : ∃ j_ : Int, (shr .u64 (IntKind.u64.wrap ((IntKind.u64.wrap ((IntKind.u64.wrap ((IntKind.u64.wrap ((IntKind.u64.wrap ((IntKind.u64.wrap ((Go.bits .or .u64 (ji12) (ji15)) * 4294967296)) + ((ji17) / 4294967296))) - (IntKind.u64.wrap (x15_18 * ji10)))) * 4294967296)) + (Go.bits .and .u64 (ji17) 4294967295))) - (IntKind.u64.wrap (x18_2 * ji10)))) ji8) = j_ := ⟨_, rfl⟩
                replace H : (some (IntKind.u64.wrap ((IntKind.u64.wrap (x15_18 * 4294967296)) + x18_2), ji32)) = some (r1, r2) := by first | (rw [hji32] at H; exact H) | (simp only [hji32] at H ⊢; exact H)
                have hji32_ : ((IntKind.u64.wrap ((IntKind.u64.wrap ((IntKind.u64.wrap ((IntKind.u64.wrap ((IntKind.u64.wrap ((IntKind.u64.wrap ((Go.bits .or .u64 (ji12) (ji15)) * 4294967296)) + ((ji17) / 4294967296))) - (IntKind.u64.wrap (x15_18 * ji10)))) * 4294967296)) + (Go.bits .and .u64 (ji17) 4294967295))) - (IntKind.u64.wrap (x18_2 * ji10)))) / 2 ^ min ji8.toNat 64) = ji32 := hji32
                have hji32z : ji8 ≤ 64 → ((IntKind.u64.wrap ((IntKind.u64.wrap ((IntKind.u64.wrap ((IntKind.u64.wrap ((IntKind.u64.wrap ((IntKind.u64.wrap ((Go.bits .or .u64 (ji12) (ji15)) * 4294967296)) + ((ji17) / 4294967296))) - (IntKind.u64.wrap (x15_18 * ji10)))) * 4294967296)) + (Go.bits .and .u64 (ji17) 4294967295))) - (IntKind.u64.wrap (x18_2 * ji10)))) / 2 ^ ji8.toNat) = ji32 := shr_small hji32
                simp only [Option.some.injEq, Prod.mk.injEq] at H
                obtain ⟨rfl, rfl⟩ := H
                go_wp2
                repeat (go_quiet (fail); try go_wp2)
                go_ret2
                exact ⟨by first | rfl | (simp; done) | (simp only [← hji8, ← hji10, ← hji12, ← hji13, ← hji15, ← hji17, ← hji32] <;> (first | rfl | simp)) | (simp [*]; done), by repeat (first | exact Drawn0.refl _ | apply Drawn0.step)⟩
               ·rw [if_neg c31] at H
                exact absurd H (by simp)
     ·rw [if_neg c14] at H
      exact absurd H (by simp)
    ·rw [if_neg c9] at H
     exact absurd H (by simp)
def impl_nat_divWord.l0 : Nat → List Int → Int → List Int → Int → Int → Option (List Int × Int)
 | 0, _, _, _, _, _ => none
 | k + 1, x0, x1, x6, x7, x8 => if x8 ≥ 0 then (if 0 ≤ x8 then (if x8 < (x0.length : Int) then ((bits_Div64.f k x7 (rd x0 x8) x1).bind fun bt472 => (if x8 < (x6.length : Int) then (impl_nat_divWord.l0 k x0 x1 (x6.set (x8 : Int).toNat bt472.1) bt472.2 (wrap64 (x8 - 1))) else (none))) else (none)) else (none)) else (some ((trimL x6), x7))
def impl_nat_divWord.f (k : Nat) (l0 : List Int) (a1 : Int) : Option (List Int × Int) := if 0 ≤ (l0.length : Int) then (if ((l0.length : Int) : Int).toNat ≤ 35184372088832 then (impl_nat_divWord.l0 k l0 a1 (List.replicate ((l0.length : Int) : Int).toNat 0) 0 (wrap64 ((l0.length : Int) - 1))) else (none)) else (none)
set_option maxHeartbeats 8000000 in
set_option maxRecDepth 100000 in
theorem impl_nat_divWord.calls (k : Nat) (A0 : Option Addr) (c0 : Nat) (l0 : List Int) (a1 : Int) (r1 : List Int) (r2 : Int) (w : World) (hr0 : Kd.C (Kd.int .u64) w A0 l0.length l0) (hc0 : l0.length ≤ c0) (h : impl_nat_divWord.f k l0 a1 = some (r1, r2)) :
  Calls Try.prog 96 #[.slice A0 l0.length c0, .int .u64 a1] w fun e w' => ∃ v0_ : Value, e = .returned (.tuple #[v0_, .int .u64 r2]) ∧ Kd.R (Kd.int .u64) 36 w' w.heap.size (fun _ => True) v0_ r1 ∧ Below w.heap.size w w' := by
 have HR0 := Aside0.mk hr0
 have HC0 := Aside0.mk hc0
 clear hr0 hc0
 have HB := Aside0.mk (Below.refl w.heap.size w)
 have H : (if 0 ≤ (l0.length : Int) then (if ((l0.length : Int) : Int).toNat ≤ 35184372088832 then (impl_nat_divWord.l0 k l0 a1 (List.replicate ((l0.length : Int) : Int).toNat 0) 0 (wrap64 ((l0.length : Int) - 1))) else (none)) else (none)) = some (r1, r2) := h
 clear h
 by_cases c3 : 0 ≤ (l0.length : Int)
 ·rw [if_pos c3] at H
  have c3b0 := eq_true c3
  have c3b1 : decide (0 ≤ (l0.length : Int)) = true := decide_eq_true c3
  clear c3
  by_cases c4 : ((l0.length : Int) : Int).toNat ≤ 35184372088832
  ·rw [if_pos c4] at H
   have c4b0 := eq_true c4
   have c4b1 : decide (((l0.length : Int) : Int).toNat ≤ 35184372088832) = true := decide_eq_true c4
   clear c4
   obtain ⟨y468, hy468⟩ : ∃ y_ : List Int, y_ = (List.replicate ((l0.length : Int) : Int).toNat 0) := ⟨_, rfl⟩
   replace H : (impl_nat_divWord.l0 k l0 a1 y468 0 (wrap64 ((l0.length : Int) - 1))) = some (r1, r2) := by first | (rw [hy468]; with_reducible exact H) | (have H2_ := (Option.bind_some _ _).symm.trans H; rw [hy468]; with_reducible exact H2_) | (have H2_ := (Option.bind_some _ _).symm.trans H; with_reducible exact H2_) | with_reducible exact H | (rw [hy468]; exact H) | exact H
   have Ny468 := Aside0.mk hy468
   clear hy468
   have H' := Aside0.mk H
   clear H
   go_enter Try.func96, Try.ntmps96
   go_wp2_with (first | ((with_reducible refine gate_dst (N := 11) rfl ?_); refine Kd.R_make (Kd.int .u64) _ 36 rfl (N := 11) rfl 24 _ _ rfl (l0.length : Int) rfl rfl Try.underlying24 (.int .u64 0) 8 info36 rfl (by decide) (by omega) 0 (ok := fun _ => True) (okp := fun _ => True) rfl (fun _ hk => hk) trivial (of_decide_eq_true (by first | (with_reducible assumption) | assumption)) (Nat.le_trans (Nat.mul_le_mul_right _ (of_decide_eq_true (by first | (with_reducible assumption) | assumption) : (l0.length : Int).toNat ≤ 35184372088832)) (by omega)) (Below.refl _ _) (Nat.le_refl _) ?_; intro v469 w5 ho6 hb hg_ hnew_; clear hg_ hnew_; (first | rw [← Ny468.out] at ho6 | (simp only [Int.reduceToNat] at ho6; rw [← Ny468.out] at ho6)); have n0_ := Aside0.mk (Kd.R_lower ho6 (below_size (by repeat (first | (with_reducible first | exact HB.out | apply below_alloc | apply pw_below_drewN | apply below_drew1) | exact HB.out)))); have n1_ := Aside0.mk (below_step (by repeat (first | (with_reducible first | exact HB.out | apply below_alloc | apply pw_below_drewN | apply below_drew1) | exact HB.out)) hb); clear HB; have HO470 := n0_; have HB := n1_; clear n0_ n1_; clear hb ho6))
   go_loopg [7, 8] k (fun kq v7 v8 w' => ∃ (x6_1 : List Int) (x7_1 : Int) (x8_1 : Int), v7 = .int .u64 x7_1 ∧ v8 = .int .i64 x8_1 ∧ Aside0 (impl_nat_divWord.l0 kq l0 a1 x6_1 x7_1 x8_1 = some (r1, r2)) ∧ Aside0 (kq ≤ k) ∧ Aside0 (Kd.R (Kd.int .u64) 36 w' w.heap.size (fun _ => True) v469 x6_1) ∧ Aside0 (Below w.heap.size w w'))
   case atStart => exact ⟨(y468), (0), (wrap64 ((l0.length : Int) - 1)), (by first | rfl | (simp; done) | (simp [*]; done)), (by first | rfl | (simp; done) | (simp [*]; done)), H', ⟨Nat.le_refl _⟩, ⟨by (with_reducible repeat (first | apply Kd.R_alloc | apply Kd.R_drewN | apply Kd.R_drew)); exact HO470.out⟩, ⟨by repeat (first | (with_reducible first | exact HB.out | apply below_alloc | apply pw_below_drewN | apply below_drew1) | exact HB.out)⟩⟩
   case round =>
    clear H'
    try clear p2; try clear c3; try clear c3b0; try clear c3b1; try clear c4; try clear c4b0; try clear c4b1; try clear p6
    obtain ⟨x6_1, x7_1, x8_1, rfl, rfl, HA, HK1, HO_6, HB⟩ := hrel
    cases gk with
    | zero => exact absurd HA.out (by simp [impl_nat_divWord.l0])
    | succ k1 =>
     have H := HA.out
     clear HA
     simp only [impl_nat_divWord.l0] at H
     by_cases c7 : x8_1 ≥ 0
     ·rw [if_pos c7] at H
      have c7b0 : decide (0 ≤ x8_1) = true := decide_eq_true c7
      clear c7
      by_cases c8 : 0 ≤ x8_1
      ·rw [if_pos c8] at H
       have c8b0 : decide (0 ≤ x8_1) = true := decide_eq_true c8
       clear c8
       by_cases c9 : x8_1 < (l0.length : Int)
       ·rw [if_pos c9] at H
        have c9b0 : decide (x8_1 < (l0.length : Int)) = true := decide_eq_true c9
        clear c9
        replace H := Option.bind_eq_some_iff.mp H
        obtain ⟨⟨t472, t473⟩, A100, H⟩ := H
        replace H : (if x8_1 < (x6_1.length : Int) then (impl_nat_divWord.l0 k1 l0 a1 (x6_1.set (x8_1 : Int).toNat t472) t473 (wrap64 (x8_1 - 1))) else (none)) = some (r1, r2) := H
        have A10 := Aside0.mk A100
        clear A100
        by_cases c11 : x8_1 < (x6_1.length : Int)
        ·rw [if_pos c11] at H
         have c11b0 : decide (x8_1 < (x6_1.length : Int)) = true := decide_eq_true c11
         clear c11
         obtain ⟨y474, hy474⟩ : ∃ y_ : List Int, y_ = (x6_1.set (x8_1 : Int).toNat t472) := ⟨_, rfl⟩
         replace H : (impl_nat_divWord.l0 k1 l0 a1 y474 t473 (wrap64 (x8_1 - 1))) = some (r1, r2) := by first | (rw [hy474]; with_reducible exact H) | (have H2_ := (Option.bind_some _ _).symm.trans H; rw [hy474]; with_reducible exact H2_) | (have H2_ := (Option.bind_some _ _).symm.trans H; with_reducible exact H2_) | with_reducible exact H | (rw [hy474]; exact H) | exact H
         have Ny474 := Aside0.mk hy474
         clear hy474
         have H' := Aside0.mk H
         clear H
         have p471 : 0 ≤ (x8_1 : Int) := of_decide_eq_true (by first | (with_reducible assumption) | assumption)
         have q471 : x8_1 < (l0.length : Int) := of_decide_eq_true (by first | (with_reducible assumption) | assumption)
         obtain ⟨ad471, e471, hx471_0⟩ := Kd.at_int HR0.out x8_1 p471 q471
         cases e471
         replace hx471_0 := (HB.out.cell (World.block_lt_of_cell? w _ hx471_0)).trans hx471_0
         replace p471 := eq_true p471
         replace q471 := eq_true q471
         go_wp2_with (first | ((with_reducible refine gate_callee (f := 97) rfl ?_); refine goesL_ (some 28) rfl rfl Try.func97 (by kernel_rfl) rfl #[.int .u64 x7_1, .int .u64 (rd l0 x8_1), .int .u64 a1] rfl (by (try simp only [List.map_toArray, List.map_cons, List.map_nil]); first | done | rfl | (simp only [List.length_drop, List.length_take]; rfl)) ?_; (with_reducible refine (bits_Div64.calls k1 x7_1 (rd l0 x8_1) a1 t472 t473 _ A10.out).mono ?_); rintro e w' ⟨rfl, ⟨nd, rfl⟩⟩; refine ⟨_, rfl, ?_⟩; (try (rw [drewN_self wr]; generalize hq_ : World.drewN wr _ = wr; have n0_ : Aside0 (Kd.R (Kd.int .u64) 36 wr w.heap.size (fun _ => True) v469 x6_1) := ⟨by rw [← hq_]; exact (by (with_reducible repeat (first | apply Kd.R_alloc | apply Kd.R_drewN | apply Kd.R_drew)); exact HO_6.out)⟩; have n1_ : Aside0 (Below w.heap.size w wr) := ⟨by rw [← hq_]; exact (by repeat (first | (with_reducible first | exact HB.out | apply below_alloc | apply pw_below_drewN | apply below_drew1) | exact HB.out))⟩; clear HO_6 HB hq_; have HO_6 := n0_; have HB := n1_; clear n0_ n1_)); have p12 : 0 ≤ (x8_1 : Int) := of_decide_eq_true (by first | (with_reducible assumption) | assumption); have q12 : (x8_1 : Int) < ((x6_1.length : Int) : Int) := of_decide_eq_true (by first | (with_reducible assumption) | assumption); obtain ⟨go12, co12, eo12, gb12, gl12, cl12, HG12⟩ := Kd.R_form HO_6.out (by omega); (first | cases eo12 | (injection eo12 with ea_ en_ ec_; (first | subst ea_ | (injection ea_ with ea_; subst ea_)); subst ec_; clear en_)); have GB12 := Aside0.mk gb12; have GG12 := Aside0.mk HG12; clear gb12 gl12 HG12; obtain ⟨hx12_0, hf12_0⟩ := Kd.R_celln 0 HO_6.out (x8_1 : Int) p12 q12; replace p12 := eq_true p12; replace q12 := eq_true q12; obtain ⟨hy13_, hz13_⟩ := Kd.R_celln 0 HO_6.out (x8_1 : Int) (of_decide_eq_true (by first | (with_reducible assumption) | assumption)) (of_decide_eq_true (by first | (with_reducible assumption) | assumption)); have HP13 := Kd.R_putg HO_6.out (x8_1 : Int) t472) | ((with_reducible refine gate_store (t := 36) (p := 31) rfl ?_); refine store_event (t := 36) (p := 31) (v := ?vo_w14) (w1 := (wr.setCell ⟨go12, (x8_1 : Int).toNat, none⟩ (.int .u64 t472))) ?hg ?ho ?hn ?hr ?_; (case ho => rfl); (case hg => rfl); (case hn => rfl); (case hr => first | (go_simp; done) | (go_simp; rfl)); intro w14 hw; have hg : wr.grownBy w14 (some go12) := (by rw [hw]; exact HP13.2); have hp_ : Kd.R (Kd.int .u64) 36 w14 w.heap.size (fun _ => True) (.slice (some ⟨go12, 0, none⟩) x6_1.length co12) y474 := (by rw [hw, Ny474.out]; exact HP13.1); clear HP13; have n0_ := Aside0.mk (hp_); have n1_ := Aside0.mk ((by rw [hw]; exact below_set (HB.out) GB12.out : Below w.heap.size w w14)); clear HO_6; clear HB; have HO_6 := n0_; have HB := n1_; clear n0_ n1_; clear hg hw hp_))
         go_roundg k1
         case measure => have := HK1.out; omega
         case rel => exact ⟨(y474), (t473), (wrap64 (x8_1 - 1)), (by first | rfl | (simp; done) | (simp [*]; done)), (by first | rfl | (simp; done) | (simp [*]; done)), H', ⟨by have := HK1.out; omega⟩, ⟨by (with_reducible repeat (first | apply Kd.R_alloc | apply Kd.R_drewN | apply Kd.R_drew)); exact HO_6.out⟩, ⟨by repeat (first | (with_reducible first | exact HB.out | apply below_alloc | apply pw_below_drewN | apply below_drew1) | exact HB.out)⟩⟩
        ·rw [if_neg c11] at H
         exact absurd H (by simp)
       ·rw [if_neg c9] at H
        exact absurd H (by simp)
      ·rw [if_neg c8] at H
       exact absurd H (by simp)
     ·rw [if_neg c7] at H
      have c7b0 : decide (0 ≤ x8_1) = false := decide_eq_false c7
      clear c7
      obtain ⟨y475, hy475⟩ : ∃ y_ : List Int, y_ = (trimL x6_1) := ⟨_, rfl⟩
      replace H : (some (y475, x7_1)) = some (r1, r2) := by first | (rw [hy475]; with_reducible exact H) | (have H2_ := (Option.bind_some _ _).symm.trans H; rw [hy475]; with_reducible exact H2_) | (have H2_ := (Option.bind_some _ _).symm.trans H; with_reducible exact H2_) | with_reducible exact H | (rw [hy475]; exact H) | exact H
      have Ny475 := Aside0.mk hy475
      clear hy475
      simp only [Option.some.injEq, Prod.mk.injEq] at H
      obtain ⟨rfl, rfl⟩ := H
      obtain ⟨Ao16, co16, eo16⟩ := Kd.R_slice HO_6.out
      subst eo16
      go_wp2_with (first | ((with_reducible refine gate_callee (f := 55) rfl ?_); refine goesL_ (some 33) rfl rfl Try.func55 (by kernel_rfl) rfl #[.slice Ao16 x6_1.length co16] rfl (by (try simp only [List.map_toArray, List.map_cons, List.map_nil]); first | done | rfl | (simp only [List.length_drop, List.length_take]; rfl)) ?_; (with_reducible refine (trimmed_calls Ao16 x6_1.length co16 x6_1 y475 _ (Kd.R_reads' HO_6.out).1 Ny475.out ?sidea ?sideb).mono ?_); (case sidea => repeat (first | exact (Kd.R_reads' HO_6.out).2.2 | (with_reducible refine Kd.C_alloc ?_ _) | (with_reducible refine Kd.C_drewN ?_ _) | (with_reducible refine Kd.C_drew ?_))); (case sideb => exact (Kd.R_reads' HO_6.out).2.1); rintro e w' ⟨rfl, rfl⟩; refine ⟨_, rfl, ?_⟩; have nt_ := Aside0.mk (R_trim HO_6.out); rw [← Ny475.out] at nt_; clear HO_6; have HO477 := nt_; clear nt_))
      go_ret2
      exact ⟨_, by first | rfl | (simp [errW_none, errW_some] <;> rfl) | (simp [*, errW_none, errW_some] <;> rfl), by (with_reducible repeat (first | apply Kd.R_alloc | apply Kd.R_drewN | apply Kd.R_drew)); exact HO477.out, by repeat (first | (with_reducible first | exact HB.out | apply below_alloc | apply pw_below_drewN | apply below_drew1) | exact HB.out)⟩
  ·rw [if_neg c4] at H
   exact absurd H (by simp)
 ·rw [if_neg c3] at H
  exact absurd H (by simp)
end Go.Proofs.Ytcbmdpecnmbhjaa.PA
end
section
namespace Go.Proofs.Ytcbmdpecnmbhjaa.PA
open Go.RowKit Go.Proofs.Ytcbmdpecnmbhjaa.G Go.Proofs.YtcbmdpecnmbhjaaV.PrintWords Go.Proofs.YtcbmdpecnmbhjaaV.PrintLast Go.Proofs.YtcbmdpecnmbhjaaV.PrintMore
attribute [local go_sem] max2_int min2_int max_two min_two max_three min_three max_four min_four run_Add64 run_Sub64
set_option linter.unusedVariables false
set_option linter.unusedSimpArgs false
mutual
def impl_nat_div.l0 : Nat → Int → List Int → Int → List Int → List Int → Int → Option (List Int × List Int)
 | 0, _, _, _, _, _, _ => none
 | k + 1, x8, x9, x10, x11, x12, x13 => if x13 ≥ 0 then (if 0 ≤ (wrap64 (x13 + x10)) then (if (wrap64 (x13 + x10)) < (x11.length : Int) then (if 0 ≤ (wrap64 (x10 - 1)) then (if (wrap64 (x10 - 1)) < (x9.length : Int) then (if (rd x11 (wrap64 (x13 + x10))) < (rd x9 (wrap64 (x10 - 1))) then (if 0 ≤ (wrap64 ((wrap64 (x13 + x10)) - 1)) then (if (wrap64 ((wrap64 (x13 + x10)) - 1)) < (x11.length : Int) then ((bits_Div64.f k (rd x11 (wrap64 (x13 + x10))) (rd x11 (wrap64 ((wrap64 (x13 + x10)) - 1))) (rd x9 (wrap64 (x10 - 1)))).bind fun bt522 => (impl_nat_div.j1 k x8 x9 x10 x11 x12 x13 bt522.1 bt522.2 false)) else (none)) else (none)) else (if 0 ≤ (wrap64 ((wrap64 (x13 + x10)) - 1)) then (if (wrap64 ((wrap64 (x13 + x10)) - 1)) < (x11.length : Int) then (impl_nat_div.j1 k x8 x9 x10 x11 x12 x13 18446744073709551615 (add64s (rd x11 (wrap64 ((wrap64 (x13 + x10)) - 1))) (rd x9 (wrap64 (x10 - 1))) 0) (decide ((add64s (rd x11 (wrap64 ((wrap64 (x13 + x10)) - 1))) (rd x9 (wrap64 (x10 - 1))) 0) < (rd x9 (wrap64 (x10 - 1)))))) else (none)) else (none))) else (none)) else (none)) else (none)) else (none)) else ((impl_nat_right.f k (trimL x11) x8).bind fun t514 => (some ((trimL x12), t514)))
def impl_nat_div.j1 : Nat → Int → List Int → Int → List Int → List Int → Int → Int → Int → Bool → Option (List Int × List Int)
 | 0, _, _, _, _, _, _, _, _, _ => none
 | k + 1, x8, x9, x10, x11, x12, x13, x14, x15, x16 => impl_nat_div.l1 k x8 x9 x10 x11 x12 x13 x14 x15 x16
def impl_nat_div.j3 : Nat → Int → List Int → Int → List Int → List Int → Int → Int → Option (List Int × List Int)
 | 0, _, _, _, _, _, _, _ => none
 | k + 1, x8, x9, x10, x11, x12, x13, x14 => impl_nat_div.l2 k x8 x9 x10 x11 x12 x13 x14 0 0 x9 (x9.length : Int) 0
def impl_nat_div.l2 : Nat → Int → List Int → Int → List Int → List Int → Int → Int → Int → Int → List Int → Int → Int → Option (List Int × List Int)
 | 0, _, _, _, _, _, _, _, _, _, _, _, _ => none
 | k + 1, x8, x9, x10, x11, x12, x13, x14, x19, x20, x189, x190, x191 => if x191 < x190 then (if 0 ≤ x191 then (if x191 < (x189.length : Int) then ((bits_Mul64.f x14 (rd x189 x191)).bind fun bt536 => (if 0 ≤ (wrap64 (x191 + x13)) then (if (wrap64 (x191 + x13)) < (x11.length : Int) then (if x19.toNat ≤ 1 then (impl_nat_div.l2 k x8 x9 x10 (x11.set ((wrap64 (x191 + x13)) : Int).toNat (sub64s (rd x11 (wrap64 (x191 + x13))) (add64s bt536.2 x20 0) x19)) x12 x13 x14 (sub64c (rd x11 (wrap64 (x191 + x13))) (add64s bt536.2 x20 0) x19) (IntKind.u64.wrap (bt536.1 + (add64c bt536.2 x20 0))) x189 x190 (wrap64 (x191 + 1))) else (none)) else (none)) else (none))) else (none)) else (none)) else (if 0 ≤ (wrap64 (x13 + x10)) then (if (wrap64 (x13 + x10)) < (x11.length : Int) then (if x19.toNat ≤ 1 then ((some (x11.set ((wrap64 (x13 + x10)) : Int).toNat (sub64s (rd x11 (wrap64 (x13 + x10))) x20 x19) : List Int)).bind fun y541 => (if 0 ≤ x13 then (if x13 < (x12.length : Int) then ((some (x12.set (x13 : Int).toNat x14 : List Int)).bind fun y542 => (if (sub64c (rd x11 (wrap64 (x13 + x10))) x20 x19) = 0 then (impl_nat_div.l0 k x8 x9 x10 y541 y542 (wrap64 (x13 - 1))) else (impl_nat_div.l3 k x8 x9 x10 y541 (y542.set (x13 : Int).toNat (IntKind.u64.wrap ((rd y542 x13) - 1))) x13 0 x9 (x9.length : Int) 0))) else (none)) else (none))) else (none)) else (none)) else (none))
def impl_nat_div.l3 : Nat → Int → List Int → Int → List Int → List Int → Int → Int → List Int → Int → Int → Option (List Int × List Int)
 | 0, _, _, _, _, _, _, _, _, _, _ => none
 | k + 1, x8, x9, x10, x11, x12, x13, x26, x258, x259, x260 => if x260 < x259 then (if 0 ≤ x260 then (if x260 < (x258.length : Int) then (if 0 ≤ (wrap64 (x260 + x13)) then (if (wrap64 (x260 + x13)) < (x11.length : Int) then (if x26.toNat ≤ 1 then (impl_nat_div.l3 k x8 x9 x10 (x11.set ((wrap64 (x260 + x13)) : Int).toNat (add64s (rd x11 (wrap64 (x260 + x13))) (rd x258 x260) x26)) x12 x13 (add64c (rd x11 (wrap64 (x260 + x13))) (rd x258 x260) x26) x258 x259 (wrap64 (x260 + 1))) else (none)) else (none)) else (none)) else (none)) else (none)) else (if 0 ≤ (wrap64 (x13 + x10)) then (if (wrap64 (x13 + x10)) < (x11.length : Int) then (impl_nat_div.l0 k x8 x9 x10 (x11.set ((wrap64 (x13 + x10)) : Int).toNat (IntKind.u64.wrap ((rd x11 (wrap64 (x13 + x10))) + x26))) x12 (wrap64 (x13 - 1))) else (none)) else (none))
def impl_nat_div.l1 : Nat → Int → List Int → Int → List Int → List Int → Int → Int → Int → Bool → Option (List Int × List Int)
 | 0, _, _, _, _, _, _, _, _, _ => none
 | k + 1, x8, x9, x10, x11, x12, x13, x14, x15, x16 => if x16 = true then (impl_nat_div.j3 k x8 x9 x10 x11 x12 x13 x14) else (if 0 ≤ (wrap64 (x10 - 2)) then (if (wrap64 (x10 - 2)) < (x9.length : Int) then ((bits_Mul64.f x14 (rd x9 (wrap64 (x10 - 2)))).bind fun bt528 => (if bt528.1 < x15 then (impl_nat_div.j3 k x8 x9 x10 x11 x12 x13 x14) else (if bt528.1 = x15 then (if 0 ≤ (wrap64 ((wrap64 (x13 + x10)) - 2)) then (if (wrap64 ((wrap64 (x13 + x10)) - 2)) < (x11.length : Int) then (if bt528.2 ≤ (rd x11 (wrap64 ((wrap64 (x13 + x10)) - 2))) then (impl_nat_div.j3 k x8 x9 x10 x11 x12 x13 x14) else (if 0 ≤ (wrap64 (x10 - 1)) then (if (wrap64 (x10 - 1)) < (x9.length : Int) then (impl_nat_div.l1 k x8 x9 x10 x11 x12 x13 (IntKind.u64.wrap (x14 - 1)) (IntKind.u64.wrap (x15 + (rd x9 (wrap64 (x10 - 1))))) (decide ((IntKind.u64.wrap (x15 + (rd x9 (wrap64 (x10 - 1))))) < (rd x9 (wrap64 (x10 - 1)))))) else (none)) else (none))) else (none)) else (none)) else (if 0 ≤ (wrap64 (x10 - 1)) then (if (wrap64 (x10 - 1)) < (x9.length : Int) then (impl_nat_div.l1 k x8 x9 x10 x11 x12 x13 (IntKind.u64.wrap (x14 - 1)) (IntKind.u64.wrap (x15 + (rd x9 (wrap64 (x10 - 1))))) (decide ((IntKind.u64.wrap (x15 + (rd x9 (wrap64 (x10 - 1))))) < (rd x9 (wrap64 (x10 - 1)))))) else (none)) else (none))))) else (none)) else (none))
end
def impl_nat_div.f (k : Nat) (l0 : List Int) (l1 : List Int) : Option (List Int × List Int) := (impl_nat_cmp.f k l0 l1).bind fun t478 => (if t478 < 0 then ((some (([] : List Int) : List Int)).bind fun y479 => (if y479.length + l0.length < 17592186044416 then (some (([] : List Int), (y479 ++ l0))) else (none))) else (if (l1.length : Int) = 1 then (if 0 < (l1.length : Int) then ((impl_nat_divWord.f k l0 (rd l1 0)).bind fun bt486 => ((impl_word.f bt486.2).bind fun t490 => (some (bt486.1, t490)))) else (none)) else (if 0 ≤ (wrap64 ((l1.length : Int) - 1)) then (if (wrap64 ((l1.length : Int) - 1)) < (l1.length : Int) then ((bits_LeadingZeros64.f k (rd l1 (wrap64 ((l1.length : Int) - 1)))).bind fun t494 => ((impl_nat_left.f k l1 t494).bind fun t495 => (if 0 ≤ (wrap64 ((l0.length : Int) + 1)) then (if (wrap64 ((l0.length : Int) + 1) : Int).toNat ≤ 35184372088832 then ((impl_nat_left.f k l0 t494).bind fun t501 => (if 0 ≤ (wrap64 ((wrap64 ((l0.length : Int) - (t495.length : Int))) + 1)) then (if (wrap64 ((wrap64 ((l0.length : Int) - (t495.length : Int))) + 1) : Int).toNat ≤ 35184372088832 then (impl_nat_div.l0 k t494 t495 (t495.length : Int) (copyL (List.replicate (wrap64 ((l0.length : Int) + 1) : Int).toNat 0) t501) (List.replicate (wrap64 ((wrap64 ((l0.length : Int) - (t495.length : Int))) + 1) : Int).toNat 0) (wrap64 ((l0.length : Int) - (t495.length : Int)))) else (none)) else (none))) else (none)) else (none)))) else (none)) else (none))))
set_option maxHeartbeats 8000000 in
set_option maxRecDepth 100000 in
theorem impl_nat_div.calls (k : Nat) (A0 : Option Addr) (c0 : Nat) (l0 : List Int) (A1 : Option Addr) (c1 : Nat) (l1 : List Int) (r1 : List Int) (r2 : List Int) (w : World) (hr0 : Kd.C (Kd.int .u64) w A0 l0.length l0) (hc0 : l0.length ≤ c0) (hr1 : Kd.C (Kd.int .u64) w A1 l1.length l1) (hc1 : l1.length ≤ c1) (h : impl_nat_div.f k l0 l1 = some (r1, r2)) :
  Calls Try.prog 71 #[.slice A0 l0.length c0, .slice A1 l1.length c1] w fun e w' => ∃ v0_ v1_ : Value, e = .returned (.tuple #[v0_, v1_]) ∧ Kd.R (Kd.int .u64) 36 w' w.heap.size (fun k_ => some k_ ≠ (v1_ : Value).ownBlock) v0_ r1 ∧ Kd.R (Kd.int .u64) 36 w' w.heap.size (fun k_ => some k_ ≠ (v0_ : Value).ownBlock) v1_ r2 ∧ Below w.heap.size w w' := by
 have HR0 := Aside0.mk hr0
 have HC0 := Aside0.mk hc0
 clear hr0 hc0
 have HR1 := Aside0.mk hr1
 have HC1 := Aside0.mk hc1
 clear hr1 hc1
 have HB := Aside0.mk (Below.refl w.heap.size w)
 have H : ((impl_nat_cmp.f k l0 l1).bind fun t478 => (if t478 < 0 then ((some (([] : List Int) : List Int)).bind fun y479 => (if y479.length + l0.length < 17592186044416 then (some (([] : List Int), (y479 ++ l0))) else (none))) else (if (l1.length : Int) = 1 then (if 0 < (l1.length : Int) then ((impl_nat_divWord.f k l0 (rd l1 0)).bind fun bt486 => ((impl_word.f bt486.2).bind fun t490 => (some (bt486.1, t490)))) else (none)) else (if 0 ≤ (wrap64 ((l1.length : Int) - 1)) then (if (wrap64 ((l1.length : Int) - 1)) < (l1.length : Int) then ((bits_LeadingZeros64.f k (rd l1 (wrap64 ((l1.length : Int) - 1)))).bind fun t494 => ((impl_nat_left.f k l1 t494).bind fun t495 => (if 0 ≤ (wrap64 ((l0.length : Int) + 1)) then (if (wrap64 ((l0.length : Int) + 1) : Int).toNat ≤ 35184372088832 then ((impl_nat_left.f k l0 t494).bind fun t501 => (if 0 ≤ (wrap64 ((wrap64 ((l0.length : Int) - (t495.length : Int))) + 1)) then (if (wrap64 ((wrap64 ((l0.length : Int) - (t495.length : Int))) + 1) : Int).toNat ≤ 35184372088832 then (impl_nat_div.l0 k t494 t495 (t495.length : Int) (copyL (List.replicate (wrap64 ((l0.length : Int) + 1) : Int).toNat 0) t501) (List.replicate (wrap64 ((wrap64 ((l0.length : Int) - (t495.length : Int))) + 1) : Int).toNat 0) (wrap64 ((l0.length : Int) - (t495.length : Int)))) else (none)) else (none))) else (none)) else (none)))) else (none)) else (none))))) = some (r1, r2) := h
 clear h
 replace H := Option.bind_eq_some_iff.mp H
 obtain ⟨t478, A30, H⟩ := H
 replace H : (if t478 < 0 then ((some (([] : List Int) : List Int)).bind fun y479 => (if y479.length + l0.length < 17592186044416 then (some (([] : List Int), (y479 ++ l0))) else (none))) else (if (l1.length : Int) = 1 then (if 0 < (l1.length : Int) then ((impl_nat_divWord.f k l0 (rd l1 0)).bind fun bt486 => ((impl_word.f bt486.2).bind fun t490 => (some (bt486.1, t490)))) else (none)) else (if 0 ≤ (wrap64 ((l1.length : Int) - 1)) then (if (wrap64 ((l1.length : Int) - 1)) < (l1.length : Int) then ((bits_LeadingZeros64.f k (rd l1 (wrap64 ((l1.length : Int) - 1)))).bind fun t494 => ((impl_nat_left.f k l1 t494).bind fun t495 => (if 0 ≤ (wrap64 ((l0.length : Int) + 1)) then (if (wrap64 ((l0.length : Int) + 1) : Int).toNat ≤ 35184372088832 then ((impl_nat_left.f k l0 t494).bind fun t501 => (if 0 ≤ (wrap64 ((wrap64 ((l0.length : Int) - (t495.length : Int))) + 1)) then (if (wrap64 ((wrap64 ((l0.length : Int) - (t495.length : Int))) + 1) : Int).toNat ≤ 35184372088832 then (impl_nat_div.l0 k t494 t495 (t495.length : Int) (copyL (List.replicate (wrap64 ((l0.length : Int) + 1) : Int).toNat 0) t501) (List.replicate (wrap64 ((wrap64 ((l0.length : Int) - (t495.length : Int))) + 1) : Int).toNat 0) (wrap64 ((l0.length : Int) - (t495.length : Int)))) else (none)) else (none))) else (none)) else (none)))) else (none)) else (none)))) = some (r1, r2) := H
 have A3 := Aside0.mk A30
 clear A30
 by_cases c4 : t478 < 0
 ·rw [if_pos c4] at H
  have c4b0 : decide (t478 < 0) = true := decide_eq_true c4
  clear c4
  obtain ⟨y479, hy479⟩ : ∃ y_ : List Int, y_ = (([] : List Int)) := ⟨_, rfl⟩
  replace H : (if y479.length + l0.length < 17592186044416 then (some (([] : List Int), (y479 ++ l0))) else (none)) = some (r1, r2) := by first | (rw [hy479]; with_reducible exact H) | (have H2_ := (Option.bind_some _ _).symm.trans H; rw [hy479]; with_reducible exact H2_) | (have H2_ := (Option.bind_some _ _).symm.trans H; with_reducible exact H2_) | with_reducible exact H | (rw [hy479]; exact H) | exact H
  have Ny479 := Aside0.mk hy479
  clear hy479
  by_cases c5 : y479.length + l0.length < 17592186044416
  ·rw [if_pos c5] at H
   have LMc5 := Aside0.mk c5
   clear c5
   obtain ⟨y482, hy482⟩ : ∃ y_ : List Int, y_ = (y479 ++ l0) := ⟨_, rfl⟩
   replace H : (some (([] : List Int), y482)) = some (r1, r2) := by first | (rw [hy482]; with_reducible exact H) | (have H2_ := (Option.bind_some _ _).symm.trans H; rw [hy482]; with_reducible exact H2_) | (have H2_ := (Option.bind_some _ _).symm.trans H; with_reducible exact H2_) | with_reducible exact H | (rw [hy482]; exact H) | exact H
   have Ny482 := Aside0.mk hy482
   clear hy482
   simp only [Option.some.injEq, Prod.mk.injEq] at H
   obtain ⟨rfl, rfl⟩ := H
   go_enter Try.func71, Try.ntmps71
   go_wp2_with (first | go_step3 | (go_at_call 77; (with_reducible refine (impl_nat_cmp.calls k _ _ l0 _ _ l1 t478 _ ?side1 ?side2 ?side3 ?side4 A3.out).mono ?_); (case side1 => repeat (first | exact HR0.out | (with_reducible refine Kd.C_alloc ?_ _) | (with_reducible refine Kd.C_drewN ?_ _) | (with_reducible refine Kd.C_drew ?_))); (case side2 => exact HC0.out); (case side3 => repeat (first | exact HR1.out | (with_reducible refine Kd.C_alloc ?_ _) | (with_reducible refine Kd.C_drewN ?_ _) | (with_reducible refine Kd.C_drew ?_))); (case side4 => exact HC1.out); rintro e w' ⟨rfl, ⟨nd, rfl⟩⟩; (try first | exact ⟨rfl, _, World.drewN_drewN _ _ _⟩ | exact ⟨rfl, _, Eq.trans (World.drewN_drewN _ _ _) (congrArg (World.drewN _) (Nat.add_assoc _ _ _))⟩)) | ((with_reducible refine gate_dst (N := 33) rfl ?_); refine Kd.R_lit (Kd.int .u64) _ 36 ?hg (N := 33) ?hd (xs := ([] : List Int)) (inner := []) (ok := fun _ => True) (okp := fun _ => True) ?hr ?hp (fun _ hk => hk) trivial (Below.refl _ _) (Nat.le_refl _) (by simp) ?_; (case hd => rfl); (case hg => rfl); (case hr => first | (go_simp; done) | (go_simp; rfl)); (case hp => exact (Reps.none _ _)); intro v480 w6 ho7 hb hg_ hnew_; clear hg_ hnew_; (first | rw [← Ny479.out] at ho7 | (simp only [Int.reduceToNat] at ho7; rw [← Ny479.out] at ho7)); have n0_ := Aside0.mk (Kd.R_lower ho7 (below_size (by repeat (first | (with_reducible first | exact HB.out | apply below_alloc | apply pw_below_drewN | apply below_drew1) | exact HB.out)))); have n1_ := Aside0.mk (below_step (by repeat (first | (with_reducible first | exact HB.out | apply below_alloc | apply pw_below_drewN | apply below_drew1) | exact HB.out)) hb); clear HB; have HO481 := n0_; have HB := n1_; clear n0_ n1_; clear hb ho7) | ((with_reducible refine gate_builtin (b := .append) (xs := #[.tmp 33, .tmp 34]) rfl ?_); at_builtin; refine Kd.R_append_rows (Kd.int .u64) (w0 := w) w.heap.size rfl (.tmp 33) (.tmp 34) 60 36 (.int .u64 0) 8 rfl Try.underlying60 info36 rfl (by decide) (by omega) v480 y479 l0 _ _ _ (fun _ => True) (fun _ => False) rfl rfl ?aO ?aR (fun _ _ h => h) (fun _ h => h.elim) ?aF ?aB ?aS ?aL ?_; (case aR => repeat (first | exact (Kd.C_below HR0.out HB.out) | (with_reducible refine Kd.C_alloc ?_ _) | (with_reducible refine Kd.C_drewN ?_ _) | (with_reducible refine Kd.C_drew ?_))); (case aB => exact (by repeat (first | (with_reducible first | exact HB.out | apply below_alloc | apply pw_below_drewN | apply below_drew1) | exact HB.out))); (case aF => exact (fun _ _ => trivial)); (case aO => exact (by (with_reducible repeat (first | apply Kd.R_alloc | apply Kd.R_drewN | apply Kd.R_drew)); exact HO481.out)); (case aS => exact (below_size (by repeat (first | (with_reducible first | exact HB.out | apply below_alloc | apply pw_below_drewN | apply below_drew1) | exact HB.out)))); (case aL => have := LMc5.out; omega); intro v483 w8 ho hb hg hat; rw [← Ny482.out] at ho; have n0_ := Aside0.mk (hb); have n1_ := Aside0.mk (ho); clear HB; clear HO481; have HB := n0_; have HO484 := n1_; clear n0_ n1_; clear ho hb hg hat))
   (try simp only [Exit.noGoto_ret, Exit.noGoto_normal, Exit.noGoto_exit]); go_ret2
   exact ⟨_, _, by first | rfl | (simp [errW_none, errW_some] <;> rfl) | (simp [*, errW_none, errW_some] <;> rfl), by first | exact Kd.R_nil _ _ _ _ _ | exact Kd.N_nil _ _ _ _ _ | exact Kd.V_nil _ _ _ _ _ | exact Kd.Q_nil _ _ _ _ _ | exact Kd.S_nil _ _ _ _ _, by (with_reducible repeat (first | apply Kd.R_alloc | apply Kd.R_drewN | apply Kd.R_drew)); exact Kd.R_mono HO484.out (fun _ hk => (by simp [Value.ownBlock])), by repeat (first | (with_reducible first | exact HB.out | apply below_alloc | apply pw_below_drewN | apply below_drew1) | exact HB.out)⟩
  ·rw [if_neg c5] at H
   exact absurd H (by simp)
 ·rw [if_neg c4] at H
  have c4b0 : decide (t478 < 0) = false := decide_eq_false c4
  clear c4
  by_cases c9 : (l1.length : Int) = 1
  ·rw [if_pos c9] at H
   have c9b0 : ((l1.length : Int) == 1) = true := beq_iff_eq.mpr c9
   have c9b1 : ((l1.length : Int) != 1) = false := bne_eq_false_iff_eq.mpr c9
   clear c9
   by_cases c10 : 0 < (l1.length : Int)
   ·rw [if_pos c10] at H
    have c10b0 : decide (0 < (l1.length : Int)) = true := decide_eq_true c10
    have c10b1 : decide (0 < l1.length) = true := decide_eq_true (by omega)
    clear c10
    replace H := Option.bind_eq_some_iff.mp H
    obtain ⟨⟨t486, t487⟩, A110, H⟩ := H
    replace H : ((impl_word.f t487).bind fun t490 => (some (t486, t490))) = some (r1, r2) := H
    have A11 := Aside0.mk A110
    clear A110
    replace H := Option.bind_eq_some_iff.mp H
    obtain ⟨t490, A120, H⟩ := H
    replace H : (some (t486, t490)) = some (r1, r2) := H
    have A12 := Aside0.mk A120
    clear A120
    simp only [Option.some.injEq, Prod.mk.injEq] at H
    obtain ⟨rfl, rfl⟩ := H
    go_enter Try.func71, Try.ntmps71
    go_wp2_with (first | go_step3 | (go_at_call 77; (with_reducible refine (impl_nat_cmp.calls k _ _ l0 _ _ l1 t478 _ ?side1 ?side2 ?side3 ?side4 A3.out).mono ?_); (case side1 => repeat (first | exact HR0.out | (with_reducible refine Kd.C_alloc ?_ _) | (with_reducible refine Kd.C_drewN ?_ _) | (with_reducible refine Kd.C_drew ?_))); (case side2 => exact HC0.out); (case side3 => repeat (first | exact HR1.out | (with_reducible refine Kd.C_alloc ?_ _) | (with_reducible refine Kd.C_drewN ?_ _) | (with_reducible refine Kd.C_drew ?_))); (case side4 => exact HC1.out); rintro e w' ⟨rfl, ⟨nd, rfl⟩⟩; (try first | exact ⟨rfl, _, World.drewN_drewN _ _ _⟩ | exact ⟨rfl, _, Eq.trans (World.drewN_drewN _ _ _) (congrArg (World.drewN _) (Nat.add_assoc _ _ _))⟩); have p485 : 0 ≤ (0 : Int) := (by omega); have q485 : 0 < (l1.length : Int) := of_decide_eq_true (by first | (with_reducible assumption) | assumption); obtain ⟨ad485, e485, hx485_0⟩ := Kd.at_int HR1.out 0 p485 q485; cases e485; have qi485 : (0 < l1.length) = True := eq_true (by omega); (try rw [show ((0 : Int)).toNat = 0 from rfl] at hx485_0); (try rw [Addr.add_zero'] at hx485_0); replace p485 := eq_true p485; replace q485 := eq_true q485) | (go_at_call 96; (with_reducible refine (impl_nat_divWord.calls k _ _ l0 (rd l1 0) t486 t487 _ ?side1 ?side2 A11.out).mono ?_); (case side1 => repeat (first | exact HR0.out | (with_reducible refine Kd.C_alloc ?_ _) | (with_reducible refine Kd.C_drewN ?_ _) | (with_reducible refine Kd.C_drew ?_))); (case side2 => exact HC0.out); rintro e w13 ⟨v488, rfl, ho0, hb⟩; have n0_ := Aside0.mk (Kd.R_lower ho0 (below_size (by repeat (first | (with_reducible first | exact HB.out | apply below_alloc | apply pw_below_drewN | apply below_drew1) | exact HB.out)))); have n1_ := Aside0.mk (below_step (by repeat (first | (with_reducible first | exact HB.out | apply below_alloc | apply pw_below_drewN | apply below_drew1) | exact HB.out)) hb); clear HB; have HO489 := n0_; have HB := n1_; clear n0_ n1_; (try clear hb); (try clear hb2); (try clear hk); (try clear hi); (try clear ho0)) | (go_at_call 67; (with_reducible refine (impl_word.calls t487 t490 _ A12.out).mono ?_); rintro e w14 ⟨v491, rfl, ho0, hb⟩; have n0_ := Aside0.mk (Kd.R_elder' (by (with_reducible repeat (first | apply Kd.R_alloc | apply Kd.R_drewN | apply Kd.R_drew)); exact HO489.out) (Kd.R_base ho0) hb); have n1_ := Aside0.mk (Kd.R_lower (Kd.R_new' ho0 (Kd.R_lt (by (with_reducible repeat (first | apply Kd.R_alloc | apply Kd.R_drewN | apply Kd.R_drew)); exact HO489.out))) (below_size (by repeat (first | (with_reducible first | exact HB.out | apply below_alloc | apply pw_below_drewN | apply below_drew1) | exact HB.out)))); have n2_ := Aside0.mk (below_step (by repeat (first | (with_reducible first | exact HB.out | apply below_alloc | apply pw_below_drewN | apply below_drew1) | exact HB.out)) hb); clear HO489; clear HB; have HO489 := n0_; have HO492 := n1_; have HB := n2_; clear n0_ n1_ n2_; (try clear hb); (try clear hb2); (try clear hk); (try clear hi); (try clear ho0)))
    (try simp only [Exit.noGoto_ret, Exit.noGoto_normal, Exit.noGoto_exit]); go_ret2
    exact ⟨_, _, by first | rfl | (simp [errW_none, errW_some] <;> rfl) | (simp [*, errW_none, errW_some] <;> rfl), by (with_reducible repeat (first | apply Kd.R_alloc | apply Kd.R_drewN | apply Kd.R_drew)); exact Kd.R_mono HO489.out (fun _ hk => hk.2), by (with_reducible repeat (first | apply Kd.R_alloc | apply Kd.R_drewN | apply Kd.R_drew)); exact Kd.R_mono HO492.out (fun _ hk => hk.2), by repeat (first | (with_reducible first | exact HB.out | apply below_alloc | apply pw_below_drewN | apply below_drew1) | exact HB.out)⟩
   ·rw [if_neg c10] at H
    exact absurd H (by simp)
  ·rw [if_neg c9] at H
   have c9b0 : ((l1.length : Int) == 1) = false := beq_eq_false_iff_ne.mpr c9
   have c9b1 : ((l1.length : Int) != 1) = true := bne_iff_ne.mpr c9
   obtain ⟨ji15, hji15⟩ : ∃ j_ : Int, (wrap64 ((l1.length : Int) - 1)) = j_ := ⟨_, rfl⟩
   replace H : (if 0 ≤ (ji15) then (if (ji15) < (l1.length : Int) then ((bits_LeadingZeros64.f k (rd l1 (ji15))).bind fun t494 => ((impl_nat_left.f k l1 t494).bind fun t495 => (if 0 ≤ (wrap64 ((l0.length : Int) + 1)) then (if (wrap64 ((l0.length : Int) + 1) : Int).toNat ≤ 35184372088832 then ((impl_nat_left.f k l0 t494).bind fun t501 => (if 0 ≤ (wrap64 ((wrap64 ((l0.length : Int) - (t495.length : Int))) + 1)) then (if (wrap64 ((wrap64 ((l0.length : Int) - (t495.length : Int))) + 1) : Int).toNat ≤ 35184372088832 then (impl_nat_div.l0 k t494 t495 (t495.length : Int) (copyL (List.replicate (wrap64 ((l0.length : Int) + 1) : Int).toNat 0) t501) (List.replicate (wrap64 ((wrap64 ((l0.length : Int) - (t495.length : Int))) + 1) : Int).toNat 0) (wrap64 ((l0.length : Int) - (t495.length : Int)))) else (none)) else (none))) else (none)) else (none)))) else (none)) else (none)) = some (r1, r2) := by first | (rw [hji15] at H; exact H) | (simp only [hji15] at H ⊢; exact H)
   (try rw [hji15] at A3)
   have hji15w : (IntKind.i64.wrap ((l1.length : Int) - 1)) = ji15 := (i64_w _).trans hji15
   by_cases c16 : 0 ≤ (ji15)
   ·rw [if_pos c16] at H
    have c16b0 : decide (0 ≤ (ji15)) = true := decide_eq_true c16
    clear c16
    by_cases c17 : (ji15) < (l1.length : Int)
    ·rw [if_pos c17] at H
     have c17b0 : decide ((ji15) < (l1.length : Int)) = true := decide_eq_true c17
     clear c17
     replace H := Option.bind_eq_some_iff.mp H
     obtain ⟨t494, A180, H⟩ := H
     replace H : ((impl_nat_left.f k l1 t494).bind fun t495 => (if 0 ≤ (wrap64 ((l0.length : Int) + 1)) then (if (wrap64 ((l0.length : Int) + 1) : Int).toNat ≤ 35184372088832 then ((impl_nat_left.f k l0 t494).bind fun t501 => (if 0 ≤ (wrap64 ((wrap64 ((l0.length : Int) - (t495.length : Int))) + 1)) then (if (wrap64 ((wrap64 ((l0.length : Int) - (t495.length : Int))) + 1) : Int).toNat ≤ 35184372088832 then (impl_nat_div.l0 k t494 t495 (t495.length : Int) (copyL (List.replicate (wrap64 ((l0.length : Int) + 1) : Int).toNat 0) t501) (List.replicate (wrap64 ((wrap64 ((l0.length : Int) - (t495.length : Int))) + 1) : Int).toNat 0) (wrap64 ((l0.length : Int) - (t495.length : Int)))) else (none)) else (none))) else (none)) else (none))) = some (r1, r2) := H
     have A18 := Aside0.mk A180
     clear A180
     replace H := Option.bind_eq_some_iff.mp H
     obtain ⟨t495, A190, H⟩ := H
     replace H : (if 0 ≤ (wrap64 ((l0.length : Int) + 1)) then (if (wrap64 ((l0.length : Int) + 1) : Int).toNat ≤ 35184372088832 then ((impl_nat_left.f k l0 t494).bind fun t501 => (if 0 ≤ (wrap64 ((wrap64 ((l0.length : Int) - (t495.length : Int))) + 1)) then (if (wrap64 ((wrap64 ((l0.length : Int) - (t495.length : Int))) + 1) : Int).toNat ≤ 35184372088832 then (impl_nat_div.l0 k t494 t495 (t495.length : Int) (copyL (List.replicate (wrap64 ((l0.length : Int) + 1) : Int).toNat 0) t501) (List.replicate (wrap64 ((wrap64 ((l0.length : Int) - (t495.length : Int))) + 1) : Int).toNat 0) (wrap64 ((l0.length : Int) - (t495.length : Int)))) else (none)) else (none))) else (none)) else (none)) = some (r1, r2) := H
     have A19 := Aside0.mk A190
     clear A190
     obtain ⟨ji20, hji20⟩ : ∃ j_ : Int, (wrap64 ((l0.length : Int) + 1)) = j_ := ⟨_, rfl⟩
     replace H : (if 0 ≤ (ji20) then (if (ji20 : Int).toNat ≤ 35184372088832 then ((impl_nat_left.f k l0 t494).bind fun t501 => (if 0 ≤ (wrap64 ((wrap64 ((l0.length : Int) - (t495.length : Int))) + 1)) then (if (wrap64 ((wrap64 ((l0.length : Int) - (t495.length : Int))) + 1) : Int).toNat ≤ 35184372088832 then (impl_nat_div.l0 k t494 t495 (t495.length : Int) (copyL (List.replicate (ji20 : Int).toNat 0) t501) (List.replicate (wrap64 ((wrap64 ((l0.length : Int) - (t495.length : Int))) + 1) : Int).toNat 0) (wrap64 ((l0.length : Int) - (t495.length : Int)))) else (none)) else (none))) else (none)) else (none)) = some (r1, r2) := by first | (rw [hji20] at H; exact H) | (simp only [hji20] at H ⊢; exact H)
     (try rw [hji20] at A3)
     (try rw [hji20] at A18)
     (try rw [hji20] at A19)
     have hji20w : (IntKind.i64.wrap ((l0.length : Int) + 1)) = ji20 := (i64_w _).trans hji20
     by_cases c21 : 0 ≤ (ji20)
     ·rw [if_pos c21] at H
      have c21b0 := eq_true c21
      have c21b1 : decide (0 ≤ (ji20)) = true := decide_eq_true c21
      clear c21
      by_cases c22 : (ji20 : Int).toNat ≤ 35184372088832
      ·rw [if_pos c22] at H
       have c22b0 := eq_true c22
       have c22b1 : decide ((ji20 : Int).toNat ≤ 35184372088832) = true := decide_eq_true c22
       clear c22
       obtain ⟨y498, hy498⟩ : ∃ y_ : List Int, y_ = (List.replicate (ji20 : Int).toNat 0) := ⟨_, rfl⟩
       replace H : ((impl_nat_left.f k l0 t494).bind fun t501 => (if 0 ≤ (wrap64 ((wrap64 ((l0.length : Int) - (t495.length : Int))) + 1)) then (if (wrap64 ((wrap64 ((l0.length : Int) - (t495.length : Int))) + 1) : Int).toNat ≤ 35184372088832 then (impl_nat_div.l0 k t494 t495 (t495.length : Int) (copyL y498 t501) (List.replicate (wrap64 ((wrap64 ((l0.length : Int) - (t495.length : Int))) + 1) : Int).toNat 0) (wrap64 ((l0.length : Int) - (t495.length : Int)))) else (none)) else (none))) = some (r1, r2) := by first | (rw [hy498]; with_reducible exact H) | (have H2_ := (Option.bind_some _ _).symm.trans H; rw [hy498]; with_reducible exact H2_) | (have H2_ := (Option.bind_some _ _).symm.trans H; with_reducible exact H2_) | with_reducible exact H | (rw [hy498]; exact H) | exact H
       have Ny498 := Aside0.mk hy498
       clear hy498
       replace H := Option.bind_eq_some_iff.mp H
       obtain ⟨t501, A230, H⟩ := H
       replace H : (if 0 ≤ (wrap64 ((wrap64 ((l0.length : Int) - (t495.length : Int))) + 1)) then (if (wrap64 ((wrap64 ((l0.length : Int) - (t495.length : Int))) + 1) : Int).toNat ≤ 35184372088832 then (impl_nat_div.l0 k t494 t495 (t495.length : Int) (copyL y498 t501) (List.replicate (wrap64 ((wrap64 ((l0.length : Int) - (t495.length : Int))) + 1) : Int).toNat 0) (wrap64 ((l0.length : Int) - (t495.length : Int)))) else (none)) else (none)) = some (r1, r2) := H
       have A23 := Aside0.mk A230
       clear A230
       obtain ⟨y504, hy504⟩ : ∃ y_ : List Int, y_ = (copyL y498 t501) := ⟨_, rfl⟩
       replace H : (if 0 ≤ (wrap64 ((wrap64 ((l0.length : Int) - (t495.length : Int))) + 1)) then (if (wrap64 ((wrap64 ((l0.length : Int) - (t495.length : Int))) + 1) : Int).toNat ≤ 35184372088832 then (impl_nat_div.l0 k t494 t495 (t495.length : Int) y504 (List.replicate (wrap64 ((wrap64 ((l0.length : Int) - (t495.length : Int))) + 1) : Int).toNat 0) (wrap64 ((l0.length : Int) - (t495.length : Int)))) else (none)) else (none)) = some (r1, r2) := by first | (rw [hy504]; with_reducible exact H) | (have H2_ := (Option.bind_some _ _).symm.trans H; rw [hy504]; with_reducible exact H2_) | (have H2_ := (Option.bind_some _ _).symm.trans H; with_reducible exact H2_) | with_reducible exact H | (rw [hy504]; exact H) | exact H
       have Ny504 := Aside0.mk hy504
       clear hy504
       obtain ⟨ji24, hji24⟩ : ∃ j_ : Int, (wrap64 ((wrap64 ((l0.length : Int) - (t495.length : Int))) + 1)) = j_ := ⟨_, rfl⟩
       replace H : (if 0 ≤ (ji24) then (if (ji24 : Int).toNat ≤ 35184372088832 then (impl_nat_div.l0 k t494 t495 (t495.length : Int) y504 (List.replicate (ji24 : Int).toNat 0) (wrap64 ((l0.length : Int) - (t495.length : Int)))) else (none)) else (none)) = some (r1, r2) := by first | (rw [hji24] at H; exact H) | (simp only [hji24] at H ⊢; exact H)
       (try rw [hji24] at A3)
       (try rw [hji24] at A18)
       (try rw [hji24] at A19)
       (try rw [hji24] at A23)
       have hji24w : (IntKind.i64.wrap ((wrap64 ((l0.length : Int) - (t495.length : Int))) + 1)) = ji24 := (i64_w _).trans hji24
       by_cases c25 : 0 ≤ (ji24)
       ·rw [if_pos c25] at H
        have c25b0 := eq_true c25
        have c25b1 : decide (0 ≤ (ji24)) = true := decide_eq_true c25
        clear c25
        by_cases c26 : (ji24 : Int).toNat ≤ 35184372088832
        ·rw [if_pos c26] at H
         have c26b0 := eq_true c26
         have c26b1 : decide ((ji24 : Int).toNat ≤ 35184372088832) = true := decide_eq_true c26
         clear c26
         obtain ⟨y505, hy505⟩ : ∃ y_ : List Int, y_ = (List.replicate (ji24 : Int).toNat 0) := ⟨_, rfl⟩
         replace H : (impl_nat_div.l0 k t494 t495 (t495.length : Int) y504 y505 (wrap64 ((l0.length : Int) - (t495.length : Int)))) = some (r1, r2) := by first | (rw [hy505]; with_reducible exact H) | (have H2_ := (Option.bind_some _ _).symm.trans H; rw [hy505]; with_reducible exact H2_) | (have H2_ := (Option.bind_some _ _).symm.trans H; with_reducible exact H2_) | with_reducible exact H | (rw [hy505]; exact H) | exact H
         have Ny505 := Aside0.mk hy505
         clear hy505
         have H' := Aside0.mk H
         clear H
         go_enter Try.func71, Try.ntmps71
         go_wp2_with (first | go_step3 | (go_at_call 77; (with_reducible refine (impl_nat_cmp.calls k _ _ l0 _ _ l1 t478 _ ?side1 ?side2 ?side3 ?side4 A3.out).mono ?_); (case side1 => repeat (first | exact HR0.out | (with_reducible refine Kd.C_alloc ?_ _) | (with_reducible refine Kd.C_drewN ?_ _) | (with_reducible refine Kd.C_drew ?_))); (case side2 => exact HC0.out); (case side3 => repeat (first | exact HR1.out | (with_reducible refine Kd.C_alloc ?_ _) | (with_reducible refine Kd.C_drewN ?_ _) | (with_reducible refine Kd.C_drew ?_))); (case side4 => exact HC1.out); rintro e w' ⟨rfl, ⟨nd, rfl⟩⟩; (try first | exact ⟨rfl, _, World.drewN_drewN _ _ _⟩ | exact ⟨rfl, _, Eq.trans (World.drewN_drewN _ _ _) (congrArg (World.drewN _) (Nat.add_assoc _ _ _))⟩); have p493 : 0 ≤ ((ji15) : Int) := of_decide_eq_true (by first | (with_reducible assumption) | assumption); have q493 : (ji15) < (l1.length : Int) := of_decide_eq_true (by first | (with_reducible assumption) | assumption); obtain ⟨ad493, e493, hx493_0⟩ := Kd.at_int HR1.out (ji15) p493 q493; cases e493; replace p493 := eq_true p493; replace q493 := eq_true q493) | (go_at_call 86; (with_reducible refine (bits_LeadingZeros64.calls k (rd l1 (ji15)) t494 _ A18.out).mono ?_); rintro e w' ⟨rfl, ⟨nd, rfl⟩⟩; (try first | exact ⟨rfl, _, World.drewN_drewN _ _ _⟩ | exact ⟨rfl, _, Eq.trans (World.drewN_drewN _ _ _) (congrArg (World.drewN _) (Nat.add_assoc _ _ _))⟩)) | (go_at_call 91; (with_reducible refine (impl_nat_left.calls k _ _ l1 t494 t495 _ ?side1 ?side2 A19.out).mono ?_); (case side1 => repeat (first | exact HR1.out | (with_reducible refine Kd.C_alloc ?_ _) | (with_reducible refine Kd.C_drewN ?_ _) | (with_reducible refine Kd.C_drew ?_))); (case side2 => exact HC1.out); rintro e w27 ⟨v496, rfl, ho0, hb⟩; have n0_ := Aside0.mk (Kd.R_lower ho0 (below_size (by repeat (first | (with_reducible first | exact HB.out | apply below_alloc | apply pw_below_drewN | apply below_drew1) | exact HB.out)))); have n1_ := Aside0.mk (below_step (by repeat (first | (with_reducible first | exact HB.out | apply below_alloc | apply pw_below_drewN | apply below_drew1) | exact HB.out)) hb); clear HB; have HO497 := n0_; have HB := n1_; clear n0_ n1_; (try clear hb); (try clear hb2); (try clear hk); (try clear hi); (try clear ho0); obtain ⟨Ao28, co28, eo28⟩ := Kd.R_slice HO497.out; subst eo28) | ((with_reducible refine gate_dst (N := 65) rfl ?_); refine Kd.R_make (Kd.int .u64) _ 36 rfl (N := 65) rfl 24 _ _ rfl ji20 rfl rfl Try.underlying24 (.int .u64 0) 8 info36 rfl (by decide) (by omega) 0 (ok := fun _ => True) (okp := fun _ => True) rfl (fun _ hk => hk) trivial (of_decide_eq_true (by first | (with_reducible assumption) | assumption)) (Nat.le_trans (Nat.mul_le_mul_right _ (of_decide_eq_true (by first | (with_reducible assumption) | assumption) : ji20.toNat ≤ 35184372088832)) (by omega)) (Below.refl _ _) (Nat.le_refl _) ?_; intro v499 w29 ho30 hb hg_ hnew_; clear hg_ hnew_; (first | rw [← Ny498.out] at ho30 | (simp only [Int.reduceToNat] at ho30; rw [← Ny498.out] at ho30)); have n0_ := Aside0.mk (Kd.R_elder' (by (with_reducible repeat (first | apply Kd.R_alloc | apply Kd.R_drewN | apply Kd.R_drew)); exact HO497.out) (Kd.R_base ho30) hb); have n1_ := Aside0.mk (Kd.R_lower (Kd.R_new' ho30 (Kd.R_lt (by (with_reducible repeat (first | apply Kd.R_alloc | apply Kd.R_drewN | apply Kd.R_drew)); exact HO497.out))) (below_size (by repeat (first | (with_reducible first | exact HB.out | apply below_alloc | apply pw_below_drewN | apply below_drew1) | exact HB.out)))); have n2_ := Aside0.mk (below_step (by repeat (first | (with_reducible first | exact HB.out | apply below_alloc | apply pw_below_drewN | apply below_drew1) | exact HB.out)) hb); clear HO497; clear HB; have HO497 := n0_; have HO500 := n1_; have HB := n2_; clear n0_ n1_ n2_; clear hb ho30) | (go_at_call 91; (with_reducible refine (impl_nat_left.calls k _ _ l0 t494 t501 _ ?side1 ?side2 A23.out).mono ?_); (case side1 => repeat (first | exact (Kd.C_below HR0.out HB.out) | (with_reducible refine Kd.C_alloc ?_ _) | (with_reducible refine Kd.C_drewN ?_ _) | (with_reducible refine Kd.C_drew ?_))); (case side2 => exact HC0.out); rintro e w31 ⟨v502, rfl, ho0, hb⟩; have n0_ := Aside0.mk (Kd.R_elder' (by (with_reducible repeat (first | apply Kd.R_alloc | apply Kd.R_drewN | apply Kd.R_drew)); exact HO497.out) (Kd.R_base ho0) hb); have n1_ := Aside0.mk (Kd.R_elder' (by (with_reducible repeat (first | apply Kd.R_alloc | apply Kd.R_drewN | apply Kd.R_drew)); exact HO500.out) (Kd.R_base ho0) hb); have n2_ := Aside0.mk (Kd.R_lower (Kd.R_new' (Kd.R_new' ho0 (Kd.R_lt (by (with_reducible repeat (first | apply Kd.R_alloc | apply Kd.R_drewN | apply Kd.R_drew)); exact HO497.out))) (Kd.R_lt (by (with_reducible repeat (first | apply Kd.R_alloc | apply Kd.R_drewN | apply Kd.R_drew)); exact HO500.out))) (below_size (by repeat (first | (with_reducible first | exact HB.out | apply below_alloc | apply pw_below_drewN | apply below_drew1) | exact HB.out)))); have n3_ := Aside0.mk (below_step (by repeat (first | (with_reducible first | exact HB.out | apply below_alloc | apply pw_below_drewN | apply below_drew1) | exact HB.out)) hb); clear HO497; clear HO500; clear HB; have HO497 := n0_; have HO500 := n1_; have HO503 := n2_; have HB := n3_; clear n0_ n1_ n2_ n3_; (try clear hb); (try clear hb2); (try clear hk); (try clear hi); (try clear ho0); obtain ⟨Ao34, co34, eo34⟩ := Kd.R_slice HO500.out; subst eo34; obtain ⟨Ao35, co35, eo35⟩ := Kd.R_slice HO503.out; subst eo35; have n_ := Aside0.mk (Kd.R_mono (ok' := (fun k_ => some k_ ≠ (.slice Ao28 t495.length co28 : Value).ownBlock ∧ some k_ ≠ (.slice Ao35 t501.length co35 : Value).ownBlock)) HO500.out (fun k_ hk => ⟨hk.1.2, hk.2⟩)); clear HO500; have HO500 := n_; clear n_) | ((with_reducible refine gate_builtin (b := .copy) rfl ?_); refine Kd.R_copy (h1 := fun _ => rfl) (0 : Int) (w0 := w) w.heap.size rfl _ _ 24 60 36 rfl Try.underlying24 (by kernel_rfl) (.slice Ao34 y498.length co34) y498 t501 Ao35 t501.length co35 _ rfl rfl (by (with_reducible repeat (first | apply Kd.R_alloc | apply Kd.R_drewN | apply Kd.R_drew)); exact HO500.out) ?aR (by repeat (first | (with_reducible first | exact HB.out | apply below_alloc | apply pw_below_drewN | apply below_drew1) | exact HB.out)) (below_size (by repeat (first | (with_reducible first | exact HB.out | apply below_alloc | apply pw_below_drewN | apply below_drew1) | exact HB.out))) ?_; (case aR => repeat (first | exact (Kd.R_reads' HO503.out).2.2 | (with_reducible refine Kd.C_alloc ?_ _) | (with_reducible refine Kd.C_drewN ?_ _) | (with_reducible refine Kd.C_drew ?_))); intro w32 ho hb hg; have hp_ : Kd.R (Kd.int .u64) 36 w32 w.heap.size (fun k_ => some k_ ≠ (.slice Ao28 t495.length co28 : Value).ownBlock ∧ some k_ ≠ (.slice Ao35 t501.length co35 : Value).ownBlock) (.slice Ao34 y498.length co34) y504 := (by rw [Ny504.out]; exact ho); clear ho; have n0_ := Aside0.mk (Kd.R_after (v := (.slice Ao34 y498.length co34)) (v1 := (.slice Ao34 y498.length co34)) (ok := (fun k_ => some k_ ≠ (.slice Ao35 t501.length co35 : Value).ownBlock)) (by (with_reducible repeat (first | apply Kd.R_alloc | apply Kd.R_drewN | apply Kd.R_drew)); exact Kd.R_mono HO497.out (fun _ hk => ⟨hk.2, hk.1.2⟩)) hg (.inl rfl)); have n1_ := Aside0.mk (hp_); have n2_ := Aside0.mk (Kd.R_after (v := (.slice Ao34 y498.length co34)) (v1 := (.slice Ao34 y498.length co34)) (ok := (fun k_ => some k_ ≠ (.slice Ao28 t495.length co28 : Value).ownBlock)) (by (with_reducible repeat (first | apply Kd.R_alloc | apply Kd.R_drewN | apply Kd.R_drew)); exact Kd.R_mono HO503.out (fun _ hk => ⟨hk.1.2, hk.2⟩)) hg (.inl rfl)); have n3_ := Aside0.mk (hb); clear HO497; clear HO500; clear HO503; clear HB; have HO497 := n0_; have HO500 := n1_; have HO503 := n2_; have HB := n3_; clear n0_ n1_ n2_ n3_; clear hp_ hb hg) | ((with_reducible refine gate_dst (N := 76) rfl ?_); refine Kd.R_make (Kd.int .u64) _ 36 rfl (N := 76) rfl 24 _ _ rfl ji24 rfl rfl Try.underlying24 (.int .u64 0) 8 info36 rfl (by decide) (by omega) 0 (ok := fun _ => True) (okp := fun _ => True) rfl (fun _ hk => hk) trivial (of_decide_eq_true (by first | (with_reducible assumption) | assumption)) (Nat.le_trans (Nat.mul_le_mul_right _ (of_decide_eq_true (by first | (with_reducible assumption) | assumption) : ji24.toNat ≤ 35184372088832)) (by omega)) (Below.refl _ _) (Nat.le_refl _) ?_; intro v506 w36 ho37 hb hg_ hnew_; clear hg_ hnew_; (first | rw [← Ny505.out] at ho37 | (simp only [Int.reduceToNat] at ho37; rw [← Ny505.out] at ho37)); have n0_ := Aside0.mk (Kd.R_elder' (by (with_reducible repeat (first | apply Kd.R_alloc | apply Kd.R_drewN | apply Kd.R_drew)); exact HO497.out) (Kd.R_base ho37) hb); have n1_ := Aside0.mk (Kd.R_elder' (by (with_reducible repeat (first | apply Kd.R_alloc | apply Kd.R_drewN | apply Kd.R_drew)); exact HO500.out) (Kd.R_base ho37) hb); have n2_ := Aside0.mk (Kd.R_elder' (by (with_reducible repeat (first | apply Kd.R_alloc | apply Kd.R_drewN | apply Kd.R_drew)); exact HO503.out) (Kd.R_base ho37) hb); have n3_ := Aside0.mk (Kd.R_lower (Kd.R_new' (Kd.R_new' (Kd.R_new' ho37 (Kd.R_lt (by (with_reducible repeat (first | apply Kd.R_alloc | apply Kd.R_drewN | apply Kd.R_drew)); exact HO497.out))) (Kd.R_lt (by (with_reducible repeat (first | apply Kd.R_alloc | apply Kd.R_drewN | apply Kd.R_drew)); exact HO500.out))) (Kd.R_lt (by (with_reducible repeat (first | apply Kd.R_alloc | apply Kd.R_drewN | apply Kd.R_drew)); exact HO503.out))) (below_size (by repeat (first | (with_reducible first | exact HB.out | apply below_alloc | apply pw_below_drewN | apply below_drew1) | exact HB.out)))); have n4_ := Aside0.mk (below_step (by repeat (first | (with_reducible first | exact HB.out | apply below_alloc | apply pw_below_drewN | apply below_drew1) | exact HB.out)) hb); clear HO497; clear HO500; clear HO503; clear HB; have HO497 := n0_; have HO500 := n1_; have HO503 := n2_; have HO507 := n3_; have HB := n4_; clear n0_ n1_ n2_ n3_ n4_; clear hb ho37))
         go_loopg [13] k (fun kq v13 w' => ∃ (x11_1 : List Int) (x12_1 : List Int) (x13_1 : Int), v13 = .int .i64 x13_1 ∧ Aside0 (impl_nat_div.l0 kq t494 t495 (t495.length : Int) x11_1 x12_1 x13_1 = some (r1, r2)) ∧ Aside0 (kq ≤ k) ∧ Aside0 (Kd.R (Kd.int .u64) 36 w' w.heap.size (fun k_ => some k_ ≠ ((.slice Ao34 y498.length co34) : Value).ownBlock ∧ some k_ ≠ (v506 : Value).ownBlock) (.slice Ao28 t495.length co28) t495) ∧ Aside0 (Kd.R (Kd.int .u64) 36 w' w.heap.size (fun k_ => some k_ ≠ ((.slice Ao28 t495.length co28) : Value).ownBlock ∧ some k_ ≠ (v506 : Value).ownBlock) (.slice Ao34 y498.length co34) x11_1) ∧ Aside0 (Kd.R (Kd.int .u64) 36 w' w.heap.size (fun k_ => some k_ ≠ ((.slice Ao28 t495.length co28) : Value).ownBlock ∧ some k_ ≠ ((.slice Ao34 y498.length co34) : Value).ownBlock) v506 x12_1) ∧ Aside0 (Below w.heap.size w w'))
         case atStart => exact ⟨(y504), (y505), (wrap64 ((l0.length : Int) - (t495.length : Int))), (by first | rfl | (simp; done) | (simp [*]; done)), H', ⟨Nat.le_refl _⟩, ⟨by (with_reducible repeat (first | apply Kd.R_alloc | apply Kd.R_drewN | apply Kd.R_drew)); exact Kd.R_mono HO497.out (fun _ hk => ⟨hk.1.2, hk.2⟩)⟩, ⟨by (with_reducible repeat (first | apply Kd.R_alloc | apply Kd.R_drewN | apply Kd.R_drew)); exact Kd.R_mono HO500.out (fun _ hk => ⟨hk.1.1, hk.2⟩)⟩, ⟨by (with_reducible repeat (first | apply Kd.R_alloc | apply Kd.R_drewN | apply Kd.R_drew)); exact Kd.R_mono HO507.out (fun _ hk => ⟨hk.1.1.2, hk.1.2⟩)⟩, ⟨by repeat (first | (with_reducible first | exact HB.out | apply below_alloc | apply pw_below_drewN | apply below_drew1) | exact HB.out)⟩⟩
         case round =>
          as_aux_lemma =>
           clear H'
           try clear c1; try clear c2; try clear p2; try clear c4; try clear c4b0; try clear p4; try clear q4; try clear hx4; try clear qi4; try clear c5; try clear p6; try clear c7; try clear c9; try clear c9b0; try clear c9b1; try clear c10; try clear c10b0; try clear c10b1; try clear c16; try clear c16b0; try clear c17; try clear c17b0; try clear c21; try clear c21b0; try clear c21b1; try clear c22; try clear c22b0; try clear c22b1; try clear c25; try clear c25b0; try clear c25b1; try clear c26; try clear c26b0; try clear c26b1; try clear hx485_0; try clear hx493_0; try clear p485; try clear p493; try clear q485; try clear q493
           obtain ⟨x11_1, x12_1, x13_1, rfl, HA, HK1, HO_9, HO_11, HO_12, HB⟩ := hrel
           have hl11_1 := (Kd.R_reads' HO_11.out).1
           rw [hl11_1] at HO_11
           (try simp only [hl11_1])
           (try simp only [hl11_1] at HO_9)
           (try simp only [hl11_1] at HO_12)
           cases gk with
           | zero => exact absurd HA.out (by simp [impl_nat_div.l0])
           | succ k1 =>
            have H := HA.out
            clear HA
            simp only [impl_nat_div.l0] at H
            by_cases c38 : x13_1 ≥ 0
            ·rw [if_pos c38] at H
             have c38b0 : decide (0 ≤ x13_1) = true := decide_eq_true c38
             clear c38
             obtain ⟨ji39, hji39⟩ : ∃ j_ : Int, (wrap64 (x13_1 + (t495.length : Int))) = j_ := ⟨_, rfl⟩
             replace H : (if 0 ≤ (ji39) then (if (ji39) < (x11_1.length : Int) then (if 0 ≤ (wrap64 ((t495.length : Int) - 1)) then (if (wrap64 ((t495.length : Int) - 1)) < (t495.length : Int) then (if (rd x11_1 (ji39)) < (rd t495 (wrap64 ((t495.length : Int) - 1))) then (if 0 ≤ (wrap64 ((ji39) - 1)) then (if (wrap64 ((ji39) - 1)) < (x11_1.length : Int) then ((bits_Div64.f k1 (rd x11_1 (ji39)) (rd x11_1 (wrap64 ((ji39) - 1))) (rd t495 (wrap64 ((t495.length : Int) - 1)))).bind fun bt522 => (impl_nat_div.j1 k1 t494 t495 (t495.length : Int) x11_1 x12_1 x13_1 bt522.1 bt522.2 false)) else (none)) else (none)) else (if 0 ≤ (wrap64 ((ji39) - 1)) then (if (wrap64 ((ji39) - 1)) < (x11_1.length : Int) then (impl_nat_div.j1 k1 t494 t495 (t495.length : Int) x11_1 x12_1 x13_1 18446744073709551615 (add64s (rd x11_1 (wrap64 ((ji39) - 1))) (rd t495 (wrap64 ((t495.length : Int) - 1))) 0) (decide ((add64s (rd x11_1 (wrap64 ((ji39) - 1))) (rd t495 (wrap64 ((t495.length : Int) - 1))) 0) < (rd t495 (wrap64 ((t495.length : Int) - 1)))))) else (none)) else (none))) else (none)) else (none)) else (none)) else (none)) = some (r1, r2) := by first | (rw [hji39] at H; exact H) | (simp only [hji39] at H ⊢; exact H)
             have hji39w : (IntKind.i64.wrap (x13_1 + (t495.length : Int))) = ji39 := (i64_w _).trans hji39
             by_cases c40 : 0 ≤ (ji39)
             ·rw [if_pos c40] at H
              have c40b0 : decide (0 ≤ (ji39)) = true := decide_eq_true c40
              clear c40
              by_cases c41 : (ji39) < (x11_1.length : Int)
              ·rw [if_pos c41] at H
               have c41b0 : decide ((ji39) < (x11_1.length : Int)) = true := decide_eq_true c41
               clear c41
               obtain ⟨ji42, hji42⟩ : ∃ j_ : Int, (wrap64 ((t495.length : Int) - 1)) = j_ := ⟨_, rfl⟩
               replace H : (if 0 ≤ (ji42) then (if (ji42) < (t495.length : Int) then (if (rd x11_1 (ji39)) < (rd t495 (ji42)) then (if 0 ≤ (wrap64 ((ji39) - 1)) then (if (wrap64 ((ji39) - 1)) < (x11_1.length : Int) then ((bits_Div64.f k1 (rd x11_1 (ji39)) (rd x11_1 (wrap64 ((ji39) - 1))) (rd t495 (ji42))).bind fun bt522 => (impl_nat_div.j1 k1 t494 t495 (t495.length : Int) x11_1 x12_1 x13_1 bt522.1 bt522.2 false)) else (none)) else (none)) else (if 0 ≤ (wrap64 ((ji39) - 1)) then (if (wrap64 ((ji39) - 1)) < (x11_1.length : Int) then (impl_nat_div.j1 k1 t494 t495 (t495.length : Int) x11_1 x12_1 x13_1 18446744073709551615 (add64s (rd x11_1 (wrap64 ((ji39) - 1))) (rd t495 (ji42)) 0) (decide ((add64s (rd x11_1 (wrap64 ((ji39) - 1))) (rd t495 (ji42)) 0) < (rd t495 (ji42))))) else (none)) else (none))) else (none)) else (none)) = some (r1, r2) := by first | (rw [hji42] at H; exact H) | (simp only [hji42] at H ⊢; exact H)
               have hji42w : (IntKind.i64.wrap ((t495.length : Int) - 1)) = ji42 := (i64_w _).trans hji42
               by_cases c43 : 0 ≤ (ji42)
               ·rw [if_pos c43] at H
                have c43b0 : decide (0 ≤ (ji42)) = true := decide_eq_true c43
                clear c43
                by_cases c44 : (ji42) < (t495.length : Int)
                ·rw [if_pos c44] at H
                 have c44b0 : decide ((ji42) < (t495.length : Int)) = true := decide_eq_true c44
                 clear c44
                 have HC45 := Aside0.mk H
                 clear H
                 have p517 : 0 ≤ ((ji39) : Int) := of_decide_eq_true (by first | (with_reducible assumption) | assumption)
                 have q517 : (ji39) < (x11_1.length : Int) := of_decide_eq_true (by first | (with_reducible assumption) | assumption)
                 obtain ⟨ad517, e517, hx517_0⟩ := Kd.at_int (Kd.R_reads' HO_11.out).2.2 (ji39) p517 q517
                 cases e517
                 replace p517 := eq_true p517
                 replace q517 := eq_true q517
                 have p518 : 0 ≤ ((ji42) : Int) := of_decide_eq_true (by first | (with_reducible assumption) | assumption)
                 have q518 : (ji42) < (t495.length : Int) := of_decide_eq_true (by first | (with_reducible assumption) | assumption)
                 obtain ⟨ad518, e518, hx518_0⟩ := Kd.at_int (Kd.R_reads' HO_9.out).2.2 (ji42) p518 q518
                 cases e518
                 replace p518 := eq_true p518
                 replace q518 := eq_true q518
                 go_upto_if 96 with (go_step3)
                 repeat (go_quiet (fail); go_upto_if 96 with (go_step3))
                 go_cut [14, 15, 16] (fun v14 v15 v16 wc => ∃ (kq : Nat) (x14_44 : Int) (x15_44 : Int) (x16_44 : Bool), v14 = .int .u64 x14_44 ∧ v15 = .int .u64 x15_44 ∧ v16 = .bool x16_44 ∧ Aside0 (impl_nat_div.j1 kq t494 t495 (t495.length : Int) x11_1 x12_1 x13_1 x14_44 x15_44 x16_44 = some (r1, r2)) ∧ Aside0 (kq ≤ k1) ∧ Aside0 (Kd.R (Kd.int .u64) 36 wc w.heap.size (fun k_ => some k_ ≠ ((.slice (some ad517) x11_1.length co34) : Value).ownBlock ∧ some k_ ≠ (v506 : Value).ownBlock) (.slice (some ad518) t495.length co28) t495) ∧ Aside0 (Kd.R (Kd.int .u64) 36 wc w.heap.size (fun k_ => some k_ ≠ ((.slice (some ad518) t495.length co28) : Value).ownBlock ∧ some k_ ≠ (v506 : Value).ownBlock) (.slice (some ad517) x11_1.length co34) x11_1) ∧ Aside0 (Kd.R (Kd.int .u64) 36 wc w.heap.size (fun k_ => some k_ ≠ ((.slice (some ad518) t495.length co28) : Value).ownBlock ∧ some k_ ≠ ((.slice (some ad517) x11_1.length co34) : Value).ownBlock) v506 x12_1) ∧ Aside0 (Below w.heap.size w wc))
                 case first =>
                  as_aux_lemma =>
                   have H := HC45.out
                   clear HC45
                   by_cases c46 : (rd x11_1 (ji39)) < (rd t495 (ji42))
                   ·rw [if_pos c46] at H
                    have c46b0 : decide ((rd x11_1 (ji39)) < (rd t495 (ji42))) = true := decide_eq_true c46
                    clear c46
                    (first | rw [c46b0] | (simp only [i64_w, i32_w]; rw [c46b0]) | rw [c46b1] | (simp only [c46b1]) | skip)
                    obtain ⟨ji47, hji47⟩ : ∃ j_ : Int, (wrap64 ((ji39) - 1)) = j_ := ⟨_, rfl⟩
                    replace H : (if 0 ≤ (ji47) then (if (ji47) < (x11_1.length : Int) then ((bits_Div64.f k1 (rd x11_1 (ji39)) (rd x11_1 (ji47)) (rd t495 (ji42))).bind fun bt522 => (impl_nat_div.j1 k1 t494 t495 (t495.length : Int) x11_1 x12_1 x13_1 bt522.1 bt522.2 false)) else (none)) else (none)) = some (r1, r2) := by first | (rw [hji47] at H; exact H) | (simp only [hji47] at H ⊢; exact H)
                    have hji47w : (IntKind.i64.wrap ((ji39) - 1)) = ji47 := (i64_w _).trans hji47
                    by_cases c48 : 0 ≤ (ji47)
                    ·rw [if_pos c48] at H
                     have c48b0 : decide (0 ≤ (ji47)) = true := decide_eq_true c48
                     clear c48
                     by_cases c49 : (ji47) < (x11_1.length : Int)
                     ·rw [if_pos c49] at H
                      have c49b0 : decide ((ji47) < (x11_1.length : Int)) = true := decide_eq_true c49
                      clear c49
                      replace H := Option.bind_eq_some_iff.mp H
                      obtain ⟨⟨t522, t523⟩, A500, H⟩ := H
                      replace H : (impl_nat_div.j1 k1 t494 t495 (t495.length : Int) x11_1 x12_1 x13_1 t522 t523 false) = some (r1, r2) := H
                      have A50 := Aside0.mk A500
                      clear A500
                      have H' := Aside0.mk H
                      clear H
                      have p519 : 0 ≤ ((ji39) : Int) := of_decide_eq_true (by first | (with_reducible assumption) | assumption)
                      have q519 : (ji39) < (x11_1.length : Int) := of_decide_eq_true (by first | (with_reducible assumption) | assumption)
                      obtain ⟨ad519, e519, hx519_0⟩ := Kd.at_int (Kd.R_reads' HO_11.out).2.2 (ji39) p519 q519
                      obtain rfl : ad517 = ad519 := (by injection e519)
                      replace p519 := eq_true p519
                      replace q519 := eq_true q519
                      have p520 : 0 ≤ ((ji47) : Int) := of_decide_eq_true (by first | (with_reducible assumption) | assumption)
                      have q520 : (ji47) < (x11_1.length : Int) := of_decide_eq_true (by first | (with_reducible assumption) | assumption)
                      obtain ⟨ad520, e520, hx520_0⟩ := Kd.at_int (Kd.R_reads' HO_11.out).2.2 (ji47) p520 q520
                      obtain rfl : ad517 = ad520 := (by injection e520)
                      replace p520 := eq_true p520
                      replace q520 := eq_true q520
                      have p521 : 0 ≤ ((ji42) : Int) := of_decide_eq_true (by first | (with_reducible assumption) | assumption)
                      have q521 : (ji42) < (t495.length : Int) := of_decide_eq_true (by first | (with_reducible assumption) | assumption)
                      obtain ⟨ad521, e521, hx521_0⟩ := Kd.at_int (Kd.R_reads' HO_9.out).2.2 (ji42) p521 q521
                      obtain rfl : ad518 = ad521 := (by injection e521)
                      replace p521 := eq_true p521
                      replace q521 := eq_true q521
                      go_wp2_with (first | go_step3 | (go_at_call 97; (with_reducible refine (bits_Div64.calls k1 (rd x11_1 (ji39)) (rd x11_1 (ji47)) (rd t495 (ji42)) t522 t523 _ A50.out).mono ?_); rintro e w' ⟨rfl, ⟨nd, rfl⟩⟩; (try first | exact ⟨rfl, _, World.drewN_drewN _ _ _⟩ | exact ⟨rfl, _, Eq.trans (World.drewN_drewN _ _ _) (congrArg (World.drewN _) (Nat.add_assoc _ _ _))⟩)))
                      repeat (go_quiet (first | (go_at_call 97; (with_reducible refine (bits_Div64.calls k1 (rd x11_1 (ji39)) (rd x11_1 (ji47)) (rd t495 (ji42)) t522 t523 _ A50.out).mono ?_); rintro e w' ⟨rfl, ⟨nd, rfl⟩⟩; (try first | exact ⟨rfl, _, World.drewN_drewN _ _ _⟩ | exact ⟨rfl, _, Eq.trans (World.drewN_drewN _ _ _) (congrArg (World.drewN _) (Nat.add_assoc _ _ _))⟩))); try go_wp2_with (first | go_step3 | (go_at_call 97; (with_reducible refine (bits_Div64.calls k1 (rd x11_1 (ji39)) (rd x11_1 (ji47)) (rd t495 (ji42)) t522 t523 _ A50.out).mono ?_); rintro e w' ⟨rfl, ⟨nd, rfl⟩⟩; (try first | exact ⟨rfl, _, World.drewN_drewN _ _ _⟩ | exact ⟨rfl, _, Eq.trans (World.drewN_drewN _ _ _) (congrArg (World.drewN _) (Nat.add_assoc _ _ _))⟩))))
                      (try simp only [Exit.noGoto_ret, Exit.noGoto_normal, Exit.noGoto_exit]); go_meet
                      case rel => exact ⟨_, (t522), (t523), (false), (by first | rfl | (simp; done) | (simp [*]; done)), (by first | rfl | (simp; done) | (simp [*]; done)), (by first | rfl | (simp; done) | (simp [*]; done)), H', ⟨by have := HK1.out; first | omega | exact Nat.le_refl _⟩, ⟨by (try simp only [hl11_1]); (with_reducible repeat (first | apply Kd.R_alloc | apply Kd.R_drewN | apply Kd.R_drew)); exact HO_9.out⟩, ⟨by (try simp only [hl11_1]); (with_reducible repeat (first | apply Kd.R_alloc | apply Kd.R_drewN | apply Kd.R_drew)); exact HO_11.out⟩, ⟨by (try simp only [hl11_1]); (with_reducible repeat (first | apply Kd.R_alloc | apply Kd.R_drewN | apply Kd.R_drew)); exact HO_12.out⟩, ⟨by repeat (first | (with_reducible first | exact HB.out | apply below_alloc | apply pw_below_drewN | apply below_drew1) | exact HB.out)⟩⟩
                     ·rw [if_neg c49] at H
                      exact absurd H (by simp)
                    ·rw [if_neg c48] at H
                     exact absurd H (by simp)
                   ·rw [if_neg c46] at H
                    have c46b0 : decide ((rd x11_1 (ji39)) < (rd t495 (ji42))) = false := decide_eq_false c46
                    clear c46
                    (first | rw [c46b0] | (simp only [i64_w, i32_w]; rw [c46b0]) | rw [c46b1] | (simp only [c46b1]) | skip)
                    obtain ⟨ji51, hji51⟩ : ∃ j_ : Int, (wrap64 ((ji39) - 1)) = j_ := ⟨_, rfl⟩
                    replace H : (if 0 ≤ (ji51) then (if (ji51) < (x11_1.length : Int) then (impl_nat_div.j1 k1 t494 t495 (t495.length : Int) x11_1 x12_1 x13_1 18446744073709551615 (add64s (rd x11_1 (ji51)) (rd t495 (ji42)) 0) (decide ((add64s (rd x11_1 (ji51)) (rd t495 (ji42)) 0) < (rd t495 (ji42))))) else (none)) else (none)) = some (r1, r2) := by first | (rw [hji51] at H; exact H) | (simp only [hji51] at H ⊢; exact H)
                    have hji51w : (IntKind.i64.wrap ((ji39) - 1)) = ji51 := (i64_w _).trans hji51
                    by_cases c52 : 0 ≤ (ji51)
                    ·rw [if_pos c52] at H
                     have c52b0 : decide (0 ≤ (ji51)) = true := decide_eq_true c52
                     clear c52
                     by_cases c53 : (ji51) < (x11_1.length : Int)
                     ·rw [if_pos c53] at H
                      have c53b0 : decide ((ji51) < (x11_1.length : Int)) = true := decide_eq_true c53
                      clear c53
                      have H' := Aside0.mk H
                      clear H
                      have p524 : 0 ≤ ((ji51) : Int) := of_decide_eq_true (by first | (with_reducible assumption) | assumption)
                      have q524 : (ji51) < (x11_1.length : Int) := of_decide_eq_true (by first | (with_reducible assumption) | assumption)
                      obtain ⟨ad524, e524, hx524_0⟩ := Kd.at_int (Kd.R_reads' HO_11.out).2.2 (ji51) p524 q524
                      obtain rfl : ad517 = ad524 := (by injection e524)
                      replace p524 := eq_true p524
                      replace q524 := eq_true q524
                      have p525 : 0 ≤ ((ji42) : Int) := of_decide_eq_true (by first | (with_reducible assumption) | assumption)
                      have q525 : (ji42) < (t495.length : Int) := of_decide_eq_true (by first | (with_reducible assumption) | assumption)
                      obtain ⟨ad525, e525, hx525_0⟩ := Kd.at_int (Kd.R_reads' HO_9.out).2.2 (ji42) p525 q525
                      obtain rfl : ad518 = ad525 := (by injection e525)
                      replace p525 := eq_true p525
                      replace q525 := eq_true q525
                      have p526 : 0 ≤ ((ji42) : Int) := of_decide_eq_true (by first | (with_reducible assumption) | assumption)
                      have q526 : (ji42) < (t495.length : Int) := of_decide_eq_true (by first | (with_reducible assumption) | assumption)
                      obtain ⟨ad526, e526, hx526_0⟩ := Kd.at_int (Kd.R_reads' HO_9.out).2.2 (ji42) p526 q526
                      obtain rfl : ad518 = ad526 := (by injection e526)
                      replace p526 := eq_true p526
                      replace q526 := eq_true q526
                      go_wp2_with (go_step3)
                      repeat (go_quiet (fail); try go_wp2_with (go_step3))
                      (try simp only [Exit.noGoto_ret, Exit.noGoto_normal, Exit.noGoto_exit]); go_meet
                      case rel => exact ⟨_, (18446744073709551615), (add64s (rd x11_1 (ji51)) (rd t495 (ji42)) 0), (decide ((add64s (rd x11_1 (ji51)) (rd t495 (ji42)) 0) < (rd t495 (ji42)))), (by first | rfl | (simp; done) | (simp [*]; done)), (by first | rfl | (simp; done) | (simp only [← hji42, ← hji51] <;> (first | rfl | simp)) | (simp [*]; done)), (by first | rfl | (simp; done) | (simp only [← hji42, ← hji51] <;> (first | rfl | simp)) | (simp [*]; done)), H', ⟨by have := HK1.out; first | omega | exact Nat.le_refl _⟩, ⟨by (try simp only [hl11_1]); (with_reducible repeat (first | apply Kd.R_alloc | apply Kd.R_drewN | apply Kd.R_drew)); exact HO_9.out⟩, ⟨by (try simp only [hl11_1]); (with_reducible repeat (first | apply Kd.R_alloc | apply Kd.R_drewN | apply Kd.R_drew)); exact HO_11.out⟩, ⟨by (try simp only [hl11_1]); (with_reducible repeat (first | apply Kd.R_alloc | apply Kd.R_drewN | apply Kd.R_drew)); exact HO_12.out⟩, ⟨by repeat (first | (with_reducible first | exact HB.out | apply below_alloc | apply pw_below_drewN | apply below_drew1) | exact HB.out)⟩⟩
                     ·rw [if_neg c53] at H
                      exact absurd H (by simp)
                    ·rw [if_neg c52] at H
                     exact absurd H (by simp)
                 case rest =>
                  as_aux_lemma =>
                   clear HC45
                   try clear c1; try clear c2; try clear p2; try clear c3; try clear c4; try clear c4b0; try clear p4; try clear q4; try clear hx4; try clear qi4; try clear c5; try clear p5; try clear q5; try clear hx5; try clear p6; try clear c7; try clear c9; try clear c9b0; try clear c9b1; try clear c10; try clear c10b0; try clear c10b1; try clear c16; try clear c16b0; try clear c17; try clear c17b0; try clear c21; try clear c21b0; try clear c21b1; try clear c22; try clear c22b0; try clear c22b1; try clear c25; try clear c25b0; try clear c25b1; try clear c26; try clear c26b0; try clear c26b1; try clear c38; try clear c38b0; try clear c40; try clear c40b0; try clear c41; try clear c41b0; try clear c43; try clear c43b0; try clear c44; try clear c44b0; try clear c46; try clear c46b0; try clear c46b1; try clear c48; try clear c48b0; try clear p48; try clear q48; try clear hx48; try clear qi48; try clear c49; try clear c49b0; try clear p49; try clear q49; try clear hx49; try clear p51; try clear q51; try clear hx51; try clear c52; try clear c52b0; try clear p52; try clear q52; try clear hx52; try clear c53; try clear c53b0; try clear hx485_0; try clear hx493_0; try clear hx517_0; try clear hx518_0; try clear hx519_0; try clear hx520_0; try clear hx521_0; try clear hx524_0; try clear hx525_0; try clear hx526_0; try clear p2; try clear p4; try clear p485; try clear p493; try clear p517; try clear p518; try clear p519; try clear p520; try clear p521; try clear p524; try clear p525; try clear p526; try clear p6; try clear q4; try clear q485; try clear q493; try clear q517; try clear q518; try clear q519; try clear q520; try clear q521; try clear q524; try clear q525; try clear q526
                   obtain ⟨kq, x14_44, x15_44, x16_44, rfl, rfl, rfl, HA, HJ44, HO_9, HO_11, HO_12, HB⟩ := hcut
                   cases kq with
                   | zero => exact absurd HA.out (by simp [impl_nat_div.j1])
                   | succ kj44 =>
                    have H := HA.out
                    clear HA
                    simp only [impl_nat_div.j1] at H
                    have HC54 := Aside0.mk H
                    clear H
                    go_upto_block 2 with (go_step3)
                    repeat (go_quiet (fail); go_upto_block 2 with (go_step3))
                    go_cut [14] (fun v14 wc => ∃ (kq : Nat) (x14_53 : Int), v14 = .int .u64 x14_53 ∧ Aside0 (impl_nat_div.j3 kq t494 t495 (t495.length : Int) x11_1 x12_1 x13_1 x14_53 = some (r1, r2)) ∧ Aside0 (kq ≤ kj44) ∧ Aside0 (Kd.R (Kd.int .u64) 36 wc w.heap.size (fun k_ => some k_ ≠ ((.slice (some ad517) x11_1.length co34) : Value).ownBlock ∧ some k_ ≠ (v506 : Value).ownBlock) (.slice (some ad518) t495.length co28) t495) ∧ Aside0 (Kd.R (Kd.int .u64) 36 wc w.heap.size (fun k_ => some k_ ≠ ((.slice (some ad518) t495.length co28) : Value).ownBlock ∧ some k_ ≠ (v506 : Value).ownBlock) (.slice (some ad517) x11_1.length co34) x11_1) ∧ Aside0 (Kd.R (Kd.int .u64) 36 wc w.heap.size (fun k_ => some k_ ≠ ((.slice (some ad518) t495.length co28) : Value).ownBlock ∧ some k_ ≠ ((.slice (some ad517) x11_1.length co34) : Value).ownBlock) v506 x12_1) ∧ Aside0 (Below w.heap.size w wc))
                    case first =>
                     as_aux_lemma =>
                      have H := HC54.out
                      clear HC54
                      have H' := Aside0.mk H
                      clear H
                      go_wp2_with (go_step3)
                      repeat (go_quiet (fail); try go_wp2_with (go_step3))
                      go_loopg [14, 15, 16] kj44 (fun kq v14 v15 v16 w' => ∃ (x14_3 : Int) (x15_3 : Int) (x16_3 : Bool), v14 = .int .u64 x14_3 ∧ v15 = .int .u64 x15_3 ∧ v16 = .bool x16_3 ∧ Aside0 (impl_nat_div.l1 kq t494 t495 (t495.length : Int) x11_1 x12_1 x13_1 x14_3 x15_3 x16_3 = some (r1, r2)) ∧ Aside0 (kq ≤ kj44) ∧ Aside0 (Kd.R (Kd.int .u64) 36 w' w.heap.size (fun k_ => some k_ ≠ ((.slice (some ad517) x11_1.length co34) : Value).ownBlock ∧ some k_ ≠ (v506 : Value).ownBlock) (.slice (some ad518) t495.length co28) t495) ∧ Aside0 (Kd.R (Kd.int .u64) 36 w' w.heap.size (fun k_ => some k_ ≠ ((.slice (some ad518) t495.length co28) : Value).ownBlock ∧ some k_ ≠ (v506 : Value).ownBlock) (.slice (some ad517) x11_1.length co34) x11_1) ∧ Aside0 (Kd.R (Kd.int .u64) 36 w' w.heap.size (fun k_ => some k_ ≠ ((.slice (some ad518) t495.length co28) : Value).ownBlock ∧ some k_ ≠ ((.slice (some ad517) x11_1.length co34) : Value).ownBlock) v506 x12_1) ∧ Aside0 (Below w.heap.size w w'))
                      case atStart => exact ⟨(x14_44), (x15_44), (x16_44), (by first | rfl | (simp; done) | (simp [*]; done)), (by first | rfl | (simp; done) | (simp [*]; done)), (by first | rfl | (simp; done) | (simp [*]; done)), H', ⟨Nat.le_refl _⟩, ⟨by (try simp only [hl11_1]); (with_reducible repeat (first | apply Kd.R_alloc | apply Kd.R_drewN | apply Kd.R_drew)); exact HO_9.out⟩, ⟨by (try simp only [hl11_1]); (with_reducible repeat (first | apply Kd.R_alloc | apply Kd.R_drewN | apply Kd.R_drew)); exact HO_11.out⟩, ⟨by (try simp only [hl11_1]); (with_reducible repeat (first | apply Kd.R_alloc | apply Kd.R_drewN | apply Kd.R_drew)); exact HO_12.out⟩, ⟨by repeat (first | (with_reducible first | exact HB.out | apply below_alloc | apply pw_below_drewN | apply below_drew1) | exact HB.out)⟩⟩
                      case round =>
                       as_aux_lemma =>
                        clear H'
                        try clear c1; try clear c2; try clear p2; try clear c3; try clear c4; try clear c4b0; try clear p4; try clear q4; try clear hx4; try clear qi4; try clear c5; try clear p5; try clear q5; try clear hx5; try clear p6; try clear c7; try clear c9; try clear c9b0; try clear c9b1; try clear c10; try clear c10b0; try clear c10b1; try clear c16; try clear c16b0; try clear c17; try clear c17b0; try clear c21; try clear c21b0; try clear c21b1; try clear c22; try clear c22b0; try clear c22b1; try clear c25; try clear c25b0; try clear c25b1; try clear c26; try clear c26b0; try clear c26b1; try clear c38; try clear c38b0; try clear c40; try clear c40b0; try clear c41; try clear c41b0; try clear c43; try clear c43b0; try clear c44; try clear c44b0; try clear c46; try clear c46b0; try clear c46b1; try clear c48; try clear c48b0; try clear p48; try clear q48; try clear hx48; try clear qi48; try clear c49; try clear c49b0; try clear p49; try clear q49; try clear hx49; try clear p51; try clear q51; try clear hx51; try clear c52; try clear c52b0; try clear p52; try clear q52; try clear hx52; try clear c53; try clear c53b0; try clear hx485_0; try clear hx493_0; try clear hx517_0; try clear hx518_0; try clear hx519_0; try clear hx520_0; try clear hx521_0; try clear hx524_0; try clear hx525_0; try clear hx526_0; try clear p2; try clear p4; try clear p48; try clear p485; try clear p49; try clear p493; try clear p5; try clear p51; try clear p517; try clear p518; try clear p519; try clear p52; try clear p520; try clear p521; try clear p524; try clear p525; try clear p526; try clear p6; try clear q4; try clear q48; try clear q485; try clear q49; try clear q493; try clear q5; try clear q51; try clear q517; try clear q518; try clear q519; try clear q52; try clear q520; try clear q521; try clear q524; try clear q525; try clear q526
                        obtain ⟨x14_3, x15_3, x16_3, rfl, rfl, rfl, HA, HK3, HO_9, HO_11, HO_12, HB⟩ := hrel
                        cases gk with
                        | zero => exact absurd HA.out (by simp [impl_nat_div.l1])
                        | succ k3 =>
                         have H := HA.out
                         clear HA
                         simp only [impl_nat_div.l1] at H
                         by_cases c55 : x16_3 = true
                         ·subst c55
                          have H1 : (impl_nat_div.j3 k3 t494 t495 (t495.length : Int) x11_1 x12_1 x13_1 x14_3) = some (r1, r2) := by rw [if_pos rfl] at H; exact H
                          clear H
                          have H := H1
                          clear H1
                          have H' := Aside0.mk H
                          clear H
                          go_wp2_with (go_step3)
                          repeat (go_quiet (fail); try go_wp2_with (go_step3))
                          (try simp only [Exit.noGoto_ret, Exit.noGoto_normal, Exit.noGoto_exit]); go_meet
                          case rel => exact ⟨_, (x14_3), (by first | rfl | (simp; done) | (simp [*]; done)), H', ⟨by have := HK1.out; have := HJ44.out; have := HK3.out; first | omega | exact Nat.le_refl _⟩, ⟨by (try simp only [hl11_1]); (with_reducible repeat (first | apply Kd.R_alloc | apply Kd.R_drewN | apply Kd.R_drew)); exact HO_9.out⟩, ⟨by (try simp only [hl11_1]); (with_reducible repeat (first | apply Kd.R_alloc | apply Kd.R_drewN | apply Kd.R_drew)); exact HO_11.out⟩, ⟨by (try simp only [hl11_1]); (with_reducible repeat (first | apply Kd.R_alloc | apply Kd.R_drewN | apply Kd.R_drew)); exact HO_12.out⟩, ⟨by repeat (first | (with_reducible first | exact HB.out | apply below_alloc | apply pw_below_drewN | apply below_drew1) | exact HB.out)⟩⟩
                         ·replace c55 := Bool.eq_false_iff.mpr c55
                          subst c55
                          have H1 : (if 0 ≤ (wrap64 ((t495.length : Int) - 2)) then (if (wrap64 ((t495.length : Int) - 2)) < (t495.length : Int) then ((bits_Mul64.f x14_3 (rd t495 (wrap64 ((t495.length : Int) - 2)))).bind fun bt528 => (if bt528.1 < x15_3 then (impl_nat_div.j3 k3 t494 t495 (t495.length : Int) x11_1 x12_1 x13_1 x14_3) else (if bt528.1 = x15_3 then (if 0 ≤ (wrap64 ((wrap64 (x13_1 + (t495.length : Int))) - 2)) then (if (wrap64 ((wrap64 (x13_1 + (t495.length : Int))) - 2)) < (x11_1.length : Int) then (if bt528.2 ≤ (rd x11_1 (wrap64 ((wrap64 (x13_1 + (t495.length : Int))) - 2))) then (impl_nat_div.j3 k3 t494 t495 (t495.length : Int) x11_1 x12_1 x13_1 x14_3) else (if 0 ≤ (wrap64 ((t495.length : Int) - 1)) then (if (wrap64 ((t495.length : Int) - 1)) < (t495.length : Int) then (impl_nat_div.l1 k3 t494 t495 (t495.length : Int) x11_1 x12_1 x13_1 (IntKind.u64.wrap (x14_3 - 1)) (IntKind.u64.wrap (x15_3 + (rd t495 (wrap64 ((t495.length : Int) - 1))))) (decide ((IntKind.u64.wrap (x15_3 + (rd t495 (wrap64 ((t495.length : Int) - 1))))) < (rd t495 (wrap64 ((t495.length : Int) - 1)))))) else (none)) else (none))) else (none)) else (none)) else (if 0 ≤ (wrap64 ((t495.length : Int) - 1)) then (if (wrap64 ((t495.length : Int) - 1)) < (t495.length : Int) then (impl_nat_div.l1 k3 t494 t495 (t495.length : Int) x11_1 x12_1 x13_1 (IntKind.u64.wrap (x14_3 - 1)) (IntKind.u64.wrap (x15_3 + (rd t495 (wrap64 ((t495.length : Int) - 1))))) (decide ((IntKind.u64.wrap (x15_3 + (rd t495 (wrap64 ((t495.length : Int) - 1))))) < (rd t495 (wrap64 ((t495.length : Int) - 1)))))) else (none)) else (none))))) else (none)) else (none)) = some (r1, r2) := by rw [if_neg (show ¬ (false = true) by decide)] at H; exact H
                          clear H
                          have H := H1
                          clear H1
                          obtain ⟨ji56, hji56⟩ : ∃ j_ : Int, (wrap64 ((t495.length : Int) - 2)) = j_ := ⟨_, rfl⟩
                          replace H : (if 0 ≤ (ji56) then (if (ji56) < (t495.length : Int) then ((bits_Mul64.f x14_3 (rd t495 (ji56))).bind fun bt528 => (if bt528.1 < x15_3 then (impl_nat_div.j3 k3 t494 t495 (t495.length : Int) x11_1 x12_1 x13_1 x14_3) else (if bt528.1 = x15_3 then (if 0 ≤ (wrap64 ((wrap64 (x13_1 + (t495.length : Int))) - 2)) then (if (wrap64 ((wrap64 (x13_1 + (t495.length : Int))) - 2)) < (x11_1.length : Int) then (if bt528.2 ≤ (rd x11_1 (wrap64 ((wrap64 (x13_1 + (t495.length : Int))) - 2))) then (impl_nat_div.j3 k3 t494 t495 (t495.length : Int) x11_1 x12_1 x13_1 x14_3) else (if 0 ≤ (wrap64 ((t495.length : Int) - 1)) then (if (wrap64 ((t495.length : Int) - 1)) < (t495.length : Int) then (impl_nat_div.l1 k3 t494 t495 (t495.length : Int) x11_1 x12_1 x13_1 (IntKind.u64.wrap (x14_3 - 1)) (IntKind.u64.wrap (x15_3 + (rd t495 (wrap64 ((t495.length : Int) - 1))))) (decide ((IntKind.u64.wrap (x15_3 + (rd t495 (wrap64 ((t495.length : Int) - 1))))) < (rd t495 (wrap64 ((t495.length : Int) - 1)))))) else (none)) else (none))) else (none)) else (none)) else (if 0 ≤ (wrap64 ((t495.length : Int) - 1)) then (if (wrap64 ((t495.length : Int) - 1)) < (t495.length : Int) then (impl_nat_div.l1 k3 t494 t495 (t495.length : Int) x11_1 x12_1 x13_1 (IntKind.u64.wrap (x14_3 - 1)) (IntKind.u64.wrap (x15_3 + (rd t495 (wrap64 ((t495.length : Int) - 1))))) (decide ((IntKind.u64.wrap (x15_3 + (rd t495 (wrap64 ((t495.length : Int) - 1))))) < (rd t495 (wrap64 ((t495.length : Int) - 1)))))) else (none)) else (none))))) else (none)) else (none)) = some (r1, r2) := by first | (rw [hji56] at H; exact H) | (simp only [hji56] at H ⊢; exact H)
                          have hji56w : (IntKind.i64.wrap ((t495.length : Int) - 2)) = ji56 := (i64_w _).trans hji56
                          by_cases c57 : 0 ≤ (ji56)
                          ·rw [if_pos c57] at H
                           have c57b0 : decide (0 ≤ (ji56)) = true := decide_eq_true c57
                           clear c57
                           (first | rw [c57b0] | (simp only [i64_w, i32_w]; rw [c57b0]) | rw [c57b1] | (simp only [c57b1]) | skip)
                           by_cases c58 : (ji56) < (t495.length : Int)
                           ·rw [if_pos c58] at H
                            have c58b0 : decide ((ji56) < (t495.length : Int)) = true := decide_eq_true c58
                            clear c58
                            replace H := Option.bind_eq_some_iff.mp H
                            obtain ⟨⟨t528, t529⟩, A590, H⟩ := H
                            replace H : (if t528 < x15_3 then (impl_nat_div.j3 k3 t494 t495 (t495.length : Int) x11_1 x12_1 x13_1 x14_3) else (if t528 = x15_3 then (if 0 ≤ (wrap64 ((wrap64 (x13_1 + (t495.length : Int))) - 2)) then (if (wrap64 ((wrap64 (x13_1 + (t495.length : Int))) - 2)) < (x11_1.length : Int) then (if t529 ≤ (rd x11_1 (wrap64 ((wrap64 (x13_1 + (t495.length : Int))) - 2))) then (impl_nat_div.j3 k3 t494 t495 (t495.length : Int) x11_1 x12_1 x13_1 x14_3) else (if 0 ≤ (wrap64 ((t495.length : Int) - 1)) then (if (wrap64 ((t495.length : Int) - 1)) < (t495.length : Int) then (impl_nat_div.l1 k3 t494 t495 (t495.length : Int) x11_1 x12_1 x13_1 (IntKind.u64.wrap (x14_3 - 1)) (IntKind.u64.wrap (x15_3 + (rd t495 (wrap64 ((t495.length : Int) - 1))))) (decide ((IntKind.u64.wrap (x15_3 + (rd t495 (wrap64 ((t495.length : Int) - 1))))) < (rd t495 (wrap64 ((t495.length : Int) - 1)))))) else (none)) else (none))) else (none)) else (none)) else (if 0 ≤ (wrap64 ((t495.length : Int) - 1)) then (if (wrap64 ((t495.length : Int) - 1)) < (t495.length : Int) then (impl_nat_div.l1 k3 t494 t495 (t495.length : Int) x11_1 x12_1 x13_1 (IntKind.u64.wrap (x14_3 - 1)) (IntKind.u64.wrap (x15_3 + (rd t495 (wrap64 ((t495.length : Int) - 1))))) (decide ((IntKind.u64.wrap (x15_3 + (rd t495 (wrap64 ((t495.length : Int) - 1))))) < (rd t495 (wrap64 ((t495.length : Int) - 1)))))) else (none)) else (none)))) = some (r1, r2) := H
                            have A59 := Aside0.mk A590
                            clear A590
                            by_cases c60 : t528 < x15_3
                            ·rw [if_pos c60] at H
                             have c60b0 : decide (t528 < x15_3) = true := decide_eq_true c60
                             clear c60
                             have H' := Aside0.mk H
                             clear H
                             have p527 : 0 ≤ ((ji56) : Int) := of_decide_eq_true (by first | (with_reducible assumption) | assumption)
                             have q527 : (ji56) < (t495.length : Int) := of_decide_eq_true (by first | (with_reducible assumption) | assumption)
                             obtain ⟨ad527, e527, hx527_0⟩ := Kd.at_int (Kd.R_reads' HO_9.out).2.2 (ji56) p527 q527
                             obtain rfl : ad518 = ad527 := (by injection e527)
                             replace p527 := eq_true p527
                             replace q527 := eq_true q527
                             go_wp2_with (first | go_step3 | (go_at_call 93; (with_reducible refine (bits_Mul64.calls x14_3 (rd t495 (ji56)) t528 t529 _ A59.out).mono ?_); rintro e w' ⟨rfl, ⟨nd, rfl⟩⟩; (try first | exact ⟨rfl, _, World.drewN_drewN _ _ _⟩ | exact ⟨rfl, _, Eq.trans (World.drewN_drewN _ _ _) (congrArg (World.drewN _) (Nat.add_assoc _ _ _))⟩)))
                             (try simp only [Exit.noGoto_ret, Exit.noGoto_normal, Exit.noGoto_exit]); go_meet
                             case rel => exact ⟨_, (x14_3), (by first | rfl | (simp; done) | (simp [*]; done)), H', ⟨by have := HK1.out; have := HJ44.out; have := HK3.out; first | omega | exact Nat.le_refl _⟩, ⟨by (try simp only [hl11_1]); (with_reducible repeat (first | apply Kd.R_alloc | apply Kd.R_drewN | apply Kd.R_drew)); exact HO_9.out⟩, ⟨by (try simp only [hl11_1]); (with_reducible repeat (first | apply Kd.R_alloc | apply Kd.R_drewN | apply Kd.R_drew)); exact HO_11.out⟩, ⟨by (try simp only [hl11_1]); (with_reducible repeat (first | apply Kd.R_alloc | apply Kd.R_drewN | apply Kd.R_drew)); exact HO_12.out⟩, ⟨by repeat (first | (with_reducible first | exact HB.out | apply below_alloc | apply pw_below_drewN | apply below_drew1) | exact HB.out)⟩⟩
                            ·rw [if_neg c60] at H
                             have c60b0 : decide (t528 < x15_3) = false := decide_eq_false c60
                             clear c60
                             by_cases c61 : t528 = x15_3
                             ·rw [if_pos c61] at H
                              have c61b0 : (t528 == x15_3) = true := beq_iff_eq.mpr c61
                              have c61b1 : (t528 != x15_3) = false := bne_eq_false_iff_eq.mpr c61
                              clear c61
                              obtain ⟨ji62, hji62⟩ : ∃ j_ : Int, (wrap64 ((wrap64 (x13_1 + (t495.length : Int))) - 2)) = j_ := ⟨_, rfl⟩
                              replace H : (if 0 ≤ (ji62) then (if (ji62) < (x11_1.length : Int) then (if t529 ≤ (rd x11_1 (ji62)) then (impl_nat_div.j3 k3 t494 t495 (t495.length : Int) x11_1 x12_1 x13_1 x14_3) else (if 0 ≤ (wrap64 ((t495.length : Int) - 1)) then (if (wrap64 ((t495.length : Int) - 1)) < (t495.length : Int) then (impl_nat_div.l1 k3 t494 t495 (t495.length : Int) x11_1 x12_1 x13_1 (IntKind.u64.wrap (x14_3 - 1)) (IntKind.u64.wrap (x15_3 + (rd t495 (wrap64 ((t495.length : Int) - 1))))) (decide ((IntKind.u64.wrap (x15_3 + (rd t495 (wrap64 ((t495.length : Int) - 1))))) < (rd t495 (wrap64 ((t495.length : Int) - 1)))))) else (none)) else (none))) else (none)) else (none)) = some (r1, r2) := by first | (rw [hji62] at H; exact H) | (simp only [hji62] at H ⊢; exact H)
                              (try rw [hji62] at A59)
                              have hji62w : (IntKind.i64.wrap ((wrap64 (x13_1 + (t495.length : Int))) - 2)) = ji62 := (i64_w _).trans hji62
                              (try rw [hji39] at hji62 hji62w)
                              by_cases c63 : 0 ≤ (ji62)
                              ·rw [if_pos c63] at H
                               have c63b0 : decide (0 ≤ (ji62)) = true := decide_eq_true c63
                               clear c63
                               by_cases c64 : (ji62) < (x11_1.length : Int)
                               ·rw [if_pos c64] at H
                                have c64b0 : decide ((ji62) < (x11_1.length : Int)) = true := decide_eq_true c64
                                clear c64
                                by_cases c65 : t529 ≤ (rd x11_1 (ji62))
                                ·rw [if_pos c65] at H
                                 have c65b0 : decide (t529 ≤ (rd x11_1 (ji62))) = true := decide_eq_true c65
                                 clear c65
                                 have H' := Aside0.mk H
                                 clear H
                                 have p527 : 0 ≤ ((ji56) : Int) := of_decide_eq_true (by first | (with_reducible assumption) | assumption)
                                 have q527 : (ji56) < (t495.length : Int) := of_decide_eq_true (by first | (with_reducible assumption) | assumption)
                                 obtain ⟨ad527, e527, hx527_0⟩ := Kd.at_int (Kd.R_reads' HO_9.out).2.2 (ji56) p527 q527
                                 obtain rfl : ad518 = ad527 := (by injection e527)
                                 replace p527 := eq_true p527
                                 replace q527 := eq_true q527
                                 go_wp2_with (first | go_step3 | (go_at_call 93; (with_reducible refine (bits_Mul64.calls x14_3 (rd t495 (ji56)) t528 t529 _ A59.out).mono ?_); rintro e w' ⟨rfl, ⟨nd, rfl⟩⟩; (try first | exact ⟨rfl, _, World.drewN_drewN _ _ _⟩ | exact ⟨rfl, _, Eq.trans (World.drewN_drewN _ _ _) (congrArg (World.drewN _) (Nat.add_assoc _ _ _))⟩); have p530 : 0 ≤ ((ji62) : Int) := of_decide_eq_true (by first | (with_reducible assumption) | assumption); have q530 : (ji62) < (x11_1.length : Int) := of_decide_eq_true (by first | (with_reducible assumption) | assumption); obtain ⟨ad530, e530, hx530_0⟩ := Kd.at_int (Kd.R_reads' HO_11.out).2.2 (ji62) p530 q530; obtain rfl : ad517 = ad530 := (by injection e530); replace p530 := eq_true p530; replace q530 := eq_true q530))
                                 (try simp only [Exit.noGoto_ret, Exit.noGoto_normal, Exit.noGoto_exit]); go_meet
                                 case rel => exact ⟨_, (x14_3), (by first | rfl | (simp; done) | (simp [*]; done)), H', ⟨by have := HK1.out; have := HJ44.out; have := HK3.out; first | omega | exact Nat.le_refl _⟩, ⟨by (try simp only [hl11_1]); (with_reducible repeat (first | apply Kd.R_alloc | apply Kd.R_drewN | apply Kd.R_drew)); exact HO_9.out⟩, ⟨by (try simp only [hl11_1]); (with_reducible repeat (first | apply Kd.R_alloc | apply Kd.R_drewN | apply Kd.R_drew)); exact HO_11.out⟩, ⟨by (try simp only [hl11_1]); (with_reducible repeat (first | apply Kd.R_alloc | apply Kd.R_drewN | apply Kd.R_drew)); exact HO_12.out⟩, ⟨by repeat (first | (with_reducible first | exact HB.out | apply below_alloc | apply pw_below_drewN | apply below_drew1) | exact HB.out)⟩⟩
                                ·rw [if_neg c65] at H
                                 have c65b0 : decide (t529 ≤ (rd x11_1 (ji62))) = false := decide_eq_false c65
                                 clear c65
                                 replace H : (if 0 ≤ (ji42) then (if (ji42) < (t495.length : Int) then (impl_nat_div.l1 k3 t494 t495 (t495.length : Int) x11_1 x12_1 x13_1 (IntKind.u64.wrap (x14_3 - 1)) (IntKind.u64.wrap (x15_3 + (rd t495 (ji42)))) (decide ((IntKind.u64.wrap (x15_3 + (rd t495 (ji42)))) < (rd t495 (ji42))))) else (none)) else (none)) = some (r1, r2) := by first | (rw [hji42] at H; exact H) | (simp only [hji42] at H ⊢; exact H)
                                 (try rw [hji42] at A59)
                                 by_cases c66 : 0 ≤ (ji42)
                                 ·rw [if_pos c66] at H
                                  have c66b0 : decide (0 ≤ (ji42)) = true := decide_eq_true c66
                                  clear c66
                                  by_cases c67 : (ji42) < (t495.length : Int)
                                  ·rw [if_pos c67] at H
                                   have c67b0 : decide ((ji42) < (t495.length : Int)) = true := decide_eq_true c67
                                   clear c67
                                   have H' := Aside0.mk H
                                   clear H
                                   have p527 : 0 ≤ ((ji56) : Int) := of_decide_eq_true (by first | (with_reducible assumption) | assumption)
                                   have q527 : (ji56) < (t495.length : Int) := of_decide_eq_true (by first | (with_reducible assumption) | assumption)
                                   obtain ⟨ad527, e527, hx527_0⟩ := Kd.at_int (Kd.R_reads' HO_9.out).2.2 (ji56) p527 q527
                                   obtain rfl : ad518 = ad527 := (by injection e527)
                                   replace p527 := eq_true p527
                                   replace q527 := eq_true q527
                                   go_wp2_with (first | go_step3 | (go_at_call 93; (with_reducible refine (bits_Mul64.calls x14_3 (rd t495 (ji56)) t528 t529 _ A59.out).mono ?_); rintro e w' ⟨rfl, ⟨nd, rfl⟩⟩; (try first | exact ⟨rfl, _, World.drewN_drewN _ _ _⟩ | exact ⟨rfl, _, Eq.trans (World.drewN_drewN _ _ _) (congrArg (World.drewN _) (Nat.add_assoc _ _ _))⟩); have p530 : 0 ≤ ((ji62) : Int) := of_decide_eq_true (by first | (with_reducible assumption) | assumption); have q530 : (ji62) < (x11_1.length : Int) := of_decide_eq_true (by first | (with_reducible assumption) | assumption); obtain ⟨ad530, e530, hx530_0⟩ := Kd.at_int (Kd.R_reads' HO_11.out).2.2 (ji62) p530 q530; obtain rfl : ad517 = ad530 := (by injection e530); replace p530 := eq_true p530; replace q530 := eq_true q530; have p531 : 0 ≤ ((ji42) : Int) := of_decide_eq_true (by first | (with_reducible assumption) | assumption); have q531 : (ji42) < (t495.length : Int) := of_decide_eq_true (by first | (with_reducible assumption) | assumption); obtain ⟨ad531, e531, hx531_0⟩ := Kd.at_int (Kd.R_reads' HO_9.out).2.2 (ji42) p531 q531; obtain rfl : ad518 = ad531 := (by injection e531); replace p531 := eq_true p531; replace q531 := eq_true q531; have p532 : 0 ≤ ((ji42) : Int) := of_decide_eq_true (by first | (with_reducible assumption) | assumption); have q532 : (ji42) < (t495.length : Int) := of_decide_eq_true (by first | (with_reducible assumption) | assumption); obtain ⟨ad532, e532, hx532_0⟩ := Kd.at_int (Kd.R_reads' HO_9.out).2.2 (ji42) p532 q532; obtain rfl : ad518 = ad532 := (by injection e532); replace p532 := eq_true p532; replace q532 := eq_true q532))
                                   (try subst hji62)
                                   (try subst hji56)
                                   (try simp only [Exit.noGoto_ret, Exit.noGoto_normal, Exit.noGoto_exit]); go_roundg k3
                                   case measure => have := HK1.out; have := HJ44.out; have := HK3.out; omega
                                   case rel => exact ⟨(IntKind.u64.wrap (x14_3 - 1)), (IntKind.u64.wrap (x15_3 + (rd t495 (ji42)))), (decide ((IntKind.u64.wrap (x15_3 + (rd t495 (ji42)))) < (rd t495 (ji42)))), (by first | rfl | (simp; done) | (simp [*]; done)), (by first | rfl | (simp; done) | (simp only [← hji42] <;> (first | rfl | simp)) | (simp [*]; done)), (by first | rfl | (simp; done) | (simp only [← hji42] <;> (first | rfl | simp)) | (simp [*]; done)), H', ⟨by have := HK1.out; have := HJ44.out; have := HK3.out; omega⟩, ⟨by (try simp only [hl11_1]); (with_reducible repeat (first | apply Kd.R_alloc | apply Kd.R_drewN | apply Kd.R_drew)); exact HO_9.out⟩, ⟨by (try simp only [hl11_1]); (with_reducible repeat (first | apply Kd.R_alloc | apply Kd.R_drewN | apply Kd.R_drew)); exact HO_11.out⟩, ⟨by (try simp only [hl11_1]); (with_reducible repeat (first | apply Kd.R_alloc | apply Kd.R_drewN | apply Kd.R_drew)); exact HO_12.out⟩, ⟨by repeat (first | (with_reducible first | exact HB.out | apply below_alloc | apply pw_below_drewN | apply below_drew1) | exact HB.out)⟩⟩
                                  ·rw [if_neg c67] at H
                                   exact absurd H (by simp)
                                 ·rw [if_neg c66] at H
                                  exact absurd H (by simp)
                               ·rw [if_neg c64] at H
                                exact absurd H (by simp)
                              ·rw [if_neg c63] at H
                               exact absurd H (by simp)
                             ·rw [if_neg c61] at H
                              have c61b0 : (t528 == x15_3) = false := beq_eq_false_iff_ne.mpr c61
                              have c61b1 : (t528 != x15_3) = true := bne_iff_ne.mpr c61
                              replace H : (if 0 ≤ (ji42) then (if (ji42) < (t495.length : Int) then (impl_nat_div.l1 k3 t494 t495 (t495.length : Int) x11_1 x12_1 x13_1 (IntKind.u64.wrap (x14_3 - 1)) (IntKind.u64.wrap (x15_3 + (rd t495 (ji42)))) (decide ((IntKind.u64.wrap (x15_3 + (rd t495 (ji42)))) < (rd t495 (ji42))))) else (none)) else (none)) = some (r1, r2) := by first | (rw [hji42] at H; exact H) | (simp only [hji42] at H ⊢; exact H)
                              (try rw [hji42] at A59)
                              by_cases c68 : 0 ≤ (ji42)
                              ·rw [if_pos c68] at H
                               have c68b0 : decide (0 ≤ (ji42)) = true := decide_eq_true c68
                               clear c68
                               by_cases c69 : (ji42) < (t495.length : Int)
                               ·rw [if_pos c69] at H
                                have c69b0 : decide ((ji42) < (t495.length : Int)) = true := decide_eq_true c69
                                clear c69
                                have H' := Aside0.mk H
                                clear H
                                have p527 : 0 ≤ ((ji56) : Int) := of_decide_eq_true (by first | (with_reducible assumption) | assumption)
                                have q527 : (ji56) < (t495.length : Int) := of_decide_eq_true (by first | (with_reducible assumption) | assumption)
                                obtain ⟨ad527, e527, hx527_0⟩ := Kd.at_int (Kd.R_reads' HO_9.out).2.2 (ji56) p527 q527
                                obtain rfl : ad518 = ad527 := (by injection e527)
                                replace p527 := eq_true p527
                                replace q527 := eq_true q527
                                go_wp2_with (first | go_step3 | (go_at_call 93; (with_reducible refine (bits_Mul64.calls x14_3 (rd t495 (ji56)) t528 t529 _ A59.out).mono ?_); rintro e w' ⟨rfl, ⟨nd, rfl⟩⟩; (try first | exact ⟨rfl, _, World.drewN_drewN _ _ _⟩ | exact ⟨rfl, _, Eq.trans (World.drewN_drewN _ _ _) (congrArg (World.drewN _) (Nat.add_assoc _ _ _))⟩); have p533 : 0 ≤ ((ji42) : Int) := of_decide_eq_true (by first | (with_reducible assumption) | assumption); have q533 : (ji42) < (t495.length : Int) := of_decide_eq_true (by first | (with_reducible assumption) | assumption); obtain ⟨ad533, e533, hx533_0⟩ := Kd.at_int (Kd.R_reads' HO_9.out).2.2 (ji42) p533 q533; obtain rfl : ad518 = ad533 := (by injection e533); replace p533 := eq_true p533; replace q533 := eq_true q533; have p534 : 0 ≤ ((ji42) : Int) := of_decide_eq_true (by first | (with_reducible assumption) | assumption); have q534 : (ji42) < (t495.length : Int) := of_decide_eq_true (by first | (with_reducible assumption) | assumption); obtain ⟨ad534, e534, hx534_0⟩ := Kd.at_int (Kd.R_reads' HO_9.out).2.2 (ji42) p534 q534; obtain rfl : ad518 = ad534 := (by injection e534); replace p534 := eq_true p534; replace q534 := eq_true q534))
                                (try subst hji56)
                                (try simp only [Exit.noGoto_ret, Exit.noGoto_normal, Exit.noGoto_exit]); go_roundg k3
                                case measure => have := HK1.out; have := HJ44.out; have := HK3.out; omega
                                case rel => exact ⟨(IntKind.u64.wrap (x14_3 - 1)), (IntKind.u64.wrap (x15_3 + (rd t495 (ji42)))), (decide ((IntKind.u64.wrap (x15_3 + (rd t495 (ji42)))) < (rd t495 (ji42)))), (by first | rfl | (simp; done) | (simp [*]; done)), (by first | rfl | (simp; done) | (simp only [← hji42] <;> (first | rfl | simp)) | (simp [*]; done)), (by first | rfl | (simp; done) | (simp only [← hji42] <;> (first | rfl | simp)) | (simp [*]; done)), H', ⟨by have := HK1.out; have := HJ44.out; have := HK3.out; omega⟩, ⟨by (try simp only [hl11_1]); (with_reducible repeat (first | apply Kd.R_alloc | apply Kd.R_drewN | apply Kd.R_drew)); exact HO_9.out⟩, ⟨by (try simp only [hl11_1]); (with_reducible repeat (first | apply Kd.R_alloc | apply Kd.R_drewN | apply Kd.R_drew)); exact HO_11.out⟩, ⟨by (try simp only [hl11_1]); (with_reducible repeat (first | apply Kd.R_alloc | apply Kd.R_drewN | apply Kd.R_drew)); exact HO_12.out⟩, ⟨by repeat (first | (with_reducible first | exact HB.out | apply below_alloc | apply pw_below_drewN | apply below_drew1) | exact HB.out)⟩⟩
                               ·rw [if_neg c69] at H
                                exact absurd H (by simp)
                              ·rw [if_neg c68] at H
                               exact absurd H (by simp)
                           ·rw [if_neg c58] at H
                            exact absurd H (by simp)
                          ·rw [if_neg c57] at H
                           exact absurd H (by simp)
                    case rest =>
                     as_aux_lemma =>
                      clear HC54
                      try clear c1; try clear c2; try clear p2; try clear c3; try clear c4; try clear c4b0; try clear p4; try clear q4; try clear hx4; try clear qi4; try clear c5; try clear p5; try clear q5; try clear hx5; try clear c6; try clear p6; try clear c7; try clear c9; try clear c9b0; try clear c9b1; try clear c10; try clear c10b0; try clear c10b1; try clear c16; try clear c16b0; try clear c17; try clear c17b0; try clear c21; try clear c21b0; try clear c21b1; try clear c22; try clear c22b0; try clear c22b1; try clear c25; try clear c25b0; try clear c25b1; try clear c26; try clear c26b0; try clear c26b1; try clear c38; try clear c38b0; try clear c40; try clear c40b0; try clear c41; try clear c41b0; try clear c43; try clear c43b0; try clear c44; try clear c44b0; try clear c46; try clear c46b0; try clear c46b1; try clear c48; try clear c48b0; try clear p48; try clear q48; try clear hx48; try clear qi48; try clear c49; try clear c49b0; try clear p49; try clear q49; try clear hx49; try clear p51; try clear q51; try clear hx51; try clear c52; try clear c52b0; try clear p52; try clear q52; try clear hx52; try clear c53; try clear c53b0; try clear p53; try clear q53; try clear hx53; try clear c55; try clear c57; try clear c57b0; try clear c57b1; try clear c58; try clear c58b0; try clear c60; try clear c60b0; try clear c61; try clear c61b0; try clear c61b1; try clear c63; try clear c63b0; try clear c64; try clear c64b0; try clear p64; try clear c65; try clear c65b0; try clear c66; try clear c66b0; try clear c67; try clear c67b0; try clear c68; try clear c68b0; try clear c69; try clear c69b0; try clear hx485_0; try clear hx493_0; try clear hx517_0; try clear hx518_0; try clear hx519_0; try clear hx520_0; try clear hx521_0; try clear hx524_0; try clear hx525_0; try clear hx526_0; try clear hx527_0; try clear hx530_0; try clear hx531_0; try clear hx532_0; try clear hx533_0; try clear hx534_0; try clear p2; try clear p4; try clear p48; try clear p485; try clear p49; try clear p493; try clear p5; try clear p51; try clear p517; try clear p518; try clear p519; try clear p52; try clear p520; try clear p521; try clear p524; try clear p525; try clear p526; try clear p527; try clear p530; try clear p531; try clear p532; try clear p533; try clear p534; try clear p6; try clear q4; try clear q48; try clear q485; try clear q49; try clear q493; try clear q5; try clear q51; try clear q517; try clear q518; try clear q519; try clear q52; try clear q520; try clear q521; try clear q524; try clear q525; try clear q526; try clear q527; try clear q530; try clear q531; try clear q532; try clear q533; try clear q534
                      obtain ⟨kq, x14_53, rfl, HA, HJ53, HO_9, HO_11, HO_12, HB⟩ := hcut
                      cases kq with
                      | zero => exact absurd HA.out (by simp [impl_nat_div.j3])
                      | succ kj53 =>
                       have H := HA.out
                       clear HA
                       simp only [impl_nat_div.j3] at H
                       have H' := Aside0.mk H
                       clear H
                       go_wp2_with (go_step3)
                       repeat (go_quiet (fail); try go_wp2_with (go_step3))
                       go_loopg [19, 20, 191] kj53 (fun kq v19 v20 v191 w' => ∃ (x11_4 : List Int) (x19_4 : Int) (x20_4 : Int) (x191_4 : Int), v19 = .int .u64 x19_4 ∧ v20 = .int .u64 x20_4 ∧ v191 = .int .i64 x191_4 ∧ Aside0 (impl_nat_div.l2 kq t494 t495 (t495.length : Int) x11_4 x12_1 x13_1 x14_53 x19_4 x20_4 t495 (t495.length : Int) x191_4 = some (r1, r2)) ∧ Aside0 (kq ≤ kj53) ∧ Aside0 (Kd.R (Kd.int .u64) 36 w' w.heap.size (fun k_ => some k_ ≠ ((.slice (some ad517) x11_1.length co34) : Value).ownBlock ∧ some k_ ≠ (v506 : Value).ownBlock) (.slice (some ad518) t495.length co28) t495) ∧ Aside0 (Kd.R (Kd.int .u64) 36 w' w.heap.size (fun k_ => some k_ ≠ ((.slice (some ad518) t495.length co28) : Value).ownBlock ∧ some k_ ≠ (v506 : Value).ownBlock ∧ some k_ ≠ ((.slice (some ad518) t495.length co28) : Value).ownBlock) (.slice (some ad517) x11_1.length co34) x11_4) ∧ Aside0 (Kd.R (Kd.int .u64) 36 w' w.heap.size (fun k_ => some k_ ≠ ((.slice (some ad518) t495.length co28) : Value).ownBlock ∧ some k_ ≠ ((.slice (some ad517) x11_1.length co34) : Value).ownBlock ∧ some k_ ≠ ((.slice (some ad518) t495.length co28) : Value).ownBlock) v506 x12_1) ∧ Aside0 (Kd.R (Kd.int .u64) 36 w' w.heap.size (fun k_ => some k_ ≠ ((.slice (some ad517) x11_1.length co34) : Value).ownBlock ∧ some k_ ≠ (v506 : Value).ownBlock) (.slice (some ad518) t495.length co28) t495) ∧ Aside0 (Below w.heap.size w w'))
                       case atStart => exact ⟨(x11_1), (0), (0), (0), (by first | rfl | (simp; done) | (simp [*]; done)), (by first | rfl | (simp; done) | (simp [*]; done)), (by first | rfl | (simp; done) | (simp [*]; done)), H', ⟨Nat.le_refl _⟩, ⟨by (try simp only [hl11_1]); (with_reducible repeat (first | apply Kd.R_alloc | apply Kd.R_drewN | apply Kd.R_drew)); exact HO_9.out⟩, ⟨by (try simp only [hl11_1]); (with_reducible repeat (first | apply Kd.R_alloc | apply Kd.R_drewN | apply Kd.R_drew)); exact Kd.R_mono HO_11.out (fun _ hk => ⟨hk.1, ⟨hk.2, hk.1⟩⟩)⟩, ⟨by (try simp only [hl11_1]); (with_reducible repeat (first | apply Kd.R_alloc | apply Kd.R_drewN | apply Kd.R_drew)); exact Kd.R_mono HO_12.out (fun _ hk => ⟨hk.1, ⟨hk.2, hk.1⟩⟩)⟩, ⟨by (try simp only [hl11_1]); (with_reducible repeat (first | apply Kd.R_alloc | apply Kd.R_drewN | apply Kd.R_drew)); exact HO_9.out⟩, ⟨by repeat (first | (with_reducible first | exact HB.out | apply below_alloc | apply pw_below_drewN | apply below_drew1) | exact HB.out)⟩⟩
                       case round =>
                        as_aux_lemma =>
                         clear H'
                         try clear c1; try clear c2; try clear p2; try clear c3; try clear c4; try clear c4b0; try clear p4; try clear q4; try clear hx4; try clear qi4; try clear c5; try clear p5; try clear q5; try clear hx5; try clear c6; try clear p6; try clear c7; try clear c9; try clear c9b0; try clear c9b1; try clear c10; try clear c10b0; try clear c10b1; try clear c16; try clear c16b0; try clear c17; try clear c17b0; try clear c21; try clear c21b0; try clear c21b1; try clear c22; try clear c22b0; try clear c22b1; try clear c25; try clear c25b0; try clear c25b1; try clear c26; try clear c26b0; try clear c26b1; try clear c38; try clear c38b0; try clear c40; try clear c40b0; try clear c41; try clear c41b0; try clear c43; try clear c43b0; try clear c44; try clear c44b0; try clear c46; try clear c46b0; try clear c46b1; try clear c48; try clear c48b0; try clear p48; try clear q48; try clear hx48; try clear qi48; try clear c49; try clear c49b0; try clear p49; try clear q49; try clear hx49; try clear p51; try clear q51; try clear hx51; try clear c52; try clear c52b0; try clear p52; try clear q52; try clear hx52; try clear c53; try clear c53b0; try clear p53; try clear q53; try clear hx53; try clear c55; try clear c57; try clear c57b0; try clear c57b1; try clear c58; try clear c58b0; try clear c60; try clear c60b0; try clear c61; try clear c61b0; try clear c61b1; try clear c63; try clear c63b0; try clear c64; try clear c64b0; try clear p64; try clear c65; try clear c65b0; try clear c66; try clear c66b0; try clear c67; try clear c67b0; try clear c68; try clear c68b0; try clear c69; try clear c69b0; try clear hx485_0; try clear hx493_0; try clear hx517_0; try clear hx518_0; try clear hx519_0; try clear hx520_0; try clear hx521_0; try clear hx524_0; try clear hx525_0; try clear hx526_0; try clear hx527_0; try clear hx530_0; try clear hx531_0; try clear hx532_0; try clear hx533_0; try clear hx534_0; try clear p2; try clear p4; try clear p48; try clear p485; try clear p49; try clear p493; try clear p5; try clear p51; try clear p517; try clear p518; try clear p519; try clear p52; try clear p520; try clear p521; try clear p524; try clear p525; try clear p526; try clear p527; try clear p53; try clear p530; try clear p531; try clear p532; try clear p533; try clear p534; try clear p6; try clear p64; try clear q4; try clear q48; try clear q485; try clear q49; try clear q493; try clear q5; try clear q51; try clear q517; try clear q518; try clear q519; try clear q52; try clear q520; try clear q521; try clear q524; try clear q525; try clear q526; try clear q527; try clear q53; try clear q530; try clear q531; try clear q532; try clear q533; try clear q534
                         obtain ⟨x11_4, x19_4, x20_4, x191_4, rfl, rfl, rfl, HA, HK4, HO_9, HO_11, HO_12, HO_189, HB⟩ := hrel
                         have hl11_4 := (Kd.R_reads' HO_11.out).1
                         rw [hl11_4] at HO_11
                         (try simp only [hl11_4])
                         (try simp only [hl11_4] at HO_9)
                         (try simp only [hl11_4] at HO_12)
                         (try simp only [hl11_4] at HO_189)
                         cases gk with
                         | zero => exact absurd HA.out (by simp [impl_nat_div.l2])
                         | succ k4 =>
                          have H := HA.out
                          clear HA
                          simp only [impl_nat_div.l2] at H
                          by_cases c70 : x191_4 < (t495.length : Int)
                          ·rw [if_pos c70] at H
                           have c70b0 : decide (x191_4 < (t495.length : Int)) = true := decide_eq_true c70
                           clear c70
                           by_cases c71 : 0 ≤ x191_4
                           ·rw [if_pos c71] at H
                            have c71b0 : decide (0 ≤ x191_4) = true := decide_eq_true c71
                            clear c71
                            by_cases c72 : x191_4 < (t495.length : Int)
                            ·rw [if_pos c72] at H
                             have c72b0 : decide (x191_4 < (t495.length : Int)) = true := decide_eq_true c72
                             clear c72
                             replace H := Option.bind_eq_some_iff.mp H
                             obtain ⟨⟨t536, t537⟩, A730, H⟩ := H
                             replace H : (if 0 ≤ (wrap64 (x191_4 + x13_1)) then (if (wrap64 (x191_4 + x13_1)) < (x11_4.length : Int) then (if x19_4.toNat ≤ 1 then (impl_nat_div.l2 k4 t494 t495 (t495.length : Int) (x11_4.set ((wrap64 (x191_4 + x13_1)) : Int).toNat (sub64s (rd x11_4 (wrap64 (x191_4 + x13_1))) (add64s t537 x20_4 0) x19_4)) x12_1 x13_1 x14_53 (sub64c (rd x11_4 (wrap64 (x191_4 + x13_1))) (add64s t537 x20_4 0) x19_4) (IntKind.u64.wrap (t536 + (add64c t537 x20_4 0))) t495 (t495.length : Int) (wrap64 (x191_4 + 1))) else (none)) else (none)) else (none)) = some (r1, r2) := H
                             have A73 := Aside0.mk A730
                             clear A730
                             obtain ⟨ji74, hji74⟩ : ∃ j_ : Int, (wrap64 (x191_4 + x13_1)) = j_ := ⟨_, rfl⟩
                             replace H : (if 0 ≤ (ji74) then (if (ji74) < (x11_4.length : Int) then (if x19_4.toNat ≤ 1 then (impl_nat_div.l2 k4 t494 t495 (t495.length : Int) (x11_4.set ((ji74) : Int).toNat (sub64s (rd x11_4 (ji74)) (add64s t537 x20_4 0) x19_4)) x12_1 x13_1 x14_53 (sub64c (rd x11_4 (ji74)) (add64s t537 x20_4 0) x19_4) (IntKind.u64.wrap (t536 + (add64c t537 x20_4 0))) t495 (t495.length : Int) (wrap64 (x191_4 + 1))) else (none)) else (none)) else (none)) = some (r1, r2) := by first | (rw [hji74] at H; exact H) | (simp only [hji74] at H ⊢; exact H)
                             (try rw [hji74] at A73)
                             have hji74w : (IntKind.i64.wrap (x191_4 + x13_1)) = ji74 := (i64_w _).trans hji74
                             by_cases c75 : 0 ≤ (ji74)
                             ·rw [if_pos c75] at H
                              have c75b0 : decide (0 ≤ (ji74)) = true := decide_eq_true c75
                              clear c75
                              by_cases c76 : (ji74) < (x11_4.length : Int)
                              ·rw [if_pos c76] at H
                               have c76b0 : decide ((ji74) < (x11_4.length : Int)) = true := decide_eq_true c76
                               clear c76
                               by_cases c77 : x19_4.toNat ≤ 1
                               ·rw [if_pos c77] at H
                                have c77b0 := eq_true c77
                                have c77b1 : decide (x19_4.toNat ≤ 1) = true := decide_eq_true c77
                                clear c77
                                obtain ⟨y539, hy539⟩ : ∃ y_ : List Int, y_ = (x11_4.set ((ji74) : Int).toNat (sub64s (rd x11_4 (ji74)) (add64s t537 x20_4 0) x19_4)) := ⟨_, rfl⟩
                                replace H : (impl_nat_div.l2 k4 t494 t495 (t495.length : Int) y539 x12_1 x13_1 x14_53 (sub64c (rd x11_4 (ji74)) (add64s t537 x20_4 0) x19_4) (IntKind.u64.wrap (t536 + (add64c t537 x20_4 0))) t495 (t495.length : Int) (wrap64 (x191_4 + 1))) = some (r1, r2) := by first | (rw [hy539]; with_reducible exact H) | (have H2_ := (Option.bind_some _ _).symm.trans H; rw [hy539]; with_reducible exact H2_) | (have H2_ := (Option.bind_some _ _).symm.trans H; with_reducible exact H2_) | with_reducible exact H | (rw [hy539]; exact H) | exact H
                                have Ny539 := Aside0.mk hy539
                                clear hy539
                                have H' := Aside0.mk H
                                clear H
                                have p535 : 0 ≤ (x191_4 : Int) := of_decide_eq_true (by first | (with_reducible assumption) | assumption)
                                have q535 : x191_4 < (t495.length : Int) := of_decide_eq_true (by first | (with_reducible assumption) | assumption)
                                obtain ⟨ad535, e535, hx535_0⟩ := Kd.at_int (Kd.R_reads' HO_189.out).2.2 x191_4 p535 q535
                                obtain rfl : ad518 = ad535 := (by injection e535)
                                replace p535 := eq_true p535
                                replace q535 := eq_true q535
                                go_wp2_with (first | go_step3 | (go_at_call 93; (with_reducible refine (bits_Mul64.calls x14_53 (rd t495 x191_4) t536 t537 _ A73.out).mono ?_); rintro e w' ⟨rfl, ⟨nd, rfl⟩⟩; (try first | exact ⟨rfl, _, World.drewN_drewN _ _ _⟩ | exact ⟨rfl, _, Eq.trans (World.drewN_drewN _ _ _) (congrArg (World.drewN _) (Nat.add_assoc _ _ _))⟩); have p538 : 0 ≤ ((ji74) : Int) := of_decide_eq_true (by first | (with_reducible assumption) | assumption); have q538 : (ji74) < (x11_4.length : Int) := of_decide_eq_true (by first | (with_reducible assumption) | assumption); obtain ⟨ad538, e538, hx538_0⟩ := Kd.at_int (Kd.R_reads' HO_11.out).2.2 (ji74) p538 q538; obtain rfl : ad517 = ad538 := (by injection e538); replace p538 := eq_true p538; replace q538 := eq_true q538; have p78 : 0 ≤ ((ji74) : Int) := of_decide_eq_true (by first | (with_reducible assumption) | assumption); have q78 : ((ji74) : Int) < ((x11_4.length : Int) : Int) := of_decide_eq_true (by first | (with_reducible assumption) | assumption); obtain ⟨go78, co78, eo78, gb78, gl78, cl78, HG78⟩ := Kd.R_form HO_11.out (by omega); (first | cases eo78 | (injection eo78 with ea_ en_ ec_; (first | subst ea_ | (injection ea_ with ea_; subst ea_)); subst ec_; clear en_)); have GB78 := Aside0.mk gb78; have GG78 := Aside0.mk HG78; clear gb78 gl78 HG78; (first | simp only [add_plain] at hx517_0 | skip); (first | simp only [add_plain] at hx519_0 | skip); (first | simp only [add_plain] at hx520_0 | skip); (first | simp only [add_plain] at hx524_0 | skip); (first | simp only [add_plain] at hx530_0 | skip); (first | simp only [add_plain] at hx538_0 | skip); obtain ⟨hx78_0, hf78_0⟩ := Kd.R_celln 0 HO_11.out ((ji74) : Int) p78 q78; replace p78 := eq_true p78; replace q78 := eq_true q78; obtain ⟨hy79_, hz79_⟩ := Kd.R_celln 0 HO_11.out ((ji74) : Int) (of_decide_eq_true (by first | (with_reducible assumption) | assumption)) (of_decide_eq_true (by first | (with_reducible assumption) | assumption)); have HP79 := Kd.R_putg HO_11.out ((ji74) : Int) (sub64s (rd x11_4 (ji74)) (add64s t537 x20_4 0) x19_4)) | ((with_reducible refine gate_store (t := 36) (p := 227) rfl ?_); (try (rw [drewN_self wr]; generalize hq_ : World.drewN wr _ = wr; have n0_ := Aside0.mk (Kd.R_at hq_ HO_9.out); have n1_ := Aside0.mk (Kd.R_at hq_ HO_11.out); have n2_ := Aside0.mk (Kd.R_at hq_ HO_12.out); have n3_ := Aside0.mk (Kd.R_at hq_ HO_189.out); have n4_ := Aside0.mk (below_at hq_ HB.out); clear hq_ HO_9 HO_11 HO_12 HO_189 HB; have HO_9 := n0_; have HO_11 := n1_; have HO_12 := n2_; have HO_189 := n3_; have HB := n4_; clear n0_ n1_ n2_ n3_ n4_; (try (obtain ⟨hx78_0, hf78_0⟩ := Kd.R_celln 0 HO_11.out ((ji74) : Int) (of_eq_true p78) (of_eq_true q78))); (try (obtain ⟨hy79_, hz79_⟩ := Kd.R_celln 0 HO_11.out ((ji74) : Int) (of_decide_eq_true (by first | (with_reducible assumption) | assumption)) (of_decide_eq_true (by first | (with_reducible assumption) | assumption)))); (try (have HP79 := Kd.R_putg HO_11.out ((ji74) : Int) (sub64s (rd x11_4 (ji74)) (add64s t537 x20_4 0) x19_4))))); refine store_event (t := 36) (p := 227) (v := ?vo_w80) (w1 := (wr.setCell ⟨go78, ((ji74) : Int).toNat, none⟩ (.int .u64 (sub64s (rd x11_4 (ji74)) (add64s t537 x20_4 0) x19_4)))) ?hg ?ho ?hn ?hr ?_; (case ho => rfl); (case hg => rfl); (case hn => rfl); (case hr => first | (go_simp; done) | (go_simp; rfl)); intro w80 hw; have hg : wr.grownBy w80 (some go78) := (by rw [hw]; exact HP79.2); have hp_ : Kd.R (Kd.int .u64) 36 w80 w.heap.size (fun k_ => some k_ ≠ (.slice (some ad518) t495.length co28 : Value).ownBlock ∧ some k_ ≠ (v506 : Value).ownBlock ∧ some k_ ≠ (.slice (some ad518) t495.length co28 : Value).ownBlock) (.slice (some ⟨go78, 0, none⟩) x11_4.length co34) y539 := (by rw [hw, Ny539.out]; exact HP79.1); clear HP79; have n0_ := Aside0.mk (Kd.R_after (v := (.slice (some ⟨go78, 0, none⟩) x11_4.length co34)) (v1 := (.slice (some ⟨go78, 0, none⟩) x11_4.length co34)) (ok := (fun k_ => some k_ ≠ (v506 : Value).ownBlock)) (by (with_reducible repeat (first | apply Kd.R_alloc | apply Kd.R_drewN | apply Kd.R_drew)); exact Kd.R_mono HO_9.out (fun _ hk => ⟨hk.2, hk.1⟩)) hg (.inl rfl)); have n1_ := Aside0.mk (hp_); have n2_ := Aside0.mk (Kd.R_after (v := (.slice (some ⟨go78, 0, none⟩) x11_4.length co34)) (v1 := (.slice (some ⟨go78, 0, none⟩) x11_4.length co34)) (ok := (fun k_ => some k_ ≠ (.slice (some ad518) t495.length co28 : Value).ownBlock ∧ some k_ ≠ (.slice (some ad518) t495.length co28 : Value).ownBlock)) (by (with_reducible repeat (first | apply Kd.R_alloc | apply Kd.R_drewN | apply Kd.R_drew)); exact Kd.R_mono HO_12.out (fun _ hk => ⟨⟨hk.1, hk.2.2⟩, hk.2.1⟩)) hg (.inl rfl)); have n3_ := Aside0.mk (Kd.R_after (v := (.slice (some ⟨go78, 0, none⟩) x11_4.length co34)) (v1 := (.slice (some ⟨go78, 0, none⟩) x11_4.length co34)) (ok := (fun k_ => some k_ ≠ (v506 : Value).ownBlock)) (by (with_reducible repeat (first | apply Kd.R_alloc | apply Kd.R_drewN | apply Kd.R_drew)); exact Kd.R_mono HO_189.out (fun _ hk => ⟨hk.2, hk.1⟩)) hg (.inl rfl)); have n4_ := Aside0.mk ((by rw [hw]; exact below_set (HB.out) GB78.out : Below w.heap.size w w80)); clear HO_9; clear HO_11; clear HO_12; clear HO_189; clear HB; have HO_9 := n0_; have HO_11 := n1_; have HO_12 := n2_; have HO_189 := n3_; have HB := n4_; clear n0_ n1_ n2_ n3_ n4_; clear hg hw hp_))
                                (try simp only [← hl11_4])
                                (try simp only [Exit.noGoto_ret, Exit.noGoto_normal, Exit.noGoto_exit]); go_roundg k4
                                case measure => have := HK1.out; have := HJ44.out; have := HJ53.out; have := HK4.out; omega
                                case rel => exact ⟨(y539), (sub64c (rd x11_4 (ji74)) (add64s t537 x20_4 0) x19_4), (IntKind.u64.wrap (t536 + (add64c t537 x20_4 0))), (wrap64 (x191_4 + 1)), (by first | rfl | (simp; done) | (simp only [← hji74] <;> (first | rfl | simp)) | (simp [*]; done)), (by first | rfl | (simp; done) | (simp [*]; done)), (by first | rfl | (simp; done) | (simp [*]; done)), H', ⟨by have := HK1.out; have := HJ44.out; have := HJ53.out; have := HK4.out; omega⟩, ⟨by (try simp only [hl11_1]); (try simp only [hl11_4]); (with_reducible repeat (first | apply Kd.R_alloc | apply Kd.R_drewN | apply Kd.R_drew)); exact Kd.R_mono HO_9.out (fun _ hk => ⟨hk.2, hk.1⟩)⟩, ⟨by (try simp only [hl11_1]); (try simp only [hl11_4]); (with_reducible repeat (first | apply Kd.R_alloc | apply Kd.R_drewN | apply Kd.R_drew)); exact HO_11.out⟩, ⟨by (try simp only [hl11_1]); (try simp only [hl11_4]); (with_reducible repeat (first | apply Kd.R_alloc | apply Kd.R_drewN | apply Kd.R_drew)); exact Kd.R_mono HO_12.out (fun _ hk => ⟨hk.1.1, ⟨hk.2, hk.1.2⟩⟩)⟩, ⟨by (try simp only [hl11_1]); (try simp only [hl11_4]); (with_reducible repeat (first | apply Kd.R_alloc | apply Kd.R_drewN | apply Kd.R_drew)); exact Kd.R_mono HO_189.out (fun _ hk => ⟨hk.2, hk.1⟩)⟩, ⟨by repeat (first | (with_reducible first | exact HB.out | apply below_alloc | apply pw_below_drewN | apply below_drew1) | exact HB.out)⟩⟩
                               ·rw [if_neg c77] at H
                                exact absurd H (by simp)
                              ·rw [if_neg c76] at H
                               exact absurd H (by simp)
                             ·rw [if_neg c75] at H
                              exact absurd H (by simp)
                            ·rw [if_neg c72] at H
                             exact absurd H (by simp)
                           ·rw [if_neg c71] at H
                            exact absurd H (by simp)
                          ·rw [if_neg c70] at H
                           have c70b0 : decide (x191_4 < (t495.length : Int)) = false := decide_eq_false c70
                           clear c70
                           replace H : (if 0 ≤ (ji39) then (if (ji39) < (x11_4.length : Int) then (if x19_4.toNat ≤ 1 then ((some (x11_4.set ((ji39) : Int).toNat (sub64s (rd x11_4 (ji39)) x20_4 x19_4) : List Int)).bind fun y541 => (if 0 ≤ x13_1 then (if x13_1 < (x12_1.length : Int) then ((some (x12_1.set (x13_1 : Int).toNat x14_53 : List Int)).bind fun y542 => (if (sub64c (rd x11_4 (ji39)) x20_4 x19_4) = 0 then (impl_nat_div.l0 k4 t494 t495 (t495.length : Int) y541 y542 (wrap64 (x13_1 - 1))) else (impl_nat_div.l3 k4 t494 t495 (t495.length : Int) y541 (y542.set (x13_1 : Int).toNat (IntKind.u64.wrap ((rd y542 x13_1) - 1))) x13_1 0 t495 (t495.length : Int) 0))) else (none)) else (none))) else (none)) else (none)) else (none)) = some (r1, r2) := by first | (rw [hji39] at H; exact H) | (simp only [hji39] at H ⊢; exact H)
                           by_cases c81 : 0 ≤ (ji39)
                           ·rw [if_pos c81] at H
                            have c81b0 : decide (0 ≤ (ji39)) = true := decide_eq_true c81
                            clear c81
                            by_cases c82 : (ji39) < (x11_4.length : Int)
                            ·rw [if_pos c82] at H
                             have c82b0 : decide ((ji39) < (x11_4.length : Int)) = true := decide_eq_true c82
                             clear c82
                             by_cases c83 : x19_4.toNat ≤ 1
                             ·rw [if_pos c83] at H
                              have c83b0 := eq_true c83
                              have c83b1 : decide (x19_4.toNat ≤ 1) = true := decide_eq_true c83
                              clear c83
                              obtain ⟨y541, hy541⟩ : ∃ y_ : List Int, y_ = (x11_4.set ((ji39) : Int).toNat (sub64s (rd x11_4 (ji39)) x20_4 x19_4)) := ⟨_, rfl⟩
                              replace H : (if 0 ≤ x13_1 then (if x13_1 < (x12_1.length : Int) then ((some (x12_1.set (x13_1 : Int).toNat x14_53 : List Int)).bind fun y542 => (if (sub64c (rd x11_4 (ji39)) x20_4 x19_4) = 0 then (impl_nat_div.l0 k4 t494 t495 (t495.length : Int) y541 y542 (wrap64 (x13_1 - 1))) else (impl_nat_div.l3 k4 t494 t495 (t495.length : Int) y541 (y542.set (x13_1 : Int).toNat (IntKind.u64.wrap ((rd y542 x13_1) - 1))) x13_1 0 t495 (t495.length : Int) 0))) else (none)) else (none)) = some (r1, r2) := by first | (rw [hy541]; with_reducible exact H) | (have H2_ := (Option.bind_some _ _).symm.trans H; rw [hy541]; with_reducible exact H2_) | (have H2_ := (Option.bind_some _ _).symm.trans H; with_reducible exact H2_) | with_reducible exact H | (rw [hy541]; exact H) | exact H
                              have Ny541 := Aside0.mk hy541
                              clear hy541
                              by_cases c85 : 0 ≤ x13_1
                              ·rw [if_pos c85] at H
                               have c85b0 : decide (0 ≤ x13_1) = true := decide_eq_true c85
                               clear c85
                               by_cases c86 : x13_1 < (x12_1.length : Int)
                               ·rw [if_pos c86] at H
                                have c86b0 : decide (x13_1 < (x12_1.length : Int)) = true := decide_eq_true c86
                                clear c86
                                obtain ⟨y542, hy542⟩ : ∃ y_ : List Int, y_ = (x12_1.set (x13_1 : Int).toNat x14_53) := ⟨_, rfl⟩
                                replace H : (if (sub64c (rd x11_4 (ji39)) x20_4 x19_4) = 0 then (impl_nat_div.l0 k4 t494 t495 (t495.length : Int) y541 y542 (wrap64 (x13_1 - 1))) else (impl_nat_div.l3 k4 t494 t495 (t495.length : Int) y541 (y542.set (x13_1 : Int).toNat (IntKind.u64.wrap ((rd y542 x13_1) - 1))) x13_1 0 t495 (t495.length : Int) 0)) = some (r1, r2) := by first | (rw [hy542]; with_reducible exact H) | (have H2_ := (Option.bind_some _ _).symm.trans H; rw [hy542]; with_reducible exact H2_) | (have H2_ := (Option.bind_some _ _).symm.trans H; with_reducible exact H2_) | with_reducible exact H | (rw [hy542]; exact H) | exact H
                                have Ny542 := Aside0.mk hy542
                                clear hy542
                                by_cases c88 : (sub64c (rd x11_4 (ji39)) x20_4 x19_4) = 0
                                ·rw [if_pos c88] at H
                                 have c88b0 : ((sub64c (rd x11_4 (ji39)) x20_4 x19_4) == 0) = true := beq_iff_eq.mpr c88
                                 have c88b1 : ((sub64c (rd x11_4 (ji39)) x20_4 x19_4) != 0) = false := bne_eq_false_iff_eq.mpr c88
                                 clear c88
                                 have H' := Aside0.mk H
                                 clear H
                                 have p540 : 0 ≤ ((ji39) : Int) := of_decide_eq_true (by first | (with_reducible assumption) | assumption)
                                 have q540 : (ji39) < (x11_4.length : Int) := of_decide_eq_true (by first | (with_reducible assumption) | assumption)
                                 obtain ⟨ad540, e540, hx540_0⟩ := Kd.at_int (Kd.R_reads' HO_11.out).2.2 (ji39) p540 q540
                                 obtain rfl : ad517 = ad540 := (by injection e540)
                                 replace p540 := eq_true p540
                                 replace q540 := eq_true q540
                                 have p84 : 0 ≤ ((ji39) : Int) := of_decide_eq_true (by first | (with_reducible assumption) | assumption)
                                 have q84 : ((ji39) : Int) < ((x11_4.length : Int) : Int) := of_decide_eq_true (by first | (with_reducible assumption) | assumption)
                                 obtain ⟨go84, co84, eo84, gb84, gl84, cl84, HG84⟩ := Kd.R_form HO_11.out (by omega)
                                 (first | cases eo84 | (injection eo84 with ea_ en_ ec_; (first | subst ea_ | (injection ea_ with ea_; subst ea_)); subst ec_; clear en_))
                                 have GB84 := Aside0.mk gb84
                                 have GG84 := Aside0.mk HG84
                                 clear gb84 gl84 HG84
                                 (first | simp only [add_plain] at hx540_0 | skip)
                                 obtain ⟨hx84_0, hf84_0⟩ := Kd.R_celln 0 HO_11.out ((ji39) : Int) p84 q84
                                 replace p84 := eq_true p84
                                 replace q84 := eq_true q84
                                 have HP89 := Kd.R_putg HO_11.out ((ji39) : Int) (sub64s (rd x11_4 (ji39)) x20_4 x19_4)
                                 go_wp2_with (first | go_step3 | ((with_reducible refine gate_store (t := 36) (p := 245) rfl ?_); (try (rw [drewN_self wr]; generalize hq_ : World.drewN wr _ = wr; have n0_ := Aside0.mk (Kd.R_at hq_ HO_9.out); have n1_ := Aside0.mk (Kd.R_at hq_ HO_11.out); have n2_ := Aside0.mk (Kd.R_at hq_ HO_12.out); have n3_ := Aside0.mk (Kd.R_at hq_ HO_189.out); have n4_ := Aside0.mk (below_at hq_ HB.out); clear hq_ HO_9 HO_11 HO_12 HO_189 HB; have HO_9 := n0_; have HO_11 := n1_; have HO_12 := n2_; have HO_189 := n3_; have HB := n4_; clear n0_ n1_ n2_ n3_ n4_; (try (obtain ⟨hx84_0, hf84_0⟩ := Kd.R_celln 0 HO_11.out ((ji39) : Int) (of_eq_true p84) (of_eq_true q84))); (try (have HP89 := Kd.R_putg HO_11.out ((ji39) : Int) (sub64s (rd x11_4 (ji39)) x20_4 x19_4))))); refine store_event (t := 36) (p := 245) (v := ?vo_w90) (w1 := (wr.setCell ⟨go84, ((ji39) : Int).toNat, none⟩ (.int .u64 (sub64s (rd x11_4 (ji39)) x20_4 x19_4)))) ?hg ?ho ?hn ?hr ?_; (case ho => rfl); (case hg => rfl); (case hn => rfl); (case hr => first | (go_simp; done) | (go_simp; rfl)); intro w90 hw; have hg : wr.grownBy w90 (some go84) := (by rw [hw]; exact HP89.2); have hp_ : Kd.R (Kd.int .u64) 36 w90 w.heap.size (fun k_ => some k_ ≠ (.slice (some ad518) t495.length co28 : Value).ownBlock ∧ some k_ ≠ (v506 : Value).ownBlock ∧ some k_ ≠ (.slice (some ad518) t495.length co28 : Value).ownBlock) (.slice (some ⟨go84, 0, none⟩) x11_4.length co34) y541 := (by rw [hw, Ny541.out]; exact HP89.1); clear HP89; have n0_ := Aside0.mk (Kd.R_after (v := (.slice (some ⟨go84, 0, none⟩) x11_4.length co34)) (v1 := (.slice (some ⟨go84, 0, none⟩) x11_4.length co34)) (ok := (fun k_ => some k_ ≠ (v506 : Value).ownBlock)) (by (with_reducible repeat (first | apply Kd.R_alloc | apply Kd.R_drewN | apply Kd.R_drew)); exact Kd.R_mono HO_9.out (fun _ hk => ⟨hk.2, hk.1⟩)) hg (.inl rfl)); have n1_ := Aside0.mk (hp_); have n2_ := Aside0.mk (Kd.R_after (v := (.slice (some ⟨go84, 0, none⟩) x11_4.length co34)) (v1 := (.slice (some ⟨go84, 0, none⟩) x11_4.length co34)) (ok := (fun k_ => some k_ ≠ (.slice (some ad518) t495.length co28 : Value).ownBlock ∧ some k_ ≠ (.slice (some ad518) t495.length co28 : Value).ownBlock)) (by (with_reducible repeat (first | apply Kd.R_alloc | apply Kd.R_drewN | apply Kd.R_drew)); exact Kd.R_mono HO_12.out (fun _ hk => ⟨⟨hk.1, hk.2.2⟩, hk.2.1⟩)) hg (.inl rfl)); have n3_ := Aside0.mk (Kd.R_after (v := (.slice (some ⟨go84, 0, none⟩) x11_4.length co34)) (v1 := (.slice (some ⟨go84, 0, none⟩) x11_4.length co34)) (ok := (fun k_ => some k_ ≠ (v506 : Value).ownBlock)) (by (with_reducible repeat (first | apply Kd.R_alloc | apply Kd.R_drewN | apply Kd.R_drew)); exact Kd.R_mono HO_189.out (fun _ hk => ⟨hk.2, hk.1⟩)) hg (.inl rfl)); have n4_ := Aside0.mk ((by rw [hw]; exact below_set (HB.out) GB84.out : Below w.heap.size w w90)); clear HO_9; clear HO_11; clear HO_12; clear HO_189; clear HB; have HO_9 := n0_; have HO_11 := n1_; have HO_12 := n2_; have HO_189 := n3_; have HB := n4_; clear n0_ n1_ n2_ n3_ n4_; clear hg hw hp_; have p87 : 0 ≤ (x13_1 : Int) := of_decide_eq_true (by first | (with_reducible assumption) | assumption); have q87 : (x13_1 : Int) < ((x12_1.length : Int) : Int) := of_decide_eq_true (by first | (with_reducible assumption) | assumption); obtain ⟨go87, co87, eo87, gb87, gl87, cl87, HG87⟩ := Kd.R_form HO_12.out (by omega); (first | cases eo87 | (injection eo87 with ea_ en_ ec_; (first | subst ea_ | (injection ea_ with ea_; subst ea_)); subst ec_; clear en_)); have GB87 := Aside0.mk gb87; have GG87 := Aside0.mk HG87; clear gb87 gl87 HG87; obtain ⟨hx87_0, hf87_0⟩ := Kd.R_celln 0 HO_12.out (x13_1 : Int) p87 q87; replace p87 := eq_true p87; replace q87 := eq_true q87; have n_ := Aside0.mk (Kd.R_mono (ok' := (fun k_ => some k_ ≠ (.slice (some ad518) t495.length co28 : Value).ownBlock ∧ some k_ ≠ (.slice (some ⟨go84, 0, none⟩) x11_4.length co34 : Value).ownBlock ∧ some k_ ≠ (.slice (some ad518) t495.length co28 : Value).ownBlock)) HO_12.out (fun k_ hk => ⟨hk.1.1, ⟨hk.2, hk.1.2⟩⟩)); clear HO_12; have HO_12 := n_; clear n_; obtain ⟨hy91_, hz91_⟩ := Kd.R_celln 0 HO_12.out (x13_1 : Int) (of_decide_eq_true (by first | (with_reducible assumption) | assumption)) (of_decide_eq_true (by first | (with_reducible assumption) | assumption)); have HP91 := Kd.R_putg HO_12.out (x13_1 : Int) x14_53) | ((with_reducible refine gate_store (t := 36) (p := 249) rfl ?_); (try (rw [drewN_self w90]; generalize hq_ : World.drewN w90 _ = w90; have n0_ := Aside0.mk (Kd.R_at hq_ HO_9.out); have n1_ := Aside0.mk (Kd.R_at hq_ HO_11.out); have n2_ := Aside0.mk (Kd.R_at hq_ HO_12.out); have n3_ := Aside0.mk (Kd.R_at hq_ HO_189.out); have n4_ := Aside0.mk (below_at hq_ HB.out); clear hq_ HO_9 HO_11 HO_12 HO_189 HB; have HO_9 := n0_; have HO_11 := n1_; have HO_12 := n2_; have HO_189 := n3_; have HB := n4_; clear n0_ n1_ n2_ n3_ n4_; (try (obtain ⟨hx87_0, hf87_0⟩ := Kd.R_celln 0 HO_12.out (x13_1 : Int) (of_eq_true p87) (of_eq_true q87))); (try (have n_ := Aside0.mk (Kd.R_mono (ok' := (fun k_ => some k_ ≠ (.slice (some ad518) t495.length co28 : Value).ownBlock ∧ some k_ ≠ (.slice (some ⟨go84, 0, none⟩) x11_4.length co34 : Value).ownBlock ∧ some k_ ≠ (.slice (some ad518) t495.length co28 : Value).ownBlock)) HO_12.out (fun k_ hk => ⟨hk.1.1, ⟨hk.2, hk.1.2⟩⟩)); clear HO_12; have HO_12 := n_; clear n_)); (try (obtain ⟨hy91_, hz91_⟩ := Kd.R_celln 0 HO_12.out (x13_1 : Int) (of_decide_eq_true (by first | (with_reducible assumption) | assumption)) (of_decide_eq_true (by first | (with_reducible assumption) | assumption)))); (try (have HP91 := Kd.R_putg HO_12.out (x13_1 : Int) x14_53)))); refine store_event (t := 36) (p := 249) (v := ?vo_w92) (w1 := (w90.setCell ⟨go87, (x13_1 : Int).toNat, none⟩ (.int .u64 x14_53))) ?hg ?ho ?hn ?hr ?_; (case ho => rfl); (case hg => rfl); (case hn => rfl); (case hr => first | (go_simp; done) | (go_simp; rfl)); intro w92 hw; have hg : w90.grownBy w92 (some go87) := (by rw [hw]; exact HP91.2); have hp_ : Kd.R (Kd.int .u64) 36 w92 w.heap.size (fun k_ => some k_ ≠ (.slice (some ad518) t495.length co28 : Value).ownBlock ∧ some k_ ≠ (.slice (some ⟨go84, 0, none⟩) x11_4.length co34 : Value).ownBlock ∧ some k_ ≠ (.slice (some ad518) t495.length co28 : Value).ownBlock) (.slice (some ⟨go87, 0, none⟩) x12_1.length co87) y542 := (by rw [hw, Ny542.out]; exact HP91.1); clear HP91; have n0_ := Aside0.mk (Kd.R_after (v := (.slice (some ⟨go87, 0, none⟩) x12_1.length co87)) (v1 := (.slice (some ⟨go87, 0, none⟩) x12_1.length co87)) (ok := (fun k_ => some k_ ≠ (.slice (some ⟨go84, 0, none⟩) x11_4.length co34 : Value).ownBlock)) (by (with_reducible repeat (first | apply Kd.R_alloc | apply Kd.R_drewN | apply Kd.R_drew)); exact Kd.R_mono HO_9.out (fun _ hk => ⟨hk.2, hk.1⟩)) hg (.inl rfl)); have n1_ := Aside0.mk (Kd.R_after (v := (.slice (some ⟨go87, 0, none⟩) x12_1.length co87)) (v1 := (.slice (some ⟨go87, 0, none⟩) x12_1.length co87)) (ok := (fun k_ => some k_ ≠ (.slice (some ad518) t495.length co28 : Value).ownBlock ∧ some k_ ≠ (.slice (some ad518) t495.length co28 : Value).ownBlock)) (by (with_reducible repeat (first | apply Kd.R_alloc | apply Kd.R_drewN | apply Kd.R_drew)); exact Kd.R_mono HO_11.out (fun _ hk => ⟨⟨hk.1, hk.2.2⟩, hk.2.1⟩)) hg (.inl rfl)); have n2_ := Aside0.mk (hp_); have n3_ := Aside0.mk (Kd.R_after (v := (.slice (some ⟨go87, 0, none⟩) x12_1.length co87)) (v1 := (.slice (some ⟨go87, 0, none⟩) x12_1.length co87)) (ok := (fun k_ => some k_ ≠ (.slice (some ⟨go84, 0, none⟩) x11_4.length co34 : Value).ownBlock)) (by (with_reducible repeat (first | apply Kd.R_alloc | apply Kd.R_drewN | apply Kd.R_drew)); exact Kd.R_mono HO_189.out (fun _ hk => ⟨hk.2, hk.1⟩)) hg (.inl rfl)); have n4_ := Aside0.mk ((by rw [hw]; exact below_set (HB.out) GB87.out : Below w.heap.size w w92)); clear HO_9; clear HO_11; clear HO_12; clear HO_189; clear HB; have HO_9 := n0_; have HO_11 := n1_; have HO_12 := n2_; have HO_189 := n3_; have HB := n4_; clear n0_ n1_ n2_ n3_ n4_; clear hg hw hp_))
                                 (try simp only [← hl11_1, ← hl11_4])
                                 (try simp only [Exit.noGoto_ret, Exit.noGoto_normal, Exit.noGoto_exit]); go_roundg k4
                                 case measure => have := HK1.out; have := HJ44.out; have := HJ53.out; have := HK4.out; omega
                                 case rel => exact ⟨(y541), (y542), (wrap64 (x13_1 - 1)), (by first | rfl | (simp; done) | (simp [*]; done)), H', ⟨by have := HK1.out; have := HJ44.out; have := HJ53.out; have := HK4.out; omega⟩, ⟨by (try simp only [hl11_1]); (try simp only [hl11_4]); (with_reducible repeat (first | apply Kd.R_alloc | apply Kd.R_drewN | apply Kd.R_drew)); exact HO_9.out⟩, ⟨by (try simp only [hl11_1]); (try simp only [hl11_4]); (with_reducible repeat (first | apply Kd.R_alloc | apply Kd.R_drewN | apply Kd.R_drew)); exact Kd.R_mono HO_11.out (fun _ hk => ⟨hk.1.1, hk.2⟩)⟩, ⟨by (try simp only [hl11_1]); (try simp only [hl11_4]); (with_reducible repeat (first | apply Kd.R_alloc | apply Kd.R_drewN | apply Kd.R_drew)); exact Kd.R_mono HO_12.out (fun _ hk => ⟨hk.1, hk.2.1⟩)⟩, ⟨by repeat (first | (with_reducible first | exact HB.out | apply below_alloc | apply pw_below_drewN | apply below_drew1) | exact HB.out)⟩⟩
                                ·rw [if_neg c88] at H
                                 have c88b0 : ((sub64c (rd x11_4 (ji39)) x20_4 x19_4) == 0) = false := beq_eq_false_iff_ne.mpr c88
                                 have c88b1 : ((sub64c (rd x11_4 (ji39)) x20_4 x19_4) != 0) = true := bne_iff_ne.mpr c88
                                 obtain ⟨y544, hy544⟩ : ∃ y_ : List Int, y_ = (y542.set (x13_1 : Int).toNat (IntKind.u64.wrap ((rd y542 x13_1) - 1))) := ⟨_, rfl⟩
                                 replace H : (impl_nat_div.l3 k4 t494 t495 (t495.length : Int) y541 y544 x13_1 0 t495 (t495.length : Int) 0) = some (r1, r2) := by first | (rw [hy544]; with_reducible exact H) | (have H2_ := (Option.bind_some _ _).symm.trans H; rw [hy544]; with_reducible exact H2_) | (have H2_ := (Option.bind_some _ _).symm.trans H; with_reducible exact H2_) | with_reducible exact H | (rw [hy544]; exact H) | exact H
                                 have Ny544 := Aside0.mk hy544
                                 clear hy544
                                 have H' := Aside0.mk H
                                 clear H
                                 have p540 : 0 ≤ ((ji39) : Int) := of_decide_eq_true (by first | (with_reducible assumption) | assumption)
                                 have q540 : (ji39) < (x11_4.length : Int) := of_decide_eq_true (by first | (with_reducible assumption) | assumption)
                                 obtain ⟨ad540, e540, hx540_0⟩ := Kd.at_int (Kd.R_reads' HO_11.out).2.2 (ji39) p540 q540
                                 obtain rfl : ad517 = ad540 := (by injection e540)
                                 replace p540 := eq_true p540
                                 replace q540 := eq_true q540
                                 have p84 : 0 ≤ ((ji39) : Int) := of_decide_eq_true (by first | (with_reducible assumption) | assumption)
                                 have q84 : ((ji39) : Int) < ((x11_4.length : Int) : Int) := of_decide_eq_true (by first | (with_reducible assumption) | assumption)
                                 obtain ⟨go84, co84, eo84, gb84, gl84, cl84, HG84⟩ := Kd.R_form HO_11.out (by omega)
                                 (first | cases eo84 | (injection eo84 with ea_ en_ ec_; (first | subst ea_ | (injection ea_ with ea_; subst ea_)); subst ec_; clear en_))
                                 have GB84 := Aside0.mk gb84
                                 have GG84 := Aside0.mk HG84
                                 clear gb84 gl84 HG84
                                 (first | simp only [add_plain] at hx540_0 | skip)
                                 obtain ⟨hx84_0, hf84_0⟩ := Kd.R_celln 0 HO_11.out ((ji39) : Int) p84 q84
                                 replace p84 := eq_true p84
                                 replace q84 := eq_true q84
                                 have HP94 := Kd.R_putg HO_11.out ((ji39) : Int) (sub64s (rd x11_4 (ji39)) x20_4 x19_4)
                                 go_wp2_with (first | go_step3 | ((with_reducible refine gate_store (t := 36) (p := 245) rfl ?_); (try (rw [drewN_self wr]; generalize hq_ : World.drewN wr _ = wr; have n0_ := Aside0.mk (Kd.R_at hq_ HO_9.out); have n1_ := Aside0.mk (Kd.R_at hq_ HO_11.out); have n2_ := Aside0.mk (Kd.R_at hq_ HO_12.out); have n3_ := Aside0.mk (Kd.R_at hq_ HO_189.out); have n4_ := Aside0.mk (below_at hq_ HB.out); clear hq_ HO_9 HO_11 HO_12 HO_189 HB; have HO_9 := n0_; have HO_11 := n1_; have HO_12 := n2_; have HO_189 := n3_; have HB := n4_; clear n0_ n1_ n2_ n3_ n4_; (try (obtain ⟨hx84_0, hf84_0⟩ := Kd.R_celln 0 HO_11.out ((ji39) : Int) (of_eq_true p84) (of_eq_true q84))); (try (have HP94 := Kd.R_putg HO_11.out ((ji39) : Int) (sub64s (rd x11_4 (ji39)) x20_4 x19_4))))); refine store_event (t := 36) (p := 245) (v := ?vo_w95) (w1 := (wr.setCell ⟨go84, ((ji39) : Int).toNat, none⟩ (.int .u64 (sub64s (rd x11_4 (ji39)) x20_4 x19_4)))) ?hg ?ho ?hn ?hr ?_; (case ho => rfl); (case hg => rfl); (case hn => rfl); (case hr => first | (go_simp; done) | (go_simp; rfl)); intro w95 hw; have hg : wr.grownBy w95 (some go84) := (by rw [hw]; exact HP94.2); have hp_ : Kd.R (Kd.int .u64) 36 w95 w.heap.size (fun k_ => some k_ ≠ (.slice (some ad518) t495.length co28 : Value).ownBlock ∧ some k_ ≠ (v506 : Value).ownBlock ∧ some k_ ≠ (.slice (some ad518) t495.length co28 : Value).ownBlock) (.slice (some ⟨go84, 0, none⟩) x11_4.length co34) y541 := (by rw [hw, Ny541.out]; exact HP94.1); clear HP94; have n0_ := Aside0.mk (Kd.R_after (v := (.slice (some ⟨go84, 0, none⟩) x11_4.length co34)) (v1 := (.slice (some ⟨go84, 0, none⟩) x11_4.length co34)) (ok := (fun k_ => some k_ ≠ (v506 : Value).ownBlock)) (by (with_reducible repeat (first | apply Kd.R_alloc | apply Kd.R_drewN | apply Kd.R_drew)); exact Kd.R_mono HO_9.out (fun _ hk => ⟨hk.2, hk.1⟩)) hg (.inl rfl)); have n1_ := Aside0.mk (hp_); have n2_ := Aside0.mk (Kd.R_after (v := (.slice (some ⟨go84, 0, none⟩) x11_4.length co34)) (v1 := (.slice (some ⟨go84, 0, none⟩) x11_4.length co34)) (ok := (fun k_ => some k_ ≠ (.slice (some ad518) t495.length co28 : Value).ownBlock ∧ some k_ ≠ (.slice (some ad518) t495.length co28 : Value).ownBlock)) (by (with_reducible repeat (first | apply Kd.R_alloc | apply Kd.R_drewN | apply Kd.R_drew)); exact Kd.R_mono HO_12.out (fun _ hk => ⟨⟨hk.1, hk.2.2⟩, hk.2.1⟩)) hg (.inl rfl)); have n3_ := Aside0.mk (Kd.R_after (v := (.slice (some ⟨go84, 0, none⟩) x11_4.length co34)) (v1 := (.slice (some ⟨go84, 0, none⟩) x11_4.length co34)) (ok := (fun k_ => some k_ ≠ (v506 : Value).ownBlock)) (by (with_reducible repeat (first | apply Kd.R_alloc | apply Kd.R_drewN | apply Kd.R_drew)); exact Kd.R_mono HO_189.out (fun _ hk => ⟨hk.2, hk.1⟩)) hg (.inl rfl)); have n4_ := Aside0.mk ((by rw [hw]; exact below_set (HB.out) GB84.out : Below w.heap.size w w95)); clear HO_9; clear HO_11; clear HO_12; clear HO_189; clear HB; have HO_9 := n0_; have HO_11 := n1_; have HO_12 := n2_; have HO_189 := n3_; have HB := n4_; clear n0_ n1_ n2_ n3_ n4_; clear hg hw hp_; have p87 : 0 ≤ (x13_1 : Int) := of_decide_eq_true (by first | (with_reducible assumption) | assumption); have q87 : (x13_1 : Int) < ((x12_1.length : Int) : Int) := of_decide_eq_true (by first | (with_reducible assumption) | assumption); obtain ⟨go87, co87, eo87, gb87, gl87, cl87, HG87⟩ := Kd.R_form HO_12.out (by omega); (first | cases eo87 | (injection eo87 with ea_ en_ ec_; (first | subst ea_ | (injection ea_ with ea_; subst ea_)); subst ec_; clear en_)); have GB87 := Aside0.mk gb87; have GG87 := Aside0.mk HG87; clear gb87 gl87 HG87; obtain ⟨hx87_0, hf87_0⟩ := Kd.R_celln 0 HO_12.out (x13_1 : Int) p87 q87; replace p87 := eq_true p87; replace q87 := eq_true q87; have n_ := Aside0.mk (Kd.R_mono (ok' := (fun k_ => some k_ ≠ (.slice (some ad518) t495.length co28 : Value).ownBlock ∧ some k_ ≠ (.slice (some ⟨go84, 0, none⟩) x11_4.length co34 : Value).ownBlock ∧ some k_ ≠ (.slice (some ad518) t495.length co28 : Value).ownBlock)) HO_12.out (fun k_ hk => ⟨hk.1.1, ⟨hk.2, hk.1.2⟩⟩)); clear HO_12; have HO_12 := n_; clear n_; obtain ⟨hy96_, hz96_⟩ := Kd.R_celln 0 HO_12.out (x13_1 : Int) (of_decide_eq_true (by first | (with_reducible assumption) | assumption)) (of_decide_eq_true (by first | (with_reducible assumption) | assumption)); have HP96 := Kd.R_putg HO_12.out (x13_1 : Int) x14_53) | ((with_reducible refine gate_store (t := 36) (p := 249) rfl ?_); (try (rw [drewN_self w95]; generalize hq_ : World.drewN w95 _ = w95; have n0_ := Aside0.mk (Kd.R_at hq_ HO_9.out); have n1_ := Aside0.mk (Kd.R_at hq_ HO_11.out); have n2_ := Aside0.mk (Kd.R_at hq_ HO_12.out); have n3_ := Aside0.mk (Kd.R_at hq_ HO_189.out); have n4_ := Aside0.mk (below_at hq_ HB.out); clear hq_ HO_9 HO_11 HO_12 HO_189 HB; have HO_9 := n0_; have HO_11 := n1_; have HO_12 := n2_; have HO_189 := n3_; have HB := n4_; clear n0_ n1_ n2_ n3_ n4_; (try (obtain ⟨hx87_0, hf87_0⟩ := Kd.R_celln 0 HO_12.out (x13_1 : Int) (of_eq_true p87) (of_eq_true q87))); (try (have n_ := Aside0.mk (Kd.R_mono (ok' := (fun k_ => some k_ ≠ (.slice (some ad518) t495.length co28 : Value).ownBlock ∧ some k_ ≠ (.slice (some ⟨go84, 0, none⟩) x11_4.length co34 : Value).ownBlock ∧ some k_ ≠ (.slice (some ad518) t495.length co28 : Value).ownBlock)) HO_12.out (fun k_ hk => ⟨hk.1.1, ⟨hk.2, hk.1.2⟩⟩)); clear HO_12; have HO_12 := n_; clear n_)); (try (obtain ⟨hy96_, hz96_⟩ := Kd.R_celln 0 HO_12.out (x13_1 : Int) (of_decide_eq_true (by first | (with_reducible assumption) | assumption)) (of_decide_eq_true (by first | (with_reducible assumption) | assumption)))); (try (have HP96 := Kd.R_putg HO_12.out (x13_1 : Int) x14_53)))); refine store_event (t := 36) (p := 249) (v := ?vo_w97) (w1 := (w95.setCell ⟨go87, (x13_1 : Int).toNat, none⟩ (.int .u64 x14_53))) ?hg ?ho ?hn ?hr ?_; (case ho => rfl); (case hg => rfl); (case hn => rfl); (case hr => first | (go_simp; done) | (go_simp; rfl)); intro w97 hw; have hg : w95.grownBy w97 (some go87) := (by rw [hw]; exact HP96.2); have hp_ : Kd.R (Kd.int .u64) 36 w97 w.heap.size (fun k_ => some k_ ≠ (.slice (some ad518) t495.length co28 : Value).ownBlock ∧ some k_ ≠ (.slice (some ⟨go84, 0, none⟩) x11_4.length co34 : Value).ownBlock ∧ some k_ ≠ (.slice (some ad518) t495.length co28 : Value).ownBlock) (.slice (some ⟨go87, 0, none⟩) x12_1.length co87) y542 := (by rw [hw, Ny542.out]; exact HP96.1); clear HP96; have n0_ := Aside0.mk (Kd.R_after (v := (.slice (some ⟨go87, 0, none⟩) x12_1.length co87)) (v1 := (.slice (some ⟨go87, 0, none⟩) x12_1.length co87)) (ok := (fun k_ => some k_ ≠ (.slice (some ⟨go84, 0, none⟩) x11_4.length co34 : Value).ownBlock)) (by (with_reducible repeat (first | apply Kd.R_alloc | apply Kd.R_drewN | apply Kd.R_drew)); exact Kd.R_mono HO_9.out (fun _ hk => ⟨hk.2, hk.1⟩)) hg (.inl rfl)); have n1_ := Aside0.mk (Kd.R_after (v := (.slice (some ⟨go87, 0, none⟩) x12_1.length co87)) (v1 := (.slice (some ⟨go87, 0, none⟩) x12_1.length co87)) (ok := (fun k_ => some k_ ≠ (.slice (some ad518) t495.length co28 : Value).ownBlock ∧ some k_ ≠ (.slice (some ad518) t495.length co28 : Value).ownBlock)) (by (with_reducible repeat (first | apply Kd.R_alloc | apply Kd.R_drewN | apply Kd.R_drew)); exact Kd.R_mono HO_11.out (fun _ hk => ⟨⟨hk.1, hk.2.2⟩, hk.2.1⟩)) hg (.inl rfl)); have n2_ := Aside0.mk (hp_); have n3_ := Aside0.mk (Kd.R_after (v := (.slice (some ⟨go87, 0, none⟩) x12_1.length co87)) (v1 := (.slice (some ⟨go87, 0, none⟩) x12_1.length co87)) (ok := (fun k_ => some k_ ≠ (.slice (some ⟨go84, 0, none⟩) x11_4.length co34 : Value).ownBlock)) (by (with_reducible repeat (first | apply Kd.R_alloc | apply Kd.R_drewN | apply Kd.R_drew)); exact Kd.R_mono HO_189.out (fun _ hk => ⟨hk.2, hk.1⟩)) hg (.inl rfl)); have n4_ := Aside0.mk ((by rw [hw]; exact below_set (HB.out) GB87.out : Below w.heap.size w w97)); clear HO_9; clear HO_11; clear HO_12; clear HO_189; clear HB; have HO_9 := n0_; have HO_11 := n1_; have HO_12 := n2_; have HO_189 := n3_; have HB := n4_; clear n0_ n1_ n2_ n3_ n4_; clear hg hw hp_; have p543 : 0 ≤ (x13_1 : Int) := of_decide_eq_true (by first | (with_reducible assumption) | assumption); have q543 : x13_1 < (y542.length : Int) := (by have h_ : (x13_1 : Int) < ((x12_1.length : Int) : Int) := of_decide_eq_true (by first | (with_reducible assumption) | assumption); first | (have e_ := (Kd.R_reads' HO_12.out).1; omega) | simpa only [Ny542.out, List.length_set] using h_); have ql543 : ((x13_1 : Int) < ((x12_1.length : Int) : Int)) = True := eq_true (of_decide_eq_true (by first | (with_reducible assumption) | assumption)); obtain ⟨ad543, e543, hx543_0⟩ := Kd.at_int (Kd.R_reads' HO_12.out).2.2 x13_1 p543 q543; obtain rfl : (⟨go87, 0, none⟩ : Addr) = ad543 := (by injection e543); (first | simp only [add_plain] at hx543_0 | simp only [add_at] at hx543_0 | simp only [Addr.add, Nat.zero_add] at hx543_0 | skip); replace p543 := eq_true p543; replace q543 := eq_true q543; have p93 : 0 ≤ (x13_1 : Int) := of_decide_eq_true (by first | (with_reducible assumption) | assumption); have q93 : (x13_1 : Int) < ((x12_1.length : Int) : Int) := of_decide_eq_true (by first | (with_reducible assumption) | assumption); obtain ⟨hx93_0, hf93_0⟩ := Kd.R_celln 0 HO_12.out (x13_1 : Int) p93 q93; replace p93 := eq_true p93; replace q93 := eq_true q93; obtain ⟨hy98_, hz98_⟩ := Kd.R_celln 0 HO_12.out (x13_1 : Int) (of_decide_eq_true (by first | (with_reducible assumption) | assumption)) (of_decide_eq_true (by first | (with_reducible assumption) | assumption)); have HP98 := Kd.R_putg HO_12.out (x13_1 : Int) (IntKind.u64.wrap ((rd y542 x13_1) - 1))) | ((with_reducible refine gate_store (t := 36) (p := 257) rfl ?_); (try (rw [drewN_self w97]; generalize hq_ : World.drewN w97 _ = w97; have n0_ := Aside0.mk (Kd.R_at hq_ HO_9.out); have n1_ := Aside0.mk (Kd.R_at hq_ HO_11.out); have n2_ := Aside0.mk (Kd.R_at hq_ HO_12.out); have n3_ := Aside0.mk (Kd.R_at hq_ HO_189.out); have n4_ := Aside0.mk (below_at hq_ HB.out); clear hq_ HO_9 HO_11 HO_12 HO_189 HB; have HO_9 := n0_; have HO_11 := n1_; have HO_12 := n2_; have HO_189 := n3_; have HB := n4_; clear n0_ n1_ n2_ n3_ n4_; (try (obtain ⟨hx93_0, hf93_0⟩ := Kd.R_celln 0 HO_12.out (x13_1 : Int) (of_eq_true p93) (of_eq_true q93))); (try (obtain ⟨hy98_, hz98_⟩ := Kd.R_celln 0 HO_12.out (x13_1 : Int) (of_decide_eq_true (by first | (with_reducible assumption) | assumption)) (of_decide_eq_true (by first | (with_reducible assumption) | assumption)))); (try (have HP98 := Kd.R_putg HO_12.out (x13_1 : Int) (IntKind.u64.wrap ((rd y542 x13_1) - 1)))))); refine store_event (t := 36) (p := 257) (v := ?vo_w99) (w1 := (w97.setCell ⟨go87, (x13_1 : Int).toNat, none⟩ (.int .u64 (IntKind.u64.wrap ((rd y542 x13_1) - 1))))) ?hg ?ho ?hn ?hr ?_; (case ho => rfl); (case hg => rfl); (case hn => rfl); (case hr => first | (go_simp; done) | (go_simp; rfl)); intro w99 hw; have hg : w97.grownBy w99 (some go87) := (by rw [hw]; exact HP98.2); have hp_ : Kd.R (Kd.int .u64) 36 w99 w.heap.size (fun k_ => some k_ ≠ (.slice (some ad518) t495.length co28 : Value).ownBlock ∧ some k_ ≠ (.slice (some ⟨go84, 0, none⟩) x11_4.length co34 : Value).ownBlock ∧ some k_ ≠ (.slice (some ad518) t495.length co28 : Value).ownBlock) (.slice (some ⟨go87, 0, none⟩) x12_1.length co87) y544 := (by rw [hw, Ny544.out]; exact HP98.1); clear HP98; have n0_ := Aside0.mk (Kd.R_after (v := (.slice (some ⟨go87, 0, none⟩) x12_1.length co87)) (v1 := (.slice (some ⟨go87, 0, none⟩) x12_1.length co87)) (ok := (fun k_ => some k_ ≠ (.slice (some ⟨go84, 0, none⟩) x11_4.length co34 : Value).ownBlock)) (by (with_reducible repeat (first | apply Kd.R_alloc | apply Kd.R_drewN | apply Kd.R_drew)); exact HO_9.out) hg (.inl rfl)); have n1_ := Aside0.mk (Kd.R_after (v := (.slice (some ⟨go87, 0, none⟩) x12_1.length co87)) (v1 := (.slice (some ⟨go87, 0, none⟩) x12_1.length co87)) (ok := (fun k_ => some k_ ≠ (.slice (some ad518) t495.length co28 : Value).ownBlock ∧ some k_ ≠ (.slice (some ad518) t495.length co28 : Value).ownBlock)) (by (with_reducible repeat (first | apply Kd.R_alloc | apply Kd.R_drewN | apply Kd.R_drew)); exact HO_11.out) hg (.inl rfl)); have n2_ := Aside0.mk (hp_); have n3_ := Aside0.mk (Kd.R_after (v := (.slice (some ⟨go87, 0, none⟩) x12_1.length co87)) (v1 := (.slice (some ⟨go87, 0, none⟩) x12_1.length co87)) (ok := (fun k_ => some k_ ≠ (.slice (some ⟨go84, 0, none⟩) x11_4.length co34 : Value).ownBlock)) (by (with_reducible repeat (first | apply Kd.R_alloc | apply Kd.R_drewN | apply Kd.R_drew)); exact HO_189.out) hg (.inl rfl)); have n4_ := Aside0.mk ((by rw [hw]; exact below_set (HB.out) GB87.out : Below w.heap.size w w99)); clear HO_9; clear HO_11; clear HO_12; clear HO_189; clear HB; have HO_9 := n0_; have HO_11 := n1_; have HO_12 := n2_; have HO_189 := n3_; have HB := n4_; clear n0_ n1_ n2_ n3_ n4_; clear hg hw hp_))
                                 go_loopg [26, 260] k4 (fun kq v26 v260 w' => ∃ (x11_5 : List Int) (x26_5 : Int) (x260_5 : Int), v26 = .int .u64 x26_5 ∧ v260 = .int .i64 x260_5 ∧ Aside0 (impl_nat_div.l3 kq t494 t495 (t495.length : Int) x11_5 y544 x13_1 x26_5 t495 (t495.length : Int) x260_5 = some (r1, r2)) ∧ Aside0 (kq ≤ k4) ∧ Aside0 (Kd.R (Kd.int .u64) 36 w' w.heap.size (fun k_ => some k_ ≠ ((.slice (some ⟨go84, 0, none⟩) x11_4.length co34) : Value).ownBlock ∧ some k_ ≠ ((.slice (some ⟨go87, 0, none⟩) x12_1.length co87) : Value).ownBlock) (.slice (some ad518) t495.length co28) t495) ∧ Aside0 (Kd.R (Kd.int .u64) 36 w' w.heap.size (fun k_ => some k_ ≠ ((.slice (some ad518) t495.length co28) : Value).ownBlock ∧ some k_ ≠ ((.slice (some ⟨go87, 0, none⟩) x12_1.length co87) : Value).ownBlock ∧ some k_ ≠ ((.slice (some ad518) t495.length co28) : Value).ownBlock) (.slice (some ⟨go84, 0, none⟩) x11_4.length co34) x11_5) ∧ Aside0 (Kd.R (Kd.int .u64) 36 w' w.heap.size (fun k_ => some k_ ≠ ((.slice (some ad518) t495.length co28) : Value).ownBlock ∧ some k_ ≠ ((.slice (some ⟨go84, 0, none⟩) x11_4.length co34) : Value).ownBlock ∧ some k_ ≠ ((.slice (some ad518) t495.length co28) : Value).ownBlock) (.slice (some ⟨go87, 0, none⟩) x12_1.length co87) y544) ∧ Aside0 (Kd.R (Kd.int .u64) 36 w' w.heap.size (fun k_ => some k_ ≠ ((.slice (some ⟨go84, 0, none⟩) x11_4.length co34) : Value).ownBlock ∧ some k_ ≠ ((.slice (some ⟨go87, 0, none⟩) x12_1.length co87) : Value).ownBlock) (.slice (some ad518) t495.length co28) t495) ∧ Aside0 (Below w.heap.size w w'))
                                 case atStart => exact ⟨(y541), (0), (0), (by first | rfl | (simp; done) | (simp [*]; done)), (by first | rfl | (simp; done) | (simp [*]; done)), H', ⟨Nat.le_refl _⟩, ⟨by (try simp only [hl11_1]); (try simp only [hl11_4]); (with_reducible repeat (first | apply Kd.R_alloc | apply Kd.R_drewN | apply Kd.R_drew)); exact HO_9.out⟩, ⟨by (try simp only [hl11_1]); (try simp only [hl11_4]); (with_reducible repeat (first | apply Kd.R_alloc | apply Kd.R_drewN | apply Kd.R_drew)); exact Kd.R_mono HO_11.out (fun _ hk => ⟨hk.1.1, ⟨hk.2, hk.1.1⟩⟩)⟩, ⟨by (try simp only [hl11_1]); (try simp only [hl11_4]); (with_reducible repeat (first | apply Kd.R_alloc | apply Kd.R_drewN | apply Kd.R_drew)); exact Kd.R_mono HO_12.out (fun _ hk => ⟨hk.1, ⟨hk.2.1, hk.1⟩⟩)⟩, ⟨by (try simp only [hl11_1]); (try simp only [hl11_4]); (with_reducible repeat (first | apply Kd.R_alloc | apply Kd.R_drewN | apply Kd.R_drew)); exact HO_9.out⟩, ⟨by repeat (first | (with_reducible first | exact HB.out | apply below_alloc | apply pw_below_drewN | apply below_drew1) | exact HB.out)⟩⟩
                                 case round =>
                                  as_aux_lemma =>
                                   clear H'
                                   try clear c1; try clear c2; try clear p2; try clear c3; try clear c4; try clear c4b0; try clear p4; try clear q4; try clear hx4; try clear qi4; try clear c5; try clear p5; try clear q5; try clear hx5; try clear c6; try clear p6; try clear c7; try clear p7; try clear q7; try clear hx7; try clear hf7; try clear c8; try clear p8; try clear q8; try clear hx8; try clear hf8; try clear c9; try clear c9b0; try clear c9b1; try clear p9; try clear q9; try clear hx9; try clear hf9; try clear c10; try clear c10b0; try clear c10b1; try clear c16; try clear c16b0; try clear c17; try clear c17b0; try clear c21; try clear c21b0; try clear c21b1; try clear c22; try clear c22b0; try clear c22b1; try clear c25; try clear c25b0; try clear c25b1; try clear c26; try clear c26b0; try clear c26b1; try clear c38; try clear c38b0; try clear c40; try clear c40b0; try clear c41; try clear c41b0; try clear c43; try clear c43b0; try clear c44; try clear c44b0; try clear c46; try clear c46b0; try clear c46b1; try clear c48; try clear c48b0; try clear p48; try clear q48; try clear hx48; try clear qi48; try clear c49; try clear c49b0; try clear p49; try clear q49; try clear hx49; try clear p51; try clear q51; try clear hx51; try clear c52; try clear c52b0; try clear p52; try clear q52; try clear hx52; try clear c53; try clear c53b0; try clear p53; try clear q53; try clear hx53; try clear p54; try clear q54; try clear hx54; try clear c55; try clear c57; try clear c57b0; try clear c57b1; try clear c58; try clear c58b0; try clear c60; try clear c60b0; try clear c61; try clear c61b0; try clear c61b1; try clear c63; try clear c63b0; try clear c64; try clear c64b0; try clear p64; try clear c65; try clear c65b0; try clear c66; try clear c66b0; try clear c67; try clear c67b0; try clear c68; try clear c68b0; try clear c69; try clear c69b0; try clear c70; try clear c70b0; try clear c71; try clear c71b0; try clear c72; try clear c72b0; try clear c75; try clear c75b0; try clear c76; try clear c76b0; try clear c77; try clear c77b0; try clear c77b1; try clear p78; try clear q78; try clear hx78; try clear hf78; try clear c81; try clear c81b0; try clear c82; try clear c82b0; try clear c83; try clear c83b0; try clear c83b1; try clear p84; try clear q84; try clear hx84; try clear hf84; try clear c85; try clear c85b0; try clear c86; try clear c86b0; try clear p87; try clear q87; try clear hx87; try clear hf87; try clear c88; try clear c88b0; try clear c88b1; try clear p93; try clear q93; try clear hx93; try clear hf93; try clear hx485_0; try clear hx493_0; try clear hx517_0; try clear hx518_0; try clear hx519_0; try clear hx520_0; try clear hx521_0; try clear hx524_0; try clear hx525_0; try clear hx526_0; try clear hx527_0; try clear hx530_0; try clear hx531_0; try clear hx532_0; try clear hx533_0; try clear hx534_0; try clear hx535_0; try clear hx538_0; try clear hx540_0; try clear hx543_0; try clear hx78_0; try clear hx84_0; try clear hx87_0; try clear hx93_0; try clear p2; try clear p4; try clear p48; try clear p485; try clear p49; try clear p493; try clear p5; try clear p51; try clear p517; try clear p518; try clear p519; try clear p52; try clear p520; try clear p521; try clear p524; try clear p525; try clear p526; try clear p527; try clear p53; try clear p530; try clear p531; try clear p532; try clear p533; try clear p534; try clear p535; try clear p538; try clear p540; try clear p543; try clear p6; try clear p64; try clear p78; try clear p84; try clear p87; try clear p93; try clear q4; try clear q48; try clear q485; try clear q49; try clear q493; try clear q5; try clear q51; try clear q517; try clear q518; try clear q519; try clear q52; try clear q520; try clear q521; try clear q524; try clear q525; try clear q526; try clear q527; try clear q53; try clear q530; try clear q531; try clear q532; try clear q533; try clear q534; try clear q535; try clear q538; try clear q540; try clear q543; try clear q78; try clear q84; try clear q87; try clear q93
                                   obtain ⟨x11_5, x26_5, x260_5, rfl, rfl, HA, HK5, HO_9, HO_11, HO_12, HO_258, HB⟩ := hrel
                                   have hl11_5 := (Kd.R_reads' HO_11.out).1
                                   rw [hl11_5] at HO_11
                                   (try simp only [hl11_5])
                                   (try simp only [hl11_5] at HO_9)
                                   (try simp only [hl11_5] at HO_12)
                                   (try simp only [hl11_5] at HO_258)
                                   have hl12_5 := (Kd.R_reads' HO_12.out).1
                                   rw [hl12_5] at HO_12
                                   (try simp only [hl12_5])
                                   (try simp only [hl12_5] at HO_9)
                                   (try simp only [hl12_5] at HO_11)
                                   (try simp only [hl12_5] at HO_258)
                                   cases gk with
                                   | zero => exact absurd HA.out (by simp [impl_nat_div.l3])
                                   | succ k5 =>
                                    have H := HA.out
                                    clear HA
                                    simp only [impl_nat_div.l3] at H
                                    by_cases c100 : x260_5 < (t495.length : Int)
                                    ·rw [if_pos c100] at H
                                     have c100b0 : decide (x260_5 < (t495.length : Int)) = true := decide_eq_true c100
                                     clear c100
                                     by_cases c101 : 0 ≤ x260_5
                                     ·rw [if_pos c101] at H
                                      have c101b0 : decide (0 ≤ x260_5) = true := decide_eq_true c101
                                      clear c101
                                      by_cases c102 : x260_5 < (t495.length : Int)
                                      ·rw [if_pos c102] at H
                                       have c102b0 : decide (x260_5 < (t495.length : Int)) = true := decide_eq_true c102
                                       clear c102
                                       obtain ⟨ji103, hji103⟩ : ∃ j_ : Int, (wrap64 (x260_5 + x13_1)) = j_ := ⟨_, rfl⟩
                                       replace H : (if 0 ≤ (ji103) then (if (ji103) < (x11_5.length : Int) then (if x26_5.toNat ≤ 1 then (impl_nat_div.l3 k5 t494 t495 (t495.length : Int) (x11_5.set ((ji103) : Int).toNat (add64s (rd x11_5 (ji103)) (rd t495 x260_5) x26_5)) y544 x13_1 (add64c (rd x11_5 (ji103)) (rd t495 x260_5) x26_5) t495 (t495.length : Int) (wrap64 (x260_5 + 1))) else (none)) else (none)) else (none)) = some (r1, r2) := by first | (rw [hji103] at H; exact H) | (simp only [hji103] at H ⊢; exact H)
                                       have hji103w : (IntKind.i64.wrap (x260_5 + x13_1)) = ji103 := (i64_w _).trans hji103
                                       by_cases c104 : 0 ≤ (ji103)
                                       ·rw [if_pos c104] at H
                                        have c104b0 : decide (0 ≤ (ji103)) = true := decide_eq_true c104
                                        clear c104
                                        by_cases c105 : (ji103) < (x11_5.length : Int)
                                        ·rw [if_pos c105] at H
                                         have c105b0 : decide ((ji103) < (x11_5.length : Int)) = true := decide_eq_true c105
                                         clear c105
                                         by_cases c106 : x26_5.toNat ≤ 1
                                         ·rw [if_pos c106] at H
                                          have c106b0 := eq_true c106
                                          have c106b1 : decide (x26_5.toNat ≤ 1) = true := decide_eq_true c106
                                          clear c106
                                          obtain ⟨y547, hy547⟩ : ∃ y_ : List Int, y_ = (x11_5.set ((ji103) : Int).toNat (add64s (rd x11_5 (ji103)) (rd t495 x260_5) x26_5)) := ⟨_, rfl⟩
                                          replace H : (impl_nat_div.l3 k5 t494 t495 (t495.length : Int) y547 y544 x13_1 (add64c (rd x11_5 (ji103)) (rd t495 x260_5) x26_5) t495 (t495.length : Int) (wrap64 (x260_5 + 1))) = some (r1, r2) := by first | (rw [hy547]; with_reducible exact H) | (have H2_ := (Option.bind_some _ _).symm.trans H; rw [hy547]; with_reducible exact H2_) | (have H2_ := (Option.bind_some _ _).symm.trans H; with_reducible exact H2_) | with_reducible exact H | (rw [hy547]; exact H) | exact H
                                          have Ny547 := Aside0.mk hy547
                                          clear hy547
                                          have H' := Aside0.mk H
                                          clear H
                                          have p545 : 0 ≤ (x260_5 : Int) := of_decide_eq_true (by first | (with_reducible assumption) | assumption)
                                          have q545 : x260_5 < (t495.length : Int) := of_decide_eq_true (by first | (with_reducible assumption) | assumption)
                                          obtain ⟨ad545, e545, hx545_0⟩ := Kd.at_int (Kd.R_reads' HO_258.out).2.2 x260_5 p545 q545
                                          obtain rfl : ad518 = ad545 := (by injection e545)
                                          replace p545 := eq_true p545
                                          replace q545 := eq_true q545
                                          have p546 : 0 ≤ ((ji103) : Int) := of_decide_eq_true (by first | (with_reducible assumption) | assumption)
                                          have q546 : (ji103) < (x11_5.length : Int) := of_decide_eq_true (by first | (with_reducible assumption) | assumption)
                                          obtain ⟨ad546, e546, hx546_0⟩ := Kd.at_int (Kd.R_reads' HO_11.out).2.2 (ji103) p546 q546
                                          obtain rfl : (⟨go84, 0, none⟩ : Addr) = ad546 := (by injection e546)
                                          (first | simp only [add_plain] at hx546_0 | simp only [add_at] at hx546_0 | simp only [Addr.add, Nat.zero_add] at hx546_0 | skip)
                                          replace p546 := eq_true p546
                                          replace q546 := eq_true q546
                                          have p107 : 0 ≤ ((ji103) : Int) := of_decide_eq_true (by first | (with_reducible assumption) | assumption)
                                          have q107 : ((ji103) : Int) < ((x11_5.length : Int) : Int) := of_decide_eq_true (by first | (with_reducible assumption) | assumption)
                                          obtain ⟨hx107_0, hf107_0⟩ := Kd.R_celln 0 HO_11.out ((ji103) : Int) p107 q107
                                          replace p107 := eq_true p107
                                          replace q107 := eq_true q107
                                          have HP108 := Kd.R_putg HO_11.out ((ji103) : Int) (add64s (rd x11_5 (ji103)) (rd t495 x260_5) x26_5)
                                          go_wp2_with (first | go_step3 | ((with_reducible refine gate_store (t := 36) (p := 281) rfl ?_); (try (rw [drewN_self wr]; generalize hq_ : World.drewN wr _ = wr; have n0_ := Aside0.mk (Kd.R_at hq_ HO_9.out); have n1_ := Aside0.mk (Kd.R_at hq_ HO_11.out); have n2_ := Aside0.mk (Kd.R_at hq_ HO_12.out); have n3_ := Aside0.mk (Kd.R_at hq_ HO_258.out); have n4_ := Aside0.mk (below_at hq_ HB.out); clear hq_ HO_9 HO_11 HO_12 HO_258 HB; have HO_9 := n0_; have HO_11 := n1_; have HO_12 := n2_; have HO_258 := n3_; have HB := n4_; clear n0_ n1_ n2_ n3_ n4_; (try (obtain ⟨hx107_0, hf107_0⟩ := Kd.R_celln 0 HO_11.out ((ji103) : Int) (of_eq_true p107) (of_eq_true q107))); (try (have HP108 := Kd.R_putg HO_11.out ((ji103) : Int) (add64s (rd x11_5 (ji103)) (rd t495 x260_5) x26_5))))); refine store_event (t := 36) (p := 281) (v := ?vo_w109) (w1 := (wr.setCell ⟨go84, ((ji103) : Int).toNat, none⟩ (.int .u64 (add64s (rd x11_5 (ji103)) (rd t495 x260_5) x26_5)))) ?hg ?ho ?hn ?hr ?_; (case ho => rfl); (case hg => rfl); (case hn => rfl); (case hr => first | (go_simp; done) | (go_simp; rfl)); intro w109 hw; have hg : wr.grownBy w109 (some go84) := (by rw [hw]; exact HP108.2); have hp_ : Kd.R (Kd.int .u64) 36 w109 w.heap.size (fun k_ => some k_ ≠ (.slice (some ad518) t495.length co28 : Value).ownBlock ∧ some k_ ≠ (.slice (some ⟨go87, 0, none⟩) y544.length co87 : Value).ownBlock ∧ some k_ ≠ (.slice (some ad518) t495.length co28 : Value).ownBlock) (.slice (some ⟨go84, 0, none⟩) x11_5.length co34) y547 := (by rw [hw, Ny547.out]; exact HP108.1); clear HP108; have n0_ := Aside0.mk (Kd.R_after (v := (.slice (some ⟨go84, 0, none⟩) x11_5.length co34)) (v1 := (.slice (some ⟨go84, 0, none⟩) x11_5.length co34)) (ok := (fun k_ => some k_ ≠ (.slice (some ⟨go87, 0, none⟩) y544.length co87 : Value).ownBlock)) (by (with_reducible repeat (first | apply Kd.R_alloc | apply Kd.R_drewN | apply Kd.R_drew)); exact Kd.R_mono HO_9.out (fun _ hk => ⟨hk.2, hk.1⟩)) hg (.inl rfl)); have n1_ := Aside0.mk (hp_); have n2_ := Aside0.mk (Kd.R_after (v := (.slice (some ⟨go84, 0, none⟩) x11_5.length co34)) (v1 := (.slice (some ⟨go84, 0, none⟩) x11_5.length co34)) (ok := (fun k_ => some k_ ≠ (.slice (some ad518) t495.length co28 : Value).ownBlock ∧ some k_ ≠ (.slice (some ad518) t495.length co28 : Value).ownBlock)) (by (with_reducible repeat (first | apply Kd.R_alloc | apply Kd.R_drewN | apply Kd.R_drew)); exact Kd.R_mono HO_12.out (fun _ hk => ⟨⟨hk.1, hk.2.2⟩, hk.2.1⟩)) hg (.inl rfl)); have n3_ := Aside0.mk (Kd.R_after (v := (.slice (some ⟨go84, 0, none⟩) x11_5.length co34)) (v1 := (.slice (some ⟨go84, 0, none⟩) x11_5.length co34)) (ok := (fun k_ => some k_ ≠ (.slice (some ⟨go87, 0, none⟩) y544.length co87 : Value).ownBlock)) (by (with_reducible repeat (first | apply Kd.R_alloc | apply Kd.R_drewN | apply Kd.R_drew)); exact Kd.R_mono HO_258.out (fun _ hk => ⟨hk.2, hk.1⟩)) hg (.inl rfl)); have n4_ := Aside0.mk ((by rw [hw]; exact below_set (HB.out) GB84.out : Below w.heap.size w w109)); clear HO_9; clear HO_11; clear HO_12; clear HO_258; clear HB; have HO_9 := n0_; have HO_11 := n1_; have HO_12 := n2_; have HO_258 := n3_; have HB := n4_; clear n0_ n1_ n2_ n3_ n4_; clear hg hw hp_))
                                          (try simp only [← hl11_5, ← hl12_5])
                                          (try simp only [Exit.noGoto_ret, Exit.noGoto_normal, Exit.noGoto_exit]); go_roundg k5
                                          case measure => have := HK1.out; have := HJ44.out; have := HJ53.out; have := HK4.out; have := HK5.out; omega
                                          case rel => exact ⟨(y547), (add64c (rd x11_5 (ji103)) (rd t495 x260_5) x26_5), (wrap64 (x260_5 + 1)), (by first | rfl | (simp; done) | (simp only [← hji103] <;> (first | rfl | simp)) | (simp [*]; done)), (by first | rfl | (simp; done) | (simp [*]; done)), H', ⟨by have := HK1.out; have := HJ44.out; have := HJ53.out; have := HK4.out; have := HK5.out; omega⟩, ⟨by (try simp only [hl11_1]); (try simp only [hl11_4]); (try simp only [hl11_5]); (try simp only [hl12_5]); (with_reducible repeat (first | apply Kd.R_alloc | apply Kd.R_drewN | apply Kd.R_drew)); exact Kd.R_mono HO_9.out (fun _ hk => ⟨hk.2, hk.1⟩)⟩, ⟨by (try simp only [hl11_1]); (try simp only [hl11_4]); (try simp only [hl11_5]); (try simp only [hl12_5]); (with_reducible repeat (first | apply Kd.R_alloc | apply Kd.R_drewN | apply Kd.R_drew)); exact HO_11.out⟩, ⟨by (try simp only [hl11_1]); (try simp only [hl11_4]); (try simp only [hl11_5]); (try simp only [hl12_5]); (with_reducible repeat (first | apply Kd.R_alloc | apply Kd.R_drewN | apply Kd.R_drew)); exact Kd.R_mono HO_12.out (fun _ hk => ⟨hk.1.1, ⟨hk.2, hk.1.2⟩⟩)⟩, ⟨by (try simp only [hl11_1]); (try simp only [hl11_4]); (try simp only [hl11_5]); (try simp only [hl12_5]); (with_reducible repeat (first | apply Kd.R_alloc | apply Kd.R_drewN | apply Kd.R_drew)); exact Kd.R_mono HO_258.out (fun _ hk => ⟨hk.2, hk.1⟩)⟩, ⟨by repeat (first | (with_reducible first | exact HB.out | apply below_alloc | apply pw_below_drewN | apply below_drew1) | exact HB.out)⟩⟩
                                         ·rw [if_neg c106] at H
                                          exact absurd H (by simp)
                                        ·rw [if_neg c105] at H
                                         exact absurd H (by simp)
                                       ·rw [if_neg c104] at H
                                        exact absurd H (by simp)
                                      ·rw [if_neg c102] at H
                                       exact absurd H (by simp)
                                     ·rw [if_neg c101] at H
                                      exact absurd H (by simp)
                                    ·rw [if_neg c100] at H
                                     have c100b0 : decide (x260_5 < (t495.length : Int)) = false := decide_eq_false c100
                                     clear c100
                                     replace H : (if 0 ≤ (ji39) then (if (ji39) < (x11_5.length : Int) then (impl_nat_div.l0 k5 t494 t495 (t495.length : Int) (x11_5.set ((ji39) : Int).toNat (IntKind.u64.wrap ((rd x11_5 (ji39)) + x26_5))) y544 (wrap64 (x13_1 - 1))) else (none)) else (none)) = some (r1, r2) := by first | (rw [hji39] at H; exact H) | (simp only [hji39] at H ⊢; exact H)
                                     by_cases c110 : 0 ≤ (ji39)
                                     ·rw [if_pos c110] at H
                                      have c110b0 : decide (0 ≤ (ji39)) = true := decide_eq_true c110
                                      clear c110
                                      by_cases c111 : (ji39) < (x11_5.length : Int)
                                      ·rw [if_pos c111] at H
                                       have c111b0 : decide ((ji39) < (x11_5.length : Int)) = true := decide_eq_true c111
                                       clear c111
                                       obtain ⟨y549, hy549⟩ : ∃ y_ : List Int, y_ = (x11_5.set ((ji39) : Int).toNat (IntKind.u64.wrap ((rd x11_5 (ji39)) + x26_5))) := ⟨_, rfl⟩
                                       replace H : (impl_nat_div.l0 k5 t494 t495 (t495.length : Int) y549 y544 (wrap64 (x13_1 - 1))) = some (r1, r2) := by first | (rw [hy549]; with_reducible exact H) | (have H2_ := (Option.bind_some _ _).symm.trans H; rw [hy549]; with_reducible exact H2_) | (have H2_ := (Option.bind_some _ _).symm.trans H; with_reducible exact H2_) | with_reducible exact H | (rw [hy549]; exact H) | exact H
                                       have Ny549 := Aside0.mk hy549
                                       clear hy549
                                       have H' := Aside0.mk H
                                       clear H
                                       have p548 : 0 ≤ ((ji39) : Int) := of_decide_eq_true (by first | (with_reducible assumption) | assumption)
                                       have q548 : (ji39) < (x11_5.length : Int) := of_decide_eq_true (by first | (with_reducible assumption) | assumption)
                                       obtain ⟨ad548, e548, hx548_0⟩ := Kd.at_int (Kd.R_reads' HO_11.out).2.2 (ji39) p548 q548
                                       obtain rfl : (⟨go84, 0, none⟩ : Addr) = ad548 := (by injection e548)
                                       (first | simp only [add_plain] at hx548_0 | simp only [add_at] at hx548_0 | simp only [Addr.add, Nat.zero_add] at hx548_0 | skip)
                                       replace p548 := eq_true p548
                                       replace q548 := eq_true q548
                                       have p112 : 0 ≤ ((ji39) : Int) := of_decide_eq_true (by first | (with_reducible assumption) | assumption)
                                       have q112 : ((ji39) : Int) < ((x11_5.length : Int) : Int) := of_decide_eq_true (by first | (with_reducible assumption) | assumption)
                                       obtain ⟨hx112_0, hf112_0⟩ := Kd.R_celln 0 HO_11.out ((ji39) : Int) p112 q112
                                       replace p112 := eq_true p112
                                       replace q112 := eq_true q112
                                       have HP113 := Kd.R_putg HO_11.out ((ji39) : Int) (IntKind.u64.wrap ((rd x11_5 (ji39)) + x26_5))
                                       go_wp2_with (first | go_step3 | ((with_reducible refine gate_store (t := 36) (p := 291) rfl ?_); (try (rw [drewN_self wr]; generalize hq_ : World.drewN wr _ = wr; have n0_ := Aside0.mk (Kd.R_at hq_ HO_9.out); have n1_ := Aside0.mk (Kd.R_at hq_ HO_11.out); have n2_ := Aside0.mk (Kd.R_at hq_ HO_12.out); have n3_ := Aside0.mk (Kd.R_at hq_ HO_258.out); have n4_ := Aside0.mk (below_at hq_ HB.out); clear hq_ HO_9 HO_11 HO_12 HO_258 HB; have HO_9 := n0_; have HO_11 := n1_; have HO_12 := n2_; have HO_258 := n3_; have HB := n4_; clear n0_ n1_ n2_ n3_ n4_; (try (obtain ⟨hx112_0, hf112_0⟩ := Kd.R_celln 0 HO_11.out ((ji39) : Int) (of_eq_true p112) (of_eq_true q112))); (try (have HP113 := Kd.R_putg HO_11.out ((ji39) : Int) (IntKind.u64.wrap ((rd x11_5 (ji39)) + x26_5)))))); refine store_event (t := 36) (p := 291) (v := ?vo_w114) (w1 := (wr.setCell ⟨go84, ((ji39) : Int).toNat, none⟩ (.int .u64 (IntKind.u64.wrap ((rd x11_5 (ji39)) + x26_5))))) ?hg ?ho ?hn ?hr ?_; (case ho => rfl); (case hg => rfl); (case hn => rfl); (case hr => first | (go_simp; done) | (go_simp; rfl)); intro w114 hw; have hg : wr.grownBy w114 (some go84) := (by rw [hw]; exact HP113.2); have hp_ : Kd.R (Kd.int .u64) 36 w114 w.heap.size (fun k_ => some k_ ≠ (.slice (some ad518) t495.length co28 : Value).ownBlock ∧ some k_ ≠ (.slice (some ⟨go87, 0, none⟩) y544.length co87 : Value).ownBlock ∧ some k_ ≠ (.slice (some ad518) t495.length co28 : Value).ownBlock) (.slice (some ⟨go84, 0, none⟩) x11_5.length co34) y549 := (by rw [hw, Ny549.out]; exact HP113.1); clear HP113; have n0_ := Aside0.mk (Kd.R_after (v := (.slice (some ⟨go84, 0, none⟩) x11_5.length co34)) (v1 := (.slice (some ⟨go84, 0, none⟩) x11_5.length co34)) (ok := (fun k_ => some k_ ≠ (.slice (some ⟨go87, 0, none⟩) y544.length co87 : Value).ownBlock)) (by (with_reducible repeat (first | apply Kd.R_alloc | apply Kd.R_drewN | apply Kd.R_drew)); exact Kd.R_mono HO_9.out (fun _ hk => ⟨hk.2, hk.1⟩)) hg (.inl rfl)); have n1_ := Aside0.mk (hp_); have n2_ := Aside0.mk (Kd.R_after (v := (.slice (some ⟨go84, 0, none⟩) x11_5.length co34)) (v1 := (.slice (some ⟨go84, 0, none⟩) x11_5.length co34)) (ok := (fun k_ => some k_ ≠ (.slice (some ad518) t495.length co28 : Value).ownBlock ∧ some k_ ≠ (.slice (some ad518) t495.length co28 : Value).ownBlock)) (by (with_reducible repeat (first | apply Kd.R_alloc | apply Kd.R_drewN | apply Kd.R_drew)); exact Kd.R_mono HO_12.out (fun _ hk => ⟨⟨hk.1, hk.2.2⟩, hk.2.1⟩)) hg (.inl rfl)); have n3_ := Aside0.mk (Kd.R_after (v := (.slice (some ⟨go84, 0, none⟩) x11_5.length co34)) (v1 := (.slice (some ⟨go84, 0, none⟩) x11_5.length co34)) (ok := (fun k_ => some k_ ≠ (.slice (some ⟨go87, 0, none⟩) y544.length co87 : Value).ownBlock)) (by (with_reducible repeat (first | apply Kd.R_alloc | apply Kd.R_drewN | apply Kd.R_drew)); exact Kd.R_mono HO_258.out (fun _ hk => ⟨hk.2, hk.1⟩)) hg (.inl rfl)); have n4_ := Aside0.mk ((by rw [hw]; exact below_set (HB.out) GB84.out : Below w.heap.size w w114)); clear HO_9; clear HO_11; clear HO_12; clear HO_258; clear HB; have HO_9 := n0_; have HO_11 := n1_; have HO_12 := n2_; have HO_258 := n3_; have HB := n4_; clear n0_ n1_ n2_ n3_ n4_; clear hg hw hp_))
                                       (try simp only [← hl11_1, ← hl11_4, ← hl11_5, ← hl12_5])
                                       (try simp only [Exit.noGoto_ret, Exit.noGoto_normal, Exit.noGoto_exit]); go_roundg k5
                                       case measure => have := HK1.out; have := HJ44.out; have := HJ53.out; have := HK4.out; have := HK5.out; omega
                                       case rel => exact ⟨(y549), (y544), (wrap64 (x13_1 - 1)), (by first | rfl | (simp; done) | (simp [*]; done)), H', ⟨by have := HK1.out; have := HJ44.out; have := HJ53.out; have := HK4.out; have := HK5.out; omega⟩, ⟨by (try simp only [hl11_1]); (try simp only [hl11_4]); (try simp only [hl11_5]); (try simp only [hl12_5]); (with_reducible repeat (first | apply Kd.R_alloc | apply Kd.R_drewN | apply Kd.R_drew)); exact Kd.R_mono HO_9.out (fun _ hk => ⟨hk.2, hk.1⟩)⟩, ⟨by (try simp only [hl11_1]); (try simp only [hl11_4]); (try simp only [hl11_5]); (try simp only [hl12_5]); (with_reducible repeat (first | apply Kd.R_alloc | apply Kd.R_drewN | apply Kd.R_drew)); exact Kd.R_mono HO_11.out (fun _ hk => ⟨hk.1, hk.2.1⟩)⟩, ⟨by (try simp only [hl11_1]); (try simp only [hl11_4]); (try simp only [hl11_5]); (try simp only [hl12_5]); (with_reducible repeat (first | apply Kd.R_alloc | apply Kd.R_drewN | apply Kd.R_drew)); exact Kd.R_mono HO_12.out (fun _ hk => ⟨hk.1.1, hk.2⟩)⟩, ⟨by repeat (first | (with_reducible first | exact HB.out | apply below_alloc | apply pw_below_drewN | apply below_drew1) | exact HB.out)⟩⟩
                                      ·rw [if_neg c111] at H
                                       exact absurd H (by simp)
                                     ·rw [if_neg c110] at H
                                      exact absurd H (by simp)
                               ·rw [if_neg c86] at H
                                exact absurd H (by simp)
                              ·rw [if_neg c85] at H
                               exact absurd H (by simp)
                             ·rw [if_neg c83] at H
                              exact absurd H (by simp)
                            ·rw [if_neg c82] at H
                             exact absurd H (by simp)
                           ·rw [if_neg c81] at H
                            exact absurd H (by simp)
                ·rw [if_neg c44] at H
                 exact absurd H (by simp)
               ·rw [if_neg c43] at H
                exact absurd H (by simp)
              ·rw [if_neg c41] at H
               exact absurd H (by simp)
             ·rw [if_neg c40] at H
              exact absurd H (by simp)
            ·rw [if_neg c38] at H
             have c38b0 : decide (0 ≤ x13_1) = false := decide_eq_false c38
             clear c38
             obtain ⟨y508, hy508⟩ : ∃ y_ : List Int, y_ = (trimL x12_1) := ⟨_, rfl⟩
             replace H : ((impl_nat_right.f k1 (trimL x11_1) t494).bind fun t514 => (some (y508, t514))) = some (r1, r2) := by first | (rw [hy508]; with_reducible exact H) | (have H2_ := (Option.bind_some _ _).symm.trans H; rw [hy508]; with_reducible exact H2_) | (have H2_ := (Option.bind_some _ _).symm.trans H; with_reducible exact H2_) | with_reducible exact H | (rw [hy508]; exact H) | exact H
             have Ny508 := Aside0.mk hy508
             clear hy508
             obtain ⟨y511, hy511⟩ : ∃ y_ : List Int, y_ = (trimL x11_1) := ⟨_, rfl⟩
             replace H : ((impl_nat_right.f k1 y511 t494).bind fun t514 => (some (y508, t514))) = some (r1, r2) := by first | (rw [hy511]; with_reducible exact H) | (have H2_ := (Option.bind_some _ _).symm.trans H; rw [hy511]; with_reducible exact H2_) | (have H2_ := (Option.bind_some _ _).symm.trans H; with_reducible exact H2_) | with_reducible exact H | (rw [hy511]; exact H) | exact H
             have Ny511 := Aside0.mk hy511
             clear hy511
             replace H := Option.bind_eq_some_iff.mp H
             obtain ⟨t514, A1150, H⟩ := H
             replace H : (some (y508, t514)) = some (r1, r2) := H
             have A115 := Aside0.mk A1150
             clear A1150
             simp only [Option.some.injEq, Prod.mk.injEq] at H
             obtain ⟨rfl, rfl⟩ := H
             obtain ⟨Ao117, co117, eo117⟩ := Kd.R_slice HO_12.out
             subst eo117
             go_wp2_with (first | go_step3 | ((with_reducible refine gate_callee (f := 55) rfl ?_); refine goesL_ (some 293) rfl rfl Try.func55 (by kernel_rfl) rfl #[.slice Ao117 x12_1.length co117] rfl (by (try simp only [List.map_toArray, List.map_cons, List.map_nil]); first | done | rfl | (simp only [List.length_drop, List.length_take]; rfl)) ?_; (with_reducible refine (trimmed_calls Ao117 x12_1.length co117 x12_1 y508 _ (Kd.R_reads' HO_12.out).1 Ny508.out ?sidea ?sideb).mono ?_); (case sidea => repeat (first | exact (Kd.R_reads' HO_12.out).2.2 | (with_reducible refine Kd.C_alloc ?_ _) | (with_reducible refine Kd.C_drewN ?_ _) | (with_reducible refine Kd.C_drew ?_))); (case sideb => exact (Kd.R_reads' HO_12.out).2.1); rintro e w' ⟨rfl, rfl⟩; refine ⟨_, rfl, ?_⟩; have nt_ := Aside0.mk (R_trim HO_12.out); rw [← Ny508.out] at nt_; clear HO_12; have HO510 := nt_; clear nt_) | ((with_reducible refine gate_callee (f := 55) rfl ?_); refine goesL_ (some 295) rfl rfl Try.func55 (by kernel_rfl) rfl #[.slice Ao34 x11_1.length co34] rfl (by (try simp only [List.map_toArray, List.map_cons, List.map_nil]); first | done | rfl | (simp only [List.length_drop, List.length_take]; rfl)) ?_; (with_reducible refine (trimmed_calls Ao34 x11_1.length co34 x11_1 y511 _ (Kd.R_reads' HO_11.out).1 Ny511.out ?sidea ?sideb).mono ?_); (case sidea => repeat (first | exact (Kd.R_reads' HO_11.out).2.2 | (with_reducible refine Kd.C_alloc ?_ _) | (with_reducible refine Kd.C_drewN ?_ _) | (with_reducible refine Kd.C_drew ?_))); (case sideb => exact (Kd.R_reads' HO_11.out).2.1); rintro e w' ⟨rfl, rfl⟩; refine ⟨_, rfl, ?_⟩; have nt_ := Aside0.mk (R_trim HO_11.out); rw [← Ny511.out] at nt_; clear HO_11; have HO513 := nt_; clear nt_) | (go_at_call 90; (with_reducible refine (impl_nat_right.calls k1 _ _ y511 t494 t514 _ ?side1 ?side2 A115.out).mono ?_); (case side1 => repeat (first | exact (Kd.R_reads' HO513.out).2.2 | (with_reducible refine Kd.C_alloc ?_ _) | (with_reducible refine Kd.C_drewN ?_ _) | (with_reducible refine Kd.C_drew ?_))); (case side2 => exact (Kd.R_reads' HO513.out).2.1); rintro e w119 ⟨v515, rfl, ho0, hb⟩; have n0_ := Aside0.mk (Kd.R_elder' (by (with_reducible repeat (first | apply Kd.R_alloc | apply Kd.R_drewN | apply Kd.R_drew)); exact HO_9.out) (Kd.R_base ho0) hb); have n1_ := Aside0.mk (Kd.R_elder' (by (with_reducible repeat (first | apply Kd.R_alloc | apply Kd.R_drewN | apply Kd.R_drew)); exact HO513.out) (Kd.R_base ho0) hb); have n2_ := Aside0.mk (Kd.R_elder' (by (with_reducible repeat (first | apply Kd.R_alloc | apply Kd.R_drewN | apply Kd.R_drew)); exact HO510.out) (Kd.R_base ho0) hb); have n3_ := Aside0.mk (Kd.R_lower (Kd.R_new' (Kd.R_new' (Kd.R_new' ho0 (Kd.R_lt (by (with_reducible repeat (first | apply Kd.R_alloc | apply Kd.R_drewN | apply Kd.R_drew)); exact HO_9.out))) (Kd.R_lt (by (with_reducible repeat (first | apply Kd.R_alloc | apply Kd.R_drewN | apply Kd.R_drew)); exact HO513.out))) (Kd.R_lt (by (with_reducible repeat (first | apply Kd.R_alloc | apply Kd.R_drewN | apply Kd.R_drew)); exact HO510.out))) (below_size (by repeat (first | (with_reducible first | exact HB.out | apply below_alloc | apply pw_below_drewN | apply below_drew1) | exact HB.out)))); have n4_ := Aside0.mk (below_step (by repeat (first | (with_reducible first | exact HB.out | apply below_alloc | apply pw_below_drewN | apply below_drew1) | exact HB.out)) hb); clear HO_9; clear HO513; clear HO510; clear HB; have HO_9 := n0_; have HO513 := n1_; have HO510 := n2_; have HO516 := n3_; have HB := n4_; clear n0_ n1_ n2_ n3_ n4_; (try clear hb); (try clear hb2); (try clear hk); (try clear hi); (try clear ho0)))
             (try simp only [Exit.noGoto_ret, Exit.noGoto_normal, Exit.noGoto_exit]); go_ret2
             exact ⟨_, _, by first | rfl | (simp [errW_none, errW_some] <;> rfl) | (simp only [← hji15, ← hji20, ← hji24]; first | rfl | (simp [errW_none, errW_some] <;> rfl)) | (simp [*, errW_none, errW_some] <;> rfl), by (with_reducible repeat (first | apply Kd.R_alloc | apply Kd.R_drewN | apply Kd.R_drew)); exact Kd.R_mono HO510.out (fun _ hk => hk.2), by (with_reducible repeat (first | apply Kd.R_alloc | apply Kd.R_drewN | apply Kd.R_drew)); exact Kd.R_mono HO516.out (fun _ hk => hk.2), by repeat (first | (with_reducible first | exact HB.out | apply below_alloc | apply pw_below_drewN | apply below_drew1) | exact HB.out)⟩
        ·rw [if_neg c26] at H
         exact absurd H (by simp)
       ·rw [if_neg c25] at H
        exact absurd H (by simp)
      ·rw [if_neg c22] at H
       exact absurd H (by simp)
     ·rw [if_neg c21] at H
      exact absurd H (by simp)
    ·rw [if_neg c17] at H
     exact absurd H (by simp)
   ·rw [if_neg c16] at H
    exact absurd H (by simp)
end Go.Proofs.Ytcbmdpecnmbhjaa.PA
end
section
namespace Go.Proofs.Ytcbmdpecnmbhjaa.PA
open Go.RowKit Go.Proofs.Ytcbmdpecnmbhjaa.G Go.Proofs.YtcbmdpecnmbhjaaV.PrintWords Go.Proofs.YtcbmdpecnmbhjaaV.PrintLast Go.Proofs.YtcbmdpecnmbhjaaV.PrintMore
attribute [local go_sem] max2_int min2_int max_two min_two max_three min_three max_four min_four run_Add64 run_Sub64
set_option linter.unusedVariables false
set_option linter.unusedSimpArgs false
def impl_NatDivMod.j0 : Nat → List Int → List Int → Bool → Option (List Int × List Int × Bool)
 | 0, _, _, _ => none
 | k + 1, x0, x1, x19 => if x19 = true then (some (([] : List Int), ([] : List Int), false)) else ((impl_nat_div.f k (trimL x0) (trimL x1)).bind fun bt566 => (some (bt566.1, bt566.2, true)))
def impl_NatDivMod.f (k : Nat) (l0 : List Int) (l1 : List Int) : Option (List Int × List Int × Bool) := (impl_short.f k (([l0, l1] : List (List Int)))).bind fun t553 => (if t553 = true then (impl_NatDivMod.j0 k l0 l1 (((trimL l1).length : Int) == 0)) else (impl_NatDivMod.j0 k l0 l1 true))
set_option maxHeartbeats 8000000 in
set_option maxRecDepth 100000 in
theorem impl_NatDivMod.calls (k : Nat) (P0_ : Nat → Prop) (A0 : Option Addr) (c0 : Nat) (l0 : List Int) (P1_ : Nat → Prop) (A1 : Option Addr) (c1 : Nat) (l1 : List Int) (r1 : List Int) (r2 : List Int) (r3 : Bool) (w : World) (hs0 : Kd.V (Kd.int .u64) 36 w w.heap.size (fun k_ => P0_ k_) (.slice A0 l0.length c0) l0) (hs1 : Kd.V (Kd.int .u64) 36 w w.heap.size (fun k_ => P1_ k_) (.slice A1 l1.length c1) l1) (h : impl_NatDivMod.f k l0 l1 = some (r1, r2, r3)) :
  Calls Try.prog 29 #[.slice A0 l0.length c0, .slice A1 l1.length c1] w fun e w' => ∃ v0_ v1_ : Value, e = .returned (.tuple #[v0_, v1_, .bool r3]) ∧ Kd.R (Kd.int .u64) 36 w' w.heap.size (fun k_ => (w.heap.size ≤ k_) ∧ some k_ ≠ (v1_ : Value).ownBlock) v0_ r1 ∧ Kd.R (Kd.int .u64) 36 w' w.heap.size (fun k_ => (w.heap.size ≤ k_) ∧ some k_ ≠ (v0_ : Value).ownBlock) v1_ r2 ∧ Below w.heap.size w w' := by
 have HO0 := Aside0.mk (show Kd.V (Kd.int .u64) 36 w w.heap.size (fun k_ => ((P0_ k_ ∨ P1_ k_) ∨ w.heap.size ≤ k_)) (.slice A0 l0.length c0) l0 from Kd.V_mono hs0 (fun k_ hk => .inl (.inl hk)))
 have HO1 := Aside0.mk (show Kd.V (Kd.int .u64) 36 w w.heap.size (fun k_ => ((P0_ k_ ∨ P1_ k_) ∨ w.heap.size ≤ k_)) (.slice A1 l1.length c1) l1 from Kd.V_mono hs1 (fun k_ hk => .inl (.inr hk)))
 have HB := Aside0.mk (Below.refl w.heap.size w)
 have H : ((impl_short.f k (([l0, l1] : List (List Int)))).bind fun t553 => (if t553 = true then (impl_NatDivMod.j0 k l0 l1 (((trimL l1).length : Int) == 0)) else (impl_NatDivMod.j0 k l0 l1 true))) = some (r1, r2, r3) := h
 clear h
 have HC3 := Aside0.mk H
 clear H
 go_enter Try.func29, Try.ntmps29
 go_upto_region 1 with (fail)
 go_cut [19] (fun v19 wc => ∃ (kq : Nat) (x19_2 : Bool), v19 = .bool x19_2 ∧ Aside0 (impl_NatDivMod.j0 kq l0 l1 x19_2 = some (r1, r2, r3)) ∧ Aside0 (kq ≤ k) ∧ Aside0 (Kd.V (Kd.int .u64) 36 wc w.heap.size (fun k_ => ((P0_ k_ ∨ P1_ k_) ∨ w.heap.size ≤ k_)) (.slice A0 l0.length c0) l0) ∧ Aside0 (Kd.V (Kd.int .u64) 36 wc w.heap.size (fun k_ => ((P0_ k_ ∨ P1_ k_) ∨ w.heap.size ≤ k_)) (.slice A1 l1.length c1) l1) ∧ Aside0 (Below w.heap.size w wc))
 case first =>
  have H := HC3.out
  clear HC3
  obtain ⟨y550, hy550⟩ : ∃ y_ : List (List Int), y_ = (([l0, l1] : List (List Int))) := ⟨_, rfl⟩
  replace H : ((impl_short.f k y550).bind fun t553 => (if t553 = true then (impl_NatDivMod.j0 k l0 l1 (((trimL l1).length : Int) == 0)) else (impl_NatDivMod.j0 k l0 l1 true))) = some (r1, r2, r3) := by first | (rw [hy550]; with_reducible exact H) | (have H2_ := (Option.bind_some _ _).symm.trans H; rw [hy550]; with_reducible exact H2_) | (have H2_ := (Option.bind_some _ _).symm.trans H; with_reducible exact H2_) | with_reducible exact H | (rw [hy550]; exact H) | exact H
  have Ny550 := Aside0.mk hy550
  clear hy550
  replace H := Option.bind_eq_some_iff.mp H
  obtain ⟨t553, A40, H⟩ := H
  replace H : (if t553 = true then (impl_NatDivMod.j0 k l0 l1 (((trimL l1).length : Int) == 0)) else (impl_NatDivMod.j0 k l0 l1 true)) = some (r1, r2, r3) := H
  have A4 := Aside0.mk A40
  clear A40
  by_cases c5 : t553 = true
  ·subst c5
   have H1 : (impl_NatDivMod.j0 k l0 l1 (((trimL l1).length : Int) == 0)) = some (r1, r2, r3) := by rw [if_pos rfl] at H; exact H
   clear H
   have H := H1
   clear H1
   obtain ⟨y554, hy554⟩ : ∃ y_ : List Int, y_ = (trimL l1) := ⟨_, rfl⟩
   replace H : (impl_NatDivMod.j0 k l0 l1 ((y554.length : Int) == 0)) = some (r1, r2, r3) := by first | (rw [hy554]; with_reducible exact H) | (have H2_ := (Option.bind_some _ _).symm.trans H; rw [hy554]; with_reducible exact H2_) | (have H2_ := (Option.bind_some _ _).symm.trans H; with_reducible exact H2_) | with_reducible exact H | (rw [hy554]; exact H) | exact H
   have Ny554 := Aside0.mk hy554
   clear hy554
   have H' := Aside0.mk H
   clear H
   go_wp2_with (first | ((with_reducible refine gate_dst (N := 11) rfl ?_); refine Kd.N_lit (Kd.slice 36 (Kd.int .u64)) _ 24 ?hg (N' := 11) ?hd (xs := ([l0, l1] : List (List Int))) (inner := [.slice A0 l0.length c0, .slice A1 l1.length c1]) (ok := (fun k_ => ((P0_ k_ ∨ P1_ k_) ∨ w.heap.size ≤ k_))) (okp := (fun k_ => ((P0_ k_ ∨ P1_ k_) ∨ w.heap.size ≤ k_))) ?hr ?hp (fun _ hk => hk) ((show ∀ k_, w.heap.size ≤ k_ → (fun k_ => ((P0_ k_ ∨ P1_ k_) ∨ w.heap.size ≤ k_)) k_ from fun k_ hk => (.inr (Nat.le_trans (below_size (by repeat (first | (with_reducible first | exact HB.out | apply below_alloc | apply pw_below_drewN | apply below_drew1) | exact HB.out))) hk))) _ (Nat.le_refl _)) (Below.refl _ _) (Nat.le_refl _) (by simp) ?_; (case hd => rfl); (case hg => rfl); (case hr => first | (go_simp; done) | (go_simp; rfl)); (case hp => exact (Reps.one (show Kd.FK (Kd.slice 36 (Kd.int .u64)) _ _ l0 [.slice A0 l0.length c0] from (Kd.FK_slice_mk (Kd.V_reads' (Kd.V_mono (ok' := (fun k_ => ((P0_ k_ ∨ P1_ k_) ∨ w.heap.size ≤ k_))) (HO0.out) (fun k_ hk => hk))).2.1 (Kd.V_F (Kd.V_mono (ok' := (fun k_ => ((P0_ k_ ∨ P1_ k_) ∨ w.heap.size ≤ k_))) (HO0.out) (fun k_ hk => hk))))) (Reps.one (show Kd.FK (Kd.slice 36 (Kd.int .u64)) _ _ l1 [.slice A1 l1.length c1] from (Kd.FK_slice_mk (Kd.V_reads' (Kd.V_mono (ok' := (fun k_ => ((P0_ k_ ∨ P1_ k_) ∨ w.heap.size ≤ k_))) (HO1.out) (fun k_ hk => hk))).2.1 (Kd.V_F (Kd.V_mono (ok' := (fun k_ => ((P0_ k_ ∨ P1_ k_) ∨ w.heap.size ≤ k_))) (HO1.out) (fun k_ hk => hk))))) (Reps.none _ _)))); intro v551 w6 ho7 hb hg_ hnew_; clear hg_ hnew_; (first | rw [← Ny550.out] at ho7 | (simp only [Int.reduceToNat] at ho7; rw [← Ny550.out] at ho7)); have n0_ := Aside0.mk (Kd.V_elder' (by (with_reducible repeat (first | apply Kd.V_alloc | apply Kd.V_drewN | apply Kd.V_drew)); exact HO0.out) (Kd.N_base ho7) hb); have n1_ := Aside0.mk (Kd.V_elder' (by (with_reducible repeat (first | apply Kd.V_alloc | apply Kd.V_drewN | apply Kd.V_drew)); exact HO1.out) (Kd.N_base ho7) hb); have n2_ := Aside0.mk (Kd.N_lower ho7 (below_size (by repeat (first | (with_reducible first | exact HB.out | apply below_alloc | apply pw_below_drewN | apply below_drew1) | exact HB.out)))); have n3_ := Aside0.mk (below_step (by repeat (first | (with_reducible first | exact HB.out | apply below_alloc | apply pw_below_drewN | apply below_drew1) | exact HB.out)) hb); clear HO0; clear HO1; clear HB; have HO0 := n0_; have HO1 := n1_; have HO552 := n2_; have HB := n3_; clear n0_ n1_ n2_ n3_; clear hb ho7; obtain ⟨Ao8, co8, eo8⟩ := Kd.N_slice HO552.out; subst eo8) | ((with_reducible refine gate_callee (f := 54) rfl ?_); refine goesL_ (some 12) rfl rfl Try.func54 (by kernel_rfl) rfl #[.slice Ao8 y550.length co8] rfl (by (try simp only [List.map_toArray, List.map_cons, List.map_nil]); first | done | rfl | (simp only [List.length_drop, List.length_take]; rfl)) ?_; (with_reducible refine (impl_short.calls k _ _ y550 true _ ?side1 ?side2 A4.out).mono ?_); (case side1 => repeat (first | exact (Kd.N_reads' HO552.out).2.2 | (with_reducible refine Kd.C_alloc ?_ _) | (with_reducible refine Kd.C_drewN ?_ _) | (with_reducible refine Kd.C_drew ?_))); (case side2 => exact (Kd.N_reads' HO552.out).2.1); rintro e w' ⟨rfl, ⟨nd, rfl⟩⟩; refine ⟨_, rfl, ?_⟩) | (go_at_call 55; (with_reducible refine (trimmed_calls A1 l1.length c1 l1 y554 _ (Kd.V_reads' HO1.out).1 Ny554.out ?sidea ?sideb).mono ?_); (case sidea => repeat (first | exact (Kd.V_reads' HO1.out).2.2 | (with_reducible refine Kd.C_alloc ?_ _) | (with_reducible refine Kd.C_drewN ?_ _) | (with_reducible refine Kd.C_drew ?_))); (case sideb => exact (Kd.V_reads' HO1.out).2.1); rintro e w' ⟨rfl, rfl⟩; have HO557 := Aside0.mk (V_trim HO1.out); rw [← Ny554.out] at HO557))
   go_meet
   case rel => exact ⟨_, (((y554.length : Int) == 0)), (by first | rfl | (simp; done) | (simp [*]; done)), H', ⟨by first | omega | exact Nat.le_refl _⟩, ⟨by (with_reducible repeat (first | apply Kd.V_alloc | apply Kd.V_drewN | apply Kd.V_drew)); exact Kd.V_mono HO0.out (fun _ hk => hk.1)⟩, ⟨by (with_reducible repeat (first | apply Kd.V_alloc | apply Kd.V_drewN | apply Kd.V_drew)); exact Kd.V_mono HO1.out (fun _ hk => hk.1)⟩, ⟨by repeat (first | (with_reducible first | exact HB.out | apply below_alloc | apply pw_below_drewN | apply below_drew1) | exact HB.out)⟩⟩
  ·replace c5 := Bool.eq_false_iff.mpr c5
   subst c5
   have H1 : (impl_NatDivMod.j0 k l0 l1 true) = some (r1, r2, r3) := by rw [if_neg (show ¬ (false = true) by decide)] at H; exact H
   clear H
   have H := H1
   clear H1
   have H' := Aside0.mk H
   clear H
   go_wp2_with (first | ((with_reducible refine gate_dst (N := 11) rfl ?_); refine Kd.N_lit (Kd.slice 36 (Kd.int .u64)) _ 24 ?hg (N' := 11) ?hd (xs := ([l0, l1] : List (List Int))) (inner := [.slice A0 l0.length c0, .slice A1 l1.length c1]) (ok := (fun k_ => ((P0_ k_ ∨ P1_ k_) ∨ w.heap.size ≤ k_))) (okp := (fun k_ => ((P0_ k_ ∨ P1_ k_) ∨ w.heap.size ≤ k_))) ?hr ?hp (fun _ hk => hk) ((show ∀ k_, w.heap.size ≤ k_ → (fun k_ => ((P0_ k_ ∨ P1_ k_) ∨ w.heap.size ≤ k_)) k_ from fun k_ hk => (.inr (Nat.le_trans (below_size (by repeat (first | (with_reducible first | exact HB.out | apply below_alloc | apply pw_below_drewN | apply below_drew1) | exact HB.out))) hk))) _ (Nat.le_refl _)) (Below.refl _ _) (Nat.le_refl _) (by simp) ?_; (case hd => rfl); (case hg => rfl); (case hr => first | (go_simp; done) | (go_simp; rfl)); (case hp => exact (Reps.one (show Kd.FK (Kd.slice 36 (Kd.int .u64)) _ _ l0 [.slice A0 l0.length c0] from (Kd.FK_slice_mk (Kd.V_reads' (Kd.V_mono (ok' := (fun k_ => ((P0_ k_ ∨ P1_ k_) ∨ w.heap.size ≤ k_))) (HO0.out) (fun k_ hk => hk))).2.1 (Kd.V_F (Kd.V_mono (ok' := (fun k_ => ((P0_ k_ ∨ P1_ k_) ∨ w.heap.size ≤ k_))) (HO0.out) (fun k_ hk => hk))))) (Reps.one (show Kd.FK (Kd.slice 36 (Kd.int .u64)) _ _ l1 [.slice A1 l1.length c1] from (Kd.FK_slice_mk (Kd.V_reads' (Kd.V_mono (ok' := (fun k_ => ((P0_ k_ ∨ P1_ k_) ∨ w.heap.size ≤ k_))) (HO1.out) (fun k_ hk => hk))).2.1 (Kd.V_F (Kd.V_mono (ok' := (fun k_ => ((P0_ k_ ∨ P1_ k_) ∨ w.heap.size ≤ k_))) (HO1.out) (fun k_ hk => hk))))) (Reps.none _ _)))); intro v551 w10 ho11 hb hg_ hnew_; clear hg_ hnew_; (first | rw [← Ny550.out] at ho11 | (simp only [Int.reduceToNat] at ho11; rw [← Ny550.out] at ho11)); have n0_ := Aside0.mk (Kd.V_elder' (by (with_reducible repeat (first | apply Kd.V_alloc | apply Kd.V_drewN | apply Kd.V_drew)); exact HO0.out) (Kd.N_base ho11) hb); have n1_ := Aside0.mk (Kd.V_elder' (by (with_reducible repeat (first | apply Kd.V_alloc | apply Kd.V_drewN | apply Kd.V_drew)); exact HO1.out) (Kd.N_base ho11) hb); have n2_ := Aside0.mk (Kd.N_lower ho11 (below_size (by repeat (first | (with_reducible first | exact HB.out | apply below_alloc | apply pw_below_drewN | apply below_drew1) | exact HB.out)))); have n3_ := Aside0.mk (below_step (by repeat (first | (with_reducible first | exact HB.out | apply below_alloc | apply pw_below_drewN | apply below_drew1) | exact HB.out)) hb); clear HO0; clear HO1; clear HB; have HO0 := n0_; have HO1 := n1_; have HO552 := n2_; have HB := n3_; clear n0_ n1_ n2_ n3_; clear hb ho11; obtain ⟨Ao12, co12, eo12⟩ := Kd.N_slice HO552.out; subst eo12) | ((with_reducible refine gate_callee (f := 54) rfl ?_); refine goesL_ (some 12) rfl rfl Try.func54 (by kernel_rfl) rfl #[.slice Ao12 y550.length co12] rfl (by (try simp only [List.map_toArray, List.map_cons, List.map_nil]); first | done | rfl | (simp only [List.length_drop, List.length_take]; rfl)) ?_; (with_reducible refine (impl_short.calls k _ _ y550 false _ ?side1 ?side2 A4.out).mono ?_); (case side1 => repeat (first | exact (Kd.N_reads' HO552.out).2.2 | (with_reducible refine Kd.C_alloc ?_ _) | (with_reducible refine Kd.C_drewN ?_ _) | (with_reducible refine Kd.C_drew ?_))); (case side2 => exact (Kd.N_reads' HO552.out).2.1); rintro e w' ⟨rfl, ⟨nd, rfl⟩⟩; refine ⟨_, rfl, ?_⟩))
   go_meet
   case rel => exact ⟨_, (true), (by first | rfl | (simp; done) | (simp [*]; done)), H', ⟨by first | omega | exact Nat.le_refl _⟩, ⟨by (with_reducible repeat (first | apply Kd.V_alloc | apply Kd.V_drewN | apply Kd.V_drew)); exact Kd.V_mono HO0.out (fun _ hk => hk.1)⟩, ⟨by (with_reducible repeat (first | apply Kd.V_alloc | apply Kd.V_drewN | apply Kd.V_drew)); exact Kd.V_mono HO1.out (fun _ hk => hk.1)⟩, ⟨by repeat (first | (with_reducible first | exact HB.out | apply below_alloc | apply pw_below_drewN | apply below_drew1) | exact HB.out)⟩⟩
 case rest =>
  clear HC3
  try clear c1; try clear c2; try clear p2; try clear c5
  obtain ⟨kq, x19_2, rfl, HA, HJ2, HO_0, HO_1, HB⟩ := hcut
  cases kq with
  | zero => exact absurd HA.out (by simp [impl_NatDivMod.j0])
  | succ kj2 =>
   have H := HA.out
   clear HA
   simp only [impl_NatDivMod.j0] at H
   by_cases c13 : x19_2 = true
   ·subst c13
    have H1 : (some (([] : List Int), ([] : List Int), false)) = some (r1, r2, r3) := by rw [if_pos rfl] at H; exact H
    clear H
    have H := H1
    clear H1
    simp only [Option.some.injEq, Prod.mk.injEq] at H
    obtain ⟨rfl, rfl, rfl⟩ := H
    go_wp2
    go_ret3
    exact ⟨_, _, by first | rfl | (simp [errW_none, errW_some] <;> rfl) | (simp [*, errW_none, errW_some] <;> rfl), by first | exact Kd.R_nil _ _ _ _ _ | exact Kd.N_nil _ _ _ _ _ | exact Kd.V_nil _ _ _ _ _ | exact Kd.Q_nil _ _ _ _ _ | exact Kd.S_nil _ _ _ _ _, by first | exact Kd.R_nil _ _ _ _ _ | exact Kd.N_nil _ _ _ _ _ | exact Kd.V_nil _ _ _ _ _ | exact Kd.Q_nil _ _ _ _ _ | exact Kd.S_nil _ _ _ _ _, by repeat (first | (with_reducible first | exact HB.out | apply below_alloc | apply pw_below_drewN | apply below_drew1) | exact HB.out)⟩
   ·replace c13 := Bool.eq_false_iff.mpr c13
    subst c13
    have H1 : ((impl_nat_div.f kj2 (trimL l0) (trimL l1)).bind fun bt566 => (some (bt566.1, bt566.2, true))) = some (r1, r2, r3) := by rw [if_neg (show ¬ (false = true) by decide)] at H; exact H
    clear H
    have H := H1
    clear H1
    obtain ⟨y558, hy558⟩ : ∃ y_ : List Int, y_ = (trimL l0) := ⟨_, rfl⟩
    replace H : ((impl_nat_div.f kj2 y558 (trimL l1)).bind fun bt566 => (some (bt566.1, bt566.2, true))) = some (r1, r2, r3) := by first | (rw [hy558]; with_reducible exact H) | (have H2_ := (Option.bind_some _ _).symm.trans H; rw [hy558]; with_reducible exact H2_) | (have H2_ := (Option.bind_some _ _).symm.trans H; with_reducible exact H2_) | with_reducible exact H | (rw [hy558]; exact H) | exact H
    have Ny558 := Aside0.mk hy558
    clear hy558
    obtain ⟨y562, hy562⟩ : ∃ y_ : List Int, y_ = (trimL l1) := ⟨_, rfl⟩
    replace H : ((impl_nat_div.f kj2 y558 y562).bind fun bt566 => (some (bt566.1, bt566.2, true))) = some (r1, r2, r3) := by first | (rw [hy562]; with_reducible exact H) | (have H2_ := (Option.bind_some _ _).symm.trans H; rw [hy562]; with_reducible exact H2_) | (have H2_ := (Option.bind_some _ _).symm.trans H; with_reducible exact H2_) | with_reducible exact H | (rw [hy562]; exact H) | exact H
    have Ny562 := Aside0.mk hy562
    clear hy562
    replace H := Option.bind_eq_some_iff.mp H
    obtain ⟨⟨t566, t567⟩, A140, H⟩ := H
    replace H : (some (t566, t567, true)) = some (r1, r2, r3) := H
    have A14 := Aside0.mk A140
    clear A140
    simp only [Option.some.injEq, Prod.mk.injEq] at H
    obtain ⟨rfl, rfl, rfl⟩ := H
    go_wp2_with (first | ((with_reducible refine gate_callee (f := 55) rfl ?_); refine goesL_ (some 22) rfl rfl Try.func55 (by kernel_rfl) rfl #[.slice A0 l0.length c0] rfl (by (try simp only [List.map_toArray, List.map_cons, List.map_nil]); first | done | rfl | (simp only [List.length_drop, List.length_take]; rfl)) ?_; (with_reducible refine (trimmed_calls A0 l0.length c0 l0 y558 _ (Kd.V_reads' HO_0.out).1 Ny558.out ?sidea ?sideb).mono ?_); (case sidea => repeat (first | exact (Kd.V_reads' HO_0.out).2.2 | (with_reducible refine Kd.C_alloc ?_ _) | (with_reducible refine Kd.C_drewN ?_ _) | (with_reducible refine Kd.C_drew ?_))); (case sideb => exact (Kd.V_reads' HO_0.out).2.1); rintro e w' ⟨rfl, rfl⟩; refine ⟨_, rfl, ?_⟩; have HO561 := Aside0.mk (V_trim HO_0.out); rw [← Ny558.out] at HO561) | ((with_reducible refine gate_callee (f := 55) rfl ?_); refine goesL_ (some 24) rfl rfl Try.func55 (by kernel_rfl) rfl #[.slice A1 l1.length c1] rfl (by (try simp only [List.map_toArray, List.map_cons, List.map_nil]); first | done | rfl | (simp only [List.length_drop, List.length_take]; rfl)) ?_; (with_reducible refine (trimmed_calls A1 l1.length c1 l1 y562 _ (Kd.V_reads' HO_1.out).1 Ny562.out ?sidea ?sideb).mono ?_); (case sidea => repeat (first | exact (Kd.V_reads' HO_1.out).2.2 | (with_reducible refine Kd.C_alloc ?_ _) | (with_reducible refine Kd.C_drewN ?_ _) | (with_reducible refine Kd.C_drew ?_))); (case sideb => exact (Kd.V_reads' HO_1.out).2.1); rintro e w' ⟨rfl, rfl⟩; refine ⟨_, rfl, ?_⟩; have HO565 := Aside0.mk (V_trim HO_1.out); rw [← Ny562.out] at HO565) | ((with_reducible refine gate_callee (f := 71) rfl ?_); refine goesL_ (some 25) rfl rfl Try.func71 (by kernel_rfl) rfl #[.slice A0 y558.length y558.length, .slice A1 y562.length y562.length] rfl (by (try simp only [List.map_toArray, List.map_cons, List.map_nil]); first | done | rfl | (simp only [List.length_drop, List.length_take]; rfl)) ?_; (with_reducible refine (impl_nat_div.calls kj2 _ _ y558 _ _ y562 t566 t567 _ ?side1 ?side2 ?side3 ?side4 A14.out).mono ?_); (case side1 => repeat (first | exact (Kd.V_reads' HO561.out).2.2 | (with_reducible refine Kd.C_alloc ?_ _) | (with_reducible refine Kd.C_drewN ?_ _) | (with_reducible refine Kd.C_drew ?_))); (case side2 => exact (Kd.V_reads' HO561.out).2.1); (case side3 => repeat (first | exact (Kd.V_reads' HO565.out).2.2 | (with_reducible refine Kd.C_alloc ?_ _) | (with_reducible refine Kd.C_drewN ?_ _) | (with_reducible refine Kd.C_drew ?_))); (case side4 => exact (Kd.V_reads' HO565.out).2.1); rintro e w17 ⟨v568, v570, rfl, ho0, ho1, hb⟩; refine ⟨_, rfl, ?_⟩; have n0_ := Aside0.mk (Kd.V_mono (Kd.V_told (Kd.V_told (Kd.V_old (by (with_reducible repeat (first | apply Kd.V_alloc | apply Kd.V_drewN | apply Kd.V_drew)); exact HO_0.out) hb) (Kd.R_base ho0)) (Kd.R_base ho1)) (fun _ h_ => h_.1)); have n1_ := Aside0.mk (Kd.V_mono (Kd.V_told (Kd.V_told (Kd.V_old (by (with_reducible repeat (first | apply Kd.V_alloc | apply Kd.V_drewN | apply Kd.V_drew)); exact HO_1.out) hb) (Kd.R_base ho0)) (Kd.R_base ho1)) (fun _ h_ => h_.1)); have n2_ := Aside0.mk (Kd.V_mono (Kd.V_told (Kd.V_told (Kd.V_old (by (with_reducible repeat (first | apply Kd.V_alloc | apply Kd.V_drewN | apply Kd.V_drew)); exact HO561.out) hb) (Kd.R_base ho0)) (Kd.R_base ho1)) (fun _ h_ => h_.1)); have n3_ := Aside0.mk (Kd.V_mono (Kd.V_told (Kd.V_told (Kd.V_old (by (with_reducible repeat (first | apply Kd.V_alloc | apply Kd.V_drewN | apply Kd.V_drew)); exact HO565.out) hb) (Kd.R_base ho0)) (Kd.R_base ho1)) (fun _ h_ => h_.1)); have n4_ := Aside0.mk (Kd.R_lower (Kd.R_newM (M := fun k_ => (w.heap.size ≤ k_)) ho0 (below_size (by repeat (first | (with_reducible first | exact HB.out | apply below_alloc | apply pw_below_drewN | apply below_drew1) | exact HB.out))) (fun k_ h_ => h_)) (below_size (by repeat (first | (with_reducible first | exact HB.out | apply below_alloc | apply pw_below_drewN | apply below_drew1) | exact HB.out)))); have n5_ := Aside0.mk (Kd.R_lower (Kd.R_newM (M := fun k_ => (w.heap.size ≤ k_)) ho1 (below_size (by repeat (first | (with_reducible first | exact HB.out | apply below_alloc | apply pw_below_drewN | apply below_drew1) | exact HB.out))) (fun k_ h_ => h_)) (below_size (by repeat (first | (with_reducible first | exact HB.out | apply below_alloc | apply pw_below_drewN | apply below_drew1) | exact HB.out)))); have n6_ := Aside0.mk (below_step (by repeat (first | (with_reducible first | exact HB.out | apply below_alloc | apply pw_below_drewN | apply below_drew1) | exact HB.out)) hb); clear HO_0; clear HO_1; clear HO561; clear HO565; clear HB; have HO_0 := n0_; have HO_1 := n1_; have HO561 := n2_; have HO565 := n3_; have HO569 := n4_; have HO571 := n5_; have HB := n6_; clear n0_ n1_ n2_ n3_ n4_ n5_ n6_; (try clear hb); (try clear hb2); (try clear hk); (try clear hi); (try clear ho0); (try clear ho1)))
    go_ret3
    exact ⟨_, _, by first | rfl | (simp [errW_none, errW_some] <;> rfl) | (simp [*, errW_none, errW_some] <;> rfl), by (with_reducible repeat (first | apply Kd.R_alloc | apply Kd.R_drewN | apply Kd.R_drew)); exact HO569.out, by (with_reducible repeat (first | apply Kd.R_alloc | apply Kd.R_drewN | apply Kd.R_drew)); exact HO571.out, by repeat (first | (with_reducible first | exact HB.out | apply below_alloc | apply pw_below_drewN | apply below_drew1) | exact HB.out)⟩
end Go.Proofs.Ytcbmdpecnmbhjaa.PA
end
section
namespace Go.Proofs.Ytcbmdpecnmbhjaa.PA
open Go.RowKit Go.Proofs.Ytcbmdpecnmbhjaa.G Go.Proofs.YtcbmdpecnmbhjaaV.PrintWords Go.Proofs.YtcbmdpecnmbhjaaV.PrintLast Go.Proofs.YtcbmdpecnmbhjaaV.PrintMore
attribute [local go_sem] max2_int min2_int max_two min_two max_three min_three max_four min_four run_Add64 run_Sub64
set_option linter.unusedVariables false
set_option linter.unusedSimpArgs false
mutual
def spec_l1Add.j0 : Nat → List Int → List Int → Int → Option (List Int)
 | 0, _, _, _ => none
 | k + 1, x0, x1, x5 => spec_l1Add.l0 k x0 x1 x5 ([] : List Int) 0 0
def spec_l1Add.l0 : Nat → List Int → List Int → Int → List Int → Int → Int → Option (List Int)
 | 0, _, _, _, _, _, _ => none
 | k + 1, x0, x1, x5, x6, x7, x8 => if x8 ≤ x5 then ((spec_l1At.f x0 x8).bind fun t737 => ((spec_l1At.f x1 x8).bind fun t738 => (if x6.length < 17592186044416 then (spec_l1Add.l0 k x0 x1 x5 (x6 ++ [Go.bits .and .u64 (IntKind.u64.wrap ((IntKind.u64.wrap (t737 + t738)) + x7)) 4294967295]) ((IntKind.u64.wrap ((IntKind.u64.wrap (t737 + t738)) + x7)) / 4294967296) (wrap64 (x8 + 1))) else (none)))) else ((spec_l1Trim.f x6).bind fun t742 => (some t742))
end
def spec_l1Add.f (k : Nat) (l0 : List Int) (l1 : List Int) : Option (List Int) := if (l1.length : Int) > (l0.length : Int) then (spec_l1Add.j0 k l0 l1 (l1.length : Int)) else (spec_l1Add.j0 k l0 l1 (l0.length : Int))
set_option maxHeartbeats 8000000 in
set_option maxRecDepth 100000 in
theorem spec_l1Add.calls (k : Nat) (A0 : Option Addr) (c0 : Nat) (l0 : List Int) (A1 : Option Addr) (c1 : Nat) (l1 : List Int) (r : List Int) (w : World) (hr0 : Kd.C (Kd.int .u64) w A0 l0.length l0) (hc0 : l0.length ≤ c0) (hr1 : Kd.C (Kd.int .u64) w A1 l1.length l1) (hc1 : l1.length ≤ c1) (h : spec_l1Add.f k l0 l1 = some r) :
  Calls Try.prog 74 #[.slice A0 l0.length c0, .slice A1 l1.length c1] w fun e w' => ∃ v0_ : Value, e = .returned (v0_) ∧ Kd.R (Kd.int .u64) 36 w' w.heap.size (fun _ => True) v0_ r ∧ Below w.heap.size w w' := by
 have HR0 := Aside0.mk hr0
 have HC0 := Aside0.mk hc0
 clear hr0 hc0
 have HR1 := Aside0.mk hr1
 have HC1 := Aside0.mk hc1
 clear hr1 hc1
 have HB := Aside0.mk (Below.refl w.heap.size w)
 have H : (if (l1.length : Int) > (l0.length : Int) then (spec_l1Add.j0 k l0 l1 (l1.length : Int)) else (spec_l1Add.j0 k l0 l1 (l0.length : Int))) = some r := h
 clear h
 have HC3 := Aside0.mk H
 clear H
 go_enter Try.func74, Try.ntmps74
 go_upto_if 15 with (fail)
 go_cut [5] (fun v5 wc => ∃ (kq : Nat) (x5_2 : Int), v5 = .int .i64 x5_2 ∧ Aside0 (spec_l1Add.j0 kq l0 l1 x5_2 = some r) ∧ Aside0 (kq ≤ k) ∧ Aside0 (Below w.heap.size w wc))
 case first =>
  have H := HC3.out
  clear HC3
  by_cases c4 : (l1.length : Int) > (l0.length : Int)
  ·rw [if_pos c4] at H
   have c4b0 : decide ((l0.length : Int) < (l1.length : Int)) = true := decide_eq_true c4
   have c4b1 : decide (l0.length < l1.length) = true := decide_eq_true (Int.ofNat_lt.mp c4)
   clear c4
   (first | rw [c4b0] | (simp only [i64_w, i32_w]; rw [c4b0]) | rw [c4b1] | (simp only [c4b1]) | skip)
   have H' := Aside0.mk H
   clear H
   go_wp2
   go_meet
   case rel => exact ⟨_, ((l1.length : Int)), (by first | rfl | (simp; done) | (simp [*]; done)), H', ⟨by first | omega | exact Nat.le_refl _⟩, ⟨by repeat (first | (with_reducible first | exact HB.out | apply below_alloc | apply pw_below_drewN | apply below_drew1) | exact HB.out)⟩⟩
  ·rw [if_neg c4] at H
   have c4b0 : decide ((l0.length : Int) < (l1.length : Int)) = false := decide_eq_false c4
   have c4b1 : decide (l0.length < l1.length) = false := decide_eq_false (fun h => c4 (Int.ofNat_lt.mpr h))
   clear c4
   (first | rw [c4b0] | (simp only [i64_w, i32_w]; rw [c4b0]) | rw [c4b1] | (simp only [c4b1]) | skip)
   have H' := Aside0.mk H
   clear H
   go_wp2
   go_meet
   case rel => exact ⟨_, ((l0.length : Int)), (by first | rfl | (simp; done) | (simp [*]; done)), H', ⟨by first | omega | exact Nat.le_refl _⟩, ⟨by repeat (first | (with_reducible first | exact HB.out | apply below_alloc | apply pw_below_drewN | apply below_drew1) | exact HB.out)⟩⟩
 case rest =>
  clear HC3
  try clear c1; try clear p2; try clear c4; try clear c4b0; try clear c4b1
  obtain ⟨kq, x5_2, rfl, HA, HJ2, HB⟩ := hcut
  cases kq with
  | zero => exact absurd HA.out (by simp [spec_l1Add.j0])
  | succ kj2 =>
   have H := HA.out
   clear HA
   simp only [spec_l1Add.j0] at H
   have H' := Aside0.mk H
   clear H
   go_wp2
   go_loopg [6, 7, 8] kj2 (fun kq v6 v7 v8 w' => ∃ (x6_2 : List Int) (x7_2 : Int) (x8_2 : Int), v7 = .int .u64 x7_2 ∧ v8 = .int .i64 x8_2 ∧ Aside0 (spec_l1Add.l0 kq l0 l1 x5_2 x6_2 x7_2 x8_2 = some r) ∧ Aside0 (kq ≤ kj2) ∧ Aside0 (Kd.R (Kd.int .u64) 36 w' w.heap.size (fun _ => True) v6 x6_2) ∧ Aside0 (Below w.heap.size w w'))
   case atStart => exact ⟨(([] : List Int)), (0), (0), (by first | rfl | (simp; done) | (simp [*]; done)), (by first | rfl | (simp; done) | (simp [*]; done)), H', ⟨Nat.le_refl _⟩, ⟨by first | exact Kd.R_nil _ _ _ _ _ | exact Kd.N_nil _ _ _ _ _ | exact Kd.V_nil _ _ _ _ _ | exact Kd.Q_nil _ _ _ _ _ | exact Kd.S_nil _ _ _ _ _⟩, ⟨by repeat (first | (with_reducible first | exact HB.out | apply below_alloc | apply pw_below_drewN | apply below_drew1) | exact HB.out)⟩⟩
   case round =>
    clear H'
    try clear c1; try clear p2; try clear c4; try clear c4b0; try clear c4b1; try clear p2
    obtain ⟨x6_2, x7_2, x8_2, rfl, rfl, HA, HK2, HO_6, HB⟩ := hrel
    cases gk with
    | zero => exact absurd HA.out (by simp [spec_l1Add.l0])
    | succ k2 =>
     have H := HA.out
     clear HA
     simp only [spec_l1Add.l0] at H
     by_cases c5 : x8_2 ≤ x5_2
     ·rw [if_pos c5] at H
      have c5b0 : decide (x8_2 ≤ x5_2) = true := decide_eq_true c5
      clear c5
      replace H := Option.bind_eq_some_iff.mp H
      obtain ⟨t737, A60, H⟩ := H
      replace H : ((spec_l1At.f l1 x8_2).bind fun t738 => (if x6_2.length < 17592186044416 then (spec_l1Add.l0 k2 l0 l1 x5_2 (x6_2 ++ [Go.bits .and .u64 (IntKind.u64.wrap ((IntKind.u64.wrap (t737 + t738)) + x7_2)) 4294967295]) ((IntKind.u64.wrap ((IntKind.u64.wrap (t737 + t738)) + x7_2)) / 4294967296) (wrap64 (x8_2 + 1))) else (none))) = some r := H
      have A6 := Aside0.mk A60
      clear A60
      replace H := Option.bind_eq_some_iff.mp H
      obtain ⟨t738, A70, H⟩ := H
      replace H : (if x6_2.length < 17592186044416 then (spec_l1Add.l0 k2 l0 l1 x5_2 (x6_2 ++ [Go.bits .and .u64 (IntKind.u64.wrap ((IntKind.u64.wrap (t737 + t738)) + x7_2)) 4294967295]) ((IntKind.u64.wrap ((IntKind.u64.wrap (t737 + t738)) + x7_2)) / 4294967296) (wrap64 (x8_2 + 1))) else (none)) = some r := H
      have A7 := Aside0.mk A70
      clear A70
      by_cases c8 : x6_2.length < 17592186044416
      ·rw [if_pos c8] at H
       have LMc8 := Aside0.mk c8
       clear c8
       obtain ⟨y739, hy739⟩ : ∃ y_ : List Int, y_ = (x6_2 ++ [Go.bits .and .u64 (IntKind.u64.wrap ((IntKind.u64.wrap (t737 + t738)) + x7_2)) 4294967295]) := ⟨_, rfl⟩
       replace H : (spec_l1Add.l0 k2 l0 l1 x5_2 y739 ((IntKind.u64.wrap ((IntKind.u64.wrap (t737 + t738)) + x7_2)) / 4294967296) (wrap64 (x8_2 + 1))) = some r := by first | (rw [hy739]; with_reducible exact H) | (have H2_ := (Option.bind_some _ _).symm.trans H; rw [hy739]; with_reducible exact H2_) | (have H2_ := (Option.bind_some _ _).symm.trans H; with_reducible exact H2_) | with_reducible exact H | (rw [hy739]; exact H) | exact H
       have Ny739 := Aside0.mk hy739
       clear hy739
       have H' := Aside0.mk H
       clear H
       go_wp2_with (first | ((with_reducible refine gate_callee (f := 92) rfl ?_); refine goesL_ (some 25) rfl rfl Try.func92 (by kernel_rfl) rfl #[.slice A0 l0.length c0, .int .i64 x8_2] rfl (by (try simp only [List.map_toArray, List.map_cons, List.map_nil]); first | done | rfl | (simp only [List.length_drop, List.length_take]; rfl)) ?_; (with_reducible refine (spec_l1At.calls _ _ l0 x8_2 t737 _ ?side1 ?side2 A6.out).mono ?_); (case side1 => repeat (first | exact (Kd.C_below HR0.out HB.out) | (with_reducible refine Kd.C_alloc ?_ _) | (with_reducible refine Kd.C_drewN ?_ _) | (with_reducible refine Kd.C_drew ?_))); (case side2 => exact HC0.out); rintro e w' ⟨rfl, ⟨nd, rfl⟩⟩; refine ⟨_, rfl, ?_⟩) | ((with_reducible refine gate_callee (f := 92) rfl ?_); refine goesL_ (some 28) rfl rfl Try.func92 (by kernel_rfl) rfl #[.slice A1 l1.length c1, .int .i64 x8_2] rfl (by (try simp only [List.map_toArray, List.map_cons, List.map_nil]); first | done | rfl | (simp only [List.length_drop, List.length_take]; rfl)) ?_; (with_reducible refine (spec_l1At.calls _ _ l1 x8_2 t738 _ ?side1 ?side2 A7.out).mono ?_); (case side1 => repeat (first | exact (Kd.C_below HR1.out (by repeat (first | (with_reducible first | exact HB.out | apply below_alloc | apply pw_below_drewN | apply below_drew1) | exact HB.out))) | (with_reducible refine Kd.C_alloc ?_ _) | (with_reducible refine Kd.C_drewN ?_ _) | (with_reducible refine Kd.C_drew ?_))); (case side2 => exact HC1.out); rintro e w' ⟨rfl, ⟨nd, rfl⟩⟩; refine ⟨_, rfl, ?_⟩) | ((with_reducible refine gate_builtin (b := .append) (xs := #[.tmp 32, .tmp 35]) rfl ?_); at_builtin; refine Kd.R_append (Kd.int .u64) (w0 := w) w.heap.size rfl (.tmp 32) (.tmp 35) 24 36 (.int .u64 0) 8 rfl Try.underlying24 info36 rfl (by decide) (by omega) u6 x6_2 (Go.bits .and .u64 (IntKind.u64.wrap ((IntKind.u64.wrap (t737 + t738)) + x7_2)) 4294967295) [.int .u64 (Go.bits .and .u64 (IntKind.u64.wrap ((IntKind.u64.wrap (t737 + t738)) + x7_2)) 4294967295)] (fun _ => True) (fun _ => False) rfl rfl ?aP (fun _ hk => hk.elim) ?aF ?aO ?aB ?aS ?aL ?_; (case aP => exact rfl); (case aB => exact (by repeat (first | (with_reducible first | exact HB.out | apply below_alloc | apply pw_below_drewN | apply below_drew1) | exact HB.out))); (case aF => exact (fun _ _ => trivial)); (case aO => exact (by (with_reducible repeat (first | apply Kd.R_alloc | apply Kd.R_drewN | apply Kd.R_drew)); exact HO_6.out)); (case aS => exact (below_size (by repeat (first | (with_reducible first | exact HB.out | apply below_alloc | apply pw_below_drewN | apply below_drew1) | exact HB.out)))); (case aL => have := LMc8.out; omega); intro v740 w9 ho hb hg hat; rw [← Ny739.out] at ho; have n0_ := Aside0.mk (hb); have n1_ := Aside0.mk (ho); clear HB; clear HO_6; have HB := n0_; have HO741 := n1_; clear n0_ n1_; clear ho hb hg hat))
       go_roundg k2
       case measure => have := HJ2.out; have := HK2.out; omega
       case rel => exact ⟨(y739), ((IntKind.u64.wrap ((IntKind.u64.wrap (t737 + t738)) + x7_2)) / 4294967296), (wrap64 (x8_2 + 1)), (by first | rfl | (simp; done) | (simp [*]; done)), (by first | rfl | (simp; done) | (simp [*]; done)), H', ⟨by have := HJ2.out; have := HK2.out; omega⟩, ⟨by (with_reducible repeat (first | apply Kd.R_alloc | apply Kd.R_drewN | apply Kd.R_drew)); exact HO741.out⟩, ⟨by repeat (first | (with_reducible first | exact HB.out | apply below_alloc | apply pw_below_drewN | apply below_drew1) | exact HB.out)⟩⟩
      ·rw [if_neg c8] at H
       exact absurd H (by simp)
     ·rw [if_neg c5] at H
      have c5b0 : decide (x8_2 ≤ x5_2) = false := decide_eq_false c5
      clear c5
      replace H := Option.bind_eq_some_iff.mp H
      obtain ⟨t742, A100, H⟩ := H
      replace H : (some t742) = some r := H
      have A10 := Aside0.mk A100
      clear A100
      obtain rfl := Option.some.inj H
      obtain ⟨Ao11, co11, eo11⟩ := Kd.R_slice HO_6.out
      subst eo11
      go_wp2_with (first | ((with_reducible refine gate_callee (f := 88) rfl ?_); refine goesL_ (some 40) rfl rfl Try.func88 (by kernel_rfl) rfl #[.slice Ao11 x6_2.length co11] rfl (by (try simp only [List.map_toArray, List.map_cons, List.map_nil]); first | done | rfl | (simp only [List.length_drop, List.length_take]; rfl)) ?_; (with_reducible refine (spec_l1Trim.calls _ _ x6_2 t742 _ ?side1 ?side2 A10.out).mono ?_); (case side1 => repeat (first | exact (Kd.R_reads' HO_6.out).2.2 | (with_reducible refine Kd.C_alloc ?_ _) | (with_reducible refine Kd.C_drewN ?_ _) | (with_reducible refine Kd.C_drew ?_))); (case side2 => exact (Kd.R_reads' HO_6.out).2.1); rintro e w12 ⟨v743, rfl, ho0, hb⟩; refine ⟨_, rfl, ?_⟩; have n0_ := Aside0.mk (Kd.R_elder' (by (with_reducible repeat (first | apply Kd.R_alloc | apply Kd.R_drewN | apply Kd.R_drew)); exact HO_6.out) (Kd.R_base ho0) hb); have n1_ := Aside0.mk (Kd.R_lower (Kd.R_new' ho0 (Kd.R_lt (by (with_reducible repeat (first | apply Kd.R_alloc | apply Kd.R_drewN | apply Kd.R_drew)); exact HO_6.out))) (below_size (by repeat (first | (with_reducible first | exact HB.out | apply below_alloc | apply pw_below_drewN | apply below_drew1) | exact HB.out)))); have n2_ := Aside0.mk (below_step (by repeat (first | (with_reducible first | exact HB.out | apply below_alloc | apply pw_below_drewN | apply below_drew1) | exact HB.out)) hb); clear HO_6; clear HB; have HO_6 := n0_; have HO744 := n1_; have HB := n2_; clear n0_ n1_ n2_; (try clear hb); (try clear hb2); (try clear hk); (try clear hi); (try clear ho0)))
      go_ret
      exact ⟨_, by first | rfl | (simp [errW_none, errW_some] <;> rfl) | (simp [*, errW_none, errW_some] <;> rfl), by (with_reducible repeat (first | apply Kd.R_alloc | apply Kd.R_drewN | apply Kd.R_drew)); exact Kd.R_mono HO744.out (fun _ hk => trivial), by repeat (first | (with_reducible first | exact HB.out | apply below_alloc | apply pw_below_drewN | apply below_drew1) | exact HB.out)⟩
end Go.Proofs.Ytcbmdpecnmbhjaa.PA
end
