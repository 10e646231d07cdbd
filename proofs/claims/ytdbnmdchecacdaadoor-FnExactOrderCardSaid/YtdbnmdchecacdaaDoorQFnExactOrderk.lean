import Derived.Test.YtdbnmdchecacdaaDoorQFnExactOrderj
section
namespace Go.Proofs.YtdbnmdchecacdaaDoor.M
open Go.RowKit Go.Proofs.YtdbnmdchecacdaaDoor.G Go.Proofs.YtdbnmdchecacdaaDoorV.PrintWords Go.Proofs.YtdbnmdchecacdaaDoorV.PrintLast Go.Proofs.YtdbnmdchecacdaaDoorV.PrintMore Go.Proofs.YtdbnmdchecacdaaDoor.PP
set_option linter.unusedVariables false
set_option linter.unusedSimpArgs false
theorem or_nn (a b : Nat) (ha : a < 18446744073709551616) (hb : b < 18446744073709551616) : Go.bits .or .u64 (a : Int) (b : Int) = ((a ||| b : Nat) : Int) :=
  (bits_nat .u64 64 (by decide) wraps_u64 a b ha hb).2
theorem andNot_nn (a b : Nat) (ha : a < 18446744073709551616) (hb : b < 18446744073709551616) : Go.bits .andNot .u64 (a : Int) (b : Int) = (((BitVec.ofNat 64 a &&& ~~~ BitVec.ofNat 64 b).toNat : Nat) : Int) := by
  have h : ∀ x : BitVec 64, IntKind.u64.wrap (x.toNat : Int) = (x.toNat : Int) := fun x => wrap_u64_id (by have := x.isLt; omega)
  exact h _
theorem andNot_high (a m : Nat) (ha : a < 18446744073709551616) (hm : m ≤ 64) : Go.bits .andNot .u64 (a : Int) ((a / 2 ^ m * 2 ^ m : Nat) : Int) = ((a % 2 ^ m : Nat) : Int) := by
  have hle : a / 2 ^ m * 2 ^ m ≤ a := Nat.div_mul_le_self _ _
  rw [andNot_nn _ _ ha (by omega)]
  congr 1
  have hmod : a % 2 ^ m < 2 ^ 64 := Nat.lt_of_le_of_lt (Nat.mod_le _ _) ha
  have : (BitVec.ofNat 64 a &&& ~~~ BitVec.ofNat 64 (a / 2 ^ m * 2 ^ m)) = BitVec.ofNat 64 (a % 2 ^ m) := by
    apply BitVec.eq_of_getLsbD_eq
    intro i hi
    simp only [BitVec.getLsbD_and, BitVec.getLsbD_not, BitVec.getLsbD_ofNat, hi, decide_true, Bool.true_and, Nat.testBit_mul_two_pow, Nat.testBit_div_two_pow, Nat.testBit_mod_two_pow]
    by_cases h : m ≤ i
    · have h2 : ¬ i < m := by omega
      have e : m + (i - m) = i := by omega
      have e' : i - m + m = i := by omega
      simp [h, h2, e, e']
    · have h2 : i < m := by omega
      simp [h, h2]
  rw [this, BitVec.toNat_ofNat, Nat.mod_eq_of_lt hmod]
theorem andNot_self (a : Nat) (ha : a < 18446744073709551616) : Go.bits .andNot .u64 (a : Int) (a : Int) = 0 := by
  have h := andNot_high a 0 ha (by decide)
  rw [Nat.pow_zero, Nat.div_one, Nat.mul_one, Nat.mod_one] at h
  exact h
theorem andNot_zero (a : Nat) (ha : a < 18446744073709551616) : Go.bits .andNot .u64 (a : Int) ((0 : Nat) : Int) = (a : Int) := by
  have h := andNot_high a 64 ha (by decide)
  rw [Nat.div_eq_of_lt (show a < 2 ^ 64 from ha), Nat.zero_mul, Nat.mod_eq_of_lt (show a < 2 ^ 64 from ha)] at h
  exact h
theorem or_zero (a : Nat) (ha : a < 18446744073709551616) : Go.bits .or .u64 (a : Int) 0 = (a : Int) := by
  have h := or_nn a 0 ha (by decide)
  rw [Nat.or_zero] at h
  exact h
theorem high_cells (w n : Nat) : (n < 64 → w / 2 ^ n * 2 ^ n / 18446744073709551616 = w / 18446744073709551616 ∧ w / 2 ^ n * 2 ^ n % 18446744073709551616 = w % 18446744073709551616 / 2 ^ n * 2 ^ n ∧ w % 2 ^ n / 18446744073709551616 = 0 ∧ w % 2 ^ n % 18446744073709551616 = w % 18446744073709551616 % 2 ^ n) ∧
    (64 ≤ n → w / 2 ^ n * 2 ^ n / 18446744073709551616 = w / 18446744073709551616 / 2 ^ (n - 64) * 2 ^ (n - 64) ∧ w / 2 ^ n * 2 ^ n % 18446744073709551616 = 0 ∧ w % 2 ^ n / 18446744073709551616 = w / 18446744073709551616 % 2 ^ (n - 64) ∧ w % 2 ^ n % 18446744073709551616 = w % 18446744073709551616) := by
  constructor
  · intro hn
    have hp : 0 < 2 ^ n := Nat.pow_pos (by decide)
    have e64 : (18446744073709551616 : Nat) = 2 ^ n * 2 ^ (64 - n) := by rw [← Nat.pow_add, show n + (64 - n) = 64 by omega]
    have hlt : 2 ^ n < 18446744073709551616 := by rw [pow64]; exact Nat.pow_lt_pow_right (by decide) hn
    have h1 := Nat.div_add_mod w (2 ^ n)
    have h2 := Nat.mod_lt w hp
    have hdm := Nat.div_add_mod w 18446744073709551616
    have hm : w % 18446744073709551616 % 2 ^ n = w % 2 ^ n := by rw [e64, Nat.mod_mul_right_mod]
    have hd := Nat.div_add_mod (w % 18446744073709551616) (2 ^ n)
    rw [hm] at hd
    have e1 : w / 2 ^ n * 2 ^ n = 18446744073709551616 * (w / 18446744073709551616) + w % 18446744073709551616 / 2 ^ n * 2 ^ n := by
      rw [Nat.mul_comm (w / 2 ^ n), Nat.mul_comm (w % 18446744073709551616 / 2 ^ n)]
      omega
    have hL : w % 18446744073709551616 / 2 ^ n * 2 ^ n < 18446744073709551616 := Nat.lt_of_le_of_lt (Nat.div_mul_le_self _ _) (Nat.mod_lt _ (by decide))
    refine ⟨?_, ?_, Nat.div_eq_of_lt (by omega), ?_⟩
    · rw [e1, Nat.mul_add_div (by decide), Nat.div_eq_of_lt hL, Nat.add_zero]
    · rw [e1, Nat.mul_add_mod, Nat.mod_eq_of_lt hL]
    · rw [hm, Nat.mod_eq_of_lt (by omega)]
  · intro hn
    have e : 2 ^ n = 18446744073709551616 * 2 ^ (n - 64) := by rw [pow64, ← Nat.pow_add, show 64 + (n - 64) = n by omega]
    have e1 : w / 2 ^ n * 2 ^ n = 18446744073709551616 * (w / 18446744073709551616 / 2 ^ (n - 64) * 2 ^ (n - 64)) := by
      rw [e, ← Nat.div_div_eq_div_mul, Nat.mul_left_comm]
    refine ⟨?_, ?_, ?_, ?_⟩
    · rw [e1, Nat.mul_div_cancel_left _ (by decide)]
    · rw [e1, Nat.mul_mod_right]
    · rw [e, Nat.mod_mul_right_div_self]
    · rw [e, Nat.mod_mul_right_mod]
theorem low_eq (w n : Nat) (hw : w < B128) (hn : n < 128) : impl_Word_low.f (hiI w) (loI w) (n : Int) = some (hiI (w % 2 ^ n), loI (w % 2 ^ n)) := by
  have hh := hi_lt hw
  have hq : w / 2 ^ n < B128 := Nat.lt_of_le_of_lt (Nat.div_le_self _ _) hw
  have hv : w / 2 ^ n * 2 ^ n < B128 := Nat.lt_of_le_of_lt (Nat.div_mul_le_self _ _) hw
  have c0 : ¬ (n : Int) ≥ 128 := by omega
  have o1 : impl_Word_or.f (hiI w) (loI w) 0 0 = some (hiI w, loI w) := by
    unfold impl_Word_or.f hiI loI
    rw [or_zero _ hh, or_zero _ (lo_lt w)]
  unfold impl_Word_low.f
  rw [if_neg c0, o1, Option.bind_some, right_eq w n hw (by omega), Option.bind_some]
  dsimp only
  rw [left_eq _ n hq hn, Option.bind_some, Nat.mod_eq_of_lt hv]
  dsimp only
  unfold impl_Word_without.f
  rw [Option.bind_some]
  obtain ⟨k1, k2⟩ := high_cells w n
  unfold hiI loI
  by_cases h : n < 64
  · obtain ⟨a1, a2, a3, a4⟩ := k1 h
    rw [a1, a2, a3, a4, andNot_self _ hh, andNot_high _ n (lo_lt w) (by omega)]
    rfl
  · obtain ⟨a1, a2, a3, a4⟩ := k2 (by omega)
    rw [a1, a2, a3, a4, andNot_high _ (n - 64) hh (by omega), andNot_zero _ (lo_lt w)]
theorem one_eq (n : Nat) (hn : n < 128) : impl_one.f (n : Int) = some (hiI (2 ^ n), loI (2 ^ n)) := by
  unfold impl_one.f
  by_cases h : 64 ≤ n
  · have c1 : (n : Int) ≥ 64 := by omega
    have e : 2 ^ n = 18446744073709551616 * 2 ^ (n - 64) := by rw [pow64, ← Nat.pow_add, show 64 + (n - 64) = n by omega]
    have hl : 2 ^ (n - 64) < 18446744073709551616 := by rw [pow64]; exact Nat.pow_lt_pow_right (by decide) (by omega)
    have hs := shl_nat 1 (n - 64) (by omega)
    rw [Nat.one_mul, Nat.mod_eq_of_lt hl] at hs
    rw [if_pos c1, wsubA64 n h (by omega), if_pos (Int.natCast_nonneg _), e]
    unfold hiI loI
    rw [Nat.mul_div_cancel_left _ (by decide), Nat.mul_mod_right, show (1 : Int) = ((1 : Nat) : Int) from rfl, hs]
    rfl
  · have c1 : ¬ (n : Int) ≥ 64 := by omega
    have hl : 2 ^ n < 18446744073709551616 := by rw [pow64]; exact Nat.pow_lt_pow_right (by decide) (by omega)
    have hs := shl_nat 1 n (by omega)
    rw [Nat.one_mul, Nat.mod_eq_of_lt hl] at hs
    rw [if_neg c1, if_pos (Int.natCast_nonneg _)]
    unfold hiI loI
    rw [Nat.div_eq_of_lt hl, Nat.mod_eq_of_lt hl, show (1 : Int) = ((1 : Nat) : Int) from rfl, hs]
    rfl
theorem or_top (r p : Nat) (hr : r < 2 ^ p) (b : Bool) : ((if b = true then r + 2 ^ p else r) ||| 2 ^ p) = r + 2 ^ p := by
  have h1 : r + 2 ^ p = 2 ^ p ||| r := by
    have := Nat.two_pow_add_eq_or_of_lt hr 1
    rw [Nat.mul_one] at this
    omega
  cases b with
  | true =>
    rw [if_pos rfl, h1, Nat.or_assoc, Nat.or_comm r, ← Nat.or_assoc, Nat.or_self]
  | false =>
    rw [if_neg (by decide), h1, Nat.or_comm]
theorem or_eq (r p : Nat) (hp : p < 127) (hr : r < 2 ^ p) (b : Bool) : impl_Word_or.f (hiI (if b = true then r + 2 ^ p else r)) (loI (if b = true then r + 2 ^ p else r)) (hiI (2 ^ p)) (loI (2 ^ p)) = some (hiI (r + 2 ^ p), loI (r + 2 ^ p)) := by
  have hpow : 2 ^ p < 2 ^ 127 := Nat.pow_lt_pow_right (by decide) hp
  have h127 : (2 : Nat) ^ 127 + 2 ^ 127 = B128 := by decide
  obtain ⟨x, hx⟩ : ∃ x, x = (if b = true then r + 2 ^ p else r) := ⟨_, rfl⟩
  have hxb : x < B128 := by
    rw [hx]
    split <;> omega
  have ht := or_top r p hr b
  rw [← hx] at ht ⊢
  have hb2 : 2 ^ p < B128 := by omega
  unfold impl_Word_or.f hiI loI
  rw [or_nn _ _ (hi_lt hxb) (hi_lt hb2), or_nn _ _ (lo_lt _) (lo_lt _)]
  have d : ∀ y z : Nat, y / 18446744073709551616 ||| z / 18446744073709551616 = (y ||| z) / 18446744073709551616 := fun y z => by
    rw [pow64]; exact (Nat.or_div_two_pow).symm
  have m : ∀ y z : Nat, y % 18446744073709551616 ||| z % 18446744073709551616 = (y ||| z) % 18446744073709551616 := fun y z => by
    rw [pow64]; exact (Nat.or_mod_two_pow).symm
  rw [d, m, ht]
end Go.Proofs.YtdbnmdchecacdaaDoor.M
end
section
namespace Go.Proofs.YtdbnmdchecacdaaDoor.M
open Go.RowKit Go.Proofs.YtdbnmdchecacdaaDoor.G Go.Proofs.YtdbnmdchecacdaaDoorV.PrintWords Go.Proofs.YtdbnmdchecacdaaDoorV.PrintLast Go.Proofs.YtdbnmdchecacdaaDoorV.PrintMore Go.Proofs.YtdbnmdchecacdaaDoor.PP
set_option linter.unusedVariables false
set_option linter.unusedSimpArgs false
def Clear (l : List Int) (n : Nat) : Prop := ∀ m : Nat, n ≤ m → rd l (m : Int) = 0
theorem Clear.set {l : List Int} {n p : Nat} {x : Int} (h : Clear l n) (hp : p < n) : Clear (l.set p x) n := fun m hm => by rw [rd_set_ne _ _ _ _ (by omega)]; exact h m hm
theorem Clear.zeros (n m : Nat) : Clear (List.replicate n 0) m := fun k hk => by
  rw [rd_nat, List.getD_eq_getElem?_getD, List.getElem?_replicate]
  split <;> rfl
end Go.Proofs.YtdbnmdchecacdaaDoor.M
end
section
namespace Go.Proofs.YtdbnmdchecacdaaDoor.M
open Go.RowKit Go.Proofs.YtdbnmdchecacdaaDoor.G Go.Proofs.YtdbnmdchecacdaaDoorV.PrintWords Go.Proofs.YtdbnmdchecacdaaDoorV.PrintLast Go.Proofs.YtdbnmdchecacdaaDoorV.PrintMore Go.Proofs.YtdbnmdchecacdaaDoor.PP
set_option linter.unusedVariables false
set_option linter.unusedSimpArgs false
def IsBits (v n : Nat) : Prop := v < 2 ^ n ∧ (n = 0 ∨ 2 ^ (n - 1) ≤ v)
instance (v n : Nat) : Decidable (IsBits v n) := by unfold IsBits; infer_instance
theorem IsBits.zero : IsBits 0 0 := ⟨by decide, Or.inl rfl⟩
theorem IsBits.pos {v n : Nat} (h : IsBits v n) (hv : 0 < v) : 0 < n := by
  rcases Nat.eq_zero_or_pos n with h2 | h2
  · subst h2
    have := h.1
    simp at this
    omega
  · exact h2
theorem IsBits.up {v m s : Nat} (h : IsBits (v / 2 ^ s) m) (hv : 0 < v / 2 ^ s) : IsBits v (s + m) := by
  have hp : 0 < 2 ^ s := Nat.pow_pos (by omega)
  have hm := h.pos hv
  refine ⟨?_, Or.inr ?_⟩
  · rw [Nat.pow_add, Nat.mul_comm]
    exact (Nat.div_lt_iff_lt_mul hp).1 h.1
  · rcases h.2 with h2 | h2
    · omega
    · rw [show s + m - 1 = s + (m - 1) by omega, Nat.pow_add, Nat.mul_comm]
      exact (Nat.le_div_iff_mul_le hp).1 h2
theorem IsBits.le {v n w : Nat} (h : IsBits v n) (hv : v < 2 ^ w) : n ≤ w := by
  rcases h.2 with h2 | h2
  · omega
  · rcases Nat.lt_or_ge w n with h3 | h3
    · have := Nat.pow_le_pow_right (n := 2) (by omega) (show w ≤ n - 1 by omega)
      omega
    · exact h3
theorem sbits_loop (m : Nat) : ∀ (u n : Nat), IsBits u m → n + m ≤ 4611686018427387904 → Ev (fun k => spec_l1Bits.l0 k (n : Int) (u : Int)) ((n + m : Nat) : Int) := by
  induction m with
  | zero =>
    intro u n h hb
    have := h.1
    refine Ev.step (f := fun _ => some ((n + 0 : Nat) : Int)) (fun k => ?_) (Ev.now _)
    simp only [spec_l1Bits.l0]
    rw [if_neg (by omega)]
    rfl
  | succ m ih =>
    intro u n h hb
    have hu : 2 ^ m ≤ u := by
      rcases h.2 with h2 | h2
      · omega
      · simpa using h2
    have hp : 0 < 2 ^ m := Nat.pow_pos (by omega)
    have h1 := h.1
    rw [Nat.pow_succ] at h1
    have hh : IsBits (u / 2) m := by
      refine ⟨by omega, ?_⟩
      rcases Nat.eq_zero_or_pos m with h3 | h3
      · exact Or.inl h3
      · right
        rw [show m = (m - 1) + 1 by omega, Nat.pow_succ] at hu
        omega
    refine Ev.step (fun k => ?_) (ev_to (ih (u / 2) (n + 1) hh (by omega)) (by congr 1; omega))
    simp only [spec_l1Bits.l0]
    rw [if_pos (by omega), wrap64_id (by omega)]
    rfl
def ofW (v : Nat) : List Int := trimL [((v % 4294967296 : Nat) : Int), ((v / 4294967296 : Nat) : Int)]
theorem ofW_eq (v : Nat) (hv : v < 18446744073709551616) : spec_l1Of.f (v : Int) = some (ofW v) := by
  unfold spec_l1Of.f
  rw [trim_eq _ (by simp), Option.bind_some, and_low32 _ (by omega) (by omega)]
  rfl
theorem ofW_dig (v : Nat) (hv : v < 18446744073709551616) : Dig B32 (ofW v) := by
  unfold ofW
  exact (Dig.cons (by unfold B32; omega) (Dig.cons (by unfold B32; omega) (Dig.nil _))).trim
theorem ofW_val (v : Nat) : val B32 (ofW v) = v := by
  unfold ofW
  rw [val_trim]
  simp only [val_cons, val_nil]
  unfold B32
  omega
theorem ofW_length (v : Nat) : (ofW v).length ≤ 2 := by
  unfold ofW
  have := trimL_length [((v % 4294967296 : Nat) : Int), ((v / 4294967296 : Nat) : Int)]
  simpa using this
end Go.Proofs.YtdbnmdchecacdaaDoor.M
end
section
namespace Go.Proofs.YtdbnmdchecacdaaDoor.M
open Go.RowKit Go.Proofs.YtdbnmdchecacdaaDoor.G Go.Proofs.YtdbnmdchecacdaaDoorV.PrintWords Go.Proofs.YtdbnmdchecacdaaDoorV.PrintLast Go.Proofs.YtdbnmdchecacdaaDoorV.PrintMore Go.Proofs.YtdbnmdchecacdaaDoor.PP
set_option linter.unusedVariables false
set_option linter.unusedSimpArgs false
theorem bits_of (v : Nat) (hv : v < 18446744073709551616) : ∃ m : Nat, IsBits v m ∧ m ≤ 64 := by
  by_cases h0 : v = 0
  · subst h0
    exact ⟨0, IsBits.zero, by decide⟩
  · have h1 : v < 2 ^ (v.log2 + 1) := Nat.lt_log2_self
    have h2 : 2 ^ v.log2 ≤ v := Nat.log2_self_le h0
    have h : IsBits v (v.log2 + 1) := ⟨h1, .inr (by rw [Nat.add_sub_cancel]; exact h2)⟩
    exact ⟨v.log2 + 1, h, h.le (w := 64) hv⟩
theorem sbits_gen (a : List Int) (ha : Dig B32 a) (na : Norm a) (la : a.length ≤ 1073741824) :
    ∃ m : Nat, Ev (fun k => spec_l1Bits.f k a) (m : Int) ∧ IsBits (val B32 a) m ∧ m ≤ 32 * a.length := by
  unfold spec_l1Bits.f
  rcases Nat.eq_zero_or_pos a.length with h | h
  · obtain rfl := List.eq_nil_of_length_eq_zero h
    exact ⟨0, Ev.congr (fun k => by simp) (Ev.now _), IsBits.zero, by simp⟩
  · obtain ⟨b, x, rfl⟩ := snoc_of h
    have hx := norm_snoc.1 na
    have hx0 := ha x (by simp)
    have hb : Dig B32 b := fun y hy => ha y (by simp [hy])
    have hl : (b ++ [x]).length = b.length + 1 := by simp
    rw [hl] at la
    obtain ⟨m, hm, hm64⟩ := bits_of x.toNat (by unfold B32 at hx0; omega)
    have hm32 : m ≤ 32 := hm.le (by unfold B32 at hx0; omega)
    have hv : val B32 (b ++ [x]) / 2 ^ (32 * b.length) = x.toNat := by
      rw [val_snoc, Nat.pow_mul, ← B32_pow, Nat.add_mul_div_left _ _ (Nat.pow_pos B32_pos), Nat.div_eq_of_lt (val_lt hb), Nat.zero_add]
    refine ⟨32 * b.length + m, ?_, IsBits.up (s := 32 * b.length) (by rw [hv]; exact hm) (by rw [hv]; omega), by rw [hl]; omega⟩
    have hr : rd (b ++ [x]) ((b.length : Nat) : Int) = ((x.toNat : Nat) : Int) := by
      rw [rd_nat]; simp; omega
    have w1 : wrap64 (((b ++ [x]).length : Int) - 1) = ((b.length : Nat) : Int) := by rw [hl, wrap64_id (by omega)]; omega
    have w2 : wrap64 (32 * ((b.length : Nat) : Int)) = ((32 * b.length : Nat) : Int) := by rw [wrap64_id (by omega)]; omega
    have g1 : ¬ ((b ++ [x]).length : Int) = 0 := by omega
    have g2 : ((b.length : Nat) : Int) < ((b ++ [x]).length : Int) := by omega
    refine Ev.congr (fun k => ?_) (sbits_loop m x.toNat (32 * b.length) hm (by omega))
    rw [if_neg g1, w1, w2, if_pos (Int.natCast_nonneg _), if_pos g2, hr]
theorem wtdiv32 (i : Nat) (h : i ≤ 9223372036854775807) : wrap64 (Int.tdiv (i : Int) 32) = ((i / 32 : Nat) : Int) := by
  have h1 := wtdiv i 32 h
  rw [show ((32 : Nat) : Int) = 32 from rfl] at h1
  exact h1
theorem wtmod32 (i : Nat) (h : i ≤ 9223372036854775807) : IntKind.u64.wrap (Int.tmod (i : Int) 32) = ((i % 32 : Nat) : Int) := by
  have h1 := wtmod i 32 h
  rw [show ((32 : Nat) : Int) = 32 from rfl] at h1
  exact h1
end Go.Proofs.YtdbnmdchecacdaaDoor.M
end
section
namespace Go.Proofs.YtdbnmdchecacdaaDoor.M
open Go.RowKit Go.Proofs.YtdbnmdchecacdaaDoor.G Go.Proofs.YtdbnmdchecacdaaDoorV.PrintWords Go.Proofs.YtdbnmdchecacdaaDoorV.PrintLast Go.Proofs.YtdbnmdchecacdaaDoorV.PrintMore Go.Proofs.YtdbnmdchecacdaaDoor.PP
set_option linter.unusedVariables false
set_option linter.unusedSimpArgs false
theorem rd_val {B : Nat} (hB : 0 < B) {a : List Int} (ha : Dig B a) (p : Nat) : (rd a (p : Int)).toNat = val B a / B ^ p % B := by
  rw [← val_drop B hB ha p, val_mod B B (Nat.dvd_refl _)]
  have h : rd (a.drop p) 0 = rd a (p : Int) := by
    show rd (a.drop p) ((0 : Nat) : Int) = rd a (p : Int)
    rw [rd_nat, rd_nat]
    simp [List.getD_eq_getElem?_getD]
  rw [h]
  have := ha.rd hB (p : Int)
  rw [Nat.mod_eq_of_lt (by omega)]
theorem bit_of (v i : Nat) : v / B32 ^ (i / 32) % B32 / 2 ^ (i % 32) % 2 = v / 2 ^ i % 2 := by
  have e1 : B32 ^ (i / 32) * 2 ^ (i % 32) = 2 ^ i := by rw [B32_pow, ← Nat.pow_mul, ← Nat.pow_add]; congr 1; omega
  rw [← e1, ← Nat.div_div_eq_div_mul]
  generalize v / B32 ^ (i / 32) = u
  have hs : i % 32 < 32 := Nat.mod_lt _ (by decide)
  generalize i % 32 = s at *
  have e2 : B32 = 2 ^ s * (2 * 2 ^ (31 - s)) := by
    rw [B32_pow, ← Nat.mul_assoc, ← Nat.pow_succ, ← Nat.pow_add]; congr 1; omega
  rw [e2, Nat.mod_mul_right_div_self, Nat.mod_mul_right_mod]
theorem and1 (x : Nat) (h : x < 18446744073709551616) : bits .and .u64 (x : Int) 1 = ((x % 2 : Nat) : Int) := by
  have := and_mask 1 (by decide) (x : Int) (by omega) (by omega)
  simpa using this
theorem l1Bit_eq (a : List Int) (ha : Dig B32 a) (i : Nat) (hi : i ≤ 100000) : spec_l1Bit.f a (i : Int) = some ((val B32 a / 2 ^ i % 2 : Nat) : Int) := by
  have hr := ha.rd B32_pos ((i / 32 : Nat) : Int)
  have hv := rd_val B32_pos ha (i / 32)
  have hb := bit_of (val B32 a) i
  have h32 : B32 = 4294967296 := rfl
  have e1 : rd a ((i / 32 : Nat) : Int) = ((val B32 a / B32 ^ (i / 32) % B32 : Nat) : Int) := by rw [← hv]; omega
  have hx : val B32 a / B32 ^ (i / 32) % B32 < 18446744073709551616 := Nat.lt_trans (Nat.mod_lt _ B32_pos) (by decide)
  have hx2 : val B32 a / B32 ^ (i / 32) % B32 / 2 ^ (i % 32) < 18446744073709551616 := Nat.lt_of_le_of_lt (Nat.div_le_self _ _) hx
  have b1 : i ≤ 9223372036854775807 := by omega
  have b2 : i % 32 ≤ 64 := by omega
  unfold spec_l1Bit.f
  rw [wtdiv32 i b1, wtmod32 i b1, at_eq _ _ (Int.natCast_nonneg _), Option.bind_some, if_pos (Int.natCast_nonneg _), e1, shr_nat _ _ b2, and1 _ hx2, hb]
theorem l2Low_ev (a : List Int) (ha : Dig B32 a) (la : a.length ≤ 100000) (n : Nat) (hn : n ≤ 100000) :
    ∃ r, Ev (fun k => spec_l2Low.f k a (n : Int)) r ∧ Dig B32 r ∧ Norm r ∧ val B32 r = val B32 a % 2 ^ n ∧ r.length ≤ a.length := by
  obtain ⟨s, hs, ds, ns, vs, ls⟩ := sright_ev a ha (by omega) n (by omega)
  obtain ⟨t, ht, dt, nt, vt, lt⟩ := sleft_ev s ds (by omega) n (by omega)
  have hle : val B32 t ≤ val B32 a := by rw [vt, vs]; exact Nat.div_mul_le_self _ _
  obtain ⟨r, hr, dr, nr, vr, lr⟩ := ssub_ev a t ha dt (by omega) hle
  refine ⟨r, ?_, dr, nr, ?_, lr⟩
  · unfold spec_l2Low.f
    exact Ev.bind hs (Ev.bind ht (Ev.bind hr (Ev.now _)))
  · rw [vr, vt, vs]
    have := Nat.div_add_mod (val B32 a) (2 ^ n)
    rw [Nat.mul_comm] at this
    omega
theorem l2Two_ev (n : Nat) (hn : n ≤ 100000) : ∃ r, Ev (fun k => spec_l2Two.f k (n : Int)) r ∧ Dig B32 r ∧ Norm r ∧ val B32 r = 2 ^ n ∧ r.length ≤ 1000003 := by
  have o1 := ofW_eq 1 (by decide)
  have l1 := ofW_length 1
  obtain ⟨t, ht, dt, nt, vt, lt⟩ := sleft_ev (ofW 1) (ofW_dig 1 (by decide)) (by omega) n (by omega)
  refine ⟨t, ?_, dt, nt, by rw [vt, ofW_val, Nat.one_mul], by omega⟩
  unfold spec_l2Two.f
  exact ev_bindc o1 (Ev.bind ht (Ev.now _))
theorem two_digits (l : List Int) (hl : Dig B64 l) (h2 : l.length ≤ 2) : rd (l ++ [0, 0]) 0 = loI (val B64 l) ∧ rd (l ++ [0, 0]) 1 = hiI (val B64 l) ∧ 2 ≤ (l ++ [0, 0]).length := by
  have hB : B64 = 18446744073709551616 := rfl
  match l, hl, h2 with
  | [], _, _ => exact ⟨rfl, rfl, by simp⟩
  | [x], hl, _ =>
    have hx := hl x (by simp)
    refine ⟨?_, ?_, by simp⟩
    · show x = loI (val B64 [x])
      rw [val_one]
      unfold loI
      omega
    · show (0 : Int) = hiI (val B64 [x])
      rw [val_one]
      unfold hiI
      omega
  | [x, y], hl, _ =>
    have hx := hl x (by simp)
    have hy := hl y (by simp)
    refine ⟨?_, ?_, by simp⟩
    · show x = loI (val B64 [x, y])
      rw [val_cons, val_one, hB]
      unfold B64 at hx hy
      unfold loI
      omega
    · show y = hiI (val B64 [x, y])
      rw [val_cons, val_one, hB]
      unfold B64 at hx hy
      unfold hiI
      omega
  | x :: y :: z :: l, _, h2 => simp at h2
theorem l2Word_ev (a : List Int) (ha : Dig B32 a) (na : Norm a) (la : a.length ≤ 2000000) (hv : val B32 a < B128) : Ev (fun k => spec_l2Word.f k a) (hiI (val B32 a), loI (val B32 a)) := by
  have ho := out_ev a ha (by omega)
  have hN := IsNat.out ha na rfl
  have hB : B128 = B64 ^ 2 := by unfold B64; rfl
  have hlen : (outL a).length ≤ 2 := by
    rcases Nat.lt_or_ge 2 (outL a).length with h1 | h1
    · have h2 := val_ge hN.1 hN.2.1 (by omega)
      have h3 : B64 ^ 2 ≤ B64 ^ ((outL a).length - 1) := Nat.pow_le_pow_right B64_pos (by omega)
      have := hN.2.2
      rw [hB] at hv
      omega
    · exact h1
  obtain ⟨d1, d2, d3⟩ := two_digits (outL a) hN.1 hlen
  rw [hN.2.2] at d1 d2
  unfold spec_l2Word.f
  refine Ev.bind ho (Ev.congr (fun k => ?_) (Ev.now _))
  have c1 : (outL a).length + ([0, 0] : List Int).length < 17592186044416 := by
    show (outL a).length + 2 < 17592186044416
    omega
  have c2 : (1 : Int) < ((outL a ++ [0, 0]).length : Int) := by omega
  have c3 : (0 : Int) < ((outL a ++ [0, 0]).length : Int) := by omega
  rw [Option.bind_some, if_pos c1, Option.bind_some, if_pos c2, if_pos c3, d1, d2]
theorem l2Of_ev (w : Nat) (hw : w < B128) : ∃ r, Ev (fun k => spec_l2Of.f k (hiI w) (loI w)) r ∧ Dig B32 r ∧ Norm r ∧ val B32 r = w ∧ r.length ≤ 4 := by
  have hh := hi_lt hw
  have hd : Dig B64 [loI w, hiI w] := by
    intro x hx
    simp only [List.mem_cons, List.not_mem_nil, or_false] at hx
    unfold B64
    rcases hx with h | h <;> subst h
    · unfold loI; omega
    · unfold hiI; omega
  have hi := in_ev [loI w, hiI w] hd (show 2 ≤ 1073741824 by decide)
  have hl := inL_length [loI w, hiI w]
  refine ⟨inL [loI w, hiI w], ?_, inL_dig hd, inL_norm _, ?_, hl⟩
  · unfold spec_l2Of.f
    exact Ev.bind hi (Ev.now _)
  · rw [inL_val hd, val_cons, val_one]
    unfold loI hiI B64
    rw [Int.toNat_natCast, Int.toNat_natCast]
    have := Nat.div_add_mod w 18446744073709551616
    omega
theorem isBits_gt {v m W : Nat} (h : IsBits v m) : W < m ↔ 2 ^ W ≤ v := by
  constructor
  · intro hW
    rcases h.2 with h2 | h2
    · omega
    · exact Nat.le_trans (Nat.pow_le_pow_right (by decide) (by omega)) h2
  · intro hv
    rcases Nat.lt_or_ge W m with h2 | h2
    · exact h2
    · have := Nat.pow_le_pow_right (n := 2) (by decide) h2
      have := h.1
      omega
end Go.Proofs.YtdbnmdchecacdaaDoor.M
end
section
namespace Go.Proofs.YtdbnmdchecacdaaDoor.M
open Go.RowKit Go.Proofs.YtdbnmdchecacdaaDoor.G Go.Proofs.YtdbnmdchecacdaaDoorV.PrintWords Go.Proofs.YtdbnmdchecacdaaDoorV.PrintLast Go.Proofs.YtdbnmdchecacdaaDoorV.PrintMore Go.Proofs.YtdbnmdchecacdaaDoor.PP
set_option linter.unusedVariables false
set_option linter.unusedSimpArgs false
abbrev Prt : Type := Int × Bool × Int × Int × Int
def badP : Prt := (0, false, 0, 0, 0)
def partsOf (P : Nat) (emin emax : Int) (E : Nat) (e : Nat) (neg : Bool) (rest : Nat) : Prt :=
  if e = 2 ^ E - 1 then (if rest = 0 then (4, neg, 0, 0, 0) else (5, false, 0, 0, 0))
  else if e = 0 then (if rest = 0 then (1, neg, 0, 0, 0) else (2, neg, hiI rest, loI rest, emin - P + 1))
  else (3, neg, hiI (rest + 2 ^ (P - 1)), loI (rest + 2 ^ (P - 1)), e - emax - P + 1)
def fracN (P : Nat) (ex : Bool) : Nat := if ex = true then P else P - 1
def unpN (P : Nat) (emin emax : Int) (W E : Nat) (ex : Bool) (w : Nat) : Prt :=
  if 2 ^ W ≤ w then badP
  else if ex = true then
    (if (2 ^ (P - 1) ≤ w % 2 ^ P ↔ w / 2 ^ P % 2 ^ E ≠ 0) then partsOf P emin emax E (w / 2 ^ P % 2 ^ E) (decide (w / 2 ^ (W - 1) % 2 = 1)) (w % 2 ^ P % 2 ^ (P - 1)) else badP)
  else partsOf P emin emax E (w / 2 ^ (P - 1) % 2 ^ E) (decide (w / 2 ^ (W - 1) % 2 = 1)) (w % 2 ^ (P - 1))
structure Fmt (P : Nat) (emin emax : Int) (W E : Nat) (ex : Bool) : Prop where
  p0 : 2 ≤ P
  p1 : P ≤ 113
  e0 : 1 ≤ E
  e1 : E ≤ 15
  w1 : fracN P ex + E + 1 = W
  w2 : W ≤ 128
  m0 : -20000 ≤ emin ∧ emin ≤ 20000
  m1 : -20000 ≤ emax ∧ emax ≤ 20000
theorem wsm (x : Int) (h : -10000000 ≤ x ∧ x ≤ 10000000) : wrap64 x = x := wrap64_id (by omega)
section
variable {P : Nat} {emin emax : Int} {W E : Nat} {ex : Bool}
theorem Fmt.plt (h : Fmt P emin emax W E ex) : 2 ^ E ≤ 32768 := by
  have := Nat.pow_le_pow_right (n := 2) (by decide) h.e1
  exact this
theorem l2_j5 (h : Fmt P emin emax W E ex) (rest : List Int) (dr : Dig B32 rest) (nr : Norm rest) (lr : rest.length ≤ 100) (hr : val B32 rest < 2 ^ P) (e : Nat) (he : e < 2 ^ E) (neg : Bool) (x0 : Int) (x6 x7 x8 x9 : Int) (z : Bool) (hz : z = decide (e = 0 ∧ val B32 rest = 0)) :
    Ev (fun k => spec_Unpack.j5 k (e : Int) rest z (P : Int) emin emax (W : Int) (E : Int) ex x0 neg 0 0 0) (if e = 0 then (if val B32 rest = 0 then (1, neg, 0, 0, 0) else (2, neg, hiI (val B32 rest), loI (val B32 rest), emin - P + 1)) else (3, neg, hiI (val B32 rest + 2 ^ (P - 1)), loI (val B32 rest + 2 ^ (P - 1)), e - emax - P + 1)) := by
  have hp1 := h.p1
  have hp0 := h.p0
  have hE := h.plt
  have m0 := h.m0
  have m1 := h.m1
  have hB : val B32 rest < B128 := Nat.lt_of_lt_of_le hr ((show 2 ^ P ≤ 2 ^ 128 from Nat.pow_le_pow_right (by decide) (by omega)))
  by_cases h0 : e = 0
  · subst h0
    rw [if_pos rfl]
    by_cases h1 : val B32 rest = 0
    · rw [if_pos h1]
      refine Ev.step (f := fun _ => some (1, neg, 0, 0, 0)) (fun k => ?_) (Ev.now _)
      simp only [spec_Unpack.j5]
      rw [hz, decide_eq_true ⟨rfl, h1⟩, if_pos rfl]
    · rw [if_neg h1]
      have hw := l2Word_ev rest dr nr (by omega) hB
      have w1 : wrap64 (wrap64 (emin - (P : Int)) + 1) = emin - (P : Int) + 1 := by rw [wsm (emin - (P : Int)) (by omega), wsm _ (by omega)]
      refine Ev.step (f := fun k => (spec_l2Word.f k rest).bind fun t => some (2, neg, t.1, t.2, wrap64 (wrap64 (emin - (P : Int)) + 1))) (fun k => ?_) (Ev.bind hw (ev_const (by rw [w1])))
      simp only [spec_Unpack.j5]
      rw [hz, decide_eq_false (fun e => h1 e.2), if_neg (by decide), if_pos (by rfl)]
  · rw [if_neg h0]
    obtain ⟨t, ht, dt, nt, vt, lt⟩ := l2Two_ev (P - 1) (by omega)
    obtain ⟨s, hs, ds, ns, vs, ls⟩ := sadd_ev rest t dr dt (by omega) (by omega)
    have hlt : val B32 rest + 2 ^ (P - 1) < B128 := by
      have h2 : 2 ^ P ≤ 2 ^ 127 := Nat.pow_le_pow_right (by decide) (by omega)
      have h3 := Nat.pow_le_pow_right (n := 2) (by decide) (show P - 1 ≤ P by omega)
      have h4 : (2 : Nat) ^ 127 + 2 ^ 127 = B128 := by decide
      omega
    have hw := l2Word_ev s ds ns (by omega) (by rw [vs, vt]; exact hlt)
    rw [vs, vt] at hw
    have b1 : 1 ≤ P := by omega
    have c0 : ¬ (e : Int) = 0 := by omega
    have wq : wrap64 (wrap64 (wrap64 ((e : Int) - emax) - (P : Int)) + 1) = (e : Int) - emax - (P : Int) + 1 := by rw [wsm ((e : Int) - emax) (by omega), wsm ((e : Int) - emax - (P : Int)) (by omega), wsm _ (by omega)]
    have wp : wrap64 ((P : Int) - 1) = ((P - 1 : Nat) : Int) := by rw [wsm _ (by clear wq; omega)]; clear wq; omega
    refine Ev.step (f := fun k => (spec_l2Two.f k (wrap64 ((P : Int) - 1))).bind fun t1 => (spec_l1Add.f k rest t1).bind fun t2 => (spec_l2Word.f k t2).bind fun t3 => some (3, neg, t3.1, t3.2, wrap64 (wrap64 (wrap64 ((e : Int) - emax) - (P : Int)) + 1))) (fun k => ?_) ?_
    · simp only [spec_Unpack.j5]
      rw [hz, decide_eq_false (fun e => h0 e.1), if_neg (by decide), if_neg c0]
    · rw [wp, wq]
      exact Ev.bind ht (Ev.bind hs (Ev.bind hw (Ev.now _)))
theorem len_zero {rest : List Int} (dr : Dig B32 rest) (nr : Norm rest) : ((rest.length : Int) == 0) = decide (val B32 rest = 0) := by
  have h := norm_zero B32_pos dr nr
  by_cases h0 : val B32 rest = 0
  · have := h.2 h0
    subst this
    rw [decide_eq_true h0]; rfl
  · have h1 : ¬ rest = [] := fun e => h0 (h.1 e)
    have h2 : rest.length ≠ 0 := fun e => h1 (List.eq_nil_of_length_eq_zero e)
    rw [decide_eq_false h0, beq_eq_false_iff_ne]
    omega
theorem l2_j3 (h : Fmt P emin emax W E ex) (rest : List Int) (dr : Dig B32 rest) (nr : Norm rest) (lr : rest.length ≤ 100) (hr : val B32 rest < 2 ^ P) (e : Nat) (he : e < 2 ^ E) (neg : Bool) (x0 : Int) :
    Ev (fun k => spec_Unpack.j3 k (e : Int) ((2 ^ E - 1 : Nat) : Int) rest (P : Int) emin emax (W : Int) (E : Int) ex x0 neg 0 0 0) (partsOf P emin emax E e neg (val B32 rest)) := by
  have hz := len_zero dr nr
  have hE0 : 2 ≤ 2 ^ E := by
    have := Nat.pow_le_pow_right (n := 2) (by decide) h.e0
    exact this
  have hj5 := fun z hz => l2_j5 h rest dr nr lr hr e he neg x0 0 0 0 0 z hz
  unfold partsOf
  by_cases h1 : e = 2 ^ E - 1
  · have c1 : (e : Int) = ((2 ^ E - 1 : Nat) : Int) := by rw [h1]
    rw [if_pos h1]
    by_cases h2 : val B32 rest = 0
    · rw [if_pos h2]
      refine Ev.step (f := fun k => spec_Unpack.j4 k (e : Int) ((2 ^ E - 1 : Nat) : Int) rest true (P : Int) emin emax (W : Int) (E : Int) ex x0 neg 0 0 0) (fun k => ?_) (Ev.step (f := fun _ => some (4, neg, 0, 0, 0)) (fun k => ?_) (Ev.now _))
      · simp only [spec_Unpack.j3]
        rw [if_pos c1, hz, decide_eq_true h2]
      · simp only [spec_Unpack.j4]
        rw [if_pos trivial]
    · rw [if_neg h2]
      refine Ev.step (f := fun k => spec_Unpack.j4 k (e : Int) ((2 ^ E - 1 : Nat) : Int) rest false (P : Int) emin emax (W : Int) (E : Int) ex x0 neg 0 0 0) (fun k => ?_) (Ev.step (f := fun _ => some (5, false, 0, 0, 0)) (fun k => ?_) (Ev.now _))
      · simp only [spec_Unpack.j3]
        rw [if_pos c1, hz, decide_eq_false h2]
      · simp only [spec_Unpack.j4]
        rw [if_neg (by decide), if_pos c1]
  · have c1 : ¬ (e : Int) = ((2 ^ E - 1 : Nat) : Int) := by omega
    rw [if_neg h1]
    refine Ev.step (f := fun k => spec_Unpack.j4 k (e : Int) ((2 ^ E - 1 : Nat) : Int) rest false (P : Int) emin emax (W : Int) (E : Int) ex x0 neg 0 0 0) (fun k => ?_) ?_
    · simp only [spec_Unpack.j3]
      rw [if_neg c1]
    · refine Ev.step (f := fun k => spec_Unpack.j5 k (e : Int) rest (decide (e = 0 ∧ val B32 rest = 0)) (P : Int) emin emax (W : Int) (E : Int) ex x0 neg 0 0 0) (fun k => ?_) (hj5 _ rfl)
      simp only [spec_Unpack.j4]
      rw [if_neg (by decide), if_neg c1]
      by_cases h0 : e = 0
      · have c0 : (e : Int) = 0 := by omega
        rw [if_pos c0, hz]
        congr 1
        rw [decide_eq_decide]
        exact ⟨fun a => ⟨h0, a⟩, fun a => a.2⟩
      · have c0 : ¬ (e : Int) = 0 := by omega
        rw [if_neg c0, decide_eq_false (fun a => h0 a.1)]
theorem l2_top (h : Fmt P emin emax W E ex) (FR : List Int) (e : Nat) (neg : Bool) (x0 : Int) (R : Prt) (d : Nat) (hR : Ev (fun k => spec_Unpack.l1 k FR (e : Int) ((2 ^ E : Nat) : Int) (E : Int) (P : Int) emin emax (W : Int) (E : Int) ex x0 neg 0 0 0) R) :
    ∀ i : Nat, i + d = E → Ev (fun k => spec_Unpack.l1 k FR (e : Int) ((2 ^ i : Nat) : Int) (i : Int) (P : Int) emin emax (W : Int) (E : Int) ex x0 neg 0 0 0) R := by
  induction d with
  | zero => intro i hi; obtain rfl : i = E := (by omega); exact hR
  | succ d ih =>
    intro i hi
    refine Ev.step (fun k => ?_) (ih (i + 1) (by omega))
    have hE := h.e1
    have hp := Nat.pow_le_pow_right (n := 2) (by decide) (show i ≤ 15 by omega)
    have hp2 : (2 : Nat) ^ 15 = 32768 := rfl
    have c1 : (i : Int) < (E : Int) := by omega
    have e2 : 2 ^ (i + 1) = 2 ^ i * 2 := Nat.pow_succ 2 i
    rw [e2]
    generalize 2 ^ i = q at *
    have w1 : wrap64 ((q : Int) * 2) = ((q * 2 : Nat) : Int) := by rw [wsm _ (by omega)]; omega
    have w2 : wrap64 ((i : Int) + 1) = ((i + 1 : Nat) : Int) := by rw [wsm _ (by clear w1; omega)]; rfl
    simp only [spec_Unpack.l1]
    rw [if_pos c1, w1, w2]
end
end Go.Proofs.YtdbnmdchecacdaaDoor.M
end
section
namespace Go.Proofs.YtdbnmdchecacdaaDoor.M
open Go.RowKit Go.Proofs.YtdbnmdchecacdaaDoor.G Go.Proofs.YtdbnmdchecacdaaDoorV.PrintWords Go.Proofs.YtdbnmdchecacdaaDoorV.PrintLast Go.Proofs.YtdbnmdchecacdaaDoorV.PrintMore Go.Proofs.YtdbnmdchecacdaaDoor.PP
set_option linter.unusedVariables false
set_option linter.unusedSimpArgs false
theorem bit_top {v m : Nat} (h : v < 2 ^ (m + 1)) : v / 2 ^ m % 2 = if 2 ^ m ≤ v then 1 else 0 := by
  have hp : 0 < 2 ^ m := Nat.pow_pos (by decide)
  rw [Nat.pow_succ] at h
  have h2 : v / 2 ^ m < 2 := by rw [Nat.div_lt_iff_lt_mul hp, Nat.mul_comm]; exact h
  by_cases hv : 2 ^ m ≤ v
  · rw [if_pos hv]
    have := (Nat.le_div_iff_mul_le hp).2 (show 1 * 2 ^ m ≤ v by omega)
    omega
  · rw [if_neg hv, Nat.div_eq_of_lt (by omega)]
section
variable {P : Nat} {emin emax : Int} {W E : Nat} {ex : Bool}
theorem l2_l1end (h : Fmt P emin emax W E ex) (FR : List Int) (dF : Dig B32 FR) (nF : Norm FR) (lF : FR.length ≤ 100) (hF : val B32 FR < 2 ^ fracN P ex) (e : Nat) (he : e < 2 ^ E) (neg : Bool) (x0 : Int) :
    Ev (fun k => spec_Unpack.l1 k FR (e : Int) ((2 ^ E : Nat) : Int) (E : Int) (P : Int) emin emax (W : Int) (E : Int) ex x0 neg 0 0 0)
      (if ex = true then (if (2 ^ (P - 1) ≤ val B32 FR ↔ e ≠ 0) then partsOf P emin emax E e neg (val B32 FR % 2 ^ (P - 1)) else badP) else partsOf P emin emax E e neg (val B32 FR)) := by
  have hp0 := h.p0
  have hp1 := h.p1
  have hE := h.plt
  have hE0 : 2 ≤ 2 ^ E := by
    have := Nat.pow_le_pow_right (n := 2) (by decide) h.e0
    exact this
  have b1 : 1 ≤ P := by omega
  have hPP : 2 ^ (P - 1) ≤ 2 ^ P := Nat.pow_le_pow_right (by decide) (by omega)
  have c0 : ¬ (E : Int) < (E : Int) := by omega
  have wp : wrap64 ((P : Int) - 1) = ((P - 1 : Nat) : Int) := by rw [wsm _ (by omega)]; omega
  have wt : wrap64 (((2 ^ E : Nat) : Int) - 1) = ((2 ^ E - 1 : Nat) : Int) := by rw [wsm _ (by clear wp; omega)]; clear wp; omega
  cases ex with
  | false =>
    rw [if_neg (by decide)]
    unfold fracN at hF
    rw [if_neg (by decide)] at hF
    refine Ev.step (fun k => ?_) (l2_j3 h FR dF nF lF (by clear wp wt; omega) e he neg x0)
    simp only [spec_Unpack.l1]
    rw [if_neg c0, wt]
    simp only [Bool.false_eq_true, if_false]
  | true =>
    rw [if_pos rfl]
    unfold fracN at hF
    rw [if_pos rfl] at hF
    obtain ⟨r, hr, dr, nr, vr, lr⟩ := l2Low_ev FR dF (by clear wp wt; omega) (P - 1) (by clear wp wt; omega)
    have hb := l1Bit_eq FR dF (P - 1) (by clear wp wt; omega)
    have hbt : val B32 FR / 2 ^ (P - 1) % 2 = if 2 ^ (P - 1) ≤ val B32 FR then 1 else 0 := bit_top (by rw [show P - 1 + 1 = P by clear wp wt; omega]; exact hF)
    rw [hbt] at hb
    have hr2 : val B32 r < 2 ^ P := by rw [vr]; exact Nat.lt_of_lt_of_le (Nat.mod_lt _ (Nat.pow_pos (by decide))) hPP
    have hj := l2_j3 h r dr nr (by clear wp wt; omega) hr2 e he neg x0
    rw [vr] at hj
    refine Ev.step (f := fun k => (spec_l2Low.f k FR ((P - 1 : Nat) : Int)).bind fun t => if (2 ^ (P - 1) ≤ val B32 FR ↔ e ≠ 0) then spec_Unpack.j3 k (e : Int) ((2 ^ E - 1 : Nat) : Int) t (P : Int) emin emax (W : Int) (E : Int) true x0 neg 0 0 0 else some badP) (fun k => ?_) (Ev.bind hr ?_)
    · simp only [spec_Unpack.l1]
      rw [if_neg c0, wp, wt]
      simp only [if_true]
      rw [hb, Option.bind_some]
      congr 1
      funext t
      by_cases hl : 2 ^ (P - 1) ≤ val B32 FR
      · rw [if_pos hl]
        by_cases h0 : e = 0
        · have c1 : (e : Int) = 0 := by clear wp wt; omega
          rw [if_pos c1, if_pos (show ((1 : Nat) : Int) = 1 from rfl), if_neg (fun x => x.1 hl h0)]
          rfl
        · have c1 : ¬ (e : Int) = 0 := by clear wp wt; omega
          have c2 : (e : Int) > 0 := by clear wp wt; omega
          rw [if_neg c1, if_pos c2, if_pos (show ((1 : Nat) : Int) = 1 from rfl), if_pos ⟨fun _ => h0, fun _ => hl⟩]
      · rw [if_neg hl]
        by_cases h0 : e = 0
        · have c1 : (e : Int) = 0 := by clear wp wt; omega
          have c2 : ¬ (e : Int) > 0 := by clear wp wt; omega
          rw [if_pos c1, if_neg (show ¬ ((0 : Nat) : Int) = 1 by decide), if_neg c2, if_pos ⟨fun x => absurd x hl, fun x => absurd h0 x⟩]
        · have c1 : ¬ (e : Int) = 0 := by clear wp wt; omega
          have c2 : (e : Int) > 0 := by clear wp wt; omega
          rw [if_neg c1, if_pos c2, if_neg (show ¬ ((0 : Nat) : Int) = 1 by decide), if_neg (fun x => hl (x.2 h0))]
          rfl
    · by_cases hc : (2 ^ (P - 1) ≤ val B32 FR ↔ e ≠ 0)
      · simp only [if_pos hc]
        exact hj
      · simp only [if_neg hc]
        exact Ev.now _
theorem l2_l0 (h : Fmt P emin emax W E ex) (A FR : List Int) (dA : Dig B32 A) (w : Nat) (hA : val B32 A = w) (R : Prt)
    (hR : Ev (fun k => spec_Unpack.l1 k FR ((w / 2 ^ fracN P ex % 2 ^ E : Nat) : Int) ((2 ^ 0 : Nat) : Int) ((0 : Nat) : Int) (P : Int) emin emax (W : Int) (E : Int) ex 0 (decide (w / 2 ^ (W - 1) % 2 = 1)) 0 0 0) R) :
    ∀ i : Nat, i ≤ E → Ev (fun k => spec_Unpack.l0 k A (fracN P ex : Int) FR ((w / 2 ^ (fracN P ex + i) % 2 ^ (E - i) : Nat) : Int) ((i : Int) - 1) (P : Int) emin emax (W : Int) (E : Int) ex) R := by
  have hp0 := h.p0
  have hp1 := h.p1
  have hw1 := h.w1
  have hw2 := h.w2
  have he1 := h.e1
  intro i
  induction i with
  | zero =>
    intro _
    rw [Nat.add_zero, Nat.sub_zero]
    have hb := l1Bit_eq A dA (W - 1) (by omega)
    rw [hA] at hb
    have ww : wrap64 ((W : Int) - 1) = ((W - 1 : Nat) : Int) := by rw [wsm _ (by omega)]; omega
    have hm := Nat.mod_lt (w / 2 ^ (W - 1)) (show 0 < 2 by decide)
    refine Ev.step (fun k => ?_) hR
    have c0 : ¬ (((0 : Nat) : Int) - 1 ≥ 0) := by omega
    simp only [spec_Unpack.l0]
    rw [if_neg c0, ww, hb, Option.bind_some]
    have hd : (((w / 2 ^ (W - 1) % 2 : Nat) : Int) == 1) = decide (w / 2 ^ (W - 1) % 2 = 1) := by
      clear ww
      by_cases hx : w / 2 ^ (W - 1) % 2 = 1
      · rw [hx]; rfl
      · rw [decide_eq_false hx, beq_eq_false_iff_ne]; omega
    rw [hd]
    rfl
  | succ i ih =>
    intro hi
    have hb := l1Bit_eq A dA (fracN P ex + i) (by omega)
    rw [hA] at hb
    have e0 : ((i + 1 : Nat) : Int) - 1 = (i : Int) := by omega
    rw [e0]
    have hstep : w / 2 ^ (fracN P ex + i) % 2 ^ (E - i) = w / 2 ^ (fracN P ex + (i + 1)) % 2 ^ (E - (i + 1)) * 2 + w / 2 ^ (fracN P ex + i) % 2 := by
      have e1 : 2 ^ (E - i) = 2 * 2 ^ (E - (i + 1)) := by rw [Nat.mul_comm, ← Nat.pow_succ]; congr 1; omega
      have e2 : w / 2 ^ (fracN P ex + (i + 1)) = w / 2 ^ (fracN P ex + i) / 2 := by rw [Nat.div_div_eq_div_mul, ← Nat.pow_succ]; rfl
      rw [e1, e2, Nat.mod_mul]
      omega
    have hacc : w / 2 ^ (fracN P ex + (i + 1)) % 2 ^ (E - (i + 1)) < 32768 := Nat.lt_of_lt_of_le (Nat.mod_lt _ (Nat.pow_pos (by decide))) (Nat.le_trans (Nat.pow_le_pow_right (by decide) (Nat.sub_le _ _)) h.plt)
    have hbit := Nat.mod_lt (w / 2 ^ (fracN P ex + i)) (show 0 < 2 by decide)
    have c0 : (i : Int) ≥ 0 := Int.natCast_nonneg _
    have hfr : fracN P ex ≤ 1000 := by omega
    have ih1 := ih (by omega)
    rw [hstep] at ih1
    generalize w / 2 ^ (fracN P ex + (i + 1)) % 2 ^ (E - (i + 1)) = acc at *
    generalize w / 2 ^ (fracN P ex + i) % 2 = bit at *
    clear hstep
    refine Ev.step (fun k => ?_) ih1
    have w1 : wrap64 ((fracN P ex : Int) + (i : Int)) = ((fracN P ex + i : Nat) : Int) := by rw [wsm _ (by omega)]; rfl
    have w2 : wrap64 (wrap64 ((acc : Int) * 2) + wrap64 (bit : Int)) = ((acc * 2 + bit : Nat) : Int) := by
      clear w1
      rw [wsm ((acc : Int) * 2) (by omega), wsm (bit : Int) (by omega), wsm _ (by omega)]
      omega
    have w3 : wrap64 ((i : Int) - 1) = (i : Int) - 1 := wsm _ (by clear w1 w2; omega)
    simp only [spec_Unpack.l0]
    rw [if_pos c0, w1, hb, Option.bind_some, w2, w3]
theorem unpS_ev (h : Fmt P emin emax W E ex) (f : Int) (hf : spec_Describe.f f = some ((P : Int), emin, emax, (W : Int), (E : Int), ex)) (w : Nat) (hw : w < B128) : Ev (fun k => spec_Unpack.f k f (hiI w) (loI w)) (unpN P emin emax W E ex w) := by
  have hp0 := h.p0
  have hp1 := h.p1
  have hw1 := h.w1
  have hw2 := h.w2
  have he0 := h.e0
  have he1 := h.e1
  obtain ⟨A, hA, dA, nA, vA, lA⟩ := l2Of_ev w hw
  obtain ⟨m, hm, bm, lm⟩ := sbits_gen A dA nA (by omega)
  rw [vA] at bm
  have hgt := isBits_gt bm (W := W)
  have cP : ¬ (P : Int) = 0 := by omega
  have hfn : fracN P ex = if ex = true then P else P - 1 := rfl
  have wP : wrap64 ((P : Int) - 1) = ((P - 1 : Nat) : Int) := by rw [wsm _ (by omega)]; omega
  have core : w < 2 ^ W → Ev (fun k => spec_Unpack.j0 k A (fracN P ex : Int) (P : Int) emin emax (W : Int) (E : Int) ex) (unpN P emin emax W E ex w) := by
    intro hlt
    clear wP
    have hfr : fracN P ex ≤ 1000 := by omega
    obtain ⟨FR, hF, dF, nF, vF, lF⟩ := l2Low_ev A dA (by omega) (fracN P ex) (by omega)
    rw [vA] at vF
    have hFlt : val B32 FR < 2 ^ fracN P ex := by rw [vF]; exact Nat.mod_lt _ (Nat.pow_pos (by decide))
    have helt : w / 2 ^ fracN P ex % 2 ^ E < 2 ^ E := Nat.mod_lt _ (Nat.pow_pos (by decide))
    have hend := l2_l1end h FR dF nF (by omega) hFlt (w / 2 ^ fracN P ex % 2 ^ E) helt (decide (w / 2 ^ (W - 1) % 2 = 1)) 0
    have htop := l2_top h FR (w / 2 ^ fracN P ex % 2 ^ E) (decide (w / 2 ^ (W - 1) % 2 = 1)) 0 _ E hend 0 (by omega)
    have hl0 := l2_l0 h A FR dA w vA _ htop E (Nat.le_refl _)
    rw [Nat.sub_self, Nat.pow_zero, Nat.mod_one] at hl0
    have hval : (if ex = true then (if (2 ^ (P - 1) ≤ val B32 FR ↔ w / 2 ^ fracN P ex % 2 ^ E ≠ 0) then partsOf P emin emax E (w / 2 ^ fracN P ex % 2 ^ E) (decide (w / 2 ^ (W - 1) % 2 = 1)) (val B32 FR % 2 ^ (P - 1)) else badP) else partsOf P emin emax E (w / 2 ^ fracN P ex % 2 ^ E) (decide (w / 2 ^ (W - 1) % 2 = 1)) (val B32 FR)) = unpN P emin emax W E ex w := by
      unfold unpN
      rw [if_neg (Nat.not_le.2 hlt), vF, hfn]
      cases ex with
      | true => rfl
      | false => rfl
    rw [hval] at hl0
    have wE : wrap64 ((E : Int) - 1) = (E : Int) - 1 := wsm _ (by omega)
    refine Ev.step (f := fun k => (spec_l2Low.f k A (fracN P ex : Int)).bind fun t => spec_Unpack.l0 k A (fracN P ex : Int) t 0 ((E : Int) - 1) (P : Int) emin emax (W : Int) (E : Int) ex) (fun k => ?_) (Ev.bind hF hl0)
    simp only [spec_Unpack.j0]
    rw [wE]
  unfold spec_Unpack.f
  refine Ev.congr (f := fun k => (spec_l2Of.f k (hiI w) (loI w)).bind fun t => (spec_l1Bits.f k t).bind fun t2 => if t2 > (W : Int) then some badP else if ex = true then spec_Unpack.j0 k t (P : Int) (P : Int) emin emax (W : Int) (E : Int) ex else spec_Unpack.j0 k t ((P - 1 : Nat) : Int) (P : Int) emin emax (W : Int) (E : Int) ex) (fun k => ?_) (Ev.bind hA (Ev.bind hm ?_))
  · rw [hf, Option.bind_some]
    dsimp only
    rw [if_neg cP, wP]
    rfl
  · clear wP
    by_cases hg : W < m
    · have c1 : (m : Int) > (W : Int) := by omega
      have hle := hgt.1 hg
      have hu : unpN P emin emax W E ex w = badP := by unfold unpN; rw [if_pos hle]
      rw [hu]
      exact Ev.congr (fun k => by rw [if_pos c1]) (Ev.now _)
    · have c1 : ¬ (m : Int) > (W : Int) := by omega
      have hlt : w < 2 ^ W := Nat.lt_of_not_le (fun x => hg (hgt.2 x))
      have hc := core hlt
      refine Ev.congr (fun k => ?_) hc
      rw [if_neg c1, hfn]
      cases ex with
      | true => rfl
      | false => rfl
end
end Go.Proofs.YtdbnmdchecacdaaDoor.M
end
section
namespace Go.Proofs.YtdbnmdchecacdaaDoor.PP
open Go.RowKit Go.Proofs.YtdbnmdchecacdaaDoor.G Go.Proofs.YtdbnmdchecacdaaDoorV.PrintWords Go.Proofs.YtdbnmdchecacdaaDoorV.PrintLast Go.Proofs.YtdbnmdchecacdaaDoorV.PrintMore
attribute [local go_sem] max2_int min2_int max_two min_two max_three min_three max_four min_four run_Add64 run_Sub64 fld25_1
set_option linter.unusedVariables false
set_option linter.unusedSimpArgs false
theorem eqA25 (d : Nat) (w : World) (x0 y0 : Int) (x1 y1 : Int) :
    (Op.equalIn (d + 2) 25 (.agg #[.int .u64 x0, .int .u64 x1]) (.agg #[.int .u64 y0, .int .u64 y1])).run Tryd.prog w = .ok (x0 == y0 && (x1 == y1)) w := by
  refine eqA_of Tryd.underlying25 (by kernel_rfl) ?_
  refine eqf_cons (by rfl) (by go_simp; rfl) (by go_simp; rfl) (by go_simp) ?_
  exact eqf_last (by rfl) (by go_simp; rfl) (by go_simp; rfl) (by go_simp)
end Go.Proofs.YtdbnmdchecacdaaDoor.PP
end
section
namespace Go.Proofs.YtdbnmdchecacdaaDoor.PP
open Go.RowKit Go.Proofs.YtdbnmdchecacdaaDoor.G Go.Proofs.YtdbnmdchecacdaaDoorV.PrintWords Go.Proofs.YtdbnmdchecacdaaDoorV.PrintLast Go.Proofs.YtdbnmdchecacdaaDoorV.PrintMore
attribute [local go_sem] max2_int min2_int max_two min_two max_three min_three max_four min_four run_Add64 run_Sub64 fld25_1
set_option linter.unusedVariables false
set_option linter.unusedSimpArgs false
attribute [local go_sem high] eqA25
mutual
def impl_Unpack.j0 : Nat → Bool → Int → Int → Int → Int → Int → Int → Int → Bool → Option (Int × Bool × Int × Int × Int)
 | 0, _, _, _, _, _, _, _, _, _ => none
 | k + 1, x34, x297000, x297001, x306000, x306001, x306002, x306003, x306004, x306005 => if x34 = true then (some (0, false, 0, 0, 0)) else ((impl_layout_fracBits.f x306000 x306001 x306002 x306003 x306004 x306005).bind fun t308 => ((impl_Word_low.f x297000 x297001 t308).bind fun bt309 => ((impl_Word_right.f x297000 x297001 t308).bind fun bt312 => ((impl_Word_low.f bt312.1 bt312.2 x306004).bind fun bt314 => ((impl_Word_right.f x297000 x297001 (wrap64 (x306003 - 1))).bind fun bt316 => (if x306005 = true then ((impl_Word_right.f bt309.1 bt309.2 (wrap64 (x306000 - 1))).bind fun bt319 => (if ((!(bt319.1 == 0) || (!(bt319.2 == 0))) != ((wrap64 (bt314.2)) != 0)) = true then (some (0, false, 0, 0, 0)) else ((impl_Word_low.f bt309.1 bt309.2 (wrap64 (x306000 - 1))).bind fun bt321 => (impl_Unpack.j1 k (wrap64 (bt314.2)) (!(bt316.1 == 0) || (!(bt316.2 == 0))) x306000 x306001 x306002 x306003 x306004 x306005 bt309.1 bt309.2 bt321.1 bt321.2)))) else (impl_Unpack.j1 k (wrap64 (bt314.2)) (!(bt316.1 == 0) || (!(bt316.2 == 0))) x306000 x306001 x306002 x306003 x306004 x306005 bt309.1 bt309.2 bt309.1 bt309.2)))))))
def impl_Unpack.j1 : Nat → Int → Bool → Int → Int → Int → Int → Int → Bool → Int → Int → Int → Int → Option (Int × Bool × Int × Int × Int)
 | 0, _, _, _, _, _, _, _, _, _, _, _, _ => none
 | k + 1, x9, x10, x306000, x306001, x306002, x306003, x306004, x306005, x312000, x312001, x319000, x319001 => (impl_layout_top.f x306000 x306001 x306002 x306003 x306004 x306005).bind fun t323 => (if x9 = t323 then (impl_Unpack.j2 k x9 x10 (x319000 == 0 && (x319001 == 0)) x306000 x306001 x306002 x306003 x306004 x306005 x312000 x312001) else (impl_Unpack.j2 k x9 x10 false x306000 x306001 x306002 x306003 x306004 x306005 x312000 x312001))
def impl_Unpack.j2 : Nat → Int → Bool → Bool → Int → Int → Int → Int → Int → Bool → Int → Int → Option (Int × Bool × Int × Int × Int)
 | 0, _, _, _, _, _, _, _, _, _, _, _ => none
 | k + 1, x9, x10, x81, x306000, x306001, x306002, x306003, x306004, x306005, x312000, x312001 => if x81 = true then (some (4, x10, 0, 0, 0)) else ((impl_layout_top.f x306000 x306001 x306002 x306003 x306004 x306005).bind fun t324 => (if x9 = t324 then (some (5, false, 0, 0, 0)) else (if x9 = 0 then (impl_Unpack.j3 k x9 x10 (x312000 == 0 && (x312001 == 0)) x306000 x306001 x306002 x306003 x306004 x306005 x312000 x312001) else (impl_Unpack.j3 k x9 x10 false x306000 x306001 x306002 x306003 x306004 x306005 x312000 x312001))))
def impl_Unpack.j3 : Nat → Int → Bool → Bool → Int → Int → Int → Int → Int → Bool → Int → Int → Option (Int × Bool × Int × Int × Int)
 | 0, _, _, _, _, _, _, _, _, _, _, _ => none
 | k + 1, x9, x10, x99, x306000, x306001, x306002, x306003, x306004, x306005, x312000, x312001 => if x99 = true then (some (1, x10, 0, 0, 0)) else (if x9 = 0 then ((impl_layout_qMin.f x306000 x306001 x306002 x306003 x306004 x306005).bind fun t325 => (some (2, x10, x312000, x312001, t325))) else ((impl_one.f (wrap64 (x306000 - 1))).bind fun bt326 => ((impl_Word_or.f x312000 x312001 bt326.1 bt326.2).bind fun bt328 => (some (3, x10, bt328.1, bt328.2, wrap64 ((wrap64 ((wrap64 (x9 - x306002)) - x306000)) + 1))))))
end
def impl_Unpack.f (k : Nat) (a0 : Int) (a1_0 : Int) (a1_1 : Int) : Option (Int × Bool × Int × Int × Int) := (impl_layoutOf.f a0).bind fun bt298 => (if bt298.2.2.2.2.2.2 = true then (if bt298.2.2.2.1 < 128 then ((impl_Word_right.f a1_0 a1_1 bt298.2.2.2.1).bind fun bt306 => (impl_Unpack.j0 k (!(bt306.1 == 0) || (!(bt306.2 == 0))) a1_0 a1_1 bt298.1 bt298.2.1 bt298.2.2.1 bt298.2.2.2.1 bt298.2.2.2.2.1 bt298.2.2.2.2.2.1)) else (impl_Unpack.j0 k false a1_0 a1_1 bt298.1 bt298.2.1 bt298.2.2.1 bt298.2.2.2.1 bt298.2.2.2.2.1 bt298.2.2.2.2.2.1)) else (impl_Unpack.j0 k true a1_0 a1_1 bt298.1 bt298.2.1 bt298.2.2.1 bt298.2.2.2.1 bt298.2.2.2.2.1 bt298.2.2.2.2.2.1))
def impl_Unpack.T6 : Bool × List (List Nat × List Nat) := (true, [([], []), ([], []), ([0, 1], [0, 1]), ([], []), ([3], [3]), ([4], [4]), ([2, 5, 2], [2, 5]), ([6], [6]), ([7], [7]), ([8, 6, 0, 1, 2, 3, 4, 5, 6, 7, 8], [8])])
def impl_Unpack.B6 : List Nat := [0, 0, 3, 0, 8, 24, 63, 127, 255, 511]
theorem impl_Unpack.tab6 : rtab .any (opsOf Tryd.f17 6) = impl_Unpack.T6 := by kernel_rfl
theorem impl_Unpack.bits6 : waitsOk impl_Unpack.T6.2 impl_Unpack.B6 = true := by kernel_rfl
def impl_Unpack.T22 : Bool × List (List Nat × List Nat) := (true, [([], []), ([], []), ([], []), ([2], [2]), ([3], [3]), ([4], [4]), ([5], [5]), ([1, 6, 6], [1, 6]), ([], []), ([], []), ([9], [9]), ([10], [10]), ([8, 11], [8, 11]), ([], []), ([13], [13]), ([14], [14]), ([12, 15], [12, 15]), ([16], [16]), ([0, 7, 17], [0, 7, 17]), ([18, 7, 0, 1, 2, 3, 4, 5, 6, 7, 8, 9, 10, 11, 12, 13, 14, 15, 16, 17, 18], [18])])
def impl_Unpack.B22 : List Nat := [0, 0, 0, 4, 12, 28, 60, 126, 0, 0, 512, 1536, 3840, 0, 8192, 24576, 65280, 130816, 262143, 524287]
theorem impl_Unpack.tab22 : rtab .any (opsOf Tryd.f17 22) = impl_Unpack.T22 := by kernel_rfl
theorem impl_Unpack.bits22 : waitsOk impl_Unpack.T22.2 impl_Unpack.B22 = true := by kernel_rfl
set_option maxHeartbeats 8000000 in
set_option maxRecDepth 100000 in
theorem impl_Unpack.calls (k : Nat) (a0 : Int) (a1_0 : Int) (a1_1 : Int) (r1 : Int) (r2 : Bool) (r3 : Int) (r4 : Int) (r5 : Int) (w : World) (hT : Tabled w) (h : impl_Unpack.f k a0 a1_0 a1_1 = some (r1, r2, r3, r4, r5)) :
  Calls Tryd.prog 17 #[.int .i64 a0, .agg #[.int .u64 a1_0, .int .u64 a1_1]] w fun e w' => e = .returned (.agg #[.int .i64 r1, .bool r2, .int .u64 r3, .int .u64 r4, .int .i64 r5]) ∧ Below w.heap.size w w' := by
 have hu25 := Tryd.underlying25
 have hu27 := Tryd.underlying27
 have hu91 := Tryd.underlying91
 have HTb_ := zM hT
 clear hT
 have HB := zM (Below.refl w.heap.size w)
 have H : ((impl_layoutOf.f a0).bind fun bt298 => (if bt298.2.2.2.2.2.2 = true then (if bt298.2.2.2.1 < 128 then ((impl_Word_right.f a1_0 a1_1 bt298.2.2.2.1).bind fun bt306 => (impl_Unpack.j0 k (!(bt306.1 == 0) || (!(bt306.2 == 0))) a1_0 a1_1 bt298.1 bt298.2.1 bt298.2.2.1 bt298.2.2.2.1 bt298.2.2.2.2.1 bt298.2.2.2.2.2.1)) else (impl_Unpack.j0 k false a1_0 a1_1 bt298.1 bt298.2.1 bt298.2.2.1 bt298.2.2.2.1 bt298.2.2.2.2.1 bt298.2.2.2.2.2.1)) else (impl_Unpack.j0 k true a1_0 a1_1 bt298.1 bt298.2.1 bt298.2.2.1 bt298.2.2.2.1 bt298.2.2.2.2.1 bt298.2.2.2.2.2.1))) = some (r1, r2, r3, r4, r5) := h
 clear h
 replace H := Option.bind_eq_some_iff.mp H
 obtain ⟨⟨t298, t299, t300, t301, t302, t303, t304⟩, A30, H⟩ := H
 replace H : (if t304 = true then (if t301 < 128 then ((impl_Word_right.f a1_0 a1_1 t301).bind fun bt306 => (impl_Unpack.j0 k (!(bt306.1 == 0) || (!(bt306.2 == 0))) a1_0 a1_1 t298 t299 t300 t301 t302 t303)) else (impl_Unpack.j0 k false a1_0 a1_1 t298 t299 t300 t301 t302 t303)) else (impl_Unpack.j0 k true a1_0 a1_1 t298 t299 t300 t301 t302 t303)) = some (r1, r2, r3, r4, r5) := H
 have A3 := zM A30
 clear A30
 have HC4 := zM H
 clear H
 go_enter Tryd.func17, Tryd.ntmps17
 go_upto_region 2 with (first | ((with_reducible refine gate_dst (N := 3) rfl ?_); refine box_event ?hg (N := 3) ?hd (cs := #[.int .u64 a1_0, .int .u64 a1_1]) (t := 25) ?hr ?_; (case hd => rfl); (case hg => rfl); (case hr => first | (go_simp; done) | (go_simp; rfl)); intro gb296 hg w5 hbox hb; have n0_ := zM (below_step (by repeat (first | (with_reducible first | exact HB.out | apply yA | apply yN | apply yD) | exact HB.out)) hb); have n1_ := zM (hbox); have n2_ := zM ((by rw [hg]; exact (below_size (by repeat (first | (with_reducible first | exact HB.out | apply yA | apply yN | apply yD) | exact HB.out))) : w.heap.size ≤ gb296)); have n3_ := zM ((by rw [hg]; exact (below_size (by repeat (first | (with_reducible first | exact HB.out | apply yA | apply yN | apply yD) | exact HB.out))) : w.heap.size ≤ gb296)); clear HB; have HB := n0_; have BK296 := n1_; have GW296 := n2_; have GE296 := n3_; clear n0_ n1_ n2_ n3_; clear hb hbox hg) | ((with_reducible refine gate_dst (N := 4) rfl ?_); refine box_event ?hg (N := 4) ?hd (cs := #[.int .i64 0, .bool false, .int .u64 0, .int .u64 0, .int .i64 0]) (t := 27) ?hr ?_; (case hd => rfl); (case hg => rfl); (case hr => first | (go_simp; done) | (go_simp; rfl)); intro gb297 hg w6 hbox hb; have n0_ := zM (blk_below (g := gb296) (o := .cells #[.int .u64 a1_0, .int .u64 a1_1] 25 (0, 0)) (by (with_reducible repeat (first | apply zN | apply zD | apply zA)); exact BK296.out) hb); have n1_ := zM (below_step (by repeat (first | (with_reducible first | exact HB.out | apply yA | apply yN | apply yD | refine below_set ?_ GE296.out) | exact HB.out)) hb); have n2_ := zM (hbox); have n3_ := zM ((by rw [hg]; exact (below_size (by repeat (first | (with_reducible first | exact HB.out | apply yA | apply yN | apply yD | refine below_set ?_ GE296.out) | exact HB.out))) : w.heap.size ≤ gb297)); have n4_ := zM ((by rw [hg]; exact (below_size (by repeat (first | (with_reducible first | exact HB.out | apply yA | apply yN | apply yD | refine below_set ?_ GE296.out) | exact HB.out))) : w.heap.size ≤ gb297)); have n5_ := zM ((by rw [hg]; exact Nat.ne_of_lt (blk_lt (g := gb296) (o := .cells #[.int .u64 a1_0, .int .u64 a1_1] 25 (0, 0)) (by (with_reducible repeat (first | apply zN | apply zD | apply zA)); exact BK296.out)) : gb296 ≠ gb297)); have n6_ := zM ((by rw [hg]; exact Nat.ne_of_gt (blk_lt (g := gb296) (o := .cells #[.int .u64 a1_0, .int .u64 a1_1] 25 (0, 0)) (by (with_reducible repeat (first | apply zN | apply zD | apply zA)); exact BK296.out)) : gb297 ≠ gb296)); clear BK296; clear HB; have BK296 := n0_; have HB := n1_; have BK297 := n2_; have GW297 := n3_; have GE297 := n4_; have NB296_297 := n5_; have NB297_296 := n6_; clear n0_ n1_ n2_ n3_ n4_ n5_ n6_; clear hb hbox hg) | ((with_reducible refine gate_callee (f := 65) rfl ?_); refine goesL_ (some 15) rfl rfl Tryd.func65 (by kernel_rfl) rfl #[.int .i64 a0] rfl (by (try simp only [List.map_toArray, List.map_cons, List.map_nil]); first | done | rfl | (simp only [List.length_drop, List.length_take]; rfl)) ?_; (with_reducible refine (impl_layoutOf.calls a0 t298 t299 t300 t301 t302 t303 t304 _ ?side1 A3.out).mono ?_); (case side1 => exact tabled_below HTb_.out (by repeat (first | (with_reducible first | exact HB.out | apply yA | apply yN | apply yD | refine below_set ?_ GE296.out | refine below_set ?_ GE297.out) | exact HB.out))); rintro e w7 ⟨rfl, hb⟩; refine ⟨_, rfl, ?_⟩; have n0_ := zM (blk_below (g := gb296) (o := .cells #[.int .u64 a1_0, .int .u64 a1_1] 25 (0, 0)) (by (with_reducible repeat (first | apply zN | apply zD | apply zA)); exact BK296.out) hb); have n1_ := zM (blk_below (g := gb297) (o := .cells #[.int .i64 0, .bool false, .int .u64 0, .int .u64 0, .int .i64 0] 27 (0, 0)) (by (with_reducible repeat (first | apply zN | apply zD | apply zA)); exact BK297.out) hb); have n2_ := zM (below_step (by repeat (first | (with_reducible first | exact HB.out | apply yA | apply yN | apply yD | refine below_set ?_ GE296.out | refine below_set ?_ GE297.out) | exact HB.out)) hb); clear BK296; clear BK297; clear HB; have BK296 := n0_; have BK297 := n1_; have HB := n2_; clear n0_ n1_ n2_; (try clear hb); (try clear hb2); (try clear hk); (try clear hi)) | ((with_reducible refine gate_dst (N := 5) rfl ?_); refine box_event ?hg (N := 5) ?hd (cs := #[.int .i64 0, .int .i64 0, .int .i64 0, .int .i64 0, .int .i64 0, .bool false]) (t := 91) ?hr ?_; (case hd => rfl); (case hg => rfl); (case hr => first | (go_simp; done) | (go_simp; rfl)); intro gb305 hg w8 hbox hb; have n0_ := zM (blk_below (g := gb296) (o := .cells #[.int .u64 a1_0, .int .u64 a1_1] 25 (0, 0)) (by (with_reducible repeat (first | apply zN | apply zD | apply zA)); exact BK296.out) hb); have n1_ := zM (blk_below (g := gb297) (o := .cells #[.int .i64 0, .bool false, .int .u64 0, .int .u64 0, .int .i64 0] 27 (0, 0)) (by (with_reducible repeat (first | apply zN | apply zD | apply zA)); exact BK297.out) hb); have n2_ := zM (below_step (by repeat (first | (with_reducible first | exact HB.out | apply yA | apply yN | apply yD | refine below_set ?_ GE296.out | refine below_set ?_ GE297.out) | exact HB.out)) hb); have n3_ := zM (hbox); have n4_ := zM ((by rw [hg]; exact (below_size (by repeat (first | (with_reducible first | exact HB.out | apply yA | apply yN | apply yD | refine below_set ?_ GE296.out | refine below_set ?_ GE297.out) | exact HB.out))) : w.heap.size ≤ gb305)); have n5_ := zM ((by rw [hg]; exact (below_size (by repeat (first | (with_reducible first | exact HB.out | apply yA | apply yN | apply yD | refine below_set ?_ GE296.out | refine below_set ?_ GE297.out) | exact HB.out))) : w.heap.size ≤ gb305)); have n6_ := zM ((by rw [hg]; exact Nat.ne_of_lt (blk_lt (g := gb296) (o := .cells #[.int .u64 a1_0, .int .u64 a1_1] 25 (0, 0)) (by (with_reducible repeat (first | apply zN | apply zD | apply zA)); exact BK296.out)) : gb296 ≠ gb305)); have n7_ := zM ((by rw [hg]; exact Nat.ne_of_gt (blk_lt (g := gb296) (o := .cells #[.int .u64 a1_0, .int .u64 a1_1] 25 (0, 0)) (by (with_reducible repeat (first | apply zN | apply zD | apply zA)); exact BK296.out)) : gb305 ≠ gb296)); have n8_ := zM ((by rw [hg]; exact Nat.ne_of_lt (blk_lt (g := gb297) (o := .cells #[.int .i64 0, .bool false, .int .u64 0, .int .u64 0, .int .i64 0] 27 (0, 0)) (by (with_reducible repeat (first | apply zN | apply zD | apply zA)); exact BK297.out)) : gb297 ≠ gb305)); have n9_ := zM ((by rw [hg]; exact Nat.ne_of_gt (blk_lt (g := gb297) (o := .cells #[.int .i64 0, .bool false, .int .u64 0, .int .u64 0, .int .i64 0] 27 (0, 0)) (by (with_reducible repeat (first | apply zN | apply zD | apply zA)); exact BK297.out)) : gb305 ≠ gb297)); clear BK296; clear BK297; clear HB; have BK296 := n0_; have BK297 := n1_; have HB := n2_; have BK305 := n3_; have GW305 := n4_; have GE305 := n5_; have NB296_305 := n6_; have NB305_296 := n7_; have NB297_305 := n8_; have NB305_297 := n9_; clear n0_ n1_ n2_ n3_ n4_ n5_ n6_ n7_ n8_ n9_; clear hb hbox hg; have hnb9 := NB305_296.out; have hnc9 := NB296_305.out; have hnb10 := NB305_297.out; have hnc10 := NB297_305.out; have hcz11_0 : w8.cell? ⟨gb305, 0, none⟩ = some (.int .i64 0) := (blk_cell BK305.out 0).trans rfl; have hcz11_1 : w8.cell? ⟨gb305, 1, none⟩ = some (.int .i64 0) := (blk_cell BK305.out 1).trans rfl; have hcz11_2 : w8.cell? ⟨gb305, 2, none⟩ = some (.int .i64 0) := (blk_cell BK305.out 2).trans rfl; have hcz11_3 : w8.cell? ⟨gb305, 3, none⟩ = some (.int .i64 0) := (blk_cell BK305.out 3).trans rfl; have hcz11_4 : w8.cell? ⟨gb305, 4, none⟩ = some (.int .i64 0) := (blk_cell BK305.out 4).trans rfl; have hcz11_5 : w8.cell? ⟨gb305, 5, none⟩ = some (.bool false) := (blk_cell BK305.out 5).trans rfl; have hfz11_0 := blk_frozen BK305.out 0; have hfz11_1 := blk_frozen BK305.out 1; have hfz11_2 := blk_frozen BK305.out 2; have hfz11_3 := blk_frozen BK305.out 3; have hfz11_4 := blk_frozen BK305.out 4; have hfz11_5 := blk_frozen BK305.out 5))
 (try simp only [Act.put, xT, xZ, xS])
 go_cut [34] (fun v34 wc => ∃ (kq : Nat) (x34_3 : Bool), v34 = .bool x34_3 ∧ Aside0 (impl_Unpack.j0 kq x34_3 a1_0 a1_1 t298 t299 t300 t301 t302 t303 = some (r1, r2, r3, r4, r5)) ∧ Aside0 (kq ≤ k) ∧ Aside0 (wc.heap[gb296]? = some (.cells #[.int .u64 a1_0, .int .u64 a1_1] 25 (0, 0))) ∧ Aside0 (wc.heap[gb297]? = some (.cells #[.int .i64 0, .bool false, .int .u64 0, .int .u64 0, .int .i64 0] 27 (0, 0))) ∧ Aside0 (wc.heap[gb305]? = some (.cells #[.int .i64 t298, .int .i64 t299, .int .i64 t300, .int .i64 t301, .int .i64 t302, .bool t303] 91 (0, 0))) ∧ Aside0 (Below w.heap.size w wc))
 case first =>
  have H := HC4.out
  clear HC4
  by_cases c12 : t304 = true
  ·subst c12
   have H1 : (if t301 < 128 then ((impl_Word_right.f a1_0 a1_1 t301).bind fun bt306 => (impl_Unpack.j0 k (!(bt306.1 == 0) || (!(bt306.2 == 0))) a1_0 a1_1 t298 t299 t300 t301 t302 t303)) else (impl_Unpack.j0 k false a1_0 a1_1 t298 t299 t300 t301 t302 t303)) = some (r1, r2, r3, r4, r5) := by rw [if_pos rfl] at H; exact H
   clear H
   have H := H1
   clear H1
   by_cases c13 : t301 < 128
   ·rw [if_pos c13] at H
    have c13b0 : decide (t301 < 128) = true := decide_eq_true c13
    clear c13
    (first | rw [c13b0] | (simp only [i64_w, i32_w]; rw [c13b0]) | rw [c13b1] | (simp only [c13b1]) | skip)
    replace H := Option.bind_eq_some_iff.mp H
    obtain ⟨⟨t306, t307⟩, A140, H⟩ := H
    replace H : (impl_Unpack.j0 k (!(t306 == 0) || (!(t307 == 0))) a1_0 a1_1 t298 t299 t300 t301 t302 t303) = some (r1, r2, r3, r4, r5) := H
    have A14 := zM A140
    clear A140
    have H' := zM H
    clear H
    have hnb15 := NB305_296.out
    have hnc15 := NB296_305.out
    have hnb16 := NB305_297.out
    have hnc16 := NB297_305.out
    have hcz17_0 : w8.cell? ⟨gb305, 0, none⟩ = some (.int .i64 0) := (blk_cell BK305.out 0).trans rfl
    have hcz17_1 : w8.cell? ⟨gb305, 1, none⟩ = some (.int .i64 0) := (blk_cell BK305.out 1).trans rfl
    have hcz17_2 : w8.cell? ⟨gb305, 2, none⟩ = some (.int .i64 0) := (blk_cell BK305.out 2).trans rfl
    have hcz17_3 : w8.cell? ⟨gb305, 3, none⟩ = some (.int .i64 0) := (blk_cell BK305.out 3).trans rfl
    have hcz17_4 : w8.cell? ⟨gb305, 4, none⟩ = some (.int .i64 0) := (blk_cell BK305.out 4).trans rfl
    have hcz17_5 : w8.cell? ⟨gb305, 5, none⟩ = some (.bool false) := (blk_cell BK305.out 5).trans rfl
    have hfz17_0 := blk_frozen BK305.out 0
    have hfz17_1 := blk_frozen BK305.out 1
    have hfz17_2 := blk_frozen BK305.out 2
    have hfz17_3 := blk_frozen BK305.out 3
    have hfz17_4 := blk_frozen BK305.out 4
    have hfz17_5 := blk_frozen BK305.out 5
    have hnb18 := NB296_297.out
    have hnc18 := NB297_296.out
    have hcz19_0 : w8.cell? ⟨gb296, 0, none⟩ = some (.int .u64 a1_0) := (blk_cell BK296.out 0).trans rfl
    have hcz19_1 : w8.cell? ⟨gb296, 1, none⟩ = some (.int .u64 a1_1) := (blk_cell BK296.out 1).trans rfl
    have hfz19_0 := blk_frozen BK296.out 0
    have hfz19_1 := blk_frozen BK296.out 1
    go_wp2_with (first | (go_at_call 66; (with_reducible refine (impl_Word_right.calls a1_0 a1_1 t301 t306 t307 _ A14.out).mono ?_); rintro e w20 ⟨rfl, hb⟩; have n0_ := zM (blk_below (g := gb296) (o := .cells #[.int .u64 a1_0, .int .u64 a1_1] 25 (0, 0)) (by (with_reducible repeat (first | apply zN | apply zD | apply zA)); refine blk_far ?_ NB296_305.out _; (with_reducible repeat (first | apply zN | apply zD | apply zA)); refine blk_far ?_ NB296_305.out _; (with_reducible repeat (first | apply zN | apply zD | apply zA)); refine blk_far ?_ NB296_305.out _; (with_reducible repeat (first | apply zN | apply zD | apply zA)); refine blk_far ?_ NB296_305.out _; (with_reducible repeat (first | apply zN | apply zD | apply zA)); refine blk_far ?_ NB296_305.out _; (with_reducible repeat (first | apply zN | apply zD | apply zA)); refine blk_far ?_ NB296_305.out _; (with_reducible repeat (first | apply zN | apply zD | apply zA)); exact BK296.out) hb); have n1_ := zM (blk_below (g := gb297) (o := .cells #[.int .i64 0, .bool false, .int .u64 0, .int .u64 0, .int .i64 0] 27 (0, 0)) (by (with_reducible repeat (first | apply zN | apply zD | apply zA)); refine blk_far ?_ NB297_305.out _; (with_reducible repeat (first | apply zN | apply zD | apply zA)); refine blk_far ?_ NB297_305.out _; (with_reducible repeat (first | apply zN | apply zD | apply zA)); refine blk_far ?_ NB297_305.out _; (with_reducible repeat (first | apply zN | apply zD | apply zA)); refine blk_far ?_ NB297_305.out _; (with_reducible repeat (first | apply zN | apply zD | apply zA)); refine blk_far ?_ NB297_305.out _; (with_reducible repeat (first | apply zN | apply zD | apply zA)); refine blk_far ?_ NB297_305.out _; (with_reducible repeat (first | apply zN | apply zD | apply zA)); exact BK297.out) hb); have n2_ := zM (blk_below (g := gb305) (o := .cells #[.int .i64 t298, .int .i64 t299, .int .i64 t300, .int .i64 t301, .int .i64 t302, .bool t303] 91 (0, 0)) (by (with_reducible repeat (first | apply zN | apply zD | apply zA)); refine blk_put (cs := #[.int .i64 t298, .int .i64 t299, .int .i64 t300, .int .i64 t301, .int .i64 t302, .bool false]) ?_ 5 _ rfl; (with_reducible repeat (first | apply zN | apply zD | apply zA)); refine blk_put (cs := #[.int .i64 t298, .int .i64 t299, .int .i64 t300, .int .i64 t301, .int .i64 0, .bool false]) ?_ 4 _ rfl; (with_reducible repeat (first | apply zN | apply zD | apply zA)); refine blk_put (cs := #[.int .i64 t298, .int .i64 t299, .int .i64 t300, .int .i64 0, .int .i64 0, .bool false]) ?_ 3 _ rfl; (with_reducible repeat (first | apply zN | apply zD | apply zA)); refine blk_put (cs := #[.int .i64 t298, .int .i64 t299, .int .i64 0, .int .i64 0, .int .i64 0, .bool false]) ?_ 2 _ rfl; (with_reducible repeat (first | apply zN | apply zD | apply zA)); refine blk_put (cs := #[.int .i64 t298, .int .i64 0, .int .i64 0, .int .i64 0, .int .i64 0, .bool false]) ?_ 1 _ rfl; (with_reducible repeat (first | apply zN | apply zD | apply zA)); refine blk_put (cs := #[.int .i64 0, .int .i64 0, .int .i64 0, .int .i64 0, .int .i64 0, .bool false]) ?_ 0 _ rfl; (with_reducible repeat (first | apply zN | apply zD | apply zA)); exact BK305.out) hb); have n3_ := zM (below_step (by repeat (first | (with_reducible first | exact HB.out | apply yA | apply yN | apply yD | refine below_set ?_ GE296.out | refine below_set ?_ GE297.out | refine below_set ?_ GE305.out) | exact HB.out)) hb); clear BK296; clear BK297; clear BK305; clear HB; have BK296 := n0_; have BK297 := n1_; have BK305 := n2_; have HB := n3_; clear n0_ n1_ n2_ n3_; (try clear hb); (try clear hb2); (try clear hk); (try clear hi)))
    go_meet
    case rel => exact ⟨_, ((!(t306 == 0) || (!(t307 == 0)))), (by first | rfl | (simp; done) | (simp [*]; done)), H', ⟨by first | omega | exact Nat.le_refl _⟩, ⟨by (with_reducible repeat (first | apply zN | apply zD | apply zA)); exact BK296.out⟩, ⟨by (with_reducible repeat (first | apply zN | apply zD | apply zA)); exact BK297.out⟩, ⟨by (with_reducible repeat (first | apply zN | apply zD | apply zA)); exact BK305.out⟩, ⟨by repeat (first | (with_reducible first | exact HB.out | apply yA | apply yN | apply yD | refine below_set ?_ GE296.out | refine below_set ?_ GE297.out | refine below_set ?_ GE305.out) | exact HB.out)⟩⟩
   ·rw [if_neg c13] at H
    have c13b0 : decide (t301 < 128) = false := decide_eq_false c13
    clear c13
    (first | rw [c13b0] | (simp only [i64_w, i32_w]; rw [c13b0]) | rw [c13b1] | (simp only [c13b1]) | skip)
    have H' := zM H
    clear H
    have hnb21 := NB305_296.out
    have hnc21 := NB296_305.out
    have hnb22 := NB305_297.out
    have hnc22 := NB297_305.out
    have hcz23_0 : w8.cell? ⟨gb305, 0, none⟩ = some (.int .i64 0) := (blk_cell BK305.out 0).trans rfl
    have hcz23_1 : w8.cell? ⟨gb305, 1, none⟩ = some (.int .i64 0) := (blk_cell BK305.out 1).trans rfl
    have hcz23_2 : w8.cell? ⟨gb305, 2, none⟩ = some (.int .i64 0) := (blk_cell BK305.out 2).trans rfl
    have hcz23_3 : w8.cell? ⟨gb305, 3, none⟩ = some (.int .i64 0) := (blk_cell BK305.out 3).trans rfl
    have hcz23_4 : w8.cell? ⟨gb305, 4, none⟩ = some (.int .i64 0) := (blk_cell BK305.out 4).trans rfl
    have hcz23_5 : w8.cell? ⟨gb305, 5, none⟩ = some (.bool false) := (blk_cell BK305.out 5).trans rfl
    have hfz23_0 := blk_frozen BK305.out 0
    have hfz23_1 := blk_frozen BK305.out 1
    have hfz23_2 := blk_frozen BK305.out 2
    have hfz23_3 := blk_frozen BK305.out 3
    have hfz23_4 := blk_frozen BK305.out 4
    have hfz23_5 := blk_frozen BK305.out 5
    go_wp2
    go_meet
    case rel => exact ⟨_, (false), (by first | rfl | (simp; done) | (simp [*]; done)), H', ⟨by first | omega | exact Nat.le_refl _⟩, ⟨by (with_reducible repeat (first | apply zN | apply zD | apply zA)); refine blk_far ?_ NB296_305.out _; (with_reducible repeat (first | apply zN | apply zD | apply zA)); refine blk_far ?_ NB296_305.out _; (with_reducible repeat (first | apply zN | apply zD | apply zA)); refine blk_far ?_ NB296_305.out _; (with_reducible repeat (first | apply zN | apply zD | apply zA)); refine blk_far ?_ NB296_305.out _; (with_reducible repeat (first | apply zN | apply zD | apply zA)); refine blk_far ?_ NB296_305.out _; (with_reducible repeat (first | apply zN | apply zD | apply zA)); refine blk_far ?_ NB296_305.out _; (with_reducible repeat (first | apply zN | apply zD | apply zA)); exact BK296.out⟩, ⟨by (with_reducible repeat (first | apply zN | apply zD | apply zA)); refine blk_far ?_ NB297_305.out _; (with_reducible repeat (first | apply zN | apply zD | apply zA)); refine blk_far ?_ NB297_305.out _; (with_reducible repeat (first | apply zN | apply zD | apply zA)); refine blk_far ?_ NB297_305.out _; (with_reducible repeat (first | apply zN | apply zD | apply zA)); refine blk_far ?_ NB297_305.out _; (with_reducible repeat (first | apply zN | apply zD | apply zA)); refine blk_far ?_ NB297_305.out _; (with_reducible repeat (first | apply zN | apply zD | apply zA)); refine blk_far ?_ NB297_305.out _; (with_reducible repeat (first | apply zN | apply zD | apply zA)); exact BK297.out⟩, ⟨by (with_reducible repeat (first | apply zN | apply zD | apply zA)); refine blk_put (cs := #[.int .i64 t298, .int .i64 t299, .int .i64 t300, .int .i64 t301, .int .i64 t302, .bool false]) ?_ 5 _ rfl; (with_reducible repeat (first | apply zN | apply zD | apply zA)); refine blk_put (cs := #[.int .i64 t298, .int .i64 t299, .int .i64 t300, .int .i64 t301, .int .i64 0, .bool false]) ?_ 4 _ rfl; (with_reducible repeat (first | apply zN | apply zD | apply zA)); refine blk_put (cs := #[.int .i64 t298, .int .i64 t299, .int .i64 t300, .int .i64 0, .int .i64 0, .bool false]) ?_ 3 _ rfl; (with_reducible repeat (first | apply zN | apply zD | apply zA)); refine blk_put (cs := #[.int .i64 t298, .int .i64 t299, .int .i64 0, .int .i64 0, .int .i64 0, .bool false]) ?_ 2 _ rfl; (with_reducible repeat (first | apply zN | apply zD | apply zA)); refine blk_put (cs := #[.int .i64 t298, .int .i64 0, .int .i64 0, .int .i64 0, .int .i64 0, .bool false]) ?_ 1 _ rfl; (with_reducible repeat (first | apply zN | apply zD | apply zA)); refine blk_put (cs := #[.int .i64 0, .int .i64 0, .int .i64 0, .int .i64 0, .int .i64 0, .bool false]) ?_ 0 _ rfl; (with_reducible repeat (first | apply zN | apply zD | apply zA)); exact BK305.out⟩, ⟨by repeat (first | (with_reducible first | exact HB.out | apply yA | apply yN | apply yD | refine below_set ?_ GE296.out | refine below_set ?_ GE297.out | refine below_set ?_ GE305.out) | exact HB.out)⟩⟩
  ·replace c12 := Bool.eq_false_iff.mpr c12
   subst c12
   have H1 : (impl_Unpack.j0 k true a1_0 a1_1 t298 t299 t300 t301 t302 t303) = some (r1, r2, r3, r4, r5) := by rw [if_neg (show ¬ (false = true) by decide)] at H; exact H
   clear H
   have H := H1
   clear H1
   have H' := zM H
   clear H
   go_wp2
   go_meet
   case rel => exact ⟨_, (true), (by first | rfl | (simp; done) | (simp [*]; done)), H', ⟨by first | omega | exact Nat.le_refl _⟩, ⟨by (with_reducible repeat (first | apply zN | apply zD | apply zA)); refine blk_far ?_ NB296_305.out _; (with_reducible repeat (first | apply zN | apply zD | apply zA)); refine blk_far ?_ NB296_305.out _; (with_reducible repeat (first | apply zN | apply zD | apply zA)); refine blk_far ?_ NB296_305.out _; (with_reducible repeat (first | apply zN | apply zD | apply zA)); refine blk_far ?_ NB296_305.out _; (with_reducible repeat (first | apply zN | apply zD | apply zA)); refine blk_far ?_ NB296_305.out _; (with_reducible repeat (first | apply zN | apply zD | apply zA)); refine blk_far ?_ NB296_305.out _; (with_reducible repeat (first | apply zN | apply zD | apply zA)); exact BK296.out⟩, ⟨by (with_reducible repeat (first | apply zN | apply zD | apply zA)); refine blk_far ?_ NB297_305.out _; (with_reducible repeat (first | apply zN | apply zD | apply zA)); refine blk_far ?_ NB297_305.out _; (with_reducible repeat (first | apply zN | apply zD | apply zA)); refine blk_far ?_ NB297_305.out _; (with_reducible repeat (first | apply zN | apply zD | apply zA)); refine blk_far ?_ NB297_305.out _; (with_reducible repeat (first | apply zN | apply zD | apply zA)); refine blk_far ?_ NB297_305.out _; (with_reducible repeat (first | apply zN | apply zD | apply zA)); refine blk_far ?_ NB297_305.out _; (with_reducible repeat (first | apply zN | apply zD | apply zA)); exact BK297.out⟩, ⟨by (with_reducible repeat (first | apply zN | apply zD | apply zA)); refine blk_put (cs := #[.int .i64 t298, .int .i64 t299, .int .i64 t300, .int .i64 t301, .int .i64 t302, .bool false]) ?_ 5 _ rfl; (with_reducible repeat (first | apply zN | apply zD | apply zA)); refine blk_put (cs := #[.int .i64 t298, .int .i64 t299, .int .i64 t300, .int .i64 t301, .int .i64 0, .bool false]) ?_ 4 _ rfl; (with_reducible repeat (first | apply zN | apply zD | apply zA)); refine blk_put (cs := #[.int .i64 t298, .int .i64 t299, .int .i64 t300, .int .i64 0, .int .i64 0, .bool false]) ?_ 3 _ rfl; (with_reducible repeat (first | apply zN | apply zD | apply zA)); refine blk_put (cs := #[.int .i64 t298, .int .i64 t299, .int .i64 0, .int .i64 0, .int .i64 0, .bool false]) ?_ 2 _ rfl; (with_reducible repeat (first | apply zN | apply zD | apply zA)); refine blk_put (cs := #[.int .i64 t298, .int .i64 0, .int .i64 0, .int .i64 0, .int .i64 0, .bool false]) ?_ 1 _ rfl; (with_reducible repeat (first | apply zN | apply zD | apply zA)); refine blk_put (cs := #[.int .i64 0, .int .i64 0, .int .i64 0, .int .i64 0, .int .i64 0, .bool false]) ?_ 0 _ rfl; (with_reducible repeat (first | apply zN | apply zD | apply zA)); exact BK305.out⟩, ⟨by repeat (first | (with_reducible first | exact HB.out | apply yA | apply yN | apply yD | refine below_set ?_ GE296.out | refine below_set ?_ GE297.out | refine below_set ?_ GE305.out) | exact HB.out)⟩⟩
 case rest =>
  clear HC4
  try clear c1; try clear c2; try clear p2; try clear c6; try clear c9; try clear c10; try clear c12; try clear c13; try clear c13b0; try clear c13b1; try clear c15; try clear c16; try clear c17; try clear c18; try clear c21; try clear c22; try clear hcz11_0; try clear hcz11_1; try clear hcz11_2; try clear hcz11_3; try clear hcz11_4; try clear hcz11_5; try clear hcz17_0; try clear hcz17_1; try clear hcz17_2; try clear hcz17_3; try clear hcz17_4; try clear hcz17_5; try clear hcz19_0; try clear hcz19_1; try clear hcz23_0; try clear hcz23_1; try clear hcz23_2; try clear hcz23_3; try clear hcz23_4; try clear hcz23_5; try clear hfz11_0; try clear hfz11_1; try clear hfz11_2; try clear hfz11_3; try clear hfz11_4; try clear hfz11_5; try clear hfz17_0; try clear hfz17_1; try clear hfz17_2; try clear hfz17_3; try clear hfz17_4; try clear hfz17_5; try clear hfz19_0; try clear hfz19_1; try clear hfz23_0; try clear hfz23_1; try clear hfz23_2; try clear hfz23_3; try clear hfz23_4; try clear hfz23_5
  obtain ⟨kq, x34_3, rfl, HA, HJ3, BK296, BK297, BK305, HB⟩ := hcut
  cases kq with
  | zero => exact absurd HA.out (by simp [impl_Unpack.j0])
  | succ kj3 =>
   have H := HA.out
   clear HA
   simp only [impl_Unpack.j0] at H
   by_cases c24 : x34_3 = true
   ·subst c24
    have H1 : (some (0, false, 0, 0, 0)) = some (r1, r2, r3, r4, r5) := by rw [if_pos rfl] at H; exact H
    clear H
    have H := H1
    clear H1
    simp only [Option.some.injEq, Prod.mk.injEq] at H
    obtain ⟨rfl, rfl, rfl, rfl, rfl⟩ := H
    have hnb25 := NB297_296.out
    have hnc25 := NB296_297.out
    have hnb26 := NB297_305.out
    have hnc26 := NB305_297.out
    have hcz27_0 : wc.cell? ⟨gb297, 0, none⟩ = some (.int .i64 0) := (blk_cell BK297.out 0).trans rfl
    have hcz27_1 : wc.cell? ⟨gb297, 1, none⟩ = some (.bool false) := (blk_cell BK297.out 1).trans rfl
    have hcz27_2 : wc.cell? ⟨gb297, 2, none⟩ = some (.int .u64 0) := (blk_cell BK297.out 2).trans rfl
    have hcz27_3 : wc.cell? ⟨gb297, 3, none⟩ = some (.int .u64 0) := (blk_cell BK297.out 3).trans rfl
    have hcz27_4 : wc.cell? ⟨gb297, 4, none⟩ = some (.int .i64 0) := (blk_cell BK297.out 4).trans rfl
    have hfz27_0 := blk_frozen BK297.out 0
    have hfz27_1 := blk_frozen BK297.out 1
    have hfz27_2 := blk_frozen BK297.out 2
    have hfz27_3 := blk_frozen BK297.out 3
    have hfz27_4 := blk_frozen BK297.out 4
    go_wp2
    refine bodyPost_ret (results_cell_row rfl _ _ gb297 27 #[.int .i64 0, .bool false, .int .u64 0, .int .u64 0, .int .i64 0] (0, 0) _ rfl (by (with_reducible repeat (first | apply zN | apply zD | apply zA)); refine blk_put (cs := #[.int .i64 0, .bool false, .int .u64 0, .int .u64 0, .int .i64 0]) ?_ 4 _ rfl; (with_reducible repeat (first | apply zN | apply zD | apply zA)); refine blk_put (cs := #[.int .i64 0, .bool false, .int .u64 0, .int .u64 0, .int .i64 0]) ?_ 3 _ rfl; (with_reducible repeat (first | apply zN | apply zD | apply zA)); refine blk_put (cs := #[.int .i64 0, .bool false, .int .u64 0, .int .u64 0, .int .i64 0]) ?_ 2 _ rfl; (with_reducible repeat (first | apply zN | apply zD | apply zA)); refine blk_put (cs := #[.int .i64 0, .bool false, .int .u64 0, .int .u64 0, .int .i64 0]) ?_ 1 _ rfl; (with_reducible repeat (first | apply zN | apply zD | apply zA)); refine blk_put (cs := #[.int .i64 0, .bool false, .int .u64 0, .int .u64 0, .int .i64 0]) ?_ 0 _ rfl; (with_reducible repeat (first | apply zN | apply zD | apply zA)); exact BK297.out) Tryd.underlying27 rfl (by kernel_rfl)) rfl ?_
    exact ⟨by first | rfl | (simp [errW_none, errW_some] <;> rfl) | (simp [*, errW_none, errW_some] <;> rfl), by repeat (first | (with_reducible first | exact HB.out | apply yA | apply yN | apply yD | refine below_set ?_ GE296.out | refine below_set ?_ GE297.out | refine below_set ?_ GE305.out) | exact HB.out)⟩
   ·replace c24 := Bool.eq_false_iff.mpr c24
    subst c24
    have H1 : ((impl_layout_fracBits.f t298 t299 t300 t301 t302 t303).bind fun t308 => ((impl_Word_low.f a1_0 a1_1 t308).bind fun bt309 => ((impl_Word_right.f a1_0 a1_1 t308).bind fun bt312 => ((impl_Word_low.f bt312.1 bt312.2 t302).bind fun bt314 => ((impl_Word_right.f a1_0 a1_1 (wrap64 (t301 - 1))).bind fun bt316 => (if t303 = true then ((impl_Word_right.f bt309.1 bt309.2 (wrap64 (t298 - 1))).bind fun bt319 => (if ((!(bt319.1 == 0) || (!(bt319.2 == 0))) != ((wrap64 (bt314.2)) != 0)) = true then (some (0, false, 0, 0, 0)) else ((impl_Word_low.f bt309.1 bt309.2 (wrap64 (t298 - 1))).bind fun bt321 => (impl_Unpack.j1 kj3 (wrap64 (bt314.2)) (!(bt316.1 == 0) || (!(bt316.2 == 0))) t298 t299 t300 t301 t302 t303 bt309.1 bt309.2 bt321.1 bt321.2)))) else (impl_Unpack.j1 kj3 (wrap64 (bt314.2)) (!(bt316.1 == 0) || (!(bt316.2 == 0))) t298 t299 t300 t301 t302 t303 bt309.1 bt309.2 bt309.1 bt309.2))))))) = some (r1, r2, r3, r4, r5) := by rw [if_neg (show ¬ (false = true) by decide)] at H; exact H
    clear H
    have H := H1
    clear H1
    replace H := Option.bind_eq_some_iff.mp H
    obtain ⟨t308, A280, H⟩ := H
    replace H : ((impl_Word_low.f a1_0 a1_1 t308).bind fun bt309 => ((impl_Word_right.f a1_0 a1_1 t308).bind fun bt312 => ((impl_Word_low.f bt312.1 bt312.2 t302).bind fun bt314 => ((impl_Word_right.f a1_0 a1_1 (wrap64 (t301 - 1))).bind fun bt316 => (if t303 = true then ((impl_Word_right.f bt309.1 bt309.2 (wrap64 (t298 - 1))).bind fun bt319 => (if ((!(bt319.1 == 0) || (!(bt319.2 == 0))) != ((wrap64 (bt314.2)) != 0)) = true then (some (0, false, 0, 0, 0)) else ((impl_Word_low.f bt309.1 bt309.2 (wrap64 (t298 - 1))).bind fun bt321 => (impl_Unpack.j1 kj3 (wrap64 (bt314.2)) (!(bt316.1 == 0) || (!(bt316.2 == 0))) t298 t299 t300 t301 t302 t303 bt309.1 bt309.2 bt321.1 bt321.2)))) else (impl_Unpack.j1 kj3 (wrap64 (bt314.2)) (!(bt316.1 == 0) || (!(bt316.2 == 0))) t298 t299 t300 t301 t302 t303 bt309.1 bt309.2 bt309.1 bt309.2)))))) = some (r1, r2, r3, r4, r5) := H
    have A28 := zM A280
    clear A280
    replace H := Option.bind_eq_some_iff.mp H
    obtain ⟨⟨t309, t310⟩, A290, H⟩ := H
    replace H : ((impl_Word_right.f a1_0 a1_1 t308).bind fun bt312 => ((impl_Word_low.f bt312.1 bt312.2 t302).bind fun bt314 => ((impl_Word_right.f a1_0 a1_1 (wrap64 (t301 - 1))).bind fun bt316 => (if t303 = true then ((impl_Word_right.f t309 t310 (wrap64 (t298 - 1))).bind fun bt319 => (if ((!(bt319.1 == 0) || (!(bt319.2 == 0))) != ((wrap64 (bt314.2)) != 0)) = true then (some (0, false, 0, 0, 0)) else ((impl_Word_low.f t309 t310 (wrap64 (t298 - 1))).bind fun bt321 => (impl_Unpack.j1 kj3 (wrap64 (bt314.2)) (!(bt316.1 == 0) || (!(bt316.2 == 0))) t298 t299 t300 t301 t302 t303 t309 t310 bt321.1 bt321.2)))) else (impl_Unpack.j1 kj3 (wrap64 (bt314.2)) (!(bt316.1 == 0) || (!(bt316.2 == 0))) t298 t299 t300 t301 t302 t303 t309 t310 t309 t310))))) = some (r1, r2, r3, r4, r5) := H
    have A29 := zM A290
    clear A290
    replace H := Option.bind_eq_some_iff.mp H
    obtain ⟨⟨t312, t313⟩, A300, H⟩ := H
    replace H : ((impl_Word_low.f t312 t313 t302).bind fun bt314 => ((impl_Word_right.f a1_0 a1_1 (wrap64 (t301 - 1))).bind fun bt316 => (if t303 = true then ((impl_Word_right.f t309 t310 (wrap64 (t298 - 1))).bind fun bt319 => (if ((!(bt319.1 == 0) || (!(bt319.2 == 0))) != ((wrap64 (bt314.2)) != 0)) = true then (some (0, false, 0, 0, 0)) else ((impl_Word_low.f t309 t310 (wrap64 (t298 - 1))).bind fun bt321 => (impl_Unpack.j1 kj3 (wrap64 (bt314.2)) (!(bt316.1 == 0) || (!(bt316.2 == 0))) t298 t299 t300 t301 t302 t303 t309 t310 bt321.1 bt321.2)))) else (impl_Unpack.j1 kj3 (wrap64 (bt314.2)) (!(bt316.1 == 0) || (!(bt316.2 == 0))) t298 t299 t300 t301 t302 t303 t309 t310 t309 t310)))) = some (r1, r2, r3, r4, r5) := H
    have A30 := zM A300
    clear A300
    replace H := Option.bind_eq_some_iff.mp H
    obtain ⟨⟨t314, t315⟩, A310, H⟩ := H
    replace H : ((impl_Word_right.f a1_0 a1_1 (wrap64 (t301 - 1))).bind fun bt316 => (if t303 = true then ((impl_Word_right.f t309 t310 (wrap64 (t298 - 1))).bind fun bt319 => (if ((!(bt319.1 == 0) || (!(bt319.2 == 0))) != ((wrap64 (t315)) != 0)) = true then (some (0, false, 0, 0, 0)) else ((impl_Word_low.f t309 t310 (wrap64 (t298 - 1))).bind fun bt321 => (impl_Unpack.j1 kj3 (wrap64 (t315)) (!(bt316.1 == 0) || (!(bt316.2 == 0))) t298 t299 t300 t301 t302 t303 t309 t310 bt321.1 bt321.2)))) else (impl_Unpack.j1 kj3 (wrap64 (t315)) (!(bt316.1 == 0) || (!(bt316.2 == 0))) t298 t299 t300 t301 t302 t303 t309 t310 t309 t310))) = some (r1, r2, r3, r4, r5) := H
    have A31 := zM A310
    clear A310
    replace H := Option.bind_eq_some_iff.mp H
    obtain ⟨⟨t316, t317⟩, A320, H⟩ := H
    replace H : (if t303 = true then ((impl_Word_right.f t309 t310 (wrap64 (t298 - 1))).bind fun bt319 => (if ((!(bt319.1 == 0) || (!(bt319.2 == 0))) != ((wrap64 (t315)) != 0)) = true then (some (0, false, 0, 0, 0)) else ((impl_Word_low.f t309 t310 (wrap64 (t298 - 1))).bind fun bt321 => (impl_Unpack.j1 kj3 (wrap64 (t315)) (!(t316 == 0) || (!(t317 == 0))) t298 t299 t300 t301 t302 t303 t309 t310 bt321.1 bt321.2)))) else (impl_Unpack.j1 kj3 (wrap64 (t315)) (!(t316 == 0) || (!(t317 == 0))) t298 t299 t300 t301 t302 t303 t309 t310 t309 t310)) = some (r1, r2, r3, r4, r5) := H
    have A32 := zM A320
    clear A320
    have HC33 := zM H
    clear H
    have hnb34 := NB305_296.out
    have hnc34 := NB296_305.out
    have hnb35 := NB305_297.out
    have hnc35 := NB297_305.out
    have hcz36_0 : wc.cell? ⟨gb305, 0, none⟩ = some (.int .i64 t298) := (blk_cell BK305.out 0).trans rfl
    have hcz36_1 : wc.cell? ⟨gb305, 1, none⟩ = some (.int .i64 t299) := (blk_cell BK305.out 1).trans rfl
    have hcz36_2 : wc.cell? ⟨gb305, 2, none⟩ = some (.int .i64 t300) := (blk_cell BK305.out 2).trans rfl
    have hcz36_3 : wc.cell? ⟨gb305, 3, none⟩ = some (.int .i64 t301) := (blk_cell BK305.out 3).trans rfl
    have hcz36_4 : wc.cell? ⟨gb305, 4, none⟩ = some (.int .i64 t302) := (blk_cell BK305.out 4).trans rfl
    have hcz36_5 : wc.cell? ⟨gb305, 5, none⟩ = some (.bool t303) := (blk_cell BK305.out 5).trans rfl
    have hfz36_0 := blk_frozen BK305.out 0
    have hfz36_1 := blk_frozen BK305.out 1
    have hfz36_2 := blk_frozen BK305.out 2
    have hfz36_3 := blk_frozen BK305.out 3
    have hfz36_4 := blk_frozen BK305.out 4
    have hfz36_5 := blk_frozen BK305.out 5
    try go_wp2_with (first | ((with_reducible refine gate_callee (f := 67) rfl ?_); refine goesL_ (some 37) rfl rfl Tryd.func67 (by kernel_rfl) rfl #[.agg #[.int .i64 t298, .int .i64 t299, .int .i64 t300, .int .i64 t301, .int .i64 t302, .bool t303]] rfl (by (try simp only [List.map_toArray, List.map_cons, List.map_nil]); first | done | rfl | (simp only [List.length_drop, List.length_take]; rfl)) ?_; (with_reducible refine (impl_layout_fracBits.calls t298 t299 t300 t301 t302 t303 t308 _ A28.out).mono ?_); rintro e w37 ⟨rfl, hb⟩; refine ⟨_, rfl, ?_⟩; have n0_ := zM (blk_below (g := gb296) (o := .cells #[.int .u64 a1_0, .int .u64 a1_1] 25 (0, 0)) (by (with_reducible repeat (first | apply zN | apply zD | apply zA)); exact BK296.out) hb); have n1_ := zM (blk_below (g := gb297) (o := .cells #[.int .i64 0, .bool false, .int .u64 0, .int .u64 0, .int .i64 0] 27 (0, 0)) (by (with_reducible repeat (first | apply zN | apply zD | apply zA)); exact BK297.out) hb); have n2_ := zM (blk_below (g := gb305) (o := .cells #[.int .i64 t298, .int .i64 t299, .int .i64 t300, .int .i64 t301, .int .i64 t302, .bool t303] 91 (0, 0)) (by (with_reducible repeat (first | apply zN | apply zD | apply zA)); exact BK305.out) hb); have n3_ := zM (below_step (by repeat (first | (with_reducible first | exact HB.out | apply yA | apply yN | apply yD | refine below_set ?_ GE296.out | refine below_set ?_ GE297.out | refine below_set ?_ GE305.out) | exact HB.out)) hb); clear BK296; clear BK297; clear BK305; clear HB; have BK296 := n0_; have BK297 := n1_; have BK305 := n2_; have HB := n3_; clear n0_ n1_ n2_ n3_; (try clear hb); (try clear hb2); (try clear hk); (try clear hi); have hnb38 := NB296_297.out; have hnc38 := NB297_296.out; have hcz39_0 : w37.cell? ⟨gb296, 0, none⟩ = some (.int .u64 a1_0) := (blk_cell BK296.out 0).trans rfl; have hcz39_1 : w37.cell? ⟨gb296, 1, none⟩ = some (.int .u64 a1_1) := (blk_cell BK296.out 1).trans rfl; have hfz39_0 := blk_frozen BK296.out 0; have hfz39_1 := blk_frozen BK296.out 1) | ((with_reducible refine gate_callee (f := 68) rfl ?_); refine goesL_ (some 40) rfl rfl Tryd.func68 (by kernel_rfl) rfl #[.agg #[.int .u64 a1_0, .int .u64 a1_1], .int .i64 t308] rfl (by (try simp only [List.map_toArray, List.map_cons, List.map_nil]); first | done | rfl | (simp only [List.length_drop, List.length_take]; rfl)) ?_; (with_reducible refine (impl_Word_low.calls a1_0 a1_1 t308 t309 t310 _ A29.out).mono ?_); rintro e w40 ⟨rfl, hb⟩; refine ⟨_, rfl, ?_⟩; have n0_ := zM (blk_below (g := gb296) (o := .cells #[.int .u64 a1_0, .int .u64 a1_1] 25 (0, 0)) (by (with_reducible repeat (first | apply zN | apply zD | apply zA)); exact BK296.out) hb); have n1_ := zM (blk_below (g := gb297) (o := .cells #[.int .i64 0, .bool false, .int .u64 0, .int .u64 0, .int .i64 0] 27 (0, 0)) (by (with_reducible repeat (first | apply zN | apply zD | apply zA)); exact BK297.out) hb); have n2_ := zM (blk_below (g := gb305) (o := .cells #[.int .i64 t298, .int .i64 t299, .int .i64 t300, .int .i64 t301, .int .i64 t302, .bool t303] 91 (0, 0)) (by (with_reducible repeat (first | apply zN | apply zD | apply zA)); exact BK305.out) hb); have n3_ := zM (below_step (by repeat (first | (with_reducible first | exact HB.out | apply yA | apply yN | apply yD | refine below_set ?_ GE296.out | refine below_set ?_ GE297.out | refine below_set ?_ GE305.out) | exact HB.out)) hb); clear BK296; clear BK297; clear BK305; clear HB; have BK296 := n0_; have BK297 := n1_; have BK305 := n2_; have HB := n3_; clear n0_ n1_ n2_ n3_; (try clear hb); (try clear hb2); (try clear hk); (try clear hi)) | ((with_reducible refine gate_dst (N := 8) rfl ?_); refine box_event ?hg (N := 8) ?hd (cs := #[.int .u64 0, .int .u64 0]) (t := 25) ?hr ?_; (case hd => rfl); (case hg => rfl); (case hr => first | (go_simp; done) | (go_simp; rfl)); intro gb311 hg w41 hbox hb; have n0_ := zM (blk_below (g := gb296) (o := .cells #[.int .u64 a1_0, .int .u64 a1_1] 25 (0, 0)) (by (with_reducible repeat (first | apply zN | apply zD | apply zA)); exact BK296.out) hb); have n1_ := zM (blk_below (g := gb297) (o := .cells #[.int .i64 0, .bool false, .int .u64 0, .int .u64 0, .int .i64 0] 27 (0, 0)) (by (with_reducible repeat (first | apply zN | apply zD | apply zA)); exact BK297.out) hb); have n2_ := zM (blk_below (g := gb305) (o := .cells #[.int .i64 t298, .int .i64 t299, .int .i64 t300, .int .i64 t301, .int .i64 t302, .bool t303] 91 (0, 0)) (by (with_reducible repeat (first | apply zN | apply zD | apply zA)); exact BK305.out) hb); have n3_ := zM (below_step (by repeat (first | (with_reducible first | exact HB.out | apply yA | apply yN | apply yD | refine below_set ?_ GE296.out | refine below_set ?_ GE297.out | refine below_set ?_ GE305.out) | exact HB.out)) hb); have n4_ := zM (hbox); have n5_ := zM ((by rw [hg]; exact (below_size (by repeat (first | (with_reducible first | exact HB.out | apply yA | apply yN | apply yD | refine below_set ?_ GE296.out | refine below_set ?_ GE297.out | refine below_set ?_ GE305.out) | exact HB.out))) : w.heap.size ≤ gb311)); have n6_ := zM ((by rw [hg]; exact (below_size (by repeat (first | (with_reducible first | exact HB.out | apply yA | apply yN | apply yD | refine below_set ?_ GE296.out | refine below_set ?_ GE297.out | refine below_set ?_ GE305.out) | exact HB.out))) : w.heap.size ≤ gb311)); have n7_ := zM ((by rw [hg]; exact Nat.ne_of_lt (blk_lt (g := gb296) (o := .cells #[.int .u64 a1_0, .int .u64 a1_1] 25 (0, 0)) (by (with_reducible repeat (first | apply zN | apply zD | apply zA)); exact BK296.out)) : gb296 ≠ gb311)); have n8_ := zM ((by rw [hg]; exact Nat.ne_of_gt (blk_lt (g := gb296) (o := .cells #[.int .u64 a1_0, .int .u64 a1_1] 25 (0, 0)) (by (with_reducible repeat (first | apply zN | apply zD | apply zA)); exact BK296.out)) : gb311 ≠ gb296)); have n9_ := zM ((by rw [hg]; exact Nat.ne_of_lt (blk_lt (g := gb297) (o := .cells #[.int .i64 0, .bool false, .int .u64 0, .int .u64 0, .int .i64 0] 27 (0, 0)) (by (with_reducible repeat (first | apply zN | apply zD | apply zA)); exact BK297.out)) : gb297 ≠ gb311)); have n10_ := zM ((by rw [hg]; exact Nat.ne_of_gt (blk_lt (g := gb297) (o := .cells #[.int .i64 0, .bool false, .int .u64 0, .int .u64 0, .int .i64 0] 27 (0, 0)) (by (with_reducible repeat (first | apply zN | apply zD | apply zA)); exact BK297.out)) : gb311 ≠ gb297)); have n11_ := zM ((by rw [hg]; exact Nat.ne_of_lt (blk_lt (g := gb305) (o := .cells #[.int .i64 t298, .int .i64 t299, .int .i64 t300, .int .i64 t301, .int .i64 t302, .bool t303] 91 (0, 0)) (by (with_reducible repeat (first | apply zN | apply zD | apply zA)); exact BK305.out)) : gb305 ≠ gb311)); have n12_ := zM ((by rw [hg]; exact Nat.ne_of_gt (blk_lt (g := gb305) (o := .cells #[.int .i64 t298, .int .i64 t299, .int .i64 t300, .int .i64 t301, .int .i64 t302, .bool t303] 91 (0, 0)) (by (with_reducible repeat (first | apply zN | apply zD | apply zA)); exact BK305.out)) : gb311 ≠ gb305)); clear BK296; clear BK297; clear BK305; clear HB; have BK296 := n0_; have BK297 := n1_; have BK305 := n2_; have HB := n3_; have BK311 := n4_; have GW311 := n5_; have GE311 := n6_; have NB296_311 := n7_; have NB311_296 := n8_; have NB297_311 := n9_; have NB311_297 := n10_; have NB305_311 := n11_; have NB311_305 := n12_; clear n0_ n1_ n2_ n3_ n4_ n5_ n6_ n7_ n8_ n9_ n10_ n11_ n12_; clear hb hbox hg; have hnb42 := NB311_296.out; have hnc42 := NB296_311.out; have hnb43 := NB311_297.out; have hnc43 := NB297_311.out; have hnb44 := NB311_305.out; have hnc44 := NB305_311.out; have hcz45_0 : w41.cell? ⟨gb311, 0, none⟩ = some (.int .u64 0) := (blk_cell BK311.out 0).trans rfl; have hcz45_1 : w41.cell? ⟨gb311, 1, none⟩ = some (.int .u64 0) := (blk_cell BK311.out 1).trans rfl; have hfz45_0 := blk_frozen BK311.out 0; have hfz45_1 := blk_frozen BK311.out 1))
    have n0_ : Aside0 (((w41.setCell ⟨gb311, 0, none⟩ (.int .u64 t309)).setCell ⟨gb311, 1, none⟩ (.int .u64 t310)).heap[gb296]? = some (.cells #[.int .u64 a1_0, .int .u64 a1_1] 25 (0, 0))) := ⟨by (with_reducible repeat (first | apply zN | apply zD | apply zA)); refine blk_far ?_ NB296_311.out _; (with_reducible repeat (first | apply zN | apply zD | apply zA)); refine blk_far ?_ NB296_311.out _; (with_reducible repeat (first | apply zN | apply zD | apply zA)); exact BK296.out⟩
    have n1_ : Aside0 (((w41.setCell ⟨gb311, 0, none⟩ (.int .u64 t309)).setCell ⟨gb311, 1, none⟩ (.int .u64 t310)).heap[gb297]? = some (.cells #[.int .i64 0, .bool false, .int .u64 0, .int .u64 0, .int .i64 0] 27 (0, 0))) := ⟨by (with_reducible repeat (first | apply zN | apply zD | apply zA)); refine blk_far ?_ NB297_311.out _; (with_reducible repeat (first | apply zN | apply zD | apply zA)); refine blk_far ?_ NB297_311.out _; (with_reducible repeat (first | apply zN | apply zD | apply zA)); exact BK297.out⟩
    have n2_ : Aside0 (((w41.setCell ⟨gb311, 0, none⟩ (.int .u64 t309)).setCell ⟨gb311, 1, none⟩ (.int .u64 t310)).heap[gb305]? = some (.cells #[.int .i64 t298, .int .i64 t299, .int .i64 t300, .int .i64 t301, .int .i64 t302, .bool t303] 91 (0, 0))) := ⟨by (with_reducible repeat (first | apply zN | apply zD | apply zA)); refine blk_far ?_ NB305_311.out _; (with_reducible repeat (first | apply zN | apply zD | apply zA)); refine blk_far ?_ NB305_311.out _; (with_reducible repeat (first | apply zN | apply zD | apply zA)); exact BK305.out⟩
    have n3_ : Aside0 (((w41.setCell ⟨gb311, 0, none⟩ (.int .u64 t309)).setCell ⟨gb311, 1, none⟩ (.int .u64 t310)).heap[gb311]? = some (.cells #[.int .u64 t309, .int .u64 t310] 25 (0, 0))) := ⟨by (with_reducible repeat (first | apply zN | apply zD | apply zA)); refine blk_put (cs := #[.int .u64 t309, .int .u64 0]) ?_ 1 _ rfl; (with_reducible repeat (first | apply zN | apply zD | apply zA)); refine blk_put (cs := #[.int .u64 0, .int .u64 0]) ?_ 0 _ rfl; (with_reducible repeat (first | apply zN | apply zD | apply zA)); exact BK311.out⟩
    have n4_ : Aside0 (Below w.heap.size w ((w41.setCell ⟨gb311, 0, none⟩ (.int .u64 t309)).setCell ⟨gb311, 1, none⟩ (.int .u64 t310))) := ⟨by repeat (first | (with_reducible first | exact HB.out | apply yA | apply yN | apply yD | refine below_set ?_ GE296.out | refine below_set ?_ GE297.out | refine below_set ?_ GE305.out | refine below_set ?_ GE311.out) | exact HB.out)⟩
    (try clear BK296)
    (try clear BK297)
    (try clear BK305)
    (try clear BK311)
    (try clear HB)
    generalize ((w41.setCell ⟨gb311, 0, none⟩ (.int .u64 t309)).setCell ⟨gb311, 1, none⟩ (.int .u64 t310)) = w46 at n0_ n1_ n2_ n3_ n4_ ⊢
    have BK296 := n0_
    have BK297 := n1_
    have BK305 := n2_
    have BK311 := n3_
    have HB := n4_
    clear n0_ n1_ n2_ n3_ n4_
    have n0_ := zM (zD BK296.out)
    have n1_ := zM (zD BK297.out)
    have n2_ := zM (zD BK305.out)
    have n3_ := zM (zD BK311.out)
    have n4_ := zM (yD HB.out)
    clear BK296
    clear BK297
    clear BK305
    clear BK311
    clear HB
    have BK296 := n0_
    have BK297 := n1_
    have BK305 := n2_
    have BK311 := n3_
    have HB := n4_
    clear n0_ n1_ n2_ n3_ n4_
    refine start_ (n := 10) (S := fun w' => w'.cell? ⟨gb296, 0, none⟩ = some (.int .u64 a1_0) ∧ w'.cell? ⟨gb296, 1, none⟩ = some (.int .u64 a1_1) ∧ w'.cell? ⟨gb305, 0, none⟩ = some (.int .i64 t298) ∧ w'.cell? ⟨gb305, 1, none⟩ = some (.int .i64 t299) ∧ w'.cell? ⟨gb305, 2, none⟩ = some (.int .i64 t300) ∧ w'.cell? ⟨gb305, 3, none⟩ = some (.int .i64 t301) ∧ w'.cell? ⟨gb305, 4, none⟩ = some (.int .i64 t302) ∧ w'.cell? ⟨gb305, 5, none⟩ = some (.bool t303)) (ds := []) #[false, false, false, false, false, false, false, false, false, false] (by kernel_rfl) rfl rfl ⟨(blk_cell BK296.out 0).trans rfl, (blk_cell BK296.out 1).trans rfl, (blk_cell BK305.out 0).trans rfl, (blk_cell BK305.out 1).trans rfl, (blk_cell BK305.out 2).trans rfl, (blk_cell BK305.out 3).trans rfl, (blk_cell BK305.out 4).trans rfl, (blk_cell BK305.out 5).trans rfl⟩ (fun hHeld => ?_); refine with_tabW impl_Unpack.tab6 impl_Unpack.bits6 (fun HT_ HW_ => ?_)
    generalize w46.drew = w47 at BK296 BK297 BK305 BK311 HB hHeld ⊢
    refine pure_ (i := 1) (N := some 42) (v := ?_) (a' := ?_) #[false, true, false, false, false, false, false, false, false, false] rfl rfl (any_of HT_.out (by kernel_rfl)) (fun _ _ _ h => h) (Or.inl ⟨by rfl, ?_⟩) ?_ ?_
    rotate_left
    ·intro w'
     go_simp
     with_reducible rfl
    rotate_left
    ·simp only [Act.put, xT, xZ, xS, i64_w, i32_w]
     rfl
    refine pure_ (i := 3) (N := some 44) (v := ?_) (a' := ?_) #[false, true, false, true, false, false, false, false, false, false] rfl rfl (any_of HT_.out (by kernel_rfl)) (fun _ _ _ h => h) (Or.inl ⟨by rfl, ?_⟩) ?_ ?_
    rotate_left
    ·intro w'
     go_simp
     with_reducible rfl
    rotate_left
    ·simp only [Act.put, xT, xZ, xS, i64_w, i32_w]
     rfl
    refine pure_ (i := 4) (N := some 45) (v := ?_) (a' := ?_) #[false, true, false, true, true, false, false, false, false, false] rfl rfl (any_of HT_.out (by kernel_rfl)) (fun _ _ _ h => h) (Or.inl ⟨by rfl, ?_⟩) ?_ ?_
    rotate_left
    ·intro w'
     go_simp
     with_reducible rfl
    rotate_left
    ·simp only [Act.put, xT, xZ, xS, i64_w, i32_w]
     rfl
    refine take_ (i := 0) (N := some 41) (v := ?_) (a' := ?_) #[true, true, false, true, true, false, false, false, false, false] rfl rfl (take_ofW HT_.out HW_.out (by kernel_rfl)) (fun _ _ _ h => h) (Or.inl ⟨by rfl, ?_⟩) hHeld ?_ ?_
    rotate_left
    ·rintro w' ⟨s0, s1, s2, s3, s4, s5, s6, s7⟩
     go_simp
     with_reducible rfl
    rotate_left
    ·simp only [Act.put, xT, xZ, xS, i64_w, i32_w]
     rfl
    refine take_ (i := 5) (N := some 46) (v := ?_) (a' := ?_) #[true, true, false, true, true, true, false, false, false, false] rfl rfl (take_ofW HT_.out HW_.out (by kernel_rfl)) (fun _ _ _ h => h) (Or.inl ⟨by rfl, ?_⟩) hHeld ?_ ?_
    rotate_left
    ·rintro w' ⟨s0, s1, s2, s3, s4, s5, s6, s7⟩
     go_simp
     with_reducible rfl
    rotate_left
    ·simp only [Act.put, xT, xZ, xS, i64_w, i32_w]
     rfl
    refine one_ (i := 2) (N := some 43) #[true, true, true, true, true, true, false, false, false, false] rfl rfl (one_of HT_.out (by kernel_rfl)) (by decide) (fun K hK => ?_)
    refine goes_ Tryd.func66 (by kernel_rfl) rfl #[.agg #[.int .u64 a1_0, .int .u64 a1_1], .int .i64 t308] (by rfl) rfl rfl (by (try simp only [List.map_toArray, List.map_cons, List.map_nil]); first | done | rfl | (simp only [List.length_drop, List.length_take]; rfl)) ?_
    with_reducible refine (impl_Word_right.calls a1_0 a1_1 t308 t312 t313 _ A30.out).mono ?_
    rintro e w48 ⟨rfl, hb⟩
    refine ⟨_, rfl, ?_⟩
    have n0_ := zM (blk_below (g := gb296) (o := .cells #[.int .u64 a1_0, .int .u64 a1_1] 25 (0, 0)) (by (with_reducible repeat (first | apply zN | apply zD | apply zA)); exact BK296.out) hb)
    have n1_ := zM (blk_below (g := gb297) (o := .cells #[.int .i64 0, .bool false, .int .u64 0, .int .u64 0, .int .i64 0] 27 (0, 0)) (by (with_reducible repeat (first | apply zN | apply zD | apply zA)); exact BK297.out) hb)
    have n2_ := zM (blk_below (g := gb305) (o := .cells #[.int .i64 t298, .int .i64 t299, .int .i64 t300, .int .i64 t301, .int .i64 t302, .bool t303] 91 (0, 0)) (by (with_reducible repeat (first | apply zN | apply zD | apply zA)); exact BK305.out) hb)
    have n3_ := zM (blk_below (g := gb311) (o := .cells #[.int .u64 t309, .int .u64 t310] 25 (0, 0)) (by (with_reducible repeat (first | apply zN | apply zD | apply zA)); exact BK311.out) hb)
    have n4_ := zM (below_step (by repeat (first | (with_reducible first | exact HB.out | apply yA | apply yN | apply yD | refine below_set ?_ GE296.out | refine below_set ?_ GE297.out | refine below_set ?_ GE305.out | refine below_set ?_ GE311.out) | exact HB.out)) hb)
    clear BK296
    clear BK297
    clear BK305
    clear BK311
    clear HB
    have BK296 := n0_
    have BK297 := n1_
    have BK305 := n2_
    have BK311 := n3_
    have HB := n4_
    clear n0_ n1_ n2_ n3_ n4_
    (try clear hb)
    (try clear hb2)
    (try clear hk)
    (try clear hi)
    refine hK.out _ _ ⟨(blk_cell BK296.out 0).trans rfl, (blk_cell BK296.out 1).trans rfl, (blk_cell BK305.out 0).trans rfl, (blk_cell BK305.out 1).trans rfl, (blk_cell BK305.out 2).trans rfl, (blk_cell BK305.out 3).trans rfl, (blk_cell BK305.out 4).trans rfl, (blk_cell BK305.out 5).trans rfl⟩ (fun hHeld => ?_)
    clear hK K
    refine norm_ (a' := ?_) ?_ ?_
    rotate_left
    ·show Act.put _ (some 43) _ = _
     simp only [Act.put, xT, xZ, xS, i64_w, i32_w]
     rfl
    refine one_ (i := 6) (N := some 47) #[true, true, true, true, true, true, true, false, false, false] rfl rfl (one_of HT_.out (by kernel_rfl)) (by decide) (fun K hK => ?_)
    refine goes_ Tryd.func68 (by kernel_rfl) rfl #[.agg #[.int .u64 t312, .int .u64 t313], .int .i64 t302] (by rfl) rfl rfl (by (try simp only [List.map_toArray, List.map_cons, List.map_nil]); first | done | rfl | (simp only [List.length_drop, List.length_take]; rfl)) ?_
    with_reducible refine (impl_Word_low.calls t312 t313 t302 t314 t315 _ A31.out).mono ?_
    rintro e w49 ⟨rfl, hb⟩
    refine ⟨_, rfl, ?_⟩
    have n0_ := zM (blk_below (g := gb296) (o := .cells #[.int .u64 a1_0, .int .u64 a1_1] 25 (0, 0)) (by (with_reducible repeat (first | apply zN | apply zD | apply zA)); exact BK296.out) hb)
    have n1_ := zM (blk_below (g := gb297) (o := .cells #[.int .i64 0, .bool false, .int .u64 0, .int .u64 0, .int .i64 0] 27 (0, 0)) (by (with_reducible repeat (first | apply zN | apply zD | apply zA)); exact BK297.out) hb)
    have n2_ := zM (blk_below (g := gb305) (o := .cells #[.int .i64 t298, .int .i64 t299, .int .i64 t300, .int .i64 t301, .int .i64 t302, .bool t303] 91 (0, 0)) (by (with_reducible repeat (first | apply zN | apply zD | apply zA)); exact BK305.out) hb)
    have n3_ := zM (blk_below (g := gb311) (o := .cells #[.int .u64 t309, .int .u64 t310] 25 (0, 0)) (by (with_reducible repeat (first | apply zN | apply zD | apply zA)); exact BK311.out) hb)
    have n4_ := zM (below_step (by repeat (first | (with_reducible first | exact HB.out | apply yA | apply yN | apply yD | refine below_set ?_ GE296.out | refine below_set ?_ GE297.out | refine below_set ?_ GE305.out | refine below_set ?_ GE311.out) | exact HB.out)) hb)
    clear BK296
    clear BK297
    clear BK305
    clear BK311
    clear HB
    have BK296 := n0_
    have BK297 := n1_
    have BK305 := n2_
    have BK311 := n3_
    have HB := n4_
    clear n0_ n1_ n2_ n3_ n4_
    (try clear hb)
    (try clear hb2)
    (try clear hk)
    (try clear hi)
    refine hK.out _ _ ⟨(blk_cell BK296.out 0).trans rfl, (blk_cell BK296.out 1).trans rfl, (blk_cell BK305.out 0).trans rfl, (blk_cell BK305.out 1).trans rfl, (blk_cell BK305.out 2).trans rfl, (blk_cell BK305.out 3).trans rfl, (blk_cell BK305.out 4).trans rfl, (blk_cell BK305.out 5).trans rfl⟩ (fun hHeld => ?_)
    clear hK K
    refine norm_ (a' := ?_) ?_ ?_
    rotate_left
    ·show Act.put _ (some 47) _ = _
     simp only [Act.put, xT, xZ, xS, i64_w, i32_w]
     rfl
    refine pure_ (i := 7) (N := some 48) (v := ?_) (a' := ?_) #[true, true, true, true, true, true, true, true, false, false] rfl rfl (any_of HT_.out (by kernel_rfl)) (fun _ _ _ h => h) (Or.inl ⟨by rfl, ?_⟩) ?_ ?_
    rotate_left
    ·intro w'
     go_simp
     with_reducible rfl
    rotate_left
    ·simp only [Act.put, xT, xZ, xS, i64_w, i32_w]
     rfl
    refine pure_ (i := 8) (N := some 49) (v := ?_) (a' := ?_) #[true, true, true, true, true, true, true, true, true, false] rfl rfl (any_of HT_.out (by kernel_rfl)) (fun _ _ _ h => h) (Or.inl ⟨by rfl, ?_⟩) ?_ ?_
    rotate_left
    ·intro w'
     go_simp
     with_reducible rfl
    rotate_left
    ·simp only [Act.put, xT, xZ, xS, i64_w, i32_w]
     rfl
    refine pure_ (i := 9) (N := some 9) (v := ?_) (a' := ?_) #[true, true, true, true, true, true, true, true, true, true] rfl rfl (any_of HT_.out (by kernel_rfl)) (fun _ _ _ h => h) (Or.inl ⟨by rfl, ?_⟩) ?_ ?_
    rotate_left
    ·intro w'
     go_simp
     with_reducible rfl
    rotate_left
    ·simp only [Act.put, xT, xZ, xS, i64_w, i32_w]
     rfl
    refine done_ (done_of HT_.out (by kernel_rfl)) ?_
    have hcz50_0 : w49.cell? ⟨gb296, 0, none⟩ = some (.int .u64 a1_0) := (blk_cell BK296.out 0).trans rfl
    have hcz50_1 : w49.cell? ⟨gb296, 1, none⟩ = some (.int .u64 a1_1) := (blk_cell BK296.out 1).trans rfl
    have hfz50_0 := blk_frozen BK296.out 0
    have hfz50_1 := blk_frozen BK296.out 1
    have hcz51_0 : w49.cell? ⟨gb305, 0, none⟩ = some (.int .i64 t298) := (blk_cell BK305.out 0).trans rfl
    have hcz51_1 : w49.cell? ⟨gb305, 1, none⟩ = some (.int .i64 t299) := (blk_cell BK305.out 1).trans rfl
    have hcz51_2 : w49.cell? ⟨gb305, 2, none⟩ = some (.int .i64 t300) := (blk_cell BK305.out 2).trans rfl
    have hcz51_3 : w49.cell? ⟨gb305, 3, none⟩ = some (.int .i64 t301) := (blk_cell BK305.out 3).trans rfl
    have hcz51_4 : w49.cell? ⟨gb305, 4, none⟩ = some (.int .i64 t302) := (blk_cell BK305.out 4).trans rfl
    have hcz51_5 : w49.cell? ⟨gb305, 5, none⟩ = some (.bool t303) := (blk_cell BK305.out 5).trans rfl
    have hfz51_0 := blk_frozen BK305.out 0
    have hfz51_1 := blk_frozen BK305.out 1
    have hfz51_2 := blk_frozen BK305.out 2
    have hfz51_3 := blk_frozen BK305.out 3
    have hfz51_4 := blk_frozen BK305.out 4
    have hfz51_5 := blk_frozen BK305.out 5
    go_upto_if 61 with (first | ((with_reducible refine gate_callee (f := 66) rfl ?_); refine goesL_ (some 55) rfl rfl Tryd.func66 (by kernel_rfl) rfl #[.agg #[.int .u64 a1_0, .int .u64 a1_1], .int .i64 (wrap64 (t301 - 1))] rfl (by (try simp only [List.map_toArray, List.map_cons, List.map_nil]); first | done | rfl | (simp only [List.length_drop, List.length_take]; rfl)) ?_; (with_reducible refine (impl_Word_right.calls a1_0 a1_1 (wrap64 (t301 - 1)) t316 t317 _ A32.out).mono ?_); rintro e w52 ⟨rfl, hb⟩; refine ⟨_, rfl, ?_⟩; have n0_ := zM (blk_below (g := gb296) (o := .cells #[.int .u64 a1_0, .int .u64 a1_1] 25 (0, 0)) (by (with_reducible repeat (first | apply zN | apply zD | apply zA)); exact BK296.out) hb); have n1_ := zM (blk_below (g := gb297) (o := .cells #[.int .i64 0, .bool false, .int .u64 0, .int .u64 0, .int .i64 0] 27 (0, 0)) (by (with_reducible repeat (first | apply zN | apply zD | apply zA)); exact BK297.out) hb); have n2_ := zM (blk_below (g := gb305) (o := .cells #[.int .i64 t298, .int .i64 t299, .int .i64 t300, .int .i64 t301, .int .i64 t302, .bool t303] 91 (0, 0)) (by (with_reducible repeat (first | apply zN | apply zD | apply zA)); exact BK305.out) hb); have n3_ := zM (blk_below (g := gb311) (o := .cells #[.int .u64 t309, .int .u64 t310] 25 (0, 0)) (by (with_reducible repeat (first | apply zN | apply zD | apply zA)); exact BK311.out) hb); have n4_ := zM (below_step (by repeat (first | (with_reducible first | exact HB.out | apply yA | apply yN | apply yD | refine below_set ?_ GE296.out | refine below_set ?_ GE297.out | refine below_set ?_ GE305.out | refine below_set ?_ GE311.out) | exact HB.out)) hb); clear BK296; clear BK297; clear BK305; clear BK311; clear HB; have BK296 := n0_; have BK297 := n1_; have BK305 := n2_; have BK311 := n3_; have HB := n4_; clear n0_ n1_ n2_ n3_ n4_; (try clear hb); (try clear hb2); (try clear hk); (try clear hi); have hcz53_0 : w52.cell? ⟨gb311, 0, none⟩ = some (.int .u64 t309) := (blk_cell BK311.out 0).trans rfl; have hcz53_1 : w52.cell? ⟨gb311, 1, none⟩ = some (.int .u64 t310) := (blk_cell BK311.out 1).trans rfl; have hfz53_0 := blk_frozen BK311.out 0; have hfz53_1 := blk_frozen BK311.out 1) | ((with_reducible refine gate_dst (N := 11) rfl ?_); refine box_event ?hg (N := 11) ?hd (cs := #[.int .u64 0, .int .u64 0]) (t := 25) ?hr ?_; (case hd => rfl); (case hg => rfl); (case hr => first | (go_simp; done) | (go_simp; rfl)); intro gb318 hg w54 hbox hb; have n0_ := zM (blk_below (g := gb296) (o := .cells #[.int .u64 a1_0, .int .u64 a1_1] 25 (0, 0)) (by (with_reducible repeat (first | apply zN | apply zD | apply zA)); exact BK296.out) hb); have n1_ := zM (blk_below (g := gb297) (o := .cells #[.int .i64 0, .bool false, .int .u64 0, .int .u64 0, .int .i64 0] 27 (0, 0)) (by (with_reducible repeat (first | apply zN | apply zD | apply zA)); exact BK297.out) hb); have n2_ := zM (blk_below (g := gb305) (o := .cells #[.int .i64 t298, .int .i64 t299, .int .i64 t300, .int .i64 t301, .int .i64 t302, .bool t303] 91 (0, 0)) (by (with_reducible repeat (first | apply zN | apply zD | apply zA)); exact BK305.out) hb); have n3_ := zM (blk_below (g := gb311) (o := .cells #[.int .u64 t309, .int .u64 t310] 25 (0, 0)) (by (with_reducible repeat (first | apply zN | apply zD | apply zA)); exact BK311.out) hb); have n4_ := zM (below_step (by repeat (first | (with_reducible first | exact HB.out | apply yA | apply yN | apply yD | refine below_set ?_ GE296.out | refine below_set ?_ GE297.out | refine below_set ?_ GE305.out | refine below_set ?_ GE311.out) | exact HB.out)) hb); have n5_ := zM (hbox); have n6_ := zM ((by rw [hg]; exact (below_size (by repeat (first | (with_reducible first | exact HB.out | apply yA | apply yN | apply yD | refine below_set ?_ GE296.out | refine below_set ?_ GE297.out | refine below_set ?_ GE305.out | refine below_set ?_ GE311.out) | exact HB.out))) : w.heap.size ≤ gb318)); have n7_ := zM ((by rw [hg]; exact (below_size (by repeat (first | (with_reducible first | exact HB.out | apply yA | apply yN | apply yD | refine below_set ?_ GE296.out | refine below_set ?_ GE297.out | refine below_set ?_ GE305.out | refine below_set ?_ GE311.out) | exact HB.out))) : w.heap.size ≤ gb318)); have n8_ := zM ((by rw [hg]; exact Nat.ne_of_lt (blk_lt (g := gb296) (o := .cells #[.int .u64 a1_0, .int .u64 a1_1] 25 (0, 0)) (by (with_reducible repeat (first | apply zN | apply zD | apply zA)); exact BK296.out)) : gb296 ≠ gb318)); have n9_ := zM ((by rw [hg]; exact Nat.ne_of_gt (blk_lt (g := gb296) (o := .cells #[.int .u64 a1_0, .int .u64 a1_1] 25 (0, 0)) (by (with_reducible repeat (first | apply zN | apply zD | apply zA)); exact BK296.out)) : gb318 ≠ gb296)); have n10_ := zM ((by rw [hg]; exact Nat.ne_of_lt (blk_lt (g := gb297) (o := .cells #[.int .i64 0, .bool false, .int .u64 0, .int .u64 0, .int .i64 0] 27 (0, 0)) (by (with_reducible repeat (first | apply zN | apply zD | apply zA)); exact BK297.out)) : gb297 ≠ gb318)); have n11_ := zM ((by rw [hg]; exact Nat.ne_of_gt (blk_lt (g := gb297) (o := .cells #[.int .i64 0, .bool false, .int .u64 0, .int .u64 0, .int .i64 0] 27 (0, 0)) (by (with_reducible repeat (first | apply zN | apply zD | apply zA)); exact BK297.out)) : gb318 ≠ gb297)); have n12_ := zM ((by rw [hg]; exact Nat.ne_of_lt (blk_lt (g := gb305) (o := .cells #[.int .i64 t298, .int .i64 t299, .int .i64 t300, .int .i64 t301, .int .i64 t302, .bool t303] 91 (0, 0)) (by (with_reducible repeat (first | apply zN | apply zD | apply zA)); exact BK305.out)) : gb305 ≠ gb318)); have n13_ := zM ((by rw [hg]; exact Nat.ne_of_gt (blk_lt (g := gb305) (o := .cells #[.int .i64 t298, .int .i64 t299, .int .i64 t300, .int .i64 t301, .int .i64 t302, .bool t303] 91 (0, 0)) (by (with_reducible repeat (first | apply zN | apply zD | apply zA)); exact BK305.out)) : gb318 ≠ gb305)); have n14_ := zM ((by rw [hg]; exact Nat.ne_of_lt (blk_lt (g := gb311) (o := .cells #[.int .u64 t309, .int .u64 t310] 25 (0, 0)) (by (with_reducible repeat (first | apply zN | apply zD | apply zA)); exact BK311.out)) : gb311 ≠ gb318)); have n15_ := zM ((by rw [hg]; exact Nat.ne_of_gt (blk_lt (g := gb311) (o := .cells #[.int .u64 t309, .int .u64 t310] 25 (0, 0)) (by (with_reducible repeat (first | apply zN | apply zD | apply zA)); exact BK311.out)) : gb318 ≠ gb311)); clear BK296; clear BK297; clear BK305; clear BK311; clear HB; have BK296 := n0_; have BK297 := n1_; have BK305 := n2_; have BK311 := n3_; have HB := n4_; have BK318 := n5_; have GW318 := n6_; have GE318 := n7_; have NB296_318 := n8_; have NB318_296 := n9_; have NB297_318 := n10_; have NB318_297 := n11_; have NB305_318 := n12_; have NB318_305 := n13_; have NB311_318 := n14_; have NB318_311 := n15_; clear n0_ n1_ n2_ n3_ n4_ n5_ n6_ n7_ n8_ n9_ n10_ n11_ n12_ n13_ n14_ n15_; clear hb hbox hg; have hnb55 := NB318_296.out; have hnc55 := NB296_318.out; have hnb56 := NB318_297.out; have hnc56 := NB297_318.out; have hnb57 := NB318_305.out; have hnc57 := NB305_318.out; have hnb58 := NB318_311.out; have hnc58 := NB311_318.out; have hcz59_0 : w54.cell? ⟨gb318, 0, none⟩ = some (.int .u64 0) := (blk_cell BK318.out 0).trans rfl; have hcz59_1 : w54.cell? ⟨gb318, 1, none⟩ = some (.int .u64 0) := (blk_cell BK318.out 1).trans rfl; have hfz59_0 := blk_frozen BK318.out 0; have hfz59_1 := blk_frozen BK318.out 1; have hcz60_0 : w54.cell? ⟨gb305, 0, none⟩ = some (.int .i64 t298) := (blk_cell BK305.out 0).trans rfl; have hcz60_1 : w54.cell? ⟨gb305, 1, none⟩ = some (.int .i64 t299) := (blk_cell BK305.out 1).trans rfl; have hcz60_2 : w54.cell? ⟨gb305, 2, none⟩ = some (.int .i64 t300) := (blk_cell BK305.out 2).trans rfl; have hcz60_3 : w54.cell? ⟨gb305, 3, none⟩ = some (.int .i64 t301) := (blk_cell BK305.out 3).trans rfl; have hcz60_4 : w54.cell? ⟨gb305, 4, none⟩ = some (.int .i64 t302) := (blk_cell BK305.out 4).trans rfl; have hcz60_5 : w54.cell? ⟨gb305, 5, none⟩ = some (.bool t303) := (blk_cell BK305.out 5).trans rfl; have hfz60_0 := blk_frozen BK305.out 0; have hfz60_1 := blk_frozen BK305.out 1; have hfz60_2 := blk_frozen BK305.out 2; have hfz60_3 := blk_frozen BK305.out 3; have hfz60_4 := blk_frozen BK305.out 4; have hfz60_5 := blk_frozen BK305.out 5))
    (try simp only [Act.put, xT, xZ, xS])
    go_cut [] (fun wc => ∃ (kq : Nat) (x298000_32 : Int) (x298001_32 : Bool) (x298002_32 : Int) (x298003_32 : Int) (x298004_32 : Int) (x319000_32 : Int) (x319001_32 : Int), Aside0 (impl_Unpack.j1 kq (wrap64 (t315)) (!(t316 == 0) || (!(t317 == 0))) t298 t299 t300 t301 t302 t303 t309 t310 x319000_32 x319001_32 = some (r1, r2, r3, r4, r5)) ∧ Aside0 (kq ≤ kj3) ∧ Aside0 (wc.heap[gb296]? = some (.cells #[.int .u64 a1_0, .int .u64 a1_1] 25 (0, 0))) ∧ Aside0 (wc.heap[gb297]? = some (.cells #[.int .i64 x298000_32, .bool x298001_32, .int .u64 x298002_32, .int .u64 x298003_32, .int .i64 x298004_32] 27 (0, 0))) ∧ Aside0 (wc.heap[gb305]? = some (.cells #[.int .i64 t298, .int .i64 t299, .int .i64 t300, .int .i64 t301, .int .i64 t302, .bool t303] 91 (0, 0))) ∧ Aside0 (wc.heap[gb311]? = some (.cells #[.int .u64 t309, .int .u64 t310] 25 (0, 0))) ∧ Aside0 (wc.heap[gb318]? = some (.cells #[.int .u64 x319000_32, .int .u64 x319001_32] 25 (0, 0))) ∧ Aside0 (Below w.heap.size w wc))
    case first =>
     have H := HC33.out
     clear HC33
     by_cases c61 : t303 = true
     ·subst c61
      have H1 : ((impl_Word_right.f t309 t310 (wrap64 (t298 - 1))).bind fun bt319 => (if ((!(bt319.1 == 0) || (!(bt319.2 == 0))) != ((wrap64 (t315)) != 0)) = true then (some (0, false, 0, 0, 0)) else ((impl_Word_low.f t309 t310 (wrap64 (t298 - 1))).bind fun bt321 => (impl_Unpack.j1 kj3 (wrap64 (t315)) (!(t316 == 0) || (!(t317 == 0))) t298 t299 t300 t301 t302 true t309 t310 bt321.1 bt321.2)))) = some (r1, r2, r3, r4, r5) := by rw [if_pos rfl] at H; exact H
      clear H
      have H := H1
      clear H1
      replace H := Option.bind_eq_some_iff.mp H
      obtain ⟨⟨t319, t320⟩, A620, H⟩ := H
      replace H : (if ((!(t319 == 0) || (!(t320 == 0))) != ((wrap64 (t315)) != 0)) = true then (some (0, false, 0, 0, 0)) else ((impl_Word_low.f t309 t310 (wrap64 (t298 - 1))).bind fun bt321 => (impl_Unpack.j1 kj3 (wrap64 (t315)) (!(t316 == 0) || (!(t317 == 0))) t298 t299 t300 t301 t302 true t309 t310 bt321.1 bt321.2))) = some (r1, r2, r3, r4, r5) := H
      have A62 := zM A620
      clear A620
      by_cases c63 : ((!(t319 == 0) || (!(t320 == 0))) != ((wrap64 (t315)) != 0)) = true
      ·rw [if_pos c63] at H
       have c63b0 : ((!(t319 == 0) || (!(t320 == 0))) != ((wrap64 (t315)) != 0)) = true := c63
       (try (have c63b1 : decide ((!(t319 == 0) || (!(t320 == 0))) = ((wrap64 (t315)) != 0)) = false := by simpa using c63))
       (try (have c63b2 : ((!(t319 == 0) || (!(t320 == 0))) == ((wrap64 (t315)) != 0)) = false := by simpa using c63))
       (try (have c63b3 : ¬ ((!(t319 == 0) || (!(t320 == 0))) = ((wrap64 (t315)) != 0)) := by simpa using c63))
       clear c63
       (first | rw [c63b0] | (simp only [i64_w, i32_w]; rw [c63b0]) | rw [c63b1] | (simp only [c63b1]) | skip)
       simp only [Option.some.injEq, Prod.mk.injEq] at H
       obtain ⟨rfl, rfl, rfl, rfl, rfl⟩ := H
       have hnb64 := NB311_296.out
       have hnc64 := NB296_311.out
       have hnb65 := NB311_297.out
       have hnc65 := NB297_311.out
       have hnb66 := NB311_305.out
       have hnc66 := NB305_311.out
       have hnb67 := NB311_318.out
       have hnc67 := NB318_311.out
       have hcz68_0 : w54.cell? ⟨gb311, 0, none⟩ = some (.int .u64 t309) := (blk_cell BK311.out 0).trans rfl
       have hcz68_1 : w54.cell? ⟨gb311, 1, none⟩ = some (.int .u64 t310) := (blk_cell BK311.out 1).trans rfl
       have hfz68_0 := blk_frozen BK311.out 0
       have hfz68_1 := blk_frozen BK311.out 1
       have hnb69 := NB305_296.out
       have hnc69 := NB296_305.out
       have hnb70 := NB305_297.out
       have hnc70 := NB297_305.out
       have hnb71 := NB305_318.out
       have hnc71 := NB318_305.out
       have hcz72_0 : w54.cell? ⟨gb305, 0, none⟩ = some (.int .i64 t298) := (blk_cell BK305.out 0).trans rfl
       have hcz72_1 : w54.cell? ⟨gb305, 1, none⟩ = some (.int .i64 t299) := (blk_cell BK305.out 1).trans rfl
       have hcz72_2 : w54.cell? ⟨gb305, 2, none⟩ = some (.int .i64 t300) := (blk_cell BK305.out 2).trans rfl
       have hcz72_3 : w54.cell? ⟨gb305, 3, none⟩ = some (.int .i64 t301) := (blk_cell BK305.out 3).trans rfl
       have hcz72_4 : w54.cell? ⟨gb305, 4, none⟩ = some (.int .i64 t302) := (blk_cell BK305.out 4).trans rfl
       have hcz72_5 : w54.cell? ⟨gb305, 5, none⟩ = some (.bool true) := (blk_cell BK305.out 5).trans rfl
       have hfz72_0 := blk_frozen BK305.out 0
       have hfz72_1 := blk_frozen BK305.out 1
       have hfz72_2 := blk_frozen BK305.out 2
       have hfz72_3 := blk_frozen BK305.out 3
       have hfz72_4 := blk_frozen BK305.out 4
       have hfz72_5 := blk_frozen BK305.out 5
       go_wp2_with (first | ((with_reducible refine gate_callee (f := 66) rfl ?_); refine goesL_ (some 67) rfl rfl Tryd.func66 (by kernel_rfl) rfl #[.agg #[.int .u64 t309, .int .u64 t310], .int .i64 (wrap64 (t298 - 1))] rfl (by (try simp only [List.map_toArray, List.map_cons, List.map_nil]); first | done | rfl | (simp only [List.length_drop, List.length_take]; rfl)) ?_; (with_reducible refine (impl_Word_right.calls t309 t310 (wrap64 (t298 - 1)) t319 t320 _ A62.out).mono ?_); rintro e w73 ⟨rfl, hb⟩; refine ⟨_, rfl, ?_⟩; have n0_ := zM (blk_below (g := gb296) (o := .cells #[.int .u64 a1_0, .int .u64 a1_1] 25 (0, 0)) (by (with_reducible repeat (first | apply zN | apply zD | apply zA)); refine blk_far ?_ NB296_318.out _; (with_reducible repeat (first | apply zN | apply zD | apply zA)); refine blk_far ?_ NB296_318.out _; (with_reducible repeat (first | apply zN | apply zD | apply zA)); exact BK296.out) hb); have n1_ := zM (blk_below (g := gb297) (o := .cells #[.int .i64 0, .bool false, .int .u64 0, .int .u64 0, .int .i64 0] 27 (0, 0)) (by (with_reducible repeat (first | apply zN | apply zD | apply zA)); refine blk_far ?_ NB297_318.out _; (with_reducible repeat (first | apply zN | apply zD | apply zA)); refine blk_far ?_ NB297_318.out _; (with_reducible repeat (first | apply zN | apply zD | apply zA)); exact BK297.out) hb); have n2_ := zM (blk_below (g := gb305) (o := .cells #[.int .i64 t298, .int .i64 t299, .int .i64 t300, .int .i64 t301, .int .i64 t302, .bool true] 91 (0, 0)) (by (with_reducible repeat (first | apply zN | apply zD | apply zA)); refine blk_far ?_ NB305_318.out _; (with_reducible repeat (first | apply zN | apply zD | apply zA)); refine blk_far ?_ NB305_318.out _; (with_reducible repeat (first | apply zN | apply zD | apply zA)); exact BK305.out) hb); have n3_ := zM (blk_below (g := gb311) (o := .cells #[.int .u64 t309, .int .u64 t310] 25 (0, 0)) (by (with_reducible repeat (first | apply zN | apply zD | apply zA)); refine blk_far ?_ NB311_318.out _; (with_reducible repeat (first | apply zN | apply zD | apply zA)); refine blk_far ?_ NB311_318.out _; (with_reducible repeat (first | apply zN | apply zD | apply zA)); exact BK311.out) hb); have n4_ := zM (blk_below (g := gb318) (o := .cells #[.int .u64 t309, .int .u64 t310] 25 (0, 0)) (by (with_reducible repeat (first | apply zN | apply zD | apply zA)); refine blk_put (cs := #[.int .u64 t309, .int .u64 0]) ?_ 1 _ rfl; (with_reducible repeat (first | apply zN | apply zD | apply zA)); refine blk_put (cs := #[.int .u64 0, .int .u64 0]) ?_ 0 _ rfl; (with_reducible repeat (first | apply zN | apply zD | apply zA)); exact BK318.out) hb); have n5_ := zM (below_step (by repeat (first | (with_reducible first | exact HB.out | apply yA | apply yN | apply yD | refine below_set ?_ GE296.out | refine below_set ?_ GE297.out | refine below_set ?_ GE305.out | refine below_set ?_ GE311.out | refine below_set ?_ GE318.out) | exact HB.out)) hb); clear BK296; clear BK297; clear BK305; clear BK311; clear BK318; clear HB; have BK296 := n0_; have BK297 := n1_; have BK305 := n2_; have BK311 := n3_; have BK318 := n4_; have HB := n5_; clear n0_ n1_ n2_ n3_ n4_ n5_; (try clear hb); (try clear hb2); (try clear hk); (try clear hi); have hnb74 := NB297_296.out; have hnc74 := NB296_297.out; have hnb75 := NB297_318.out; have hnc75 := NB318_297.out; have hcz76_0 : w73.cell? ⟨gb297, 0, none⟩ = some (.int .i64 0) := (blk_cell BK297.out 0).trans rfl; have hcz76_1 : w73.cell? ⟨gb297, 1, none⟩ = some (.bool false) := (blk_cell BK297.out 1).trans rfl; have hcz76_2 : w73.cell? ⟨gb297, 2, none⟩ = some (.int .u64 0) := (blk_cell BK297.out 2).trans rfl; have hcz76_3 : w73.cell? ⟨gb297, 3, none⟩ = some (.int .u64 0) := (blk_cell BK297.out 3).trans rfl; have hcz76_4 : w73.cell? ⟨gb297, 4, none⟩ = some (.int .i64 0) := (blk_cell BK297.out 4).trans rfl; have hfz76_0 := blk_frozen BK297.out 0; have hfz76_1 := blk_frozen BK297.out 1; have hfz76_2 := blk_frozen BK297.out 2; have hfz76_3 := blk_frozen BK297.out 3; have hfz76_4 := blk_frozen BK297.out 4))
       refine bodyPost_ret (results_cell_row rfl _ _ gb297 27 #[.int .i64 0, .bool false, .int .u64 0, .int .u64 0, .int .i64 0] (0, 0) _ rfl (by (with_reducible repeat (first | apply zN | apply zD | apply zA)); refine blk_put (cs := #[.int .i64 0, .bool false, .int .u64 0, .int .u64 0, .int .i64 0]) ?_ 4 _ rfl; (with_reducible repeat (first | apply zN | apply zD | apply zA)); refine blk_put (cs := #[.int .i64 0, .bool false, .int .u64 0, .int .u64 0, .int .i64 0]) ?_ 3 _ rfl; (with_reducible repeat (first | apply zN | apply zD | apply zA)); refine blk_put (cs := #[.int .i64 0, .bool false, .int .u64 0, .int .u64 0, .int .i64 0]) ?_ 2 _ rfl; (with_reducible repeat (first | apply zN | apply zD | apply zA)); refine blk_put (cs := #[.int .i64 0, .bool false, .int .u64 0, .int .u64 0, .int .i64 0]) ?_ 1 _ rfl; (with_reducible repeat (first | apply zN | apply zD | apply zA)); refine blk_put (cs := #[.int .i64 0, .bool false, .int .u64 0, .int .u64 0, .int .i64 0]) ?_ 0 _ rfl; (with_reducible repeat (first | apply zN | apply zD | apply zA)); exact BK297.out) Tryd.underlying27 rfl (by kernel_rfl)) rfl ?_
       exact ⟨by first | rfl | (simp [errW_none, errW_some] <;> rfl) | (simp [*, errW_none, errW_some] <;> rfl), by repeat (first | (with_reducible first | exact HB.out | apply yA | apply yN | apply yD | refine below_set ?_ GE296.out | refine below_set ?_ GE297.out | refine below_set ?_ GE305.out | refine below_set ?_ GE311.out | refine below_set ?_ GE318.out) | exact HB.out)⟩
      ·rw [if_neg c63] at H
       have c63b0 : ((!(t319 == 0) || (!(t320 == 0))) != ((wrap64 (t315)) != 0)) = false := by simpa using c63
       (try (have c63b1 : decide ((!(t319 == 0) || (!(t320 == 0))) = ((wrap64 (t315)) != 0)) = true := by simpa using c63))
       (try (have c63b2 : ((!(t319 == 0) || (!(t320 == 0))) == ((wrap64 (t315)) != 0)) = true := by simpa using c63))
       clear c63
       (first | rw [c63b0] | (simp only [i64_w, i32_w]; rw [c63b0]) | rw [c63b1] | (simp only [c63b1]) | skip)
       replace H := Option.bind_eq_some_iff.mp H
       obtain ⟨⟨t321, t322⟩, A770, H⟩ := H
       replace H : (impl_Unpack.j1 kj3 (wrap64 (t315)) (!(t316 == 0) || (!(t317 == 0))) t298 t299 t300 t301 t302 true t309 t310 t321 t322) = some (r1, r2, r3, r4, r5) := H
       have A77 := zM A770
       clear A770
       have H' := zM H
       clear H
       have hnb78 := NB311_296.out
       have hnc78 := NB296_311.out
       have hnb79 := NB311_297.out
       have hnc79 := NB297_311.out
       have hnb80 := NB311_305.out
       have hnc80 := NB305_311.out
       have hnb81 := NB311_318.out
       have hnc81 := NB318_311.out
       have hcz82_0 : w54.cell? ⟨gb311, 0, none⟩ = some (.int .u64 t309) := (blk_cell BK311.out 0).trans rfl
       have hcz82_1 : w54.cell? ⟨gb311, 1, none⟩ = some (.int .u64 t310) := (blk_cell BK311.out 1).trans rfl
       have hfz82_0 := blk_frozen BK311.out 0
       have hfz82_1 := blk_frozen BK311.out 1
       have hnb83 := NB305_296.out
       have hnc83 := NB296_305.out
       have hnb84 := NB305_297.out
       have hnc84 := NB297_305.out
       have hnb85 := NB305_318.out
       have hnc85 := NB318_305.out
       have hcz86_0 : w54.cell? ⟨gb305, 0, none⟩ = some (.int .i64 t298) := (blk_cell BK305.out 0).trans rfl
       have hcz86_1 : w54.cell? ⟨gb305, 1, none⟩ = some (.int .i64 t299) := (blk_cell BK305.out 1).trans rfl
       have hcz86_2 : w54.cell? ⟨gb305, 2, none⟩ = some (.int .i64 t300) := (blk_cell BK305.out 2).trans rfl
       have hcz86_3 : w54.cell? ⟨gb305, 3, none⟩ = some (.int .i64 t301) := (blk_cell BK305.out 3).trans rfl
       have hcz86_4 : w54.cell? ⟨gb305, 4, none⟩ = some (.int .i64 t302) := (blk_cell BK305.out 4).trans rfl
       have hcz86_5 : w54.cell? ⟨gb305, 5, none⟩ = some (.bool true) := (blk_cell BK305.out 5).trans rfl
       have hfz86_0 := blk_frozen BK305.out 0
       have hfz86_1 := blk_frozen BK305.out 1
       have hfz86_2 := blk_frozen BK305.out 2
       have hfz86_3 := blk_frozen BK305.out 3
       have hfz86_4 := blk_frozen BK305.out 4
       have hfz86_5 := blk_frozen BK305.out 5
       go_wp2_with (first | ((with_reducible refine gate_callee (f := 66) rfl ?_); refine goesL_ (some 67) rfl rfl Tryd.func66 (by kernel_rfl) rfl #[.agg #[.int .u64 t309, .int .u64 t310], .int .i64 (wrap64 (t298 - 1))] rfl (by (try simp only [List.map_toArray, List.map_cons, List.map_nil]); first | done | rfl | (simp only [List.length_drop, List.length_take]; rfl)) ?_; (with_reducible refine (impl_Word_right.calls t309 t310 (wrap64 (t298 - 1)) t319 t320 _ A62.out).mono ?_); rintro e w87 ⟨rfl, hb⟩; refine ⟨_, rfl, ?_⟩; have n0_ := zM (blk_below (g := gb296) (o := .cells #[.int .u64 a1_0, .int .u64 a1_1] 25 (0, 0)) (by (with_reducible repeat (first | apply zN | apply zD | apply zA)); refine blk_far ?_ NB296_318.out _; (with_reducible repeat (first | apply zN | apply zD | apply zA)); refine blk_far ?_ NB296_318.out _; (with_reducible repeat (first | apply zN | apply zD | apply zA)); exact BK296.out) hb); have n1_ := zM (blk_below (g := gb297) (o := .cells #[.int .i64 0, .bool false, .int .u64 0, .int .u64 0, .int .i64 0] 27 (0, 0)) (by (with_reducible repeat (first | apply zN | apply zD | apply zA)); refine blk_far ?_ NB297_318.out _; (with_reducible repeat (first | apply zN | apply zD | apply zA)); refine blk_far ?_ NB297_318.out _; (with_reducible repeat (first | apply zN | apply zD | apply zA)); exact BK297.out) hb); have n2_ := zM (blk_below (g := gb305) (o := .cells #[.int .i64 t298, .int .i64 t299, .int .i64 t300, .int .i64 t301, .int .i64 t302, .bool true] 91 (0, 0)) (by (with_reducible repeat (first | apply zN | apply zD | apply zA)); refine blk_far ?_ NB305_318.out _; (with_reducible repeat (first | apply zN | apply zD | apply zA)); refine blk_far ?_ NB305_318.out _; (with_reducible repeat (first | apply zN | apply zD | apply zA)); exact BK305.out) hb); have n3_ := zM (blk_below (g := gb311) (o := .cells #[.int .u64 t309, .int .u64 t310] 25 (0, 0)) (by (with_reducible repeat (first | apply zN | apply zD | apply zA)); refine blk_far ?_ NB311_318.out _; (with_reducible repeat (first | apply zN | apply zD | apply zA)); refine blk_far ?_ NB311_318.out _; (with_reducible repeat (first | apply zN | apply zD | apply zA)); exact BK311.out) hb); have n4_ := zM (blk_below (g := gb318) (o := .cells #[.int .u64 t309, .int .u64 t310] 25 (0, 0)) (by (with_reducible repeat (first | apply zN | apply zD | apply zA)); refine blk_put (cs := #[.int .u64 t309, .int .u64 0]) ?_ 1 _ rfl; (with_reducible repeat (first | apply zN | apply zD | apply zA)); refine blk_put (cs := #[.int .u64 0, .int .u64 0]) ?_ 0 _ rfl; (with_reducible repeat (first | apply zN | apply zD | apply zA)); exact BK318.out) hb); have n5_ := zM (below_step (by repeat (first | (with_reducible first | exact HB.out | apply yA | apply yN | apply yD | refine below_set ?_ GE296.out | refine below_set ?_ GE297.out | refine below_set ?_ GE305.out | refine below_set ?_ GE311.out | refine below_set ?_ GE318.out) | exact HB.out)) hb); clear BK296; clear BK297; clear BK305; clear BK311; clear BK318; clear HB; have BK296 := n0_; have BK297 := n1_; have BK305 := n2_; have BK311 := n3_; have BK318 := n4_; have HB := n5_; clear n0_ n1_ n2_ n3_ n4_ n5_; (try clear hb); (try clear hb2); (try clear hk); (try clear hi); have hcz88_0 : w87.cell? ⟨gb311, 0, none⟩ = some (.int .u64 t309) := (blk_cell BK311.out 0).trans rfl; have hcz88_1 : w87.cell? ⟨gb311, 1, none⟩ = some (.int .u64 t310) := (blk_cell BK311.out 1).trans rfl; have hfz88_0 := blk_frozen BK311.out 0; have hfz88_1 := blk_frozen BK311.out 1; have hcz89_0 : w87.cell? ⟨gb305, 0, none⟩ = some (.int .i64 t298) := (blk_cell BK305.out 0).trans rfl; have hcz89_1 : w87.cell? ⟨gb305, 1, none⟩ = some (.int .i64 t299) := (blk_cell BK305.out 1).trans rfl; have hcz89_2 : w87.cell? ⟨gb305, 2, none⟩ = some (.int .i64 t300) := (blk_cell BK305.out 2).trans rfl; have hcz89_3 : w87.cell? ⟨gb305, 3, none⟩ = some (.int .i64 t301) := (blk_cell BK305.out 3).trans rfl; have hcz89_4 : w87.cell? ⟨gb305, 4, none⟩ = some (.int .i64 t302) := (blk_cell BK305.out 4).trans rfl; have hcz89_5 : w87.cell? ⟨gb305, 5, none⟩ = some (.bool true) := (blk_cell BK305.out 5).trans rfl; have hfz89_0 := blk_frozen BK305.out 0; have hfz89_1 := blk_frozen BK305.out 1; have hfz89_2 := blk_frozen BK305.out 2; have hfz89_3 := blk_frozen BK305.out 3; have hfz89_4 := blk_frozen BK305.out 4; have hfz89_5 := blk_frozen BK305.out 5) | ((with_reducible refine gate_callee (f := 68) rfl ?_); refine goesL_ (some 80) rfl rfl Tryd.func68 (by kernel_rfl) rfl #[.agg #[.int .u64 t309, .int .u64 t310], .int .i64 (wrap64 (t298 - 1))] rfl (by (try simp only [List.map_toArray, List.map_cons, List.map_nil]); first | done | rfl | (simp only [List.length_drop, List.length_take]; rfl)) ?_; (with_reducible refine (impl_Word_low.calls t309 t310 (wrap64 (t298 - 1)) t321 t322 _ A77.out).mono ?_); rintro e w90 ⟨rfl, hb⟩; refine ⟨_, rfl, ?_⟩; have n0_ := zM (blk_below (g := gb296) (o := .cells #[.int .u64 a1_0, .int .u64 a1_1] 25 (0, 0)) (by (with_reducible repeat (first | apply zN | apply zD | apply zA)); exact BK296.out) hb); have n1_ := zM (blk_below (g := gb297) (o := .cells #[.int .i64 0, .bool false, .int .u64 0, .int .u64 0, .int .i64 0] 27 (0, 0)) (by (with_reducible repeat (first | apply zN | apply zD | apply zA)); exact BK297.out) hb); have n2_ := zM (blk_below (g := gb305) (o := .cells #[.int .i64 t298, .int .i64 t299, .int .i64 t300, .int .i64 t301, .int .i64 t302, .bool true] 91 (0, 0)) (by (with_reducible repeat (first | apply zN | apply zD | apply zA)); exact BK305.out) hb); have n3_ := zM (blk_below (g := gb311) (o := .cells #[.int .u64 t309, .int .u64 t310] 25 (0, 0)) (by (with_reducible repeat (first | apply zN | apply zD | apply zA)); exact BK311.out) hb); have n4_ := zM (blk_below (g := gb318) (o := .cells #[.int .u64 t309, .int .u64 t310] 25 (0, 0)) (by (with_reducible repeat (first | apply zN | apply zD | apply zA)); exact BK318.out) hb); have n5_ := zM (below_step (by repeat (first | (with_reducible first | exact HB.out | apply yA | apply yN | apply yD | refine below_set ?_ GE296.out | refine below_set ?_ GE297.out | refine below_set ?_ GE305.out | refine below_set ?_ GE311.out | refine below_set ?_ GE318.out) | exact HB.out)) hb); clear BK296; clear BK297; clear BK305; clear BK311; clear BK318; clear HB; have BK296 := n0_; have BK297 := n1_; have BK305 := n2_; have BK311 := n3_; have BK318 := n4_; have HB := n5_; clear n0_ n1_ n2_ n3_ n4_ n5_; (try clear hb); (try clear hb2); (try clear hk); (try clear hi); have hnb91 := NB318_296.out; have hnc91 := NB296_318.out; have hnb92 := NB318_297.out; have hnc92 := NB297_318.out; have hcz93_0 : w90.cell? ⟨gb318, 0, none⟩ = some (.int .u64 t309) := (blk_cell BK318.out 0).trans rfl; have hcz93_1 : w90.cell? ⟨gb318, 1, none⟩ = some (.int .u64 t310) := (blk_cell BK318.out 1).trans rfl; have hfz93_0 := blk_frozen BK318.out 0; have hfz93_1 := blk_frozen BK318.out 1))
       go_meet
       case rel => exact ⟨_, (0), (false), (0), (0), (0), (t321), (t322), H', ⟨by have := HJ3.out; first | omega | exact Nat.le_refl _⟩, ⟨by (with_reducible repeat (first | apply zN | apply zD | apply zA)); refine blk_far ?_ NB296_318.out _; (with_reducible repeat (first | apply zN | apply zD | apply zA)); refine blk_far ?_ NB296_318.out _; (with_reducible repeat (first | apply zN | apply zD | apply zA)); exact BK296.out⟩, ⟨by (with_reducible repeat (first | apply zN | apply zD | apply zA)); refine blk_far ?_ NB297_318.out _; (with_reducible repeat (first | apply zN | apply zD | apply zA)); refine blk_far ?_ NB297_318.out _; (with_reducible repeat (first | apply zN | apply zD | apply zA)); exact BK297.out⟩, ⟨by (with_reducible repeat (first | apply zN | apply zD | apply zA)); refine blk_far ?_ NB305_318.out _; (with_reducible repeat (first | apply zN | apply zD | apply zA)); refine blk_far ?_ NB305_318.out _; (with_reducible repeat (first | apply zN | apply zD | apply zA)); exact BK305.out⟩, ⟨by (with_reducible repeat (first | apply zN | apply zD | apply zA)); refine blk_far ?_ NB311_318.out _; (with_reducible repeat (first | apply zN | apply zD | apply zA)); refine blk_far ?_ NB311_318.out _; (with_reducible repeat (first | apply zN | apply zD | apply zA)); exact BK311.out⟩, ⟨by (with_reducible repeat (first | apply zN | apply zD | apply zA)); refine blk_put (cs := #[.int .u64 t321, .int .u64 t310]) ?_ 1 _ rfl; (with_reducible repeat (first | apply zN | apply zD | apply zA)); refine blk_put (cs := #[.int .u64 t309, .int .u64 t310]) ?_ 0 _ rfl; (with_reducible repeat (first | apply zN | apply zD | apply zA)); exact BK318.out⟩, ⟨by repeat (first | (with_reducible first | exact HB.out | apply yA | apply yN | apply yD | refine below_set ?_ GE296.out | refine below_set ?_ GE297.out | refine below_set ?_ GE305.out | refine below_set ?_ GE311.out | refine below_set ?_ GE318.out) | exact HB.out)⟩⟩
     ·replace c61 := Bool.eq_false_iff.mpr c61
      subst c61
      have H1 : (impl_Unpack.j1 kj3 (wrap64 (t315)) (!(t316 == 0) || (!(t317 == 0))) t298 t299 t300 t301 t302 false t309 t310 t309 t310) = some (r1, r2, r3, r4, r5) := by rw [if_neg (show ¬ (false = true) by decide)] at H; exact H
      clear H
      have H := H1
      clear H1
      have H' := zM H
      clear H
      go_wp2
      go_meet
      case rel => exact ⟨_, (0), (false), (0), (0), (0), (t309), (t310), H', ⟨by have := HJ3.out; first | omega | exact Nat.le_refl _⟩, ⟨by (with_reducible repeat (first | apply zN | apply zD | apply zA)); refine blk_far ?_ NB296_318.out _; (with_reducible repeat (first | apply zN | apply zD | apply zA)); refine blk_far ?_ NB296_318.out _; (with_reducible repeat (first | apply zN | apply zD | apply zA)); exact BK296.out⟩, ⟨by (with_reducible repeat (first | apply zN | apply zD | apply zA)); refine blk_far ?_ NB297_318.out _; (with_reducible repeat (first | apply zN | apply zD | apply zA)); refine blk_far ?_ NB297_318.out _; (with_reducible repeat (first | apply zN | apply zD | apply zA)); exact BK297.out⟩, ⟨by (with_reducible repeat (first | apply zN | apply zD | apply zA)); refine blk_far ?_ NB305_318.out _; (with_reducible repeat (first | apply zN | apply zD | apply zA)); refine blk_far ?_ NB305_318.out _; (with_reducible repeat (first | apply zN | apply zD | apply zA)); exact BK305.out⟩, ⟨by (with_reducible repeat (first | apply zN | apply zD | apply zA)); refine blk_far ?_ NB311_318.out _; (with_reducible repeat (first | apply zN | apply zD | apply zA)); refine blk_far ?_ NB311_318.out _; (with_reducible repeat (first | apply zN | apply zD | apply zA)); exact BK311.out⟩, ⟨by (with_reducible repeat (first | apply zN | apply zD | apply zA)); refine blk_put (cs := #[.int .u64 t309, .int .u64 0]) ?_ 1 _ rfl; (with_reducible repeat (first | apply zN | apply zD | apply zA)); refine blk_put (cs := #[.int .u64 0, .int .u64 0]) ?_ 0 _ rfl; (with_reducible repeat (first | apply zN | apply zD | apply zA)); exact BK318.out⟩, ⟨by repeat (first | (with_reducible first | exact HB.out | apply yA | apply yN | apply yD | refine below_set ?_ GE296.out | refine below_set ?_ GE297.out | refine below_set ?_ GE305.out | refine below_set ?_ GE311.out | refine below_set ?_ GE318.out) | exact HB.out)⟩⟩
    case rest =>
     clear HC33
     try clear c1; try clear c2; try clear p2; try clear c3; try clear c4; try clear c5; try clear c6; try clear p6; try clear c7; try clear c8; try clear c9; try clear c10; try clear c12; try clear c13; try clear c13b0; try clear c13b1; try clear c15; try clear c16; try clear c17; try clear c18; try clear c21; try clear c22; try clear c24; try clear c25; try clear c26; try clear c34; try clear c35; try clear c38; try clear c42; try clear c43; try clear c44; try clear c55; try clear c56; try clear c57; try clear c58; try clear c61; try clear c63; try clear c63b0; try clear c63b1; try clear c63b2; try clear c64; try clear p64; try clear c65; try clear c66; try clear c67; try clear c68; try clear c69; try clear c70; try clear c71; try clear c74; try clear c75; try clear c78; try clear c79; try clear c80; try clear c81; try clear c83; try clear c84; try clear c85; try clear c91; try clear c92; try clear hcz11_0; try clear hcz11_1; try clear hcz11_2; try clear hcz11_3; try clear hcz11_4; try clear hcz11_5; try clear hcz17_0; try clear hcz17_1; try clear hcz17_2; try clear hcz17_3; try clear hcz17_4; try clear hcz17_5; try clear hcz19_0; try clear hcz19_1; try clear hcz23_0; try clear hcz23_1; try clear hcz23_2; try clear hcz23_3; try clear hcz23_4; try clear hcz23_5; try clear hcz27_0; try clear hcz27_1; try clear hcz27_2; try clear hcz27_3; try clear hcz27_4; try clear hcz36_0; try clear hcz36_1; try clear hcz36_2; try clear hcz36_3; try clear hcz36_4; try clear hcz36_5; try clear hcz39_0; try clear hcz39_1; try clear hcz45_0; try clear hcz45_1; try clear hcz50_0; try clear hcz50_1; try clear hcz51_0; try clear hcz51_1; try clear hcz51_2; try clear hcz51_3; try clear hcz51_4; try clear hcz51_5; try clear hcz53_0; try clear hcz53_1; try clear hcz59_0; try clear hcz59_1; try clear hcz60_0; try clear hcz60_1; try clear hcz60_2; try clear hcz60_3; try clear hcz60_4; try clear hcz60_5; try clear hcz68_0; try clear hcz68_1; try clear hcz72_0; try clear hcz72_1; try clear hcz72_2; try clear hcz72_3; try clear hcz72_4; try clear hcz72_5; try clear hcz76_0; try clear hcz76_1; try clear hcz76_2; try clear hcz76_3; try clear hcz76_4; try clear hcz82_0; try clear hcz82_1; try clear hcz86_0; try clear hcz86_1; try clear hcz86_2; try clear hcz86_3; try clear hcz86_4; try clear hcz86_5; try clear hcz88_0; try clear hcz88_1; try clear hcz89_0; try clear hcz89_1; try clear hcz89_2; try clear hcz89_3; try clear hcz89_4; try clear hcz89_5; try clear hcz93_0; try clear hcz93_1; try clear hfz11_0; try clear hfz11_1; try clear hfz11_2; try clear hfz11_3; try clear hfz11_4; try clear hfz11_5; try clear hfz17_0; try clear hfz17_1; try clear hfz17_2; try clear hfz17_3; try clear hfz17_4; try clear hfz17_5; try clear hfz19_0; try clear hfz19_1; try clear hfz23_0; try clear hfz23_1; try clear hfz23_2; try clear hfz23_3; try clear hfz23_4; try clear hfz23_5; try clear hfz27_0; try clear hfz27_1; try clear hfz27_2; try clear hfz27_3; try clear hfz27_4; try clear hfz36_0; try clear hfz36_1; try clear hfz36_2; try clear hfz36_3; try clear hfz36_4; try clear hfz36_5; try clear hfz39_0; try clear hfz39_1; try clear hfz45_0; try clear hfz45_1; try clear hfz50_0; try clear hfz50_1; try clear hfz51_0; try clear hfz51_1; try clear hfz51_2; try clear hfz51_3; try clear hfz51_4; try clear hfz51_5; try clear hfz53_0; try clear hfz53_1; try clear hfz59_0; try clear hfz59_1; try clear hfz60_0; try clear hfz60_1; try clear hfz60_2; try clear hfz60_3; try clear hfz60_4; try clear hfz60_5; try clear hfz68_0; try clear hfz68_1; try clear hfz72_0; try clear hfz72_1; try clear hfz72_2; try clear hfz72_3; try clear hfz72_4; try clear hfz72_5; try clear hfz76_0; try clear hfz76_1; try clear hfz76_2; try clear hfz76_3; try clear hfz76_4; try clear hfz82_0; try clear hfz82_1; try clear hfz86_0; try clear hfz86_1; try clear hfz86_2; try clear hfz86_3; try clear hfz86_4; try clear hfz86_5; try clear hfz88_0; try clear hfz88_1; try clear hfz89_0; try clear hfz89_1; try clear hfz89_2; try clear hfz89_3; try clear hfz89_4; try clear hfz89_5; try clear hfz93_0; try clear hfz93_1; try clear p2
     obtain ⟨kq, x298000_32, x298001_32, x298002_32, x298003_32, x298004_32, x319000_32, x319001_32, HA, HJ32, BK296, BK297, BK305, BK311, BK318, HB⟩ := hcut
     cases kq with
     | zero => exact absurd HA.out (by simp [impl_Unpack.j1])
     | succ kj32 =>
      have H := HA.out
      clear HA
      simp only [impl_Unpack.j1] at H
      have HC94 := zM H
      clear H
      go_upto_region 14 with (fail)
      go_cut [81] (fun v81 wc => ∃ (kq : Nat) (x81_93 : Bool), v81 = .bool x81_93 ∧ Aside0 (impl_Unpack.j2 kq (wrap64 (t315)) (!(t316 == 0) || (!(t317 == 0))) x81_93 t298 t299 t300 t301 t302 t303 t309 t310 = some (r1, r2, r3, r4, r5)) ∧ Aside0 (kq ≤ kj32) ∧ Aside0 (wc.heap[gb296]? = some (.cells #[.int .u64 a1_0, .int .u64 a1_1] 25 (0, 0))) ∧ Aside0 (wc.heap[gb297]? = some (.cells #[.int .i64 x298000_32, .bool x298001_32, .int .u64 x298002_32, .int .u64 x298003_32, .int .i64 x298004_32] 27 (0, 0))) ∧ Aside0 (wc.heap[gb305]? = some (.cells #[.int .i64 t298, .int .i64 t299, .int .i64 t300, .int .i64 t301, .int .i64 t302, .bool t303] 91 (0, 0))) ∧ Aside0 (wc.heap[gb311]? = some (.cells #[.int .u64 t309, .int .u64 t310] 25 (0, 0))) ∧ Aside0 (wc.heap[gb318]? = some (.cells #[.int .u64 x319000_32, .int .u64 x319001_32] 25 (0, 0))) ∧ Aside0 (Below w.heap.size w wc))
      case first =>
       have H := HC94.out
       clear HC94
       replace H := Option.bind_eq_some_iff.mp H
       obtain ⟨t323, A950, H⟩ := H
       replace H : (if (wrap64 (t315)) = t323 then (impl_Unpack.j2 kj32 (wrap64 (t315)) (!(t316 == 0) || (!(t317 == 0))) (x319000_32 == 0 && (x319001_32 == 0)) t298 t299 t300 t301 t302 t303 t309 t310) else (impl_Unpack.j2 kj32 (wrap64 (t315)) (!(t316 == 0) || (!(t317 == 0))) false t298 t299 t300 t301 t302 t303 t309 t310)) = some (r1, r2, r3, r4, r5) := H
       have A95 := zM A950
       clear A950
       by_cases c96 : (wrap64 (t315)) = t323
       ·rw [if_pos c96] at H
        have c96b0 : ((wrap64 (t315)) == t323) = true := beq_iff_eq.mpr c96
        have c96b1 : ((wrap64 (t315)) != t323) = false := bne_eq_false_iff_eq.mpr c96
        clear c96
        (first | rw [c96b0] | (simp only [i64_w, i32_w]; rw [c96b0]) | rw [c96b1] | (simp only [c96b1]) | skip)
        have H' := zM H
        clear H
        have hnb97 := NB305_296.out
        have hnc97 := NB296_305.out
        have hnb98 := NB305_297.out
        have hnc98 := NB297_305.out
        have hnb99 := NB305_311.out
        have hnc99 := NB311_305.out
        have hnb100 := NB305_318.out
        have hnc100 := NB318_305.out
        have hcz101_0 : wc.cell? ⟨gb305, 0, none⟩ = some (.int .i64 t298) := (blk_cell BK305.out 0).trans rfl
        have hcz101_1 : wc.cell? ⟨gb305, 1, none⟩ = some (.int .i64 t299) := (blk_cell BK305.out 1).trans rfl
        have hcz101_2 : wc.cell? ⟨gb305, 2, none⟩ = some (.int .i64 t300) := (blk_cell BK305.out 2).trans rfl
        have hcz101_3 : wc.cell? ⟨gb305, 3, none⟩ = some (.int .i64 t301) := (blk_cell BK305.out 3).trans rfl
        have hcz101_4 : wc.cell? ⟨gb305, 4, none⟩ = some (.int .i64 t302) := (blk_cell BK305.out 4).trans rfl
        have hcz101_5 : wc.cell? ⟨gb305, 5, none⟩ = some (.bool t303) := (blk_cell BK305.out 5).trans rfl
        have hfz101_0 := blk_frozen BK305.out 0
        have hfz101_1 := blk_frozen BK305.out 1
        have hfz101_2 := blk_frozen BK305.out 2
        have hfz101_3 := blk_frozen BK305.out 3
        have hfz101_4 := blk_frozen BK305.out 4
        have hfz101_5 := blk_frozen BK305.out 5
        go_wp2_with (first | ((with_reducible refine gate_callee (f := 69) rfl ?_); refine goesL_ (some 84) rfl rfl Tryd.func69 (by kernel_rfl) rfl #[.agg #[.int .i64 t298, .int .i64 t299, .int .i64 t300, .int .i64 t301, .int .i64 t302, .bool t303]] rfl (by (try simp only [List.map_toArray, List.map_cons, List.map_nil]); first | done | rfl | (simp only [List.length_drop, List.length_take]; rfl)) ?_; (with_reducible refine (impl_layout_top.calls t298 t299 t300 t301 t302 t303 t323 _ A95.out).mono ?_); rintro e w102 ⟨rfl, hb⟩; refine ⟨_, rfl, ?_⟩; have n0_ := zM (blk_below (g := gb296) (o := .cells #[.int .u64 a1_0, .int .u64 a1_1] 25 (0, 0)) (by (with_reducible repeat (first | apply zN | apply zD | apply zA)); exact BK296.out) hb); have n1_ := zM (blk_below (g := gb297) (o := .cells #[.int .i64 x298000_32, .bool x298001_32, .int .u64 x298002_32, .int .u64 x298003_32, .int .i64 x298004_32] 27 (0, 0)) (by (with_reducible repeat (first | apply zN | apply zD | apply zA)); exact BK297.out) hb); have n2_ := zM (blk_below (g := gb305) (o := .cells #[.int .i64 t298, .int .i64 t299, .int .i64 t300, .int .i64 t301, .int .i64 t302, .bool t303] 91 (0, 0)) (by (with_reducible repeat (first | apply zN | apply zD | apply zA)); exact BK305.out) hb); have n3_ := zM (blk_below (g := gb311) (o := .cells #[.int .u64 t309, .int .u64 t310] 25 (0, 0)) (by (with_reducible repeat (first | apply zN | apply zD | apply zA)); exact BK311.out) hb); have n4_ := zM (blk_below (g := gb318) (o := .cells #[.int .u64 x319000_32, .int .u64 x319001_32] 25 (0, 0)) (by (with_reducible repeat (first | apply zN | apply zD | apply zA)); exact BK318.out) hb); have n5_ := zM (below_step (by repeat (first | (with_reducible first | exact HB.out | apply yA | apply yN | apply yD | refine below_set ?_ GE296.out | refine below_set ?_ GE297.out | refine below_set ?_ GE305.out | refine below_set ?_ GE311.out | refine below_set ?_ GE318.out) | exact HB.out)) hb); clear BK296; clear BK297; clear BK305; clear BK311; clear BK318; clear HB; have BK296 := n0_; have BK297 := n1_; have BK305 := n2_; have BK311 := n3_; have BK318 := n4_; have HB := n5_; clear n0_ n1_ n2_ n3_ n4_ n5_; (try clear hb); (try clear hb2); (try clear hk); (try clear hi); have hnb103 := NB318_296.out; have hnc103 := NB296_318.out; have hnb104 := NB318_297.out; have hnc104 := NB297_318.out; have hnb105 := NB318_311.out; have hnc105 := NB311_318.out; have hcz106_0 : w102.cell? ⟨gb318, 0, none⟩ = some (.int .u64 x319000_32) := (blk_cell BK318.out 0).trans rfl; have hcz106_1 : w102.cell? ⟨gb318, 1, none⟩ = some (.int .u64 x319001_32) := (blk_cell BK318.out 1).trans rfl; have hfz106_0 := blk_frozen BK318.out 0; have hfz106_1 := blk_frozen BK318.out 1))
        go_meet
        case rel => exact ⟨_, ((x319000_32 == 0 && (x319001_32 == 0))), (by first | rfl | (simp; done) | (simp [*]; done)), H', ⟨by have := HJ3.out; have := HJ32.out; first | omega | exact Nat.le_refl _⟩, ⟨by (with_reducible repeat (first | apply zN | apply zD | apply zA)); exact BK296.out⟩, ⟨by (with_reducible repeat (first | apply zN | apply zD | apply zA)); exact BK297.out⟩, ⟨by (with_reducible repeat (first | apply zN | apply zD | apply zA)); exact BK305.out⟩, ⟨by (with_reducible repeat (first | apply zN | apply zD | apply zA)); exact BK311.out⟩, ⟨by (with_reducible repeat (first | apply zN | apply zD | apply zA)); exact BK318.out⟩, ⟨by repeat (first | (with_reducible first | exact HB.out | apply yA | apply yN | apply yD | refine below_set ?_ GE296.out | refine below_set ?_ GE297.out | refine below_set ?_ GE305.out | refine below_set ?_ GE311.out | refine below_set ?_ GE318.out) | exact HB.out)⟩⟩
       ·rw [if_neg c96] at H
        have c96b0 : ((wrap64 (t315)) == t323) = false := beq_eq_false_iff_ne.mpr c96
        have c96b1 : ((wrap64 (t315)) != t323) = true := bne_iff_ne.mpr c96
        (first | rw [c96b0] | (simp only [i64_w, i32_w]; rw [c96b0]) | rw [c96b1] | (simp only [c96b1]) | skip)
        have H' := zM H
        clear H
        have hnb107 := NB305_296.out
        have hnc107 := NB296_305.out
        have hnb108 := NB305_297.out
        have hnc108 := NB297_305.out
        have hnb109 := NB305_311.out
        have hnc109 := NB311_305.out
        have hnb110 := NB305_318.out
        have hnc110 := NB318_305.out
        have hcz111_0 : wc.cell? ⟨gb305, 0, none⟩ = some (.int .i64 t298) := (blk_cell BK305.out 0).trans rfl
        have hcz111_1 : wc.cell? ⟨gb305, 1, none⟩ = some (.int .i64 t299) := (blk_cell BK305.out 1).trans rfl
        have hcz111_2 : wc.cell? ⟨gb305, 2, none⟩ = some (.int .i64 t300) := (blk_cell BK305.out 2).trans rfl
        have hcz111_3 : wc.cell? ⟨gb305, 3, none⟩ = some (.int .i64 t301) := (blk_cell BK305.out 3).trans rfl
        have hcz111_4 : wc.cell? ⟨gb305, 4, none⟩ = some (.int .i64 t302) := (blk_cell BK305.out 4).trans rfl
        have hcz111_5 : wc.cell? ⟨gb305, 5, none⟩ = some (.bool t303) := (blk_cell BK305.out 5).trans rfl
        have hfz111_0 := blk_frozen BK305.out 0
        have hfz111_1 := blk_frozen BK305.out 1
        have hfz111_2 := blk_frozen BK305.out 2
        have hfz111_3 := blk_frozen BK305.out 3
        have hfz111_4 := blk_frozen BK305.out 4
        have hfz111_5 := blk_frozen BK305.out 5
        go_wp2_with (first | ((with_reducible refine gate_callee (f := 69) rfl ?_); refine goesL_ (some 84) rfl rfl Tryd.func69 (by kernel_rfl) rfl #[.agg #[.int .i64 t298, .int .i64 t299, .int .i64 t300, .int .i64 t301, .int .i64 t302, .bool t303]] rfl (by (try simp only [List.map_toArray, List.map_cons, List.map_nil]); first | done | rfl | (simp only [List.length_drop, List.length_take]; rfl)) ?_; (with_reducible refine (impl_layout_top.calls t298 t299 t300 t301 t302 t303 t323 _ A95.out).mono ?_); rintro e w112 ⟨rfl, hb⟩; refine ⟨_, rfl, ?_⟩; have n0_ := zM (blk_below (g := gb296) (o := .cells #[.int .u64 a1_0, .int .u64 a1_1] 25 (0, 0)) (by (with_reducible repeat (first | apply zN | apply zD | apply zA)); exact BK296.out) hb); have n1_ := zM (blk_below (g := gb297) (o := .cells #[.int .i64 x298000_32, .bool x298001_32, .int .u64 x298002_32, .int .u64 x298003_32, .int .i64 x298004_32] 27 (0, 0)) (by (with_reducible repeat (first | apply zN | apply zD | apply zA)); exact BK297.out) hb); have n2_ := zM (blk_below (g := gb305) (o := .cells #[.int .i64 t298, .int .i64 t299, .int .i64 t300, .int .i64 t301, .int .i64 t302, .bool t303] 91 (0, 0)) (by (with_reducible repeat (first | apply zN | apply zD | apply zA)); exact BK305.out) hb); have n3_ := zM (blk_below (g := gb311) (o := .cells #[.int .u64 t309, .int .u64 t310] 25 (0, 0)) (by (with_reducible repeat (first | apply zN | apply zD | apply zA)); exact BK311.out) hb); have n4_ := zM (blk_below (g := gb318) (o := .cells #[.int .u64 x319000_32, .int .u64 x319001_32] 25 (0, 0)) (by (with_reducible repeat (first | apply zN | apply zD | apply zA)); exact BK318.out) hb); have n5_ := zM (below_step (by repeat (first | (with_reducible first | exact HB.out | apply yA | apply yN | apply yD | refine below_set ?_ GE296.out | refine below_set ?_ GE297.out | refine below_set ?_ GE305.out | refine below_set ?_ GE311.out | refine below_set ?_ GE318.out) | exact HB.out)) hb); clear BK296; clear BK297; clear BK305; clear BK311; clear BK318; clear HB; have BK296 := n0_; have BK297 := n1_; have BK305 := n2_; have BK311 := n3_; have BK318 := n4_; have HB := n5_; clear n0_ n1_ n2_ n3_ n4_ n5_; (try clear hb); (try clear hb2); (try clear hk); (try clear hi)))
        go_meet
        case rel => exact ⟨_, (false), (by first | rfl | (simp; done) | (simp [*]; done)), H', ⟨by have := HJ3.out; have := HJ32.out; first | omega | exact Nat.le_refl _⟩, ⟨by (with_reducible repeat (first | apply zN | apply zD | apply zA)); exact BK296.out⟩, ⟨by (with_reducible repeat (first | apply zN | apply zD | apply zA)); exact BK297.out⟩, ⟨by (with_reducible repeat (first | apply zN | apply zD | apply zA)); exact BK305.out⟩, ⟨by (with_reducible repeat (first | apply zN | apply zD | apply zA)); exact BK311.out⟩, ⟨by (with_reducible repeat (first | apply zN | apply zD | apply zA)); exact BK318.out⟩, ⟨by repeat (first | (with_reducible first | exact HB.out | apply yA | apply yN | apply yD | refine below_set ?_ GE296.out | refine below_set ?_ GE297.out | refine below_set ?_ GE305.out | refine below_set ?_ GE311.out | refine below_set ?_ GE318.out) | exact HB.out)⟩⟩
      case rest =>
       clear HC94
       try clear c1; try clear c2; try clear p2; try clear c3; try clear c4; try clear c5; try clear c6; try clear p6; try clear c7; try clear c8; try clear c9; try clear c10; try clear c11; try clear c12; try clear c13; try clear c13b0; try clear c13b1; try clear c15; try clear c16; try clear c17; try clear c18; try clear c21; try clear c22; try clear c24; try clear c25; try clear c26; try clear c34; try clear c35; try clear c38; try clear c42; try clear c43; try clear c44; try clear c55; try clear c56; try clear c57; try clear c58; try clear c61; try clear c63; try clear c63b0; try clear c63b1; try clear c63b2; try clear c64; try clear p64; try clear c65; try clear c66; try clear c67; try clear c68; try clear c69; try clear c70; try clear c71; try clear c74; try clear c75; try clear c78; try clear c79; try clear c80; try clear c81; try clear c83; try clear c84; try clear c85; try clear c91; try clear c92; try clear c96; try clear c96b0; try clear c96b1; try clear c97; try clear c98; try clear c99; try clear c100; try clear c103; try clear c104; try clear c105; try clear c107; try clear c108; try clear c109; try clear c110; try clear hcz101_0; try clear hcz101_1; try clear hcz101_2; try clear hcz101_3; try clear hcz101_4; try clear hcz101_5; try clear hcz106_0; try clear hcz106_1; try clear hcz111_0; try clear hcz111_1; try clear hcz111_2; try clear hcz111_3; try clear hcz111_4; try clear hcz111_5; try clear hcz11_0; try clear hcz11_1; try clear hcz11_2; try clear hcz11_3; try clear hcz11_4; try clear hcz11_5; try clear hcz17_0; try clear hcz17_1; try clear hcz17_2; try clear hcz17_3; try clear hcz17_4; try clear hcz17_5; try clear hcz19_0; try clear hcz19_1; try clear hcz23_0; try clear hcz23_1; try clear hcz23_2; try clear hcz23_3; try clear hcz23_4; try clear hcz23_5; try clear hcz27_0; try clear hcz27_1; try clear hcz27_2; try clear hcz27_3; try clear hcz27_4; try clear hcz36_0; try clear hcz36_1; try clear hcz36_2; try clear hcz36_3; try clear hcz36_4; try clear hcz36_5; try clear hcz39_0; try clear hcz39_1; try clear hcz45_0; try clear hcz45_1; try clear hcz50_0; try clear hcz50_1; try clear hcz51_0; try clear hcz51_1; try clear hcz51_2; try clear hcz51_3; try clear hcz51_4; try clear hcz51_5; try clear hcz53_0; try clear hcz53_1; try clear hcz59_0; try clear hcz59_1; try clear hcz60_0; try clear hcz60_1; try clear hcz60_2; try clear hcz60_3; try clear hcz60_4; try clear hcz60_5; try clear hcz68_0; try clear hcz68_1; try clear hcz72_0; try clear hcz72_1; try clear hcz72_2; try clear hcz72_3; try clear hcz72_4; try clear hcz72_5; try clear hcz76_0; try clear hcz76_1; try clear hcz76_2; try clear hcz76_3; try clear hcz76_4; try clear hcz82_0; try clear hcz82_1; try clear hcz86_0; try clear hcz86_1; try clear hcz86_2; try clear hcz86_3; try clear hcz86_4; try clear hcz86_5; try clear hcz88_0; try clear hcz88_1; try clear hcz89_0; try clear hcz89_1; try clear hcz89_2; try clear hcz89_3; try clear hcz89_4; try clear hcz89_5; try clear hcz93_0; try clear hcz93_1; try clear hfz101_0; try clear hfz101_1; try clear hfz101_2; try clear hfz101_3; try clear hfz101_4; try clear hfz101_5; try clear hfz106_0; try clear hfz106_1; try clear hfz111_0; try clear hfz111_1; try clear hfz111_2; try clear hfz111_3; try clear hfz111_4; try clear hfz111_5; try clear hfz11_0; try clear hfz11_1; try clear hfz11_2; try clear hfz11_3; try clear hfz11_4; try clear hfz11_5; try clear hfz17_0; try clear hfz17_1; try clear hfz17_2; try clear hfz17_3; try clear hfz17_4; try clear hfz17_5; try clear hfz19_0; try clear hfz19_1; try clear hfz23_0; try clear hfz23_1; try clear hfz23_2; try clear hfz23_3; try clear hfz23_4; try clear hfz23_5; try clear hfz27_0; try clear hfz27_1; try clear hfz27_2; try clear hfz27_3; try clear hfz27_4; try clear hfz36_0; try clear hfz36_1; try clear hfz36_2; try clear hfz36_3; try clear hfz36_4; try clear hfz36_5; try clear hfz39_0; try clear hfz39_1; try clear hfz45_0; try clear hfz45_1; try clear hfz50_0; try clear hfz50_1; try clear hfz51_0; try clear hfz51_1; try clear hfz51_2; try clear hfz51_3; try clear hfz51_4; try clear hfz51_5; try clear hfz53_0; try clear hfz53_1; try clear hfz59_0; try clear hfz59_1; try clear hfz60_0; try clear hfz60_1; try clear hfz60_2; try clear hfz60_3; try clear hfz60_4; try clear hfz60_5; try clear hfz68_0; try clear hfz68_1; try clear hfz72_0; try clear hfz72_1; try clear hfz72_2; try clear hfz72_3; try clear hfz72_4; try clear hfz72_5; try clear hfz76_0; try clear hfz76_1; try clear hfz76_2; try clear hfz76_3; try clear hfz76_4; try clear hfz82_0; try clear hfz82_1; try clear hfz86_0; try clear hfz86_1; try clear hfz86_2; try clear hfz86_3; try clear hfz86_4; try clear hfz86_5; try clear hfz88_0; try clear hfz88_1; try clear hfz89_0; try clear hfz89_1; try clear hfz89_2; try clear hfz89_3; try clear hfz89_4; try clear hfz89_5; try clear hfz93_0; try clear hfz93_1; try clear p2; try clear p6; try clear p64
       obtain ⟨kq, x81_93, rfl, HA, HJ93, BK296, BK297, BK305, BK311, BK318, HB⟩ := hcut
       cases kq with
       | zero => exact absurd HA.out (by simp [impl_Unpack.j2])
       | succ kj93 =>
        have H := HA.out
        clear HA
        simp only [impl_Unpack.j2] at H
        by_cases c113 : x81_93 = true
        ·subst c113
         have H1 : (some (4, (!(t316 == 0) || (!(t317 == 0))), 0, 0, 0)) = some (r1, r2, r3, r4, r5) := by rw [if_pos rfl] at H; exact H
         clear H
         have H := H1
         clear H1
         simp only [Option.some.injEq, Prod.mk.injEq] at H
         obtain ⟨rfl, rfl, rfl, rfl, rfl⟩ := H
         have hnb114 := NB297_296.out
         have hnc114 := NB296_297.out
         have hnb115 := NB297_305.out
         have hnc115 := NB305_297.out
         have hnb116 := NB297_311.out
         have hnc116 := NB311_297.out
         have hnb117 := NB297_318.out
         have hnc117 := NB318_297.out
         have hcz118_0 : wc.cell? ⟨gb297, 0, none⟩ = some (.int .i64 x298000_32) := (blk_cell BK297.out 0).trans rfl
         have hcz118_1 : wc.cell? ⟨gb297, 1, none⟩ = some (.bool x298001_32) := (blk_cell BK297.out 1).trans rfl
         have hcz118_2 : wc.cell? ⟨gb297, 2, none⟩ = some (.int .u64 x298002_32) := (blk_cell BK297.out 2).trans rfl
         have hcz118_3 : wc.cell? ⟨gb297, 3, none⟩ = some (.int .u64 x298003_32) := (blk_cell BK297.out 3).trans rfl
         have hcz118_4 : wc.cell? ⟨gb297, 4, none⟩ = some (.int .i64 x298004_32) := (blk_cell BK297.out 4).trans rfl
         have hfz118_0 := blk_frozen BK297.out 0
         have hfz118_1 := blk_frozen BK297.out 1
         have hfz118_2 := blk_frozen BK297.out 2
         have hfz118_3 := blk_frozen BK297.out 3
         have hfz118_4 := blk_frozen BK297.out 4
         go_wp2
         refine bodyPost_ret (results_cell_row rfl _ _ gb297 27 #[.int .i64 4, .bool (!(t316 == 0) || (!(t317 == 0))), .int .u64 0, .int .u64 0, .int .i64 0] (0, 0) _ rfl (by (with_reducible repeat (first | apply zN | apply zD | apply zA)); refine blk_put (cs := #[.int .i64 4, .bool (!(t316 == 0) || (!(t317 == 0))), .int .u64 0, .int .u64 0, .int .i64 x298004_32]) ?_ 4 _ rfl; (with_reducible repeat (first | apply zN | apply zD | apply zA)); refine blk_put (cs := #[.int .i64 4, .bool (!(t316 == 0) || (!(t317 == 0))), .int .u64 0, .int .u64 x298003_32, .int .i64 x298004_32]) ?_ 3 _ rfl; (with_reducible repeat (first | apply zN | apply zD | apply zA)); refine blk_put (cs := #[.int .i64 4, .bool (!(t316 == 0) || (!(t317 == 0))), .int .u64 x298002_32, .int .u64 x298003_32, .int .i64 x298004_32]) ?_ 2 _ rfl; (with_reducible repeat (first | apply zN | apply zD | apply zA)); refine blk_put (cs := #[.int .i64 4, .bool x298001_32, .int .u64 x298002_32, .int .u64 x298003_32, .int .i64 x298004_32]) ?_ 1 _ rfl; (with_reducible repeat (first | apply zN | apply zD | apply zA)); refine blk_put (cs := #[.int .i64 x298000_32, .bool x298001_32, .int .u64 x298002_32, .int .u64 x298003_32, .int .i64 x298004_32]) ?_ 0 _ rfl; (with_reducible repeat (first | apply zN | apply zD | apply zA)); exact BK297.out) Tryd.underlying27 rfl (by kernel_rfl)) rfl ?_
         exact ⟨by first | rfl | (simp [errW_none, errW_some] <;> rfl) | (simp [*, errW_none, errW_some] <;> rfl), by repeat (first | (with_reducible first | exact HB.out | apply yA | apply yN | apply yD | refine below_set ?_ GE296.out | refine below_set ?_ GE297.out | refine below_set ?_ GE305.out | refine below_set ?_ GE311.out | refine below_set ?_ GE318.out) | exact HB.out)⟩
        ·replace c113 := Bool.eq_false_iff.mpr c113
         subst c113
         have H1 : ((impl_layout_top.f t298 t299 t300 t301 t302 t303).bind fun t324 => (if (wrap64 (t315)) = t324 then (some (5, false, 0, 0, 0)) else (if (wrap64 (t315)) = 0 then (impl_Unpack.j3 kj93 (wrap64 (t315)) (!(t316 == 0) || (!(t317 == 0))) (t309 == 0 && (t310 == 0)) t298 t299 t300 t301 t302 t303 t309 t310) else (impl_Unpack.j3 kj93 (wrap64 (t315)) (!(t316 == 0) || (!(t317 == 0))) false t298 t299 t300 t301 t302 t303 t309 t310)))) = some (r1, r2, r3, r4, r5) := by rw [if_neg (show ¬ (false = true) by decide)] at H; exact H
         clear H
         have H := H1
         clear H1
         replace H := Option.bind_eq_some_iff.mp H
         obtain ⟨t324, A1190, H⟩ := H
         replace H : (if (wrap64 (t315)) = t324 then (some (5, false, 0, 0, 0)) else (if (wrap64 (t315)) = 0 then (impl_Unpack.j3 kj93 (wrap64 (t315)) (!(t316 == 0) || (!(t317 == 0))) (t309 == 0 && (t310 == 0)) t298 t299 t300 t301 t302 t303 t309 t310) else (impl_Unpack.j3 kj93 (wrap64 (t315)) (!(t316 == 0) || (!(t317 == 0))) false t298 t299 t300 t301 t302 t303 t309 t310))) = some (r1, r2, r3, r4, r5) := H
         have A119 := zM A1190
         clear A1190
         by_cases c120 : (wrap64 (t315)) = t324
         ·rw [if_pos c120] at H
          have c120b0 : ((wrap64 (t315)) == t324) = true := beq_iff_eq.mpr c120
          have c120b1 : ((wrap64 (t315)) != t324) = false := bne_eq_false_iff_eq.mpr c120
          clear c120
          simp only [Option.some.injEq, Prod.mk.injEq] at H
          obtain ⟨rfl, rfl, rfl, rfl, rfl⟩ := H
          have hnb121 := NB305_296.out
          have hnc121 := NB296_305.out
          have hnb122 := NB305_297.out
          have hnc122 := NB297_305.out
          have hnb123 := NB305_311.out
          have hnc123 := NB311_305.out
          have hnb124 := NB305_318.out
          have hnc124 := NB318_305.out
          have hcz125_0 : wc.cell? ⟨gb305, 0, none⟩ = some (.int .i64 t298) := (blk_cell BK305.out 0).trans rfl
          have hcz125_1 : wc.cell? ⟨gb305, 1, none⟩ = some (.int .i64 t299) := (blk_cell BK305.out 1).trans rfl
          have hcz125_2 : wc.cell? ⟨gb305, 2, none⟩ = some (.int .i64 t300) := (blk_cell BK305.out 2).trans rfl
          have hcz125_3 : wc.cell? ⟨gb305, 3, none⟩ = some (.int .i64 t301) := (blk_cell BK305.out 3).trans rfl
          have hcz125_4 : wc.cell? ⟨gb305, 4, none⟩ = some (.int .i64 t302) := (blk_cell BK305.out 4).trans rfl
          have hcz125_5 : wc.cell? ⟨gb305, 5, none⟩ = some (.bool t303) := (blk_cell BK305.out 5).trans rfl
          have hfz125_0 := blk_frozen BK305.out 0
          have hfz125_1 := blk_frozen BK305.out 1
          have hfz125_2 := blk_frozen BK305.out 2
          have hfz125_3 := blk_frozen BK305.out 3
          have hfz125_4 := blk_frozen BK305.out 4
          have hfz125_5 := blk_frozen BK305.out 5
          go_wp2_with (first | ((with_reducible refine gate_callee (f := 69) rfl ?_); refine goesL_ (some 96) rfl rfl Tryd.func69 (by kernel_rfl) rfl #[.agg #[.int .i64 t298, .int .i64 t299, .int .i64 t300, .int .i64 t301, .int .i64 t302, .bool t303]] rfl (by (try simp only [List.map_toArray, List.map_cons, List.map_nil]); first | done | rfl | (simp only [List.length_drop, List.length_take]; rfl)) ?_; (with_reducible refine (impl_layout_top.calls t298 t299 t300 t301 t302 t303 t324 _ A119.out).mono ?_); rintro e w126 ⟨rfl, hb⟩; refine ⟨_, rfl, ?_⟩; have n0_ := zM (blk_below (g := gb296) (o := .cells #[.int .u64 a1_0, .int .u64 a1_1] 25 (0, 0)) (by (with_reducible repeat (first | apply zN | apply zD | apply zA)); exact BK296.out) hb); have n1_ := zM (blk_below (g := gb297) (o := .cells #[.int .i64 x298000_32, .bool x298001_32, .int .u64 x298002_32, .int .u64 x298003_32, .int .i64 x298004_32] 27 (0, 0)) (by (with_reducible repeat (first | apply zN | apply zD | apply zA)); exact BK297.out) hb); have n2_ := zM (blk_below (g := gb305) (o := .cells #[.int .i64 t298, .int .i64 t299, .int .i64 t300, .int .i64 t301, .int .i64 t302, .bool t303] 91 (0, 0)) (by (with_reducible repeat (first | apply zN | apply zD | apply zA)); exact BK305.out) hb); have n3_ := zM (blk_below (g := gb311) (o := .cells #[.int .u64 t309, .int .u64 t310] 25 (0, 0)) (by (with_reducible repeat (first | apply zN | apply zD | apply zA)); exact BK311.out) hb); have n4_ := zM (blk_below (g := gb318) (o := .cells #[.int .u64 x319000_32, .int .u64 x319001_32] 25 (0, 0)) (by (with_reducible repeat (first | apply zN | apply zD | apply zA)); exact BK318.out) hb); have n5_ := zM (below_step (by repeat (first | (with_reducible first | exact HB.out | apply yA | apply yN | apply yD | refine below_set ?_ GE296.out | refine below_set ?_ GE297.out | refine below_set ?_ GE305.out | refine below_set ?_ GE311.out | refine below_set ?_ GE318.out) | exact HB.out)) hb); clear BK296; clear BK297; clear BK305; clear BK311; clear BK318; clear HB; have BK296 := n0_; have BK297 := n1_; have BK305 := n2_; have BK311 := n3_; have BK318 := n4_; have HB := n5_; clear n0_ n1_ n2_ n3_ n4_ n5_; (try clear hb); (try clear hb2); (try clear hk); (try clear hi); have hnb127 := NB297_296.out; have hnc127 := NB296_297.out; have hnb128 := NB297_311.out; have hnc128 := NB311_297.out; have hnb129 := NB297_318.out; have hnc129 := NB318_297.out; have hcz130_0 : w126.cell? ⟨gb297, 0, none⟩ = some (.int .i64 x298000_32) := (blk_cell BK297.out 0).trans rfl; have hcz130_1 : w126.cell? ⟨gb297, 1, none⟩ = some (.bool x298001_32) := (blk_cell BK297.out 1).trans rfl; have hcz130_2 : w126.cell? ⟨gb297, 2, none⟩ = some (.int .u64 x298002_32) := (blk_cell BK297.out 2).trans rfl; have hcz130_3 : w126.cell? ⟨gb297, 3, none⟩ = some (.int .u64 x298003_32) := (blk_cell BK297.out 3).trans rfl; have hcz130_4 : w126.cell? ⟨gb297, 4, none⟩ = some (.int .i64 x298004_32) := (blk_cell BK297.out 4).trans rfl; have hfz130_0 := blk_frozen BK297.out 0; have hfz130_1 := blk_frozen BK297.out 1; have hfz130_2 := blk_frozen BK297.out 2; have hfz130_3 := blk_frozen BK297.out 3; have hfz130_4 := blk_frozen BK297.out 4))
          refine bodyPost_ret (results_cell_row rfl _ _ gb297 27 #[.int .i64 5, .bool false, .int .u64 0, .int .u64 0, .int .i64 0] (0, 0) _ rfl (by (with_reducible repeat (first | apply zN | apply zD | apply zA)); refine blk_put (cs := #[.int .i64 5, .bool false, .int .u64 0, .int .u64 0, .int .i64 x298004_32]) ?_ 4 _ rfl; (with_reducible repeat (first | apply zN | apply zD | apply zA)); refine blk_put (cs := #[.int .i64 5, .bool false, .int .u64 0, .int .u64 x298003_32, .int .i64 x298004_32]) ?_ 3 _ rfl; (with_reducible repeat (first | apply zN | apply zD | apply zA)); refine blk_put (cs := #[.int .i64 5, .bool false, .int .u64 x298002_32, .int .u64 x298003_32, .int .i64 x298004_32]) ?_ 2 _ rfl; (with_reducible repeat (first | apply zN | apply zD | apply zA)); refine blk_put (cs := #[.int .i64 5, .bool x298001_32, .int .u64 x298002_32, .int .u64 x298003_32, .int .i64 x298004_32]) ?_ 1 _ rfl; (with_reducible repeat (first | apply zN | apply zD | apply zA)); refine blk_put (cs := #[.int .i64 x298000_32, .bool x298001_32, .int .u64 x298002_32, .int .u64 x298003_32, .int .i64 x298004_32]) ?_ 0 _ rfl; (with_reducible repeat (first | apply zN | apply zD | apply zA)); exact BK297.out) Tryd.underlying27 rfl (by kernel_rfl)) rfl ?_
          exact ⟨by first | rfl | (simp [errW_none, errW_some] <;> rfl) | (simp [*, errW_none, errW_some] <;> rfl), by repeat (first | (with_reducible first | exact HB.out | apply yA | apply yN | apply yD | refine below_set ?_ GE296.out | refine below_set ?_ GE297.out | refine below_set ?_ GE305.out | refine below_set ?_ GE311.out | refine below_set ?_ GE318.out) | exact HB.out)⟩
         ·rw [if_neg c120] at H
          have c120b0 : ((wrap64 (t315)) == t324) = false := beq_eq_false_iff_ne.mpr c120
          have c120b1 : ((wrap64 (t315)) != t324) = true := bne_iff_ne.mpr c120
          have HC131 := zM H
          clear H
          have hnb132 := NB305_296.out
          have hnc132 := NB296_305.out
          have hnb133 := NB305_297.out
          have hnc133 := NB297_305.out
          have hnb134 := NB305_311.out
          have hnc134 := NB311_305.out
          have hnb135 := NB305_318.out
          have hnc135 := NB318_305.out
          have hcz136_0 : wc.cell? ⟨gb305, 0, none⟩ = some (.int .i64 t298) := (blk_cell BK305.out 0).trans rfl
          have hcz136_1 : wc.cell? ⟨gb305, 1, none⟩ = some (.int .i64 t299) := (blk_cell BK305.out 1).trans rfl
          have hcz136_2 : wc.cell? ⟨gb305, 2, none⟩ = some (.int .i64 t300) := (blk_cell BK305.out 2).trans rfl
          have hcz136_3 : wc.cell? ⟨gb305, 3, none⟩ = some (.int .i64 t301) := (blk_cell BK305.out 3).trans rfl
          have hcz136_4 : wc.cell? ⟨gb305, 4, none⟩ = some (.int .i64 t302) := (blk_cell BK305.out 4).trans rfl
          have hcz136_5 : wc.cell? ⟨gb305, 5, none⟩ = some (.bool t303) := (blk_cell BK305.out 5).trans rfl
          have hfz136_0 := blk_frozen BK305.out 0
          have hfz136_1 := blk_frozen BK305.out 1
          have hfz136_2 := blk_frozen BK305.out 2
          have hfz136_3 := blk_frozen BK305.out 3
          have hfz136_4 := blk_frozen BK305.out 4
          have hfz136_5 := blk_frozen BK305.out 5
          go_upto_region 18 with (first | ((with_reducible refine gate_callee (f := 69) rfl ?_); refine goesL_ (some 96) rfl rfl Tryd.func69 (by kernel_rfl) rfl #[.agg #[.int .i64 t298, .int .i64 t299, .int .i64 t300, .int .i64 t301, .int .i64 t302, .bool t303]] rfl (by (try simp only [List.map_toArray, List.map_cons, List.map_nil]); first | done | rfl | (simp only [List.length_drop, List.length_take]; rfl)) ?_; (with_reducible refine (impl_layout_top.calls t298 t299 t300 t301 t302 t303 t324 _ A119.out).mono ?_); rintro e w137 ⟨rfl, hb⟩; refine ⟨_, rfl, ?_⟩; have n0_ := zM (blk_below (g := gb296) (o := .cells #[.int .u64 a1_0, .int .u64 a1_1] 25 (0, 0)) (by (with_reducible repeat (first | apply zN | apply zD | apply zA)); exact BK296.out) hb); have n1_ := zM (blk_below (g := gb297) (o := .cells #[.int .i64 x298000_32, .bool x298001_32, .int .u64 x298002_32, .int .u64 x298003_32, .int .i64 x298004_32] 27 (0, 0)) (by (with_reducible repeat (first | apply zN | apply zD | apply zA)); exact BK297.out) hb); have n2_ := zM (blk_below (g := gb305) (o := .cells #[.int .i64 t298, .int .i64 t299, .int .i64 t300, .int .i64 t301, .int .i64 t302, .bool t303] 91 (0, 0)) (by (with_reducible repeat (first | apply zN | apply zD | apply zA)); exact BK305.out) hb); have n3_ := zM (blk_below (g := gb311) (o := .cells #[.int .u64 t309, .int .u64 t310] 25 (0, 0)) (by (with_reducible repeat (first | apply zN | apply zD | apply zA)); exact BK311.out) hb); have n4_ := zM (blk_below (g := gb318) (o := .cells #[.int .u64 x319000_32, .int .u64 x319001_32] 25 (0, 0)) (by (with_reducible repeat (first | apply zN | apply zD | apply zA)); exact BK318.out) hb); have n5_ := zM (below_step (by repeat (first | (with_reducible first | exact HB.out | apply yA | apply yN | apply yD | refine below_set ?_ GE296.out | refine below_set ?_ GE297.out | refine below_set ?_ GE305.out | refine below_set ?_ GE311.out | refine below_set ?_ GE318.out) | exact HB.out)) hb); clear BK296; clear BK297; clear BK305; clear BK311; clear BK318; clear HB; have BK296 := n0_; have BK297 := n1_; have BK305 := n2_; have BK311 := n3_; have BK318 := n4_; have HB := n5_; clear n0_ n1_ n2_ n3_ n4_ n5_; (try clear hb); (try clear hb2); (try clear hk); (try clear hi)))
          (try simp only [Act.put, xT, xZ, xS])
          go_cut [99] (fun v99 wc => ∃ (kq : Nat) (x99_130 : Bool), v99 = .bool x99_130 ∧ Aside0 (impl_Unpack.j3 kq (wrap64 (t315)) (!(t316 == 0) || (!(t317 == 0))) x99_130 t298 t299 t300 t301 t302 t303 t309 t310 = some (r1, r2, r3, r4, r5)) ∧ Aside0 (kq ≤ kj93) ∧ Aside0 (wc.heap[gb296]? = some (.cells #[.int .u64 a1_0, .int .u64 a1_1] 25 (0, 0))) ∧ Aside0 (wc.heap[gb297]? = some (.cells #[.int .i64 x298000_32, .bool x298001_32, .int .u64 x298002_32, .int .u64 x298003_32, .int .i64 x298004_32] 27 (0, 0))) ∧ Aside0 (wc.heap[gb305]? = some (.cells #[.int .i64 t298, .int .i64 t299, .int .i64 t300, .int .i64 t301, .int .i64 t302, .bool t303] 91 (0, 0))) ∧ Aside0 (wc.heap[gb311]? = some (.cells #[.int .u64 t309, .int .u64 t310] 25 (0, 0))) ∧ Aside0 (wc.heap[gb318]? = some (.cells #[.int .u64 x319000_32, .int .u64 x319001_32] 25 (0, 0))) ∧ Aside0 (Below w.heap.size w wc))
          case first =>
           have H := HC131.out
           clear HC131
           by_cases c138 : (wrap64 (t315)) = 0
           ·rw [if_pos c138] at H
            have c138b0 : ((wrap64 (t315)) == 0) = true := beq_iff_eq.mpr c138
            have c138b1 : ((wrap64 (t315)) != 0) = false := bne_eq_false_iff_eq.mpr c138
            clear c138
            (first | rw [c138b0] | (simp only [i64_w, i32_w]; rw [c138b0]) | rw [c138b1] | (simp only [c138b1]) | skip)
            have H' := zM H
            clear H
            have hnb139 := NB311_296.out
            have hnc139 := NB296_311.out
            have hnb140 := NB311_297.out
            have hnc140 := NB297_311.out
            have hnb141 := NB311_305.out
            have hnc141 := NB305_311.out
            have hnb142 := NB311_318.out
            have hnc142 := NB318_311.out
            have hcz143_0 : w137.cell? ⟨gb311, 0, none⟩ = some (.int .u64 t309) := (blk_cell BK311.out 0).trans rfl
            have hcz143_1 : w137.cell? ⟨gb311, 1, none⟩ = some (.int .u64 t310) := (blk_cell BK311.out 1).trans rfl
            have hfz143_0 := blk_frozen BK311.out 0
            have hfz143_1 := blk_frozen BK311.out 1
            go_wp2
            go_meet
            case rel => exact ⟨_, ((t309 == 0 && (t310 == 0))), (by first | rfl | (simp; done) | (simp [*]; done)), H', ⟨by have := HJ3.out; have := HJ32.out; have := HJ93.out; first | omega | exact Nat.le_refl _⟩, ⟨by (with_reducible repeat (first | apply zN | apply zD | apply zA)); exact BK296.out⟩, ⟨by (with_reducible repeat (first | apply zN | apply zD | apply zA)); exact BK297.out⟩, ⟨by (with_reducible repeat (first | apply zN | apply zD | apply zA)); exact BK305.out⟩, ⟨by (with_reducible repeat (first | apply zN | apply zD | apply zA)); exact BK311.out⟩, ⟨by (with_reducible repeat (first | apply zN | apply zD | apply zA)); exact BK318.out⟩, ⟨by repeat (first | (with_reducible first | exact HB.out | apply yA | apply yN | apply yD | refine below_set ?_ GE296.out | refine below_set ?_ GE297.out | refine below_set ?_ GE305.out | refine below_set ?_ GE311.out | refine below_set ?_ GE318.out) | exact HB.out)⟩⟩
           ·rw [if_neg c138] at H
            have c138b0 : ((wrap64 (t315)) == 0) = false := beq_eq_false_iff_ne.mpr c138
            have c138b1 : ((wrap64 (t315)) != 0) = true := bne_iff_ne.mpr c138
            (first | rw [c138b0] | (simp only [i64_w, i32_w]; rw [c138b0]) | rw [c138b1] | (simp only [c138b1]) | skip)
            have H' := zM H
            clear H
            go_wp2
            go_meet
            case rel => exact ⟨_, (false), (by first | rfl | (simp; done) | (simp [*]; done)), H', ⟨by have := HJ3.out; have := HJ32.out; have := HJ93.out; first | omega | exact Nat.le_refl _⟩, ⟨by (with_reducible repeat (first | apply zN | apply zD | apply zA)); exact BK296.out⟩, ⟨by (with_reducible repeat (first | apply zN | apply zD | apply zA)); exact BK297.out⟩, ⟨by (with_reducible repeat (first | apply zN | apply zD | apply zA)); exact BK305.out⟩, ⟨by (with_reducible repeat (first | apply zN | apply zD | apply zA)); exact BK311.out⟩, ⟨by (with_reducible repeat (first | apply zN | apply zD | apply zA)); exact BK318.out⟩, ⟨by repeat (first | (with_reducible first | exact HB.out | apply yA | apply yN | apply yD | refine below_set ?_ GE296.out | refine below_set ?_ GE297.out | refine below_set ?_ GE305.out | refine below_set ?_ GE311.out | refine below_set ?_ GE318.out) | exact HB.out)⟩⟩
          case rest =>
           clear HC131
           try clear c1; try clear c2; try clear p2; try clear c3; try clear c4; try clear c5; try clear c6; try clear p6; try clear c7; try clear c8; try clear c9; try clear c10; try clear c11; try clear c12; try clear c13; try clear c13b0; try clear c13b1; try clear c14; try clear c15; try clear c16; try clear c17; try clear c18; try clear c21; try clear c22; try clear c24; try clear c25; try clear c26; try clear c34; try clear c35; try clear c38; try clear c42; try clear c43; try clear c44; try clear c55; try clear c56; try clear c57; try clear c58; try clear c61; try clear c63; try clear c63b0; try clear c63b1; try clear c63b2; try clear c64; try clear p64; try clear c65; try clear c66; try clear c67; try clear c68; try clear c69; try clear c70; try clear c71; try clear c74; try clear c75; try clear c78; try clear c79; try clear c80; try clear c81; try clear c83; try clear c84; try clear c85; try clear c91; try clear c92; try clear c96; try clear c96b0; try clear c96b1; try clear c97; try clear c98; try clear c99; try clear c100; try clear c103; try clear c104; try clear c105; try clear c107; try clear c108; try clear c109; try clear c110; try clear c113; try clear c114; try clear c115; try clear c116; try clear c117; try clear c120; try clear c120b0; try clear c120b1; try clear c121; try clear c122; try clear c123; try clear c124; try clear c127; try clear c128; try clear c129; try clear c132; try clear c133; try clear c134; try clear c135; try clear c138; try clear c138b0; try clear c138b1; try clear c139; try clear c140; try clear c141; try clear c142; try clear hcz101_0; try clear hcz101_1; try clear hcz101_2; try clear hcz101_3; try clear hcz101_4; try clear hcz101_5; try clear hcz106_0; try clear hcz106_1; try clear hcz111_0; try clear hcz111_1; try clear hcz111_2; try clear hcz111_3; try clear hcz111_4; try clear hcz111_5; try clear hcz118_0; try clear hcz118_1; try clear hcz118_2; try clear hcz118_3; try clear hcz118_4; try clear hcz11_0; try clear hcz11_1; try clear hcz11_2; try clear hcz11_3; try clear hcz11_4; try clear hcz11_5; try clear hcz125_0; try clear hcz125_1; try clear hcz125_2; try clear hcz125_3; try clear hcz125_4; try clear hcz125_5; try clear hcz130_0; try clear hcz130_1; try clear hcz130_2; try clear hcz130_3; try clear hcz130_4; try clear hcz136_0; try clear hcz136_1; try clear hcz136_2; try clear hcz136_3; try clear hcz136_4; try clear hcz136_5; try clear hcz143_0; try clear hcz143_1; try clear hcz17_0; try clear hcz17_1; try clear hcz17_2; try clear hcz17_3; try clear hcz17_4; try clear hcz17_5; try clear hcz19_0; try clear hcz19_1; try clear hcz23_0; try clear hcz23_1; try clear hcz23_2; try clear hcz23_3; try clear hcz23_4; try clear hcz23_5; try clear hcz27_0; try clear hcz27_1; try clear hcz27_2; try clear hcz27_3; try clear hcz27_4; try clear hcz36_0; try clear hcz36_1; try clear hcz36_2; try clear hcz36_3; try clear hcz36_4; try clear hcz36_5; try clear hcz39_0; try clear hcz39_1; try clear hcz45_0; try clear hcz45_1; try clear hcz50_0; try clear hcz50_1; try clear hcz51_0; try clear hcz51_1; try clear hcz51_2; try clear hcz51_3; try clear hcz51_4; try clear hcz51_5; try clear hcz53_0; try clear hcz53_1; try clear hcz59_0; try clear hcz59_1; try clear hcz60_0; try clear hcz60_1; try clear hcz60_2; try clear hcz60_3; try clear hcz60_4; try clear hcz60_5; try clear hcz68_0; try clear hcz68_1; try clear hcz72_0; try clear hcz72_1; try clear hcz72_2; try clear hcz72_3; try clear hcz72_4; try clear hcz72_5; try clear hcz76_0; try clear hcz76_1; try clear hcz76_2; try clear hcz76_3; try clear hcz76_4; try clear hcz82_0; try clear hcz82_1; try clear hcz86_0; try clear hcz86_1; try clear hcz86_2; try clear hcz86_3; try clear hcz86_4; try clear hcz86_5; try clear hcz88_0; try clear hcz88_1; try clear hcz89_0; try clear hcz89_1; try clear hcz89_2; try clear hcz89_3; try clear hcz89_4; try clear hcz89_5; try clear hcz93_0; try clear hcz93_1; try clear hfz101_0; try clear hfz101_1; try clear hfz101_2; try clear hfz101_3; try clear hfz101_4; try clear hfz101_5; try clear hfz106_0; try clear hfz106_1; try clear hfz111_0; try clear hfz111_1; try clear hfz111_2; try clear hfz111_3; try clear hfz111_4; try clear hfz111_5; try clear hfz118_0; try clear hfz118_1; try clear hfz118_2; try clear hfz118_3; try clear hfz118_4; try clear hfz11_0; try clear hfz11_1; try clear hfz11_2; try clear hfz11_3; try clear hfz11_4; try clear hfz11_5; try clear hfz125_0; try clear hfz125_1; try clear hfz125_2; try clear hfz125_3; try clear hfz125_4; try clear hfz125_5; try clear hfz130_0; try clear hfz130_1; try clear hfz130_2; try clear hfz130_3; try clear hfz130_4; try clear hfz136_0; try clear hfz136_1; try clear hfz136_2; try clear hfz136_3; try clear hfz136_4; try clear hfz136_5; try clear hfz143_0; try clear hfz143_1; try clear hfz17_0; try clear hfz17_1; try clear hfz17_2; try clear hfz17_3; try clear hfz17_4; try clear hfz17_5; try clear hfz19_0; try clear hfz19_1; try clear hfz23_0; try clear hfz23_1; try clear hfz23_2; try clear hfz23_3; try clear hfz23_4; try clear hfz23_5; try clear hfz27_0; try clear hfz27_1; try clear hfz27_2; try clear hfz27_3; try clear hfz27_4; try clear hfz36_0; try clear hfz36_1; try clear hfz36_2; try clear hfz36_3; try clear hfz36_4; try clear hfz36_5; try clear hfz39_0; try clear hfz39_1; try clear hfz45_0; try clear hfz45_1; try clear hfz50_0; try clear hfz50_1; try clear hfz51_0; try clear hfz51_1; try clear hfz51_2; try clear hfz51_3; try clear hfz51_4; try clear hfz51_5; try clear hfz53_0; try clear hfz53_1; try clear hfz59_0; try clear hfz59_1; try clear hfz60_0; try clear hfz60_1; try clear hfz60_2; try clear hfz60_3; try clear hfz60_4; try clear hfz60_5; try clear hfz68_0; try clear hfz68_1; try clear hfz72_0; try clear hfz72_1; try clear hfz72_2; try clear hfz72_3; try clear hfz72_4; try clear hfz72_5; try clear hfz76_0; try clear hfz76_1; try clear hfz76_2; try clear hfz76_3; try clear hfz76_4; try clear hfz82_0; try clear hfz82_1; try clear hfz86_0; try clear hfz86_1; try clear hfz86_2; try clear hfz86_3; try clear hfz86_4; try clear hfz86_5; try clear hfz88_0; try clear hfz88_1; try clear hfz89_0; try clear hfz89_1; try clear hfz89_2; try clear hfz89_3; try clear hfz89_4; try clear hfz89_5; try clear hfz93_0; try clear hfz93_1; try clear p2; try clear p6; try clear p64
           obtain ⟨kq, x99_130, rfl, HA, HJ130, BK296, BK297, BK305, BK311, BK318, HB⟩ := hcut
           cases kq with
           | zero => exact absurd HA.out (by simp [impl_Unpack.j3])
           | succ kj130 =>
            have H := HA.out
            clear HA
            simp only [impl_Unpack.j3] at H
            by_cases c144 : x99_130 = true
            ·subst c144
             have H1 : (some (1, (!(t316 == 0) || (!(t317 == 0))), 0, 0, 0)) = some (r1, r2, r3, r4, r5) := by rw [if_pos rfl] at H; exact H
             clear H
             have H := H1
             clear H1
             simp only [Option.some.injEq, Prod.mk.injEq] at H
             obtain ⟨rfl, rfl, rfl, rfl, rfl⟩ := H
             have hnb145 := NB297_296.out
             have hnc145 := NB296_297.out
             have hnb146 := NB297_305.out
             have hnc146 := NB305_297.out
             have hnb147 := NB297_311.out
             have hnc147 := NB311_297.out
             have hnb148 := NB297_318.out
             have hnc148 := NB318_297.out
             have hcz149_0 : wc.cell? ⟨gb297, 0, none⟩ = some (.int .i64 x298000_32) := (blk_cell BK297.out 0).trans rfl
             have hcz149_1 : wc.cell? ⟨gb297, 1, none⟩ = some (.bool x298001_32) := (blk_cell BK297.out 1).trans rfl
             have hcz149_2 : wc.cell? ⟨gb297, 2, none⟩ = some (.int .u64 x298002_32) := (blk_cell BK297.out 2).trans rfl
             have hcz149_3 : wc.cell? ⟨gb297, 3, none⟩ = some (.int .u64 x298003_32) := (blk_cell BK297.out 3).trans rfl
             have hcz149_4 : wc.cell? ⟨gb297, 4, none⟩ = some (.int .i64 x298004_32) := (blk_cell BK297.out 4).trans rfl
             have hfz149_0 := blk_frozen BK297.out 0
             have hfz149_1 := blk_frozen BK297.out 1
             have hfz149_2 := blk_frozen BK297.out 2
             have hfz149_3 := blk_frozen BK297.out 3
             have hfz149_4 := blk_frozen BK297.out 4
             go_wp2
             refine bodyPost_ret (results_cell_row rfl _ _ gb297 27 #[.int .i64 1, .bool (!(t316 == 0) || (!(t317 == 0))), .int .u64 0, .int .u64 0, .int .i64 0] (0, 0) _ rfl (by (with_reducible repeat (first | apply zN | apply zD | apply zA)); refine blk_put (cs := #[.int .i64 1, .bool (!(t316 == 0) || (!(t317 == 0))), .int .u64 0, .int .u64 0, .int .i64 x298004_32]) ?_ 4 _ rfl; (with_reducible repeat (first | apply zN | apply zD | apply zA)); refine blk_put (cs := #[.int .i64 1, .bool (!(t316 == 0) || (!(t317 == 0))), .int .u64 0, .int .u64 x298003_32, .int .i64 x298004_32]) ?_ 3 _ rfl; (with_reducible repeat (first | apply zN | apply zD | apply zA)); refine blk_put (cs := #[.int .i64 1, .bool (!(t316 == 0) || (!(t317 == 0))), .int .u64 x298002_32, .int .u64 x298003_32, .int .i64 x298004_32]) ?_ 2 _ rfl; (with_reducible repeat (first | apply zN | apply zD | apply zA)); refine blk_put (cs := #[.int .i64 1, .bool x298001_32, .int .u64 x298002_32, .int .u64 x298003_32, .int .i64 x298004_32]) ?_ 1 _ rfl; (with_reducible repeat (first | apply zN | apply zD | apply zA)); refine blk_put (cs := #[.int .i64 x298000_32, .bool x298001_32, .int .u64 x298002_32, .int .u64 x298003_32, .int .i64 x298004_32]) ?_ 0 _ rfl; (with_reducible repeat (first | apply zN | apply zD | apply zA)); exact BK297.out) Tryd.underlying27 rfl (by kernel_rfl)) rfl ?_
             exact ⟨by first | rfl | (simp [errW_none, errW_some] <;> rfl) | (simp [*, errW_none, errW_some] <;> rfl), by repeat (first | (with_reducible first | exact HB.out | apply yA | apply yN | apply yD | refine below_set ?_ GE296.out | refine below_set ?_ GE297.out | refine below_set ?_ GE305.out | refine below_set ?_ GE311.out | refine below_set ?_ GE318.out) | exact HB.out)⟩
            ·replace c144 := Bool.eq_false_iff.mpr c144
             subst c144
             have H1 : (if (wrap64 (t315)) = 0 then ((impl_layout_qMin.f t298 t299 t300 t301 t302 t303).bind fun t325 => (some (2, (!(t316 == 0) || (!(t317 == 0))), t309, t310, t325))) else ((impl_one.f (wrap64 (t298 - 1))).bind fun bt326 => ((impl_Word_or.f t309 t310 bt326.1 bt326.2).bind fun bt328 => (some (3, (!(t316 == 0) || (!(t317 == 0))), bt328.1, bt328.2, wrap64 ((wrap64 ((wrap64 ((wrap64 (t315)) - t300)) - t298)) + 1)))))) = some (r1, r2, r3, r4, r5) := by rw [if_neg (show ¬ (false = true) by decide)] at H; exact H
             clear H
             have H := H1
             clear H1
             by_cases c150 : (wrap64 (t315)) = 0
             ·rw [if_pos c150] at H
              have c150b0 : ((wrap64 (t315)) == 0) = true := beq_iff_eq.mpr c150
              have c150b1 : ((wrap64 (t315)) != 0) = false := bne_eq_false_iff_eq.mpr c150
              clear c150
              replace H := Option.bind_eq_some_iff.mp H
              obtain ⟨t325, A1510, H⟩ := H
              replace H : (some (2, (!(t316 == 0) || (!(t317 == 0))), t309, t310, t325)) = some (r1, r2, r3, r4, r5) := H
              have A151 := zM A1510
              clear A1510
              simp only [Option.some.injEq, Prod.mk.injEq] at H
              obtain ⟨rfl, rfl, rfl, rfl, rfl⟩ := H
              try go_wp2
              have n0_ := zM (zD BK296.out)
              have n1_ := zM (zD BK297.out)
              have n2_ := zM (zD BK305.out)
              have n3_ := zM (zD BK311.out)
              have n4_ := zM (zD BK318.out)
              have n5_ := zM (yD HB.out)
              clear BK296
              clear BK297
              clear BK305
              clear BK311
              clear BK318
              clear HB
              have BK296 := n0_
              have BK297 := n1_
              have BK305 := n2_
              have BK311 := n3_
              have BK318 := n4_
              have HB := n5_
              clear n0_ n1_ n2_ n3_ n4_ n5_
              refine start_ (n := 6) (S := fun w' => w'.cell? ⟨gb311, 0, none⟩ = some (.int .u64 t309) ∧ w'.cell? ⟨gb311, 1, none⟩ = some (.int .u64 t310) ∧ w'.cell? ⟨gb305, 0, none⟩ = some (.int .i64 t298) ∧ w'.cell? ⟨gb305, 1, none⟩ = some (.int .i64 t299) ∧ w'.cell? ⟨gb305, 2, none⟩ = some (.int .i64 t300) ∧ w'.cell? ⟨gb305, 3, none⟩ = some (.int .i64 t301) ∧ w'.cell? ⟨gb305, 4, none⟩ = some (.int .i64 t302) ∧ w'.cell? ⟨gb305, 5, none⟩ = some (.bool t303)) (ds := []) #[false, false, false, false, false, false] (by kernel_rfl) rfl rfl ⟨(blk_cell BK311.out 0).trans rfl, (blk_cell BK311.out 1).trans rfl, (blk_cell BK305.out 0).trans rfl, (blk_cell BK305.out 1).trans rfl, (blk_cell BK305.out 2).trans rfl, (blk_cell BK305.out 3).trans rfl, (blk_cell BK305.out 4).trans rfl, (blk_cell BK305.out 5).trans rfl⟩ (fun hHeld => ?_)
              generalize wc.drew = w152 at BK296 BK297 BK305 BK311 BK318 HB hHeld ⊢
              refine pure_ (i := 0) (N := some 112) (v := ?_) (a' := ?_) #[true, false, false, false, false, false] rfl rfl (by kernel_rfl) (fun _ _ _ h => h) (Or.inl ⟨by rfl, ?_⟩) ?_ ?_
              rotate_left
              ·intro w'
               go_simp
               with_reducible rfl
              rotate_left
              ·simp only [Act.put, xT, xZ, xS, i64_w, i32_w]
               rfl
              refine take_ (i := 1) (N := some 113) (v := ?_) (a' := ?_) #[true, true, false, false, false, false] rfl rfl (by kernel_rfl) (fun _ _ _ h => h) (Or.inl ⟨by rfl, ?_⟩) hHeld ?_ ?_
              rotate_left
              ·rintro w' ⟨s0, s1, s2, s3, s4, s5, s6, s7⟩
               go_simp
               with_reducible rfl
              rotate_left
              ·simp only [Act.put, xT, xZ, xS, i64_w, i32_w]
               rfl
              refine take_ (i := 2) (N := some 114) (v := ?_) (a' := ?_) #[true, true, true, false, false, false] rfl rfl (by kernel_rfl) (fun _ _ _ h => h) (Or.inl ⟨by rfl, ?_⟩) hHeld ?_ ?_
              rotate_left
              ·rintro w' ⟨s0, s1, s2, s3, s4, s5, s6, s7⟩
               go_simp
               with_reducible rfl
              rotate_left
              ·simp only [Act.put, xT, xZ, xS, i64_w, i32_w]
               rfl
              refine one_ (i := 3) (N := some 115) #[true, true, true, true, false, false] rfl rfl (by kernel_rfl) (by decide) (fun K hK => ?_)
              refine goes_ Tryd.func70 (by kernel_rfl) rfl #[.agg #[.int .i64 t298, .int .i64 t299, .int .i64 t300, .int .i64 t301, .int .i64 t302, .bool t303]] (by rfl) rfl rfl (by (try simp only [List.map_toArray, List.map_cons, List.map_nil]); first | done | rfl | (simp only [List.length_drop, List.length_take]; rfl)) ?_
              with_reducible refine (impl_layout_qMin.calls t298 t299 t300 t301 t302 t303 t325 _ A151.out).mono ?_
              rintro e w153 ⟨rfl, hb⟩
              refine ⟨_, rfl, ?_⟩
              have n0_ := zM (blk_below (g := gb296) (o := .cells #[.int .u64 a1_0, .int .u64 a1_1] 25 (0, 0)) (by (with_reducible repeat (first | apply zN | apply zD | apply zA)); exact BK296.out) hb)
              have n1_ := zM (blk_below (g := gb297) (o := .cells #[.int .i64 x298000_32, .bool x298001_32, .int .u64 x298002_32, .int .u64 x298003_32, .int .i64 x298004_32] 27 (0, 0)) (by (with_reducible repeat (first | apply zN | apply zD | apply zA)); exact BK297.out) hb)
              have n2_ := zM (blk_below (g := gb305) (o := .cells #[.int .i64 t298, .int .i64 t299, .int .i64 t300, .int .i64 t301, .int .i64 t302, .bool t303] 91 (0, 0)) (by (with_reducible repeat (first | apply zN | apply zD | apply zA)); exact BK305.out) hb)
              have n3_ := zM (blk_below (g := gb311) (o := .cells #[.int .u64 t309, .int .u64 t310] 25 (0, 0)) (by (with_reducible repeat (first | apply zN | apply zD | apply zA)); exact BK311.out) hb)
              have n4_ := zM (blk_below (g := gb318) (o := .cells #[.int .u64 x319000_32, .int .u64 x319001_32] 25 (0, 0)) (by (with_reducible repeat (first | apply zN | apply zD | apply zA)); exact BK318.out) hb)
              have n5_ := zM (below_step (by repeat (first | (with_reducible first | exact HB.out | apply yA | apply yN | apply yD | refine below_set ?_ GE296.out | refine below_set ?_ GE297.out | refine below_set ?_ GE305.out | refine below_set ?_ GE311.out | refine below_set ?_ GE318.out) | exact HB.out)) hb)
              clear BK296
              clear BK297
              clear BK305
              clear BK311
              clear BK318
              clear HB
              have BK296 := n0_
              have BK297 := n1_
              have BK305 := n2_
              have BK311 := n3_
              have BK318 := n4_
              have HB := n5_
              clear n0_ n1_ n2_ n3_ n4_ n5_
              (try clear hb)
              (try clear hb2)
              (try clear hk)
              (try clear hi)
              refine hK.out _ _ ⟨(blk_cell BK311.out 0).trans rfl, (blk_cell BK311.out 1).trans rfl, (blk_cell BK305.out 0).trans rfl, (blk_cell BK305.out 1).trans rfl, (blk_cell BK305.out 2).trans rfl, (blk_cell BK305.out 3).trans rfl, (blk_cell BK305.out 4).trans rfl, (blk_cell BK305.out 5).trans rfl⟩ (fun hHeld => ?_)
              clear hK K
              refine norm_ (a' := ?_) ?_ ?_
              rotate_left
              ·show Act.put _ (some 115) _ = _
               simp only [Act.put, xT, xZ, xS, i64_w, i32_w]
               rfl
              refine pure_ (i := 4) (N := some 116) (v := ?_) (a' := ?_) #[true, true, true, true, true, false] rfl rfl (by kernel_rfl) (fun _ _ _ h => h) (Or.inl ⟨by rfl, ?_⟩) ?_ ?_
              rotate_left
              ·intro w'
               go_simp
               with_reducible rfl
              rotate_left
              ·simp only [Act.put, xT, xZ, xS, i64_w, i32_w]
               rfl
              refine one_ (i := 5) (N := none) #[true, true, true, true, true, true] rfl rfl (by kernel_rfl) (by decide) (fun K hK => ?_)
              have hs154 : w153.cell? ⟨gb297, 0, none⟩ = some (.int .i64 x298000_32) := (blk_cell BK297.out 0).trans rfl
              have hfs154 := blk_frozen BK297.out 0
              have hns154_0 := NB296_297.out
              have hns154_2 := NB305_297.out
              have hns154_3 := NB311_297.out
              have hns154_4 := NB318_297.out
              have hms154_0 := NB297_296.out
              have hms154_2 := NB297_305.out
              have hms154_3 := NB297_311.out
              have hms154_4 := NB297_318.out
              have hs155 : w153.cell? ⟨gb297, 1, none⟩ = some (.bool x298001_32) := (blk_cell BK297.out 1).trans rfl
              have hfs155 := blk_frozen BK297.out 1
              have hns155_0 := NB296_297.out
              have hns155_2 := NB305_297.out
              have hns155_3 := NB311_297.out
              have hns155_4 := NB318_297.out
              have hms155_0 := NB297_296.out
              have hms155_2 := NB297_305.out
              have hms155_3 := NB297_311.out
              have hms155_4 := NB297_318.out
              have hs156 : w153.cell? ⟨gb297, 2, none⟩ = some (.int .u64 x298002_32) := (blk_cell BK297.out 2).trans rfl
              have hfs156 := blk_frozen BK297.out 2
              have hns156_0 := NB296_297.out
              have hns156_2 := NB305_297.out
              have hns156_3 := NB311_297.out
              have hns156_4 := NB318_297.out
              have hms156_0 := NB297_296.out
              have hms156_2 := NB297_305.out
              have hms156_3 := NB297_311.out
              have hms156_4 := NB297_318.out
              have hs157 : w153.cell? ⟨gb297, 3, none⟩ = some (.int .u64 x298003_32) := (blk_cell BK297.out 3).trans rfl
              have hfs157 := blk_frozen BK297.out 3
              have hns157_0 := NB296_297.out
              have hns157_2 := NB305_297.out
              have hns157_3 := NB311_297.out
              have hns157_4 := NB318_297.out
              have hms157_0 := NB297_296.out
              have hms157_2 := NB297_305.out
              have hms157_3 := NB297_311.out
              have hms157_4 := NB297_318.out
              have hs158 : w153.cell? ⟨gb297, 4, none⟩ = some (.int .i64 x298004_32) := (blk_cell BK297.out 4).trans rfl
              have hfs158 := blk_frozen BK297.out 4
              have hns158_0 := NB296_297.out
              have hns158_2 := NB305_297.out
              have hns158_3 := NB311_297.out
              have hns158_4 := NB318_297.out
              have hms158_0 := NB297_296.out
              have hms158_2 := NB297_305.out
              have hms158_3 := NB297_311.out
              have hms158_4 := NB297_318.out
              refine skip_ (w1 := ?_) (by rfl) rfl ?_ ?_
              rotate_left
              ·go_simp
               rfl
              refine hK.out _ _ ⟨((cell_far (p := ⟨gb297, _, none⟩) NB311_297.out _).trans (((cell_far (p := ⟨gb297, _, none⟩) NB311_297.out _).trans (((cell_far (p := ⟨gb297, _, none⟩) NB311_297.out _).trans (((cell_far (p := ⟨gb297, _, none⟩) NB311_297.out _).trans (((cell_far (p := ⟨gb297, _, none⟩) NB311_297.out _).trans (hHeld.1)))))))))), ((cell_far (p := ⟨gb297, _, none⟩) NB311_297.out _).trans (((cell_far (p := ⟨gb297, _, none⟩) NB311_297.out _).trans (((cell_far (p := ⟨gb297, _, none⟩) NB311_297.out _).trans (((cell_far (p := ⟨gb297, _, none⟩) NB311_297.out _).trans (((cell_far (p := ⟨gb297, _, none⟩) NB311_297.out _).trans (hHeld.2.1)))))))))), ((cell_far (p := ⟨gb297, _, none⟩) NB305_297.out _).trans (((cell_far (p := ⟨gb297, _, none⟩) NB305_297.out _).trans (((cell_far (p := ⟨gb297, _, none⟩) NB305_297.out _).trans (((cell_far (p := ⟨gb297, _, none⟩) NB305_297.out _).trans (((cell_far (p := ⟨gb297, _, none⟩) NB305_297.out _).trans (hHeld.2.2.1)))))))))), ((cell_far (p := ⟨gb297, _, none⟩) NB305_297.out _).trans (((cell_far (p := ⟨gb297, _, none⟩) NB305_297.out _).trans (((cell_far (p := ⟨gb297, _, none⟩) NB305_297.out _).trans (((cell_far (p := ⟨gb297, _, none⟩) NB305_297.out _).trans (((cell_far (p := ⟨gb297, _, none⟩) NB305_297.out _).trans (hHeld.2.2.2.1)))))))))), ((cell_far (p := ⟨gb297, _, none⟩) NB305_297.out _).trans (((cell_far (p := ⟨gb297, _, none⟩) NB305_297.out _).trans (((cell_far (p := ⟨gb297, _, none⟩) NB305_297.out _).trans (((cell_far (p := ⟨gb297, _, none⟩) NB305_297.out _).trans (((cell_far (p := ⟨gb297, _, none⟩) NB305_297.out _).trans (hHeld.2.2.2.2.1)))))))))), ((cell_far (p := ⟨gb297, _, none⟩) NB305_297.out _).trans (((cell_far (p := ⟨gb297, _, none⟩) NB305_297.out _).trans (((cell_far (p := ⟨gb297, _, none⟩) NB305_297.out _).trans (((cell_far (p := ⟨gb297, _, none⟩) NB305_297.out _).trans (((cell_far (p := ⟨gb297, _, none⟩) NB305_297.out _).trans (hHeld.2.2.2.2.2.1)))))))))), ((cell_far (p := ⟨gb297, _, none⟩) NB305_297.out _).trans (((cell_far (p := ⟨gb297, _, none⟩) NB305_297.out _).trans (((cell_far (p := ⟨gb297, _, none⟩) NB305_297.out _).trans (((cell_far (p := ⟨gb297, _, none⟩) NB305_297.out _).trans (((cell_far (p := ⟨gb297, _, none⟩) NB305_297.out _).trans (hHeld.2.2.2.2.2.2.1)))))))))), ((cell_far (p := ⟨gb297, _, none⟩) NB305_297.out _).trans (((cell_far (p := ⟨gb297, _, none⟩) NB305_297.out _).trans (((cell_far (p := ⟨gb297, _, none⟩) NB305_297.out _).trans (((cell_far (p := ⟨gb297, _, none⟩) NB305_297.out _).trans (((cell_far (p := ⟨gb297, _, none⟩) NB305_297.out _).trans (hHeld.2.2.2.2.2.2.2))))))))))⟩ (fun hHeld => ?_)
              clear hK K
              refine done_ (by kernel_rfl) ?_
              try go_wp2
              refine bodyPost_ret (results_cell_row rfl _ _ gb297 27 #[.int .i64 2, .bool (!(t316 == 0) || (!(t317 == 0))), .int .u64 t309, .int .u64 t310, .int .i64 t325] (0, 0) _ rfl (by (with_reducible repeat (first | apply zN | apply zD | apply zA)); refine blk_put (cs := #[.int .i64 2, .bool (!(t316 == 0) || (!(t317 == 0))), .int .u64 t309, .int .u64 t310, .int .i64 x298004_32]) ?_ 4 _ rfl; (with_reducible repeat (first | apply zN | apply zD | apply zA)); refine blk_put (cs := #[.int .i64 2, .bool (!(t316 == 0) || (!(t317 == 0))), .int .u64 t309, .int .u64 x298003_32, .int .i64 x298004_32]) ?_ 3 _ rfl; (with_reducible repeat (first | apply zN | apply zD | apply zA)); refine blk_put (cs := #[.int .i64 2, .bool (!(t316 == 0) || (!(t317 == 0))), .int .u64 x298002_32, .int .u64 x298003_32, .int .i64 x298004_32]) ?_ 2 _ rfl; (with_reducible repeat (first | apply zN | apply zD | apply zA)); refine blk_put (cs := #[.int .i64 2, .bool x298001_32, .int .u64 x298002_32, .int .u64 x298003_32, .int .i64 x298004_32]) ?_ 1 _ rfl; (with_reducible repeat (first | apply zN | apply zD | apply zA)); refine blk_put (cs := #[.int .i64 x298000_32, .bool x298001_32, .int .u64 x298002_32, .int .u64 x298003_32, .int .i64 x298004_32]) ?_ 0 _ rfl; (with_reducible repeat (first | apply zN | apply zD | apply zA)); exact BK297.out) Tryd.underlying27 rfl (by kernel_rfl)) rfl ?_
              exact ⟨by first | rfl | (simp [errW_none, errW_some] <;> rfl) | (simp [*, errW_none, errW_some] <;> rfl), by repeat (first | (with_reducible first | exact HB.out | apply yA | apply yN | apply yD | refine below_set ?_ GE296.out | refine below_set ?_ GE297.out | refine below_set ?_ GE305.out | refine below_set ?_ GE311.out | refine below_set ?_ GE318.out) | exact HB.out)⟩
             ·rw [if_neg c150] at H
              have c150b0 : ((wrap64 (t315)) == 0) = false := beq_eq_false_iff_ne.mpr c150
              have c150b1 : ((wrap64 (t315)) != 0) = true := bne_iff_ne.mpr c150
              replace H := Option.bind_eq_some_iff.mp H
              obtain ⟨⟨t326, t327⟩, A1590, H⟩ := H
              replace H : ((impl_Word_or.f t309 t310 t326 t327).bind fun bt328 => (some (3, (!(t316 == 0) || (!(t317 == 0))), bt328.1, bt328.2, wrap64 ((wrap64 ((wrap64 ((wrap64 (t315)) - t300)) - t298)) + 1)))) = some (r1, r2, r3, r4, r5) := H
              have A159 := zM A1590
              clear A1590
              replace H := Option.bind_eq_some_iff.mp H
              obtain ⟨⟨t328, t329⟩, A1600, H⟩ := H
              replace H : (some (3, (!(t316 == 0) || (!(t317 == 0))), t328, t329, wrap64 ((wrap64 ((wrap64 ((wrap64 (t315)) - t300)) - t298)) + 1))) = some (r1, r2, r3, r4, r5) := H
              have A160 := zM A1600
              clear A1600
              simp only [Option.some.injEq, Prod.mk.injEq] at H
              obtain ⟨rfl, rfl, rfl, rfl, rfl⟩ := H
              try go_wp2
              have n0_ := zM (zD BK296.out)
              have n1_ := zM (zD BK297.out)
              have n2_ := zM (zD BK305.out)
              have n3_ := zM (zD BK311.out)
              have n4_ := zM (zD BK318.out)
              have n5_ := zM (yD HB.out)
              clear BK296
              clear BK297
              clear BK305
              clear BK311
              clear BK318
              clear HB
              have BK296 := n0_
              have BK297 := n1_
              have BK305 := n2_
              have BK311 := n3_
              have BK318 := n4_
              have HB := n5_
              clear n0_ n1_ n2_ n3_ n4_ n5_
              refine start_ (n := 20) (S := fun w' => w'.cell? ⟨gb311, 0, none⟩ = some (.int .u64 t309) ∧ w'.cell? ⟨gb311, 1, none⟩ = some (.int .u64 t310) ∧ w'.cell? ⟨gb305, 0, none⟩ = some (.int .i64 t298) ∧ w'.cell? ⟨gb305, 1, none⟩ = some (.int .i64 t299) ∧ w'.cell? ⟨gb305, 2, none⟩ = some (.int .i64 t300) ∧ w'.cell? ⟨gb305, 3, none⟩ = some (.int .i64 t301) ∧ w'.cell? ⟨gb305, 4, none⟩ = some (.int .i64 t302) ∧ w'.cell? ⟨gb305, 5, none⟩ = some (.bool t303)) (ds := []) #[false, false, false, false, false, false, false, false, false, false, false, false, false, false, false, false, false, false, false, false] (by kernel_rfl) rfl rfl ⟨(blk_cell BK311.out 0).trans rfl, (blk_cell BK311.out 1).trans rfl, (blk_cell BK305.out 0).trans rfl, (blk_cell BK305.out 1).trans rfl, (blk_cell BK305.out 2).trans rfl, (blk_cell BK305.out 3).trans rfl, (blk_cell BK305.out 4).trans rfl, (blk_cell BK305.out 5).trans rfl⟩ (fun hHeld => ?_); refine with_tabW impl_Unpack.tab22 impl_Unpack.bits22 (fun HT_ HW_ => ?_)
              generalize wc.drew = w161 at BK296 BK297 BK305 BK311 BK318 HB hHeld ⊢
              refine pure_ (i := 0) (N := some 117) (v := ?_) (a' := ?_) #[true, false, false, false, false, false, false, false, false, false, false, false, false, false, false, false, false, false, false, false] rfl rfl (any_of HT_.out (by kernel_rfl)) (fun _ _ _ h => h) (Or.inl ⟨by rfl, ?_⟩) ?_ ?_
              rotate_left
              ·intro w'
               go_simp
               with_reducible rfl
              rotate_left
              ·simp only [Act.put, xT, xZ, xS, i64_w, i32_w]
               rfl
              refine pure_ (i := 2) (N := some 119) (v := ?_) (a' := ?_) #[true, false, true, false, false, false, false, false, false, false, false, false, false, false, false, false, false, false, false, false] rfl rfl (any_of HT_.out (by kernel_rfl)) (fun _ _ _ h => h) (Or.inl ⟨by rfl, ?_⟩) ?_ ?_
              rotate_left
              ·intro w'
               go_simp
               with_reducible rfl
              rotate_left
              ·simp only [Act.put, xT, xZ, xS, i64_w, i32_w]
               rfl
              refine pure_ (i := 3) (N := some 120) (v := ?_) (a' := ?_) #[true, false, true, true, false, false, false, false, false, false, false, false, false, false, false, false, false, false, false, false] rfl rfl (any_of HT_.out (by kernel_rfl)) (fun _ _ _ h => h) (Or.inl ⟨by rfl, ?_⟩) ?_ ?_
              rotate_left
              ·intro w'
               go_simp
               with_reducible rfl
              rotate_left
              ·simp only [Act.put, xT, xZ, xS, i64_w, i32_w]
               rfl
              refine pure_ (i := 8) (N := some 125) (v := ?_) (a' := ?_) #[true, false, true, true, false, false, false, false, true, false, false, false, false, false, false, false, false, false, false, false] rfl rfl (any_of HT_.out (by kernel_rfl)) (fun _ _ _ h => h) (Or.inl ⟨by rfl, ?_⟩) ?_ ?_
              rotate_left
              ·intro w'
               go_simp
               with_reducible rfl
              rotate_left
              ·simp only [Act.put, xT, xZ, xS, i64_w, i32_w]
               rfl
              refine pure_ (i := 9) (N := some 126) (v := ?_) (a' := ?_) #[true, false, true, true, false, false, false, false, true, true, false, false, false, false, false, false, false, false, false, false] rfl rfl (any_of HT_.out (by kernel_rfl)) (fun _ _ _ h => h) (Or.inl ⟨by rfl, ?_⟩) ?_ ?_
              rotate_left
              ·intro w'
               go_simp
               with_reducible rfl
              rotate_left
              ·simp only [Act.put, xT, xZ, xS, i64_w, i32_w]
               rfl
              refine pure_ (i := 10) (N := some 127) (v := ?_) (a' := ?_) #[true, false, true, true, false, false, false, false, true, true, true, false, false, false, false, false, false, false, false, false] rfl rfl (any_of HT_.out (by kernel_rfl)) (fun _ _ _ h => h) (Or.inl ⟨by rfl, ?_⟩) ?_ ?_
              rotate_left
              ·intro w'
               go_simp
               with_reducible rfl
              rotate_left
              ·simp only [Act.put, xT, xZ, xS, i64_w, i32_w]
               rfl
              refine pure_ (i := 13) (N := some 130) (v := ?_) (a' := ?_) #[true, false, true, true, false, false, false, false, true, true, true, false, false, true, false, false, false, false, false, false] rfl rfl (any_of HT_.out (by kernel_rfl)) (fun _ _ _ h => h) (Or.inl ⟨by rfl, ?_⟩) ?_ ?_
              rotate_left
              ·intro w'
               go_simp
               with_reducible rfl
              rotate_left
              ·simp only [Act.put, xT, xZ, xS, i64_w, i32_w]
               rfl
              refine pure_ (i := 14) (N := some 131) (v := ?_) (a' := ?_) #[true, false, true, true, false, false, false, false, true, true, true, false, false, true, true, false, false, false, false, false] rfl rfl (any_of HT_.out (by kernel_rfl)) (fun _ _ _ h => h) (Or.inl ⟨by rfl, ?_⟩) ?_ ?_
              rotate_left
              ·intro w'
               go_simp
               with_reducible rfl
              rotate_left
              ·simp only [Act.put, xT, xZ, xS, i64_w, i32_w]
               rfl
              refine take_ (i := 1) (N := some 118) (v := ?_) (a' := ?_) #[true, true, true, true, false, false, false, false, true, true, true, false, false, true, true, false, false, false, false, false] rfl rfl (take_ofW HT_.out HW_.out (by kernel_rfl)) (fun _ _ _ h => h) (Or.inl ⟨by rfl, ?_⟩) hHeld ?_ ?_
              rotate_left
              ·rintro w' ⟨s0, s1, s2, s3, s4, s5, s6, s7⟩
               go_simp
               with_reducible rfl
              rotate_left
              ·simp only [Act.put, xT, xZ, xS, i64_w, i32_w]
               rfl
              refine take_ (i := 4) (N := some 121) (v := ?_) (a' := ?_) #[true, true, true, true, true, false, false, false, true, true, true, false, false, true, true, false, false, false, false, false] rfl rfl (take_ofW HT_.out HW_.out (by kernel_rfl)) (fun _ _ _ h => h) (Or.inl ⟨by rfl, ?_⟩) hHeld ?_ ?_
              rotate_left
              ·rintro w' ⟨s0, s1, s2, s3, s4, s5, s6, s7⟩
               go_simp
               with_reducible rfl
              rotate_left
              ·simp only [Act.put, xT, xZ, xS, i64_w, i32_w]
               rfl
              refine pure_ (i := 5) (N := some 122) (v := ?_) (a' := ?_) #[true, true, true, true, true, true, false, false, true, true, true, false, false, true, true, false, false, false, false, false] rfl rfl (any_of HT_.out (by kernel_rfl)) (fun _ _ _ h => h) (Or.inl ⟨by rfl, ?_⟩) ?_ ?_
              rotate_left
              ·intro w'
               go_simp
               with_reducible rfl
              rotate_left
              ·simp only [Act.put, xT, xZ, xS, i64_w, i32_w]
               rfl
              refine take_ (i := 11) (N := some 128) (v := ?_) (a' := ?_) #[true, true, true, true, true, true, false, false, true, true, true, true, false, true, true, false, false, false, false, false] rfl rfl (take_ofW HT_.out HW_.out (by kernel_rfl)) (fun _ _ _ h => h) (Or.inl ⟨by rfl, ?_⟩) hHeld ?_ ?_
              rotate_left
              ·rintro w' ⟨s0, s1, s2, s3, s4, s5, s6, s7⟩
               go_simp
               with_reducible rfl
              rotate_left
              ·simp only [Act.put, xT, xZ, xS, i64_w, i32_w]
               rfl
              refine pure_ (i := 12) (N := some 129) (v := ?_) (a' := ?_) #[true, true, true, true, true, true, false, false, true, true, true, true, true, true, true, false, false, false, false, false] rfl rfl (any_of HT_.out (by kernel_rfl)) (fun _ _ _ h => h) (Or.inl ⟨by rfl, ?_⟩) ?_ ?_
              rotate_left
              ·intro w'
               go_simp
               with_reducible rfl
              rotate_left
              ·simp only [Act.put, xT, xZ, xS, i64_w, i32_w]
               rfl
              refine take_ (i := 15) (N := some 132) (v := ?_) (a' := ?_) #[true, true, true, true, true, true, false, false, true, true, true, true, true, true, true, true, false, false, false, false] rfl rfl (take_ofW HT_.out HW_.out (by kernel_rfl)) (fun _ _ _ h => h) (Or.inl ⟨by rfl, ?_⟩) hHeld ?_ ?_
              rotate_left
              ·rintro w' ⟨s0, s1, s2, s3, s4, s5, s6, s7⟩
               go_simp
               with_reducible rfl
              rotate_left
              ·simp only [Act.put, xT, xZ, xS, i64_w, i32_w]
               rfl
              refine pure_ (i := 16) (N := some 133) (v := ?_) (a' := ?_) #[true, true, true, true, true, true, false, false, true, true, true, true, true, true, true, true, true, false, false, false] rfl rfl (any_of HT_.out (by kernel_rfl)) (fun _ _ _ h => h) (Or.inl ⟨by rfl, ?_⟩) ?_ ?_
              rotate_left
              ·intro w'
               go_simp
               with_reducible rfl
              rotate_left
              ·simp only [Act.put, xT, xZ, xS, i64_w, i32_w]
               rfl
              refine pure_ (i := 17) (N := some 134) (v := ?_) (a' := ?_) #[true, true, true, true, true, true, false, false, true, true, true, true, true, true, true, true, true, true, false, false] rfl rfl (any_of HT_.out (by kernel_rfl)) (fun _ _ _ h => h) (Or.inl ⟨by rfl, ?_⟩) ?_ ?_
              rotate_left
              ·intro w'
               go_simp
               with_reducible rfl
              rotate_left
              ·simp only [Act.put, xT, xZ, xS, i64_w, i32_w]
               rfl
              refine one_ (i := 6) (N := some 123) #[true, true, true, true, true, true, true, false, true, true, true, true, true, true, true, true, true, true, false, false] rfl rfl (one_of HT_.out (by kernel_rfl)) (by decide) (fun K hK => ?_)
              refine goes_ Tryd.func72 (by kernel_rfl) rfl #[.int .i64 (wrap64 (t298 - 1))] (by rfl) rfl rfl (by (try simp only [List.map_toArray, List.map_cons, List.map_nil]); first | done | rfl | (simp only [List.length_drop, List.length_take]; rfl)) ?_
              with_reducible refine (impl_one.calls (wrap64 (t298 - 1)) t326 t327 _ A159.out).mono ?_
              rintro e w162 ⟨rfl, hb⟩
              refine ⟨_, rfl, ?_⟩
              have n0_ := zM (blk_below (g := gb296) (o := .cells #[.int .u64 a1_0, .int .u64 a1_1] 25 (0, 0)) (by (with_reducible repeat (first | apply zN | apply zD | apply zA)); exact BK296.out) hb)
              have n1_ := zM (blk_below (g := gb297) (o := .cells #[.int .i64 x298000_32, .bool x298001_32, .int .u64 x298002_32, .int .u64 x298003_32, .int .i64 x298004_32] 27 (0, 0)) (by (with_reducible repeat (first | apply zN | apply zD | apply zA)); exact BK297.out) hb)
              have n2_ := zM (blk_below (g := gb305) (o := .cells #[.int .i64 t298, .int .i64 t299, .int .i64 t300, .int .i64 t301, .int .i64 t302, .bool t303] 91 (0, 0)) (by (with_reducible repeat (first | apply zN | apply zD | apply zA)); exact BK305.out) hb)
              have n3_ := zM (blk_below (g := gb311) (o := .cells #[.int .u64 t309, .int .u64 t310] 25 (0, 0)) (by (with_reducible repeat (first | apply zN | apply zD | apply zA)); exact BK311.out) hb)
              have n4_ := zM (blk_below (g := gb318) (o := .cells #[.int .u64 x319000_32, .int .u64 x319001_32] 25 (0, 0)) (by (with_reducible repeat (first | apply zN | apply zD | apply zA)); exact BK318.out) hb)
              have n5_ := zM (below_step (by repeat (first | (with_reducible first | exact HB.out | apply yA | apply yN | apply yD | refine below_set ?_ GE296.out | refine below_set ?_ GE297.out | refine below_set ?_ GE305.out | refine below_set ?_ GE311.out | refine below_set ?_ GE318.out) | exact HB.out)) hb)
              clear BK296
              clear BK297
              clear BK305
              clear BK311
              clear BK318
              clear HB
              have BK296 := n0_
              have BK297 := n1_
              have BK305 := n2_
              have BK311 := n3_
              have BK318 := n4_
              have HB := n5_
              clear n0_ n1_ n2_ n3_ n4_ n5_
              (try clear hb)
              (try clear hb2)
              (try clear hk)
              (try clear hi)
              refine hK.out _ _ ⟨(blk_cell BK311.out 0).trans rfl, (blk_cell BK311.out 1).trans rfl, (blk_cell BK305.out 0).trans rfl, (blk_cell BK305.out 1).trans rfl, (blk_cell BK305.out 2).trans rfl, (blk_cell BK305.out 3).trans rfl, (blk_cell BK305.out 4).trans rfl, (blk_cell BK305.out 5).trans rfl⟩ (fun hHeld => ?_)
              clear hK K
              refine norm_ (a' := ?_) ?_ ?_
              rotate_left
              ·show Act.put _ (some 123) _ = _
               simp only [Act.put, xT, xZ, xS, i64_w, i32_w]
               rfl
              refine one_ (i := 7) (N := some 124) #[true, true, true, true, true, true, true, true, true, true, true, true, true, true, true, true, true, true, false, false] rfl rfl (one_of HT_.out (by kernel_rfl)) (by decide) (fun K hK => ?_)
              refine goes_ Tryd.func71 (by kernel_rfl) rfl #[.agg #[.int .u64 t309, .int .u64 t310], .agg #[.int .u64 t326, .int .u64 t327]] (by rfl) rfl rfl (by (try simp only [List.map_toArray, List.map_cons, List.map_nil]); first | done | rfl | (simp only [List.length_drop, List.length_take]; rfl)) ?_
              with_reducible refine (impl_Word_or.calls t309 t310 t326 t327 t328 t329 _ A160.out).mono ?_
              rintro e w163 ⟨rfl, hb⟩
              refine ⟨_, rfl, ?_⟩
              have n0_ := zM (blk_below (g := gb296) (o := .cells #[.int .u64 a1_0, .int .u64 a1_1] 25 (0, 0)) (by (with_reducible repeat (first | apply zN | apply zD | apply zA)); exact BK296.out) hb)
              have n1_ := zM (blk_below (g := gb297) (o := .cells #[.int .i64 x298000_32, .bool x298001_32, .int .u64 x298002_32, .int .u64 x298003_32, .int .i64 x298004_32] 27 (0, 0)) (by (with_reducible repeat (first | apply zN | apply zD | apply zA)); exact BK297.out) hb)
              have n2_ := zM (blk_below (g := gb305) (o := .cells #[.int .i64 t298, .int .i64 t299, .int .i64 t300, .int .i64 t301, .int .i64 t302, .bool t303] 91 (0, 0)) (by (with_reducible repeat (first | apply zN | apply zD | apply zA)); exact BK305.out) hb)
              have n3_ := zM (blk_below (g := gb311) (o := .cells #[.int .u64 t309, .int .u64 t310] 25 (0, 0)) (by (with_reducible repeat (first | apply zN | apply zD | apply zA)); exact BK311.out) hb)
              have n4_ := zM (blk_below (g := gb318) (o := .cells #[.int .u64 x319000_32, .int .u64 x319001_32] 25 (0, 0)) (by (with_reducible repeat (first | apply zN | apply zD | apply zA)); exact BK318.out) hb)
              have n5_ := zM (below_step (by repeat (first | (with_reducible first | exact HB.out | apply yA | apply yN | apply yD | refine below_set ?_ GE296.out | refine below_set ?_ GE297.out | refine below_set ?_ GE305.out | refine below_set ?_ GE311.out | refine below_set ?_ GE318.out) | exact HB.out)) hb)
              clear BK296
              clear BK297
              clear BK305
              clear BK311
              clear BK318
              clear HB
              have BK296 := n0_
              have BK297 := n1_
              have BK305 := n2_
              have BK311 := n3_
              have BK318 := n4_
              have HB := n5_
              clear n0_ n1_ n2_ n3_ n4_ n5_
              (try clear hb)
              (try clear hb2)
              (try clear hk)
              (try clear hi)
              refine hK.out _ _ ⟨(blk_cell BK311.out 0).trans rfl, (blk_cell BK311.out 1).trans rfl, (blk_cell BK305.out 0).trans rfl, (blk_cell BK305.out 1).trans rfl, (blk_cell BK305.out 2).trans rfl, (blk_cell BK305.out 3).trans rfl, (blk_cell BK305.out 4).trans rfl, (blk_cell BK305.out 5).trans rfl⟩ (fun hHeld => ?_)
              clear hK K
              refine norm_ (a' := ?_) ?_ ?_
              rotate_left
              ·show Act.put _ (some 124) _ = _
               simp only [Act.put, xT, xZ, xS, i64_w, i32_w]
               rfl
              refine pure_ (i := 18) (N := some 135) (v := ?_) (a' := ?_) #[true, true, true, true, true, true, true, true, true, true, true, true, true, true, true, true, true, true, true, false] rfl rfl (any_of HT_.out (by kernel_rfl)) (fun _ _ _ h => h) (Or.inl ⟨by rfl, ?_⟩) ?_ ?_
              rotate_left
              ·intro w'
               go_simp
               with_reducible rfl
              rotate_left
              ·simp only [Act.put, xT, xZ, xS, i64_w, i32_w]
               rfl
              refine one_ (i := 19) (N := none) #[true, true, true, true, true, true, true, true, true, true, true, true, true, true, true, true, true, true, true, true] rfl rfl (one_of HT_.out (by kernel_rfl)) (by decide) (fun K hK => ?_)
              have hs164 : w163.cell? ⟨gb297, 0, none⟩ = some (.int .i64 x298000_32) := (blk_cell BK297.out 0).trans rfl
              have hfs164 := blk_frozen BK297.out 0
              have hns164_0 := NB296_297.out
              have hns164_2 := NB305_297.out
              have hns164_3 := NB311_297.out
              have hns164_4 := NB318_297.out
              have hms164_0 := NB297_296.out
              have hms164_2 := NB297_305.out
              have hms164_3 := NB297_311.out
              have hms164_4 := NB297_318.out
              have hs165 : w163.cell? ⟨gb297, 1, none⟩ = some (.bool x298001_32) := (blk_cell BK297.out 1).trans rfl
              have hfs165 := blk_frozen BK297.out 1
              have hns165_0 := NB296_297.out
              have hns165_2 := NB305_297.out
              have hns165_3 := NB311_297.out
              have hns165_4 := NB318_297.out
              have hms165_0 := NB297_296.out
              have hms165_2 := NB297_305.out
              have hms165_3 := NB297_311.out
              have hms165_4 := NB297_318.out
              have hs166 : w163.cell? ⟨gb297, 2, none⟩ = some (.int .u64 x298002_32) := (blk_cell BK297.out 2).trans rfl
              have hfs166 := blk_frozen BK297.out 2
              have hns166_0 := NB296_297.out
              have hns166_2 := NB305_297.out
              have hns166_3 := NB311_297.out
              have hns166_4 := NB318_297.out
              have hms166_0 := NB297_296.out
              have hms166_2 := NB297_305.out
              have hms166_3 := NB297_311.out
              have hms166_4 := NB297_318.out
              have hs167 : w163.cell? ⟨gb297, 3, none⟩ = some (.int .u64 x298003_32) := (blk_cell BK297.out 3).trans rfl
              have hfs167 := blk_frozen BK297.out 3
              have hns167_0 := NB296_297.out
              have hns167_2 := NB305_297.out
              have hns167_3 := NB311_297.out
              have hns167_4 := NB318_297.out
              have hms167_0 := NB297_296.out
              have hms167_2 := NB297_305.out
              have hms167_3 := NB297_311.out
              have hms167_4 := NB297_318.out
              have hs168 : w163.cell? ⟨gb297, 4, none⟩ = some (.int .i64 x298004_32) := (blk_cell BK297.out 4).trans rfl
              have hfs168 := blk_frozen BK297.out 4
              have hns168_0 := NB296_297.out
              have hns168_2 := NB305_297.out
              have hns168_3 := NB311_297.out
              have hns168_4 := NB318_297.out
              have hms168_0 := NB297_296.out
              have hms168_2 := NB297_305.out
              have hms168_3 := NB297_311.out
              have hms168_4 := NB297_318.out
              refine skip_ (w1 := ?_) (by rfl) rfl ?_ ?_
              rotate_left
              ·go_simp
               rfl
              refine hK.out _ _ ⟨((cell_far (p := ⟨gb297, _, none⟩) NB311_297.out _).trans (((cell_far (p := ⟨gb297, _, none⟩) NB311_297.out _).trans (((cell_far (p := ⟨gb297, _, none⟩) NB311_297.out _).trans (((cell_far (p := ⟨gb297, _, none⟩) NB311_297.out _).trans (((cell_far (p := ⟨gb297, _, none⟩) NB311_297.out _).trans (hHeld.1)))))))))), ((cell_far (p := ⟨gb297, _, none⟩) NB311_297.out _).trans (((cell_far (p := ⟨gb297, _, none⟩) NB311_297.out _).trans (((cell_far (p := ⟨gb297, _, none⟩) NB311_297.out _).trans (((cell_far (p := ⟨gb297, _, none⟩) NB311_297.out _).trans (((cell_far (p := ⟨gb297, _, none⟩) NB311_297.out _).trans (hHeld.2.1)))))))))), ((cell_far (p := ⟨gb297, _, none⟩) NB305_297.out _).trans (((cell_far (p := ⟨gb297, _, none⟩) NB305_297.out _).trans (((cell_far (p := ⟨gb297, _, none⟩) NB305_297.out _).trans (((cell_far (p := ⟨gb297, _, none⟩) NB305_297.out _).trans (((cell_far (p := ⟨gb297, _, none⟩) NB305_297.out _).trans (hHeld.2.2.1)))))))))), ((cell_far (p := ⟨gb297, _, none⟩) NB305_297.out _).trans (((cell_far (p := ⟨gb297, _, none⟩) NB305_297.out _).trans (((cell_far (p := ⟨gb297, _, none⟩) NB305_297.out _).trans (((cell_far (p := ⟨gb297, _, none⟩) NB305_297.out _).trans (((cell_far (p := ⟨gb297, _, none⟩) NB305_297.out _).trans (hHeld.2.2.2.1)))))))))), ((cell_far (p := ⟨gb297, _, none⟩) NB305_297.out _).trans (((cell_far (p := ⟨gb297, _, none⟩) NB305_297.out _).trans (((cell_far (p := ⟨gb297, _, none⟩) NB305_297.out _).trans (((cell_far (p := ⟨gb297, _, none⟩) NB305_297.out _).trans (((cell_far (p := ⟨gb297, _, none⟩) NB305_297.out _).trans (hHeld.2.2.2.2.1)))))))))), ((cell_far (p := ⟨gb297, _, none⟩) NB305_297.out _).trans (((cell_far (p := ⟨gb297, _, none⟩) NB305_297.out _).trans (((cell_far (p := ⟨gb297, _, none⟩) NB305_297.out _).trans (((cell_far (p := ⟨gb297, _, none⟩) NB305_297.out _).trans (((cell_far (p := ⟨gb297, _, none⟩) NB305_297.out _).trans (hHeld.2.2.2.2.2.1)))))))))), ((cell_far (p := ⟨gb297, _, none⟩) NB305_297.out _).trans (((cell_far (p := ⟨gb297, _, none⟩) NB305_297.out _).trans (((cell_far (p := ⟨gb297, _, none⟩) NB305_297.out _).trans (((cell_far (p := ⟨gb297, _, none⟩) NB305_297.out _).trans (((cell_far (p := ⟨gb297, _, none⟩) NB305_297.out _).trans (hHeld.2.2.2.2.2.2.1)))))))))), ((cell_far (p := ⟨gb297, _, none⟩) NB305_297.out _).trans (((cell_far (p := ⟨gb297, _, none⟩) NB305_297.out _).trans (((cell_far (p := ⟨gb297, _, none⟩) NB305_297.out _).trans (((cell_far (p := ⟨gb297, _, none⟩) NB305_297.out _).trans (((cell_far (p := ⟨gb297, _, none⟩) NB305_297.out _).trans (hHeld.2.2.2.2.2.2.2))))))))))⟩ (fun hHeld => ?_)
              clear hK K
              refine done_ (done_of HT_.out (by kernel_rfl)) ?_
              try go_wp2
              refine bodyPost_ret (results_cell_row rfl _ _ gb297 27 #[.int .i64 3, .bool (!(t316 == 0) || (!(t317 == 0))), .int .u64 t328, .int .u64 t329, .int .i64 (wrap64 ((wrap64 ((wrap64 ((wrap64 (t315)) - t300)) - t298)) + 1))] (0, 0) _ rfl (by (with_reducible repeat (first | apply zN | apply zD | apply zA)); refine blk_put (cs := #[.int .i64 3, .bool (!(t316 == 0) || (!(t317 == 0))), .int .u64 t328, .int .u64 t329, .int .i64 x298004_32]) ?_ 4 _ rfl; (with_reducible repeat (first | apply zN | apply zD | apply zA)); refine blk_put (cs := #[.int .i64 3, .bool (!(t316 == 0) || (!(t317 == 0))), .int .u64 t328, .int .u64 x298003_32, .int .i64 x298004_32]) ?_ 3 _ rfl; (with_reducible repeat (first | apply zN | apply zD | apply zA)); refine blk_put (cs := #[.int .i64 3, .bool (!(t316 == 0) || (!(t317 == 0))), .int .u64 x298002_32, .int .u64 x298003_32, .int .i64 x298004_32]) ?_ 2 _ rfl; (with_reducible repeat (first | apply zN | apply zD | apply zA)); refine blk_put (cs := #[.int .i64 3, .bool x298001_32, .int .u64 x298002_32, .int .u64 x298003_32, .int .i64 x298004_32]) ?_ 1 _ rfl; (with_reducible repeat (first | apply zN | apply zD | apply zA)); refine blk_put (cs := #[.int .i64 x298000_32, .bool x298001_32, .int .u64 x298002_32, .int .u64 x298003_32, .int .i64 x298004_32]) ?_ 0 _ rfl; (with_reducible repeat (first | apply zN | apply zD | apply zA)); exact BK297.out) Tryd.underlying27 rfl (by kernel_rfl)) rfl ?_
              exact ⟨by first | rfl | (simp [errW_none, errW_some] <;> rfl) | (simp [*, errW_none, errW_some] <;> rfl), by repeat (first | (with_reducible first | exact HB.out | apply yA | apply yN | apply yD | refine below_set ?_ GE296.out | refine below_set ?_ GE297.out | refine below_set ?_ GE305.out | refine below_set ?_ GE311.out | refine below_set ?_ GE318.out) | exact HB.out)⟩
end Go.Proofs.YtdbnmdchecacdaaDoor.PP
end
section
namespace Go.Proofs.YtdbnmdchecacdaaDoor.M
open Go.RowKit Go.Proofs.YtdbnmdchecacdaaDoor.G Go.Proofs.YtdbnmdchecacdaaDoorV.PrintWords Go.Proofs.YtdbnmdchecacdaaDoorV.PrintLast Go.Proofs.YtdbnmdchecacdaaDoorV.PrintMore Go.Proofs.YtdbnmdchecacdaaDoor.PP
set_option linter.unusedVariables false
set_option linter.unusedSimpArgs false
theorem word_ne (x : Nat) : (!(hiI x == 0) || (!(loI x == 0))) = decide (x ≠ 0) := by
  unfold hiI loI
  by_cases h : x = 0
  · subst h; rfl
  · rw [decide_eq_true h]
    by_cases h1 : x / 18446744073709551616 = 0
    · have h2 : x % 18446744073709551616 ≠ 0 := by omega
      have : (((x % 18446744073709551616 : Nat) : Int) == 0) = false := by rw [beq_eq_false_iff_ne]; omega
      rw [this]; simp
    · have : (((x / 18446744073709551616 : Nat) : Int) == 0) = false := by rw [beq_eq_false_iff_ne]; omega
      rw [this]; rfl
theorem word_eq0 (x : Nat) : (hiI x == 0 && (loI x == 0)) = decide (x = 0) := by
  have h := word_ne x
  have h2 : (hiI x == 0 && (loI x == 0)) = !(!(hiI x == 0) || (!(loI x == 0))) := by cases (hiI x == 0) <;> cases (loI x == 0) <;> rfl
  rw [h2, h]
  by_cases h0 : x = 0
  · rw [decide_eq_true h0, decide_eq_false (by simpa using h0)]; rfl
  · rw [decide_eq_false h0, decide_eq_true h0]; rfl
section
variable {P : Nat} {emin emax : Int} {W E : Nat} {ex : Bool}
theorem top_eq (h : Fmt P emin emax W E ex) : impl_layout_top.f (P : Int) emin emax (W : Int) (E : Int) ex = some ((2 ^ E - 1 : Nat) : Int) := by
  have hE := h.plt
  have he1 := h.e1
  have hp : 0 < 2 ^ E := Nat.pow_pos (by decide)
  unfold impl_layout_top.f
  have hs : shl .i64 1 (E : Int) = ((2 ^ E : Nat) : Int) := by
    unfold shl
    rw [Int.toNat_natCast, show IntKind.i64.bits = 64 from rfl, Nat.min_eq_left (by omega), show ((1 : Int) * 2 ^ E) = ((2 ^ E : Nat) : Int) by simp]
    have : IntKind.i64.wrap ((2 ^ E : Nat) : Int) = wrap64 ((2 ^ E : Nat) : Int) := (i64_w _)
    rw [this]
    exact wsm _ (by omega)
  rw [if_pos (Int.natCast_nonneg _), hs, wsm _ (by omega)]
  congr 1
  omega
theorem frac_eq (h : Fmt P emin emax W E ex) : impl_layout_fracBits.f (P : Int) emin emax (W : Int) (E : Int) ex = some (fracN P ex : Int) := by
  have hp0 := h.p0
  have hp1 := h.p1
  unfold impl_layout_fracBits.f fracN
  cases ex with
  | true => rfl
  | false =>
    rw [if_neg (by decide), if_neg (by decide), wsm _ (by omega)]
    congr 1
    omega
theorem qmin_eq (h : Fmt P emin emax W E ex) : impl_layout_qMin.f (P : Int) emin emax (W : Int) (E : Int) ex = some (emin - P + 1) := by
  have hp1 := h.p1
  have m0 := h.m0
  unfold impl_layout_qMin.f
  rw [wsm (emin - (P : Int)) (by omega), wsm _ (by omega)]
theorem small2 (q : Nat) (h : q < 2) : q ≠ 0 ↔ q % 2 = 1 := by omega
theorem dne_f {p q : Prop} [Decidable p] [Decidable q] (h : p ↔ q) : (decide p != decide q) = false := by by_cases hp : p <;> by_cases hq : q <;> simp_all
theorem dne_t {p q : Prop} [Decidable p] [Decidable q] (h : ¬ (p ↔ q)) : (decide p != decide q) = true := by by_cases hp : p <;> by_cases hq : q <;> simp_all
theorem im_j1 (h : Fmt P emin emax W E ex) (e : Nat) (he : e < 2 ^ E) (neg : Bool) (rest : Nat) (hr : rest < 2 ^ (P - 1)) (b : Bool) (hb : e = 0 → b = false) (hb2 : ex = false → b = false) :
    Ev (fun k => impl_Unpack.j1 k (e : Int) neg (P : Int) emin emax (W : Int) (E : Int) ex (hiI (if b = true then rest + 2 ^ (P - 1) else rest)) (loI (if b = true then rest + 2 ^ (P - 1) else rest)) (hiI rest) (loI rest)) (partsOf P emin emax E e neg rest) := by
  have hp0 := h.p0
  have hp1 := h.p1
  have hE := h.plt
  have m1 := h.m1
  have ht := top_eq h
  have hq := qmin_eq h
  have hz := word_eq0 rest
  have hfz : e = 0 → (if b = true then rest + 2 ^ (P - 1) else rest) = rest := fun h0 => by rw [hb h0]; rfl
  have hor := or_eq rest (P - 1) (by omega) hr b
  obtain ⟨fr, hfr⟩ : ∃ fr, fr = (if b = true then rest + 2 ^ (P - 1) else rest) := ⟨_, rfl⟩
  rw [← hfr] at hor hfz ⊢
  have hone := one_eq (P - 1) (by omega)
  have wp : wrap64 ((P : Int) - 1) = ((P - 1 : Nat) : Int) := by rw [wsm _ (by omega)]; omega
  have wq : wrap64 (wrap64 (wrap64 ((e : Int) - emax) - (P : Int)) + 1) = (e : Int) - emax - (P : Int) + 1 := by
    clear wp
    rw [wsm ((e : Int) - emax) (by omega), wsm ((e : Int) - emax - (P : Int)) (by omega), wsm _ (by omega)]
  have j3 : e ≠ 2 ^ E - 1 → ∀ z : Bool, z = decide (e = 0 ∧ rest = 0) → Ev (fun k => impl_Unpack.j3 k (e : Int) neg z (P : Int) emin emax (W : Int) (E : Int) ex (hiI fr) (loI fr)) (partsOf P emin emax E e neg rest) := by
    intro hne z hzz
    unfold partsOf
    rw [if_neg hne]
    by_cases h0 : e = 0
    · have c0 : (e : Int) = 0 := by clear wp wq; omega
      rw [if_pos h0]
      by_cases h1 : rest = 0
      · rw [if_pos h1]
        refine Ev.step (f := fun _ => some (1, neg, 0, 0, 0)) (fun k => ?_) (Ev.now _)
        simp only [impl_Unpack.j3]
        rw [hzz, decide_eq_true ⟨h0, h1⟩, if_pos rfl]
      · rw [if_neg h1]
        refine Ev.step (f := fun _ => some (2, neg, hiI rest, loI rest, emin - P + 1)) (fun k => ?_) (Ev.now _)
        simp only [impl_Unpack.j3]
        rw [hzz, decide_eq_false (fun a => h1 a.2), if_neg (by decide), if_pos c0, hq, Option.bind_some, hfz h0]
    · have c0 : ¬ (e : Int) = 0 := by clear wp wq; omega
      rw [if_neg h0]
      refine Ev.step (f := fun _ => some (3, neg, hiI (rest + 2 ^ (P - 1)), loI (rest + 2 ^ (P - 1)), (e : Int) - emax - P + 1)) (fun k => ?_) (Ev.now _)
      simp only [impl_Unpack.j3]
      rw [hzz, decide_eq_false (fun a => h0 a.1), if_neg (by decide), if_neg c0, wp, hone, Option.bind_some]
      dsimp only
      rw [hor, Option.bind_some, wq]
  by_cases hte : e = 2 ^ E - 1
  · have c1 : (e : Int) = ((2 ^ E - 1 : Nat) : Int) := by rw [hte]
    unfold partsOf
    rw [if_pos hte]
    by_cases h1 : rest = 0
    · rw [if_pos h1]
      refine Ev.step (f := fun k => impl_Unpack.j2 k (e : Int) neg true (P : Int) emin emax (W : Int) (E : Int) ex (hiI fr) (loI fr)) (fun k => ?_) (Ev.step (f := fun _ => some (4, neg, 0, 0, 0)) (fun k => ?_) (Ev.now _))
      · simp only [impl_Unpack.j1]
        rw [ht, Option.bind_some, if_pos c1, hz, decide_eq_true h1]
      · simp only [impl_Unpack.j2]
        rw [if_pos trivial]
    · rw [if_neg h1]
      refine Ev.step (f := fun k => impl_Unpack.j2 k (e : Int) neg false (P : Int) emin emax (W : Int) (E : Int) ex (hiI fr) (loI fr)) (fun k => ?_) (Ev.step (f := fun _ => some (5, false, 0, 0, 0)) (fun k => ?_) (Ev.now _))
      · simp only [impl_Unpack.j1]
        rw [ht, Option.bind_some, if_pos c1, hz, decide_eq_false h1]
      · simp only [impl_Unpack.j2]
        rw [if_neg (by decide), ht, Option.bind_some, if_pos c1]
  · have c1 : ¬ (e : Int) = ((2 ^ E - 1 : Nat) : Int) := by clear wp wq; omega
    refine Ev.step (f := fun k => impl_Unpack.j2 k (e : Int) neg false (P : Int) emin emax (W : Int) (E : Int) ex (hiI fr) (loI fr)) (fun k => ?_) (Ev.step (f := fun k => impl_Unpack.j3 k (e : Int) neg (decide (e = 0 ∧ rest = 0)) (P : Int) emin emax (W : Int) (E : Int) ex (hiI fr) (loI fr)) (fun k => ?_) (j3 hte _ rfl))
    · simp only [impl_Unpack.j1]
      rw [ht, Option.bind_some, if_neg c1]
    · simp only [impl_Unpack.j2]
      rw [if_neg (by decide), ht, Option.bind_some, if_neg c1]
      by_cases h0 : e = 0
      · have c0 : (e : Int) = 0 := by clear wp wq; omega
        rw [if_pos c0, hfz h0, hz]
        congr 1
        rw [decide_eq_decide]
        exact ⟨fun a => ⟨h0, a⟩, fun a => a.2⟩
      · have c0 : ¬ (e : Int) = 0 := by clear wp wq; omega
        rw [if_neg c0, decide_eq_false (fun a => h0 a.1)]
theorem frac_split (x p : Nat) (hx : x < 2 ^ (p + 1)) : x = (if decide (2 ^ p ≤ x) = true then x % 2 ^ p + 2 ^ p else x % 2 ^ p) := by
  have hp : 0 < 2 ^ p := Nat.pow_pos (by decide)
  rw [Nat.pow_succ] at hx
  by_cases h : 2 ^ p ≤ x
  · rw [decide_eq_true h, if_pos rfl, Nat.mod_eq_sub_mod h, Nat.mod_eq_of_lt (by omega)]
    omega
  · rw [decide_eq_false h, if_neg (by decide), Nat.mod_eq_of_lt (by omega)]
theorem unpI_ev (h : Fmt P emin emax W E ex) (f : Int) (hf : impl_layoutOf.f f = some ((P : Int), emin, emax, (W : Int), (E : Int), ex, true)) (w : Nat) (hw : w < B128) : Ev (fun k => impl_Unpack.f k f (hiI w) (loI w)) (unpN P emin emax W E ex w) := by
  have hp0 := h.p0
  have hp1 := h.p1
  have hw1 := h.w1
  have hw2 := h.w2
  have he0 := h.e0
  have he1 := h.e1
  have hE := h.plt
  have hfn : fracN P ex = if ex = true then P else P - 1 := rfl
  have hfr : fracN P ex ≤ 113 := by rw [hfn]; split <;> omega
  -- behind the first check
  have core : w < 2 ^ W → Ev (fun k => impl_Unpack.j0 k false (hiI w) (loI w) (P : Int) emin emax (W : Int) (E : Int) ex) (unpN P emin emax W E ex w) := by
    intro hlt
    have l1 := low_eq w (fracN P ex) hw (by omega)
    have r1 := right_eq w (fracN P ex) hw (by omega)
    have hq : w / 2 ^ fracN P ex < B128 := Nat.lt_of_le_of_lt (Nat.div_le_self _ _) hw
    have l2 := low_eq (w / 2 ^ fracN P ex) E hq (by omega)
    have r2 := right_eq w (W - 1) hw (by omega)
    have hne := word_ne (w / 2 ^ (W - 1))
    have helt : w / 2 ^ fracN P ex % 2 ^ E < 2 ^ E := Nat.mod_lt _ (Nat.pow_pos (by decide))
    have hneg : decide (w / 2 ^ (W - 1) ≠ 0) = decide (w / 2 ^ (W - 1) % 2 = 1) := by
      have h2 : w / 2 ^ (W - 1) < 2 := by
        rw [Nat.div_lt_iff_lt_mul (Nat.pow_pos (by decide)), Nat.mul_comm, ← Nat.pow_succ, show (W - 1).succ = W by omega]
        exact hlt
      rw [decide_eq_decide]
      exact small2 _ h2
    rw [hneg] at hne
    have hflt : w % 2 ^ fracN P ex < 2 ^ fracN P ex := Nat.mod_lt _ (Nat.pow_pos (by decide))
    have wW : wrap64 ((W : Int) - 1) = ((W - 1 : Nat) : Int) := by rw [wsm _ (by omega)]; omega
    have wP : wrap64 ((P : Int) - 1) = ((P - 1 : Nat) : Int) := by rw [wsm _ (by clear wW; omega)]; clear wW; omega
    have heI : loI (w / 2 ^ fracN P ex % 2 ^ E) = ((w / 2 ^ fracN P ex % 2 ^ E : Nat) : Int) := by
      clear wW wP
      unfold loI
      rw [Nat.mod_eq_of_lt (show w / 2 ^ fracN P ex % 2 ^ E < 18446744073709551616 by omega)]
    have wE : wrap64 ((w / 2 ^ fracN P ex % 2 ^ E : Nat) : Int) = ((w / 2 ^ fracN P ex % 2 ^ E : Nat) : Int) := wsm _ (by clear wW wP; omega)
    have hfE := frac_eq h
    have hj : ∀ R : Prt, (if ex = true then (if (2 ^ (P - 1) ≤ w % 2 ^ fracN P ex ↔ w / 2 ^ fracN P ex % 2 ^ E ≠ 0) then Ev (fun k => impl_Unpack.j1 k ((w / 2 ^ fracN P ex % 2 ^ E : Nat) : Int) (decide (w / 2 ^ (W - 1) % 2 = 1)) (P : Int) emin emax (W : Int) (E : Int) ex (hiI (w % 2 ^ fracN P ex)) (loI (w % 2 ^ fracN P ex)) (hiI (w % 2 ^ fracN P ex % 2 ^ (P - 1))) (loI (w % 2 ^ fracN P ex % 2 ^ (P - 1)))) R else R = badP) else Ev (fun k => impl_Unpack.j1 k ((w / 2 ^ fracN P ex % 2 ^ E : Nat) : Int) (decide (w / 2 ^ (W - 1) % 2 = 1)) (P : Int) emin emax (W : Int) (E : Int) ex (hiI (w % 2 ^ fracN P ex)) (loI (w % 2 ^ fracN P ex)) (hiI (w % 2 ^ fracN P ex)) (loI (w % 2 ^ fracN P ex))) R) →
        Ev (fun k => impl_Unpack.j0 k false (hiI w) (loI w) (P : Int) emin emax (W : Int) (E : Int) ex) R := by
      intro R hR
      have hfB : w % 2 ^ fracN P ex < B128 := Nat.lt_of_le_of_lt (Nat.mod_le _ _) hw
      cases ex with
      | false =>
        rw [if_neg (by decide)] at hR
        refine Ev.step (fun k => ?_) hR
        simp only [impl_Unpack.j0]
        rw [if_neg (by decide), hfE, Option.bind_some, l1, Option.bind_some, r1, Option.bind_some]
        dsimp only
        rw [l2, Option.bind_some, wW, r2, Option.bind_some]
        dsimp only
        rw [if_neg (by decide), heI, wE, hne]
      | true =>
        rw [if_pos rfl] at hR
        have r3 := right_eq (w % 2 ^ fracN P true) (P - 1) hfB (by clear wW wP wE; omega)
        have l3 := low_eq (w % 2 ^ fracN P true) (P - 1) hfB (by clear wW wP wE; omega)
        have hn3 := word_ne (w % 2 ^ fracN P true / 2 ^ (P - 1))
        have hbit : decide (w % 2 ^ fracN P true / 2 ^ (P - 1) ≠ 0) = decide (2 ^ (P - 1) ≤ w % 2 ^ fracN P true) := by
          rw [decide_eq_decide, Nat.div_ne_zero_iff]
          exact ⟨fun a => a.2, fun a => ⟨Nat.ne_of_gt (Nat.pow_pos (by decide)), a⟩⟩
        rw [hbit] at hn3
        have he0' : (((w / 2 ^ fracN P true % 2 ^ E : Nat) : Int) != 0) = decide (w / 2 ^ fracN P true % 2 ^ E ≠ 0) := by
          clear wW wP wE
          by_cases hz : w / 2 ^ fracN P true % 2 ^ E = 0
          · rw [hz]; rfl
          · rw [decide_eq_true hz, bne_iff_ne]
            omega
        by_cases hc : (2 ^ (P - 1) ≤ w % 2 ^ fracN P true ↔ w / 2 ^ fracN P true % 2 ^ E ≠ 0)
        · rw [if_pos hc] at hR
          have hcd : (decide (2 ^ (P - 1) ≤ w % 2 ^ fracN P true) != decide (w / 2 ^ fracN P true % 2 ^ E ≠ 0)) = false := dne_f hc
          refine Ev.step (fun k => ?_) hR
          simp only [impl_Unpack.j0]
          rw [if_neg (by decide), hfE, Option.bind_some, l1, Option.bind_some, r1, Option.bind_some]
          dsimp only
          rw [l2, Option.bind_some, wW, r2, Option.bind_some]
          dsimp only
          rw [if_pos trivial, wP, r3, Option.bind_some, heI, wE, he0', hn3, hcd, if_neg (by decide), l3, Option.bind_some, hne]
        · rw [if_neg hc] at hR
          have hcd : (decide (2 ^ (P - 1) ≤ w % 2 ^ fracN P true) != decide (w / 2 ^ fracN P true % 2 ^ E ≠ 0)) = true := dne_t hc
          refine Ev.step (f := fun _ => some R) (fun k => ?_) (Ev.now _)
          simp only [impl_Unpack.j0]
          rw [if_neg (by decide), hfE, Option.bind_some, l1, Option.bind_some, r1, Option.bind_some]
          dsimp only
          rw [l2, Option.bind_some, wW, r2, Option.bind_some]
          dsimp only
          rw [if_pos trivial, wP, r3, Option.bind_some, heI, wE, he0', hn3, hcd, if_pos rfl, hR]
          rfl
    apply hj
    unfold unpN
    rw [if_neg (Nat.not_le.2 hlt)]
    clear wW wP wE hj
    cases ex with
    | false =>
      rw [if_neg (by decide), if_neg (by decide)]
      rw [hfn, if_neg (by decide)] at hflt helt ⊢
      have hj1 := im_j1 h (w / 2 ^ (P - 1) % 2 ^ E) helt (decide (w / 2 ^ (W - 1) % 2 = 1)) (w % 2 ^ (P - 1)) hflt false (fun _ => rfl) (fun _ => rfl)
      rw [if_neg (by decide)] at hj1
      exact hj1
    | true =>
      rw [if_pos rfl, if_pos rfl]
      rw [hfn, if_pos rfl] at hflt helt ⊢
      by_cases hc : (2 ^ (P - 1) ≤ w % 2 ^ P ↔ w / 2 ^ P % 2 ^ E ≠ 0)
      · rw [if_pos hc, if_pos hc]
        have hs := frac_split (w % 2 ^ P) (P - 1) (by rw [show P - 1 + 1 = P by omega]; exact hflt)
        have hj1 := im_j1 h (w / 2 ^ P % 2 ^ E) helt (decide (w / 2 ^ (W - 1) % 2 = 1)) (w % 2 ^ P % 2 ^ (P - 1)) (Nat.mod_lt _ (Nat.pow_pos (by decide))) (decide (2 ^ (P - 1) ≤ w % 2 ^ P)) (fun h0 => decide_eq_false (fun a => (hc.1 a) h0)) (fun a => by cases a)
        rw [← hs] at hj1
        exact hj1
      · rw [if_neg hc, if_neg hc]
  unfold impl_Unpack.f
  by_cases h128 : W < 128
  · have c1 : (W : Int) < 128 := by omega
    have r0 := right_eq w W hw (by omega)
    have n0 := word_ne (w / 2 ^ W)
    by_cases hge : 2 ^ W ≤ w
    · have hz : decide (w / 2 ^ W ≠ 0) = true := by
        rw [decide_eq_true_iff, Nat.div_ne_zero_iff]
        exact ⟨Nat.ne_of_gt (Nat.pow_pos (by decide)), hge⟩
      have hu : unpN P emin emax W E ex w = badP := by unfold unpN; rw [if_pos hge]
      rw [hu]
      refine Ev.congr (f := fun k => impl_Unpack.j0 k true (hiI w) (loI w) (P : Int) emin emax (W : Int) (E : Int) ex) (fun k => ?_) (Ev.step (f := fun _ => some badP) (fun k => ?_) (Ev.now _))
      · rw [hf, Option.bind_some]
        dsimp only
        rw [if_pos rfl, if_pos c1, r0, Option.bind_some]
        dsimp only
        rw [n0, hz]
      · simp only [impl_Unpack.j0]
        rw [if_pos trivial]
        rfl
    · have hz : decide (w / 2 ^ W ≠ 0) = false := by
        rw [decide_eq_false_iff_not, Nat.div_ne_zero_iff]
        exact fun a => hge a.2
      refine Ev.congr (fun k => ?_) (core (Nat.lt_of_not_le hge))
      rw [hf, Option.bind_some]
      dsimp only
      rw [if_pos rfl, if_pos c1, r0, Option.bind_some]
      dsimp only
      rw [n0, hz]
  · have c1 : ¬ (W : Int) < 128 := by omega
    have hWe : W = 128 := by omega
    refine Ev.congr (fun k => ?_) (core (by rw [hWe]; exact hw))
    rw [hf, Option.bind_some]
    dsimp only
    rw [if_pos rfl, if_neg c1]
end
end Go.Proofs.YtdbnmdchecacdaaDoor.M
end
section
namespace Go.Proofs.YtdbnmdchecacdaaDoor.M
open Go.RowKit Go.Proofs.YtdbnmdchecacdaaDoor.G Go.Proofs.YtdbnmdchecacdaaDoorV.PrintWords Go.Proofs.YtdbnmdchecacdaaDoorV.PrintLast Go.Proofs.YtdbnmdchecacdaaDoorV.PrintMore Go.Proofs.YtdbnmdchecacdaaDoor.PP
set_option linter.unusedVariables false
set_option linter.unusedSimpArgs false
theorem fmt0 : Fmt 24 (-126) 127 32 8 false := ⟨by decide, by decide, by decide, by decide, by decide, by decide, by decide, by decide⟩
theorem fmt1 : Fmt 53 (-1022) 1023 64 11 false := ⟨by decide, by decide, by decide, by decide, by decide, by decide, by decide, by decide⟩
theorem fmt2 : Fmt 64 (-16382) 16383 80 15 true := ⟨by decide, by decide, by decide, by decide, by decide, by decide, by decide, by decide⟩
theorem fmt3 : Fmt 113 (-16382) 16383 128 15 false := ⟨by decide, by decide, by decide, by decide, by decide, by decide, by decide, by decide⟩
theorem unpack_none (f : Int) (w : Nat) (h0 : f ≠ 0) (h1 : f ≠ 1) (h2 : f ≠ 2) (h3 : f ≠ 3) : Ev (fun k => spec_Unpack.f k f (hiI w) (loI w)) badP ∧ Ev (fun k => impl_Unpack.f k f (hiI w) (loI w)) badP := by
  have hS : spec_Describe.f f = some (0, 0, 0, 0, 0, false) := by
    unfold spec_Describe.f
    rw [if_neg h0, if_neg h1, if_neg h2, if_neg h3]
  have hI : impl_layoutOf.f f = some (0, 0, 0, 0, 0, false, false) := by
    unfold impl_layoutOf.f
    rw [if_neg h0, if_neg h1, if_neg h2, if_neg h3]
  refine ⟨Ev.congr (fun k => ?_) (Ev.now badP), Ev.congr (f := fun k => impl_Unpack.j0 k true (hiI w) (loI w) 0 0 0 0 0 false) (fun k => ?_) (Ev.step (f := fun _ => some badP) (fun k => ?_) (Ev.now _))⟩
  · unfold spec_Unpack.f
    rw [hS, Option.bind_some]
    rfl
  · unfold impl_Unpack.f
    rw [hI, Option.bind_some]
    dsimp only
    rw [if_neg (by decide)]
  · simp only [impl_Unpack.j0]
    rw [if_pos trivial]
    rfl
theorem word_split {hi lo : Int} (h1 : (Lit.int .u64 hi).wf = true) (h2 : (Lit.int .u64 lo).wf = true) : ∃ w : Nat, w < B128 ∧ hi = hiI w ∧ lo = loI w := by
  have a := wf_u64 (l := [hi]) (by simpa using h1) hi (by simp)
  have b := wf_u64 (l := [lo]) (by simpa using h2) lo (by simp)
  unfold B64 at a b
  obtain ⟨x, rfl⟩ : ∃ x : Nat, hi = x := ⟨hi.toNat, by omega⟩
  obtain ⟨y, rfl⟩ : ∃ y : Nat, lo = y := ⟨lo.toNat, by omega⟩
  have h := wordI_of x y (by omega)
  exact ⟨x * 18446744073709551616 + y, by unfold B128; omega, h.1.symm, h.2.symm⟩
end Go.Proofs.YtdbnmdchecacdaaDoor.M
end
section
namespace Go.Proofs.YtdbnmdchecacdaaDoor.M
open Go.RowKit Go.Proofs.YtdbnmdchecacdaaDoor.G Go.Proofs.YtdbnmdchecacdaaDoorV.PrintWords Go.Proofs.YtdbnmdchecacdaaDoorV.PrintLast Go.Proofs.YtdbnmdchecacdaaDoorV.PrintMore Go.Proofs.YtdbnmdchecacdaaDoor.PP
set_option linter.unusedVariables false
set_option linter.unusedSimpArgs false
theorem parts_valid (P : Nat) (emin emax : Int) (E : Nat) (e : Nat) (neg : Bool) (rest : Nat) (hE : 1 ≤ E) :
    (partsOf P emin emax E e neg rest).1 = 5 ∨ ((partsOf P emin emax E e neg rest).1 ≠ 0 ∧ (partsOf P emin emax E e neg rest).1 ≠ 5 ∧ (partsOf P emin emax E e neg rest).2.1 = neg ∧ ((partsOf P emin emax E e neg rest).1 = 1 ↔ (e = 0 ∧ rest = 0))) := by
  have h2 : 2 ≤ 2 ^ E := Nat.pow_le_pow_right (n := 2) (by decide) hE
  unfold partsOf
  by_cases h1 : e = 2 ^ E - 1
  · rw [if_pos h1]
    by_cases h3 : rest = 0
    · rw [if_pos h3]
      exact .inr ⟨show (4 : Int) ≠ 0 by decide, show (4 : Int) ≠ 5 by decide, rfl, ⟨fun a => absurd (show (4 : Int) = 1 from a) (by decide), fun a => by omega⟩⟩
    · rw [if_neg h3]
      exact .inl rfl
  · rw [if_neg h1]
    by_cases h4 : e = 0
    · rw [if_pos h4]
      by_cases h3 : rest = 0
      · rw [if_pos h3]
        exact .inr ⟨show (1 : Int) ≠ 0 by decide, show (1 : Int) ≠ 5 by decide, rfl, ⟨fun _ => ⟨h4, h3⟩, fun _ => rfl⟩⟩
      · rw [if_neg h3]
        exact .inr ⟨show (2 : Int) ≠ 0 by decide, show (2 : Int) ≠ 5 by decide, rfl, ⟨fun a => absurd (show (2 : Int) = 1 from a) (by decide), fun a => absurd a.2 h3⟩⟩
    · rw [if_neg h4]
      exact .inr ⟨show (3 : Int) ≠ 0 by decide, show (3 : Int) ≠ 5 by decide, rfl, ⟨fun a => absurd (show (3 : Int) = 1 from a) (by decide), fun a => absurd a.1 h4⟩⟩
theorem low_zero (w p E : Nat) : w % 2 ^ (p + E) = 0 ↔ (w / 2 ^ p % 2 ^ E = 0 ∧ w % 2 ^ p = 0) := by
  have hp : 0 < 2 ^ p := Nat.pow_pos (by decide)
  rw [Nat.pow_add, Nat.mod_mul]
  generalize w / 2 ^ p % 2 ^ E = q
  generalize w % 2 ^ p = r
  constructor
  · intro h
    have h1 : r = 0 := by omega
    have h2 : 2 ^ p * q = 0 := by omega
    rcases Nat.mul_eq_zero.1 h2 with h3 | h3
    · omega
    · exact ⟨h3, h1⟩
  · rintro ⟨rfl, rfl⟩
    simp
theorem unpN_valid {P : Nat} {emin emax : Int} {W E : Nat} {ex : Bool} (h : Fmt P emin emax W E ex) (w : Nat) :
    (unpN P emin emax W E ex w).1 = 0 ∨ (unpN P emin emax W E ex w).1 = 5 ∨ ((unpN P emin emax W E ex w).1 ≠ 0 ∧ (unpN P emin emax W E ex w).1 ≠ 5 ∧ (unpN P emin emax W E ex w).2.1 = decide (w / 2 ^ (W - 1) % 2 = 1) ∧ ((unpN P emin emax W E ex w).1 = 1 ↔ w % 2 ^ (W - 1) = 0)) := by
  have hw1 := h.w1
  have hp0 := h.p0
  unfold unpN
  by_cases h0 : 2 ^ W ≤ w
  · rw [if_pos h0]; exact .inl rfl
  · rw [if_neg h0]
    cases ex with
    | false =>
      rw [if_neg (by decide)]
      have hW : W - 1 = (P - 1) + E := by unfold fracN at hw1; rw [if_neg (by decide)] at hw1; omega
      have hz := low_zero w (P - 1) E
      rw [← hW] at hz
      rcases parts_valid P emin emax E (w / 2 ^ (P - 1) % 2 ^ E) (decide (w / 2 ^ (W - 1) % 2 = 1)) (w % 2 ^ (P - 1)) h.e0 with a | ⟨a, b, c, d⟩
      · exact .inr (.inl a)
      · exact .inr (.inr ⟨a, b, c, d.trans hz.symm⟩)
    | true =>
      rw [if_pos rfl]
      by_cases hc : (2 ^ (P - 1) ≤ w % 2 ^ P ↔ w / 2 ^ P % 2 ^ E ≠ 0)
      · rw [if_pos hc]
        have hW : W - 1 = P + E := by unfold fracN at hw1; rw [if_pos rfl] at hw1; omega
        have hz := low_zero w P E
        rw [← hW] at hz
        rcases parts_valid P emin emax E (w / 2 ^ P % 2 ^ E) (decide (w / 2 ^ (W - 1) % 2 = 1)) (w % 2 ^ P % 2 ^ (P - 1)) h.e0 with a | ⟨a, b, c, d⟩
        · exact .inr (.inl a)
        · refine .inr (.inr ⟨a, b, c, d.trans (Iff.trans ?_ hz.symm)⟩)
          constructor
          · rintro ⟨h1, h2⟩
            refine ⟨h1, ?_⟩
            have h3 : ¬ 2 ^ (P - 1) ≤ w % 2 ^ P := fun x => (hc.1 x) h1
            rwa [Nat.mod_eq_of_lt (by omega)] at h2
          · rintro ⟨h1, h2⟩
            refine ⟨h1, ?_⟩
            rw [h2, Nat.zero_mod]
      · rw [if_neg hc]; exact .inl rfl
def ordV (n1 n2 : Bool) (L1 L2 : Nat) : Int := if L1 = 0 ∧ L2 = 0 then 0 else if n1 = true ∧ n2 = false then -1 else if n1 = false ∧ n2 = true then 1 else if n1 = true then cmpN L2 L1 else cmpN L1 L2
theorem so_fin (x y : List Int) (n1 n2 : Bool) (dx : Dig B32 x) (nx : Norm x) (lx : x.length ≤ 100) (dy : Dig B32 y) (ny : Norm y) (ly : y.length ≤ 100) :
    Ev (fun k => spec_Order.j0 k x n1 y n2 false) (ordV n1 n2 (val B32 x) (val B32 y)) := by
  have zx := len_zero dx nx
  have zy := len_zero dy ny
  have c1 := cmp_ev x y dx dy (by omega) (by omega)
  have c2 := cmp_ev y x dy dx (by omega) (by omega)
  have j3 : ∀ b : Bool, Ev (fun k => spec_Order.j3 k x n1 y b) (if b = true then 1 else if n1 = true then cmpN (val B32 y) (val B32 x) else cmpN (val B32 x) (val B32 y)) := by
    intro b
    cases b with
    | true =>
      refine Ev.step (f := fun _ => some 1) (fun k => ?_) (Ev.now _)
      simp only [spec_Order.j3]
      rw [if_pos trivial]
    | false =>
      cases n1 with
      | true =>
        refine Ev.step (f := fun k => (spec_l1Cmp.f k y x).bind fun t => some t) (fun k => ?_) (Ev.bind c2 (Ev.now _))
        simp only [spec_Order.j3]
        rw [if_neg (by decide), if_pos trivial]
      | false =>
        refine Ev.step (f := fun k => (spec_l1Cmp.f k x y).bind fun t => some t) (fun k => ?_) (Ev.bind c1 (Ev.now _))
        simp only [spec_Order.j3]
        rw [if_neg (by decide), if_neg (by decide)]
  have j2 : ∀ b : Bool, Ev (fun k => spec_Order.j2 k x n1 y n2 b) (if b = true then -1 else if (n1 = false ∧ n2 = true) then 1 else if n1 = true then cmpN (val B32 y) (val B32 x) else cmpN (val B32 x) (val B32 y)) := by
    intro b
    cases b with
    | true =>
      refine Ev.step (f := fun _ => some (-1)) (fun k => ?_) (Ev.now _)
      simp only [spec_Order.j2]
      rw [if_pos trivial]
    | false =>
      cases n1 with
      | true =>
        refine Ev.step (fun k => ?_) (j3 false)
        simp only [spec_Order.j2]
        rw [if_neg (by decide), if_pos trivial]
      | false =>
        cases n2 with
        | true =>
          refine Ev.step (fun k => ?_) (j3 true)
          simp only [spec_Order.j2]
          rw [if_neg (by decide), if_neg (by decide)]
        | false =>
          refine Ev.step (fun k => ?_) (j3 false)
          simp only [spec_Order.j2]
          rw [if_neg (by decide), if_neg (by decide)]
  have j1 : ∀ b : Bool, Ev (fun k => spec_Order.j1 k x n1 y n2 b) (if b = true then 0 else if (n1 = true ∧ n2 = false) then -1 else if (n1 = false ∧ n2 = true) then 1 else if n1 = true then cmpN (val B32 y) (val B32 x) else cmpN (val B32 x) (val B32 y)) := by
    intro b
    cases b with
    | true =>
      refine Ev.step (f := fun _ => some 0) (fun k => ?_) (Ev.now _)
      simp only [spec_Order.j1]
      rw [if_pos trivial]
    | false =>
      cases n1 with
      | true =>
        cases n2 with
        | true =>
          refine Ev.step (fun k => ?_) (j2 false)
          simp only [spec_Order.j1]
          rw [if_neg (by decide), if_pos trivial]; rfl
        | false =>
          refine Ev.step (fun k => ?_) (j2 true)
          simp only [spec_Order.j1]
          rw [if_neg (by decide), if_pos trivial]; rfl
      | false =>
        refine Ev.step (fun k => ?_) (ev_to (j2 false) (by simp))
        simp only [spec_Order.j1]
        rw [if_neg (by decide), if_neg (by decide)]
  unfold ordV
  by_cases h1 : val B32 x = 0
  · have e1 : (x.length : Int) = 0 := by rw [decide_eq_true h1] at zx; simpa using zx
    by_cases h2 : val B32 y = 0
    · rw [if_pos ⟨h1, h2⟩]
      refine Ev.step (fun k => ?_) (j1 true)
      simp only [spec_Order.j0]
      rw [if_neg (by decide), if_pos e1, zy, decide_eq_true h2]
    · rw [if_neg (fun a => h2 a.2)]
      refine Ev.step (fun k => ?_) (j1 false)
      simp only [spec_Order.j0]
      rw [if_neg (by decide), if_pos e1, zy, decide_eq_false h2]
  · have e1 : ¬ (x.length : Int) = 0 := by rw [decide_eq_false h1] at zx; simpa using zx
    rw [if_neg (fun a => h1 a.1)]
    refine Ev.step (fun k => ?_) (j1 false)
    simp only [spec_Order.j0]
    rw [if_neg (by decide), if_neg e1]
end Go.Proofs.YtdbnmdchecacdaaDoor.M
end
