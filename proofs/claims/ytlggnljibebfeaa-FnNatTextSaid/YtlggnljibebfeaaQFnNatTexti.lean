import Derived.Laws.Externs
import Derived.Test.YtlggnljibebfeaaQFnNatTexth
section
namespace Go.Proofs.Ytlggnljibebfeaa.G
set_option linter.unusedVariables false
def add64s (a b c : Int) : Int := ((a.toNat + b.toNat + c.toNat) % 18446744073709551616 : Nat)
def add64c (a b c : Int) : Int := ((a.toNat + b.toNat + c.toNat) / 18446744073709551616 : Nat)
theorem add64_entry {P : Program} (a b c : Int) (hc : c.toNat ≤ 1) (w : World) :
    (add64Entry #[.int .u64 a, .int .u64 b, .int .u64 c]).run P w = .ok (.tuple #[.int .u64 (add64s a b c), .int .u64 (add64c a b c)]) w := by
  match c, hc with
  | .ofNat 0, _ => rfl
  | .ofNat 1, _ => rfl
  | .ofNat (n + 2), hc => exact absurd (show n + 2 ≤ 1 from hc) (by omega)
  | .negSucc n, _ => rfl
theorem run_Add64 (a b c : Int) (hc : c.toNat ≤ 1) (w : World) :
    (callFunc 124 #[.int .u64 a, .int .u64 b, .int .u64 c]).run Try.prog w = .ok (.value (.tuple #[.int .u64 (add64s a b c), .int .u64 (add64c a b c)])) w := by
  rw [run_callFunc_extern Try.func124 (by kernel_rfl) (by kernel_rfl) (by kernel_rfl) (e := add64Entry) (by kernel_rfl), add64_entry a b c hc]
  rfl
end Go.Proofs.Ytlggnljibebfeaa.G
end
section
namespace Go.Proofs.Ytlggnljibebfeaa.M
open Go.RowKit Go.Proofs.Ytlggnljibebfeaa.G Go.Proofs.YtlggnljibebfeaaV.PrintWords Go.Proofs.YtlggnljibebfeaaV.PrintLast
set_option linter.unusedVariables false
set_option linter.unusedSimpArgs false
section
def B32 : Nat := 4294967296
def B64 : Nat := 18446744073709551616
theorem B32_pos : 0 < B32 := by unfold B32; omega
theorem B64_pos : 0 < B64 := by unfold B64; omega
def outL : List Int → List Int
  | [] => []
  | [x] => [x]
  | x :: y :: l => (x + y * 4294967296) :: outL l
theorem outL_length : ∀ l : List Int, (outL l).length ≤ l.length
  | [] => Nat.le_refl _
  | [x] => Nat.le_refl _
  | x :: y :: l => by have := outL_length l; simp only [outL, List.length_cons]; omega
theorem outL_dig : ∀ {l : List Int}, Dig B32 l → Dig B64 (outL l)
  | [], _ => Dig.nil _
  | [x], h => by
    have hx := h x (by simp)
    unfold B32 at hx
    exact Dig.cons (by unfold B64; omega) (Dig.nil _)
  | x :: y :: l, h => by
    have hx := h x (by simp)
    have hy := h y (by simp)
    unfold B32 at hx hy
    exact Dig.cons (by unfold B64; omega) (outL_dig (fun z hz => h z (List.mem_cons_of_mem _ (List.mem_cons_of_mem _ hz))))
theorem outL_val : ∀ {l : List Int}, Dig B32 l → val B64 (outL l) = val B32 l
  | [], _ => rfl
  | [x], h => by simp [outL, val]
  | x :: y :: l, h => by
    have hx := h x (by simp)
    have hy := h y (by simp)
    have ih := outL_val (l := l) (fun z hz => h z (List.mem_cons_of_mem _ (List.mem_cons_of_mem _ hz)))
    simp only [outL, val_cons, ih]
    unfold B32 at hx hy
    unfold B32 B64
    omega
theorem norm_iff (l : List Int) : Norm l ↔ ∀ h : l ≠ [], l.getLast h ≠ 0 := by
  rcases Nat.eq_zero_or_pos l.length with h | h
  · have := List.eq_nil_of_length_eq_zero h
    subst this
    exact ⟨fun _ h => absurd rfl h, fun _ => rfl⟩
  · obtain ⟨a, x, rfl⟩ := snoc_of h
    rw [norm_snoc]
    simp
theorem outL_norm : ∀ {l : List Int}, Dig B32 l → Norm l → Norm (outL l)
  | [], _, _ => norm_nil
  | [x], _, h => h
  | [x, y], hd, h => by
    have hx := hd x (by simp)
    have h2 := (norm_iff _).1 h (by simp)
    simp at h2
    have hy := hd y (by simp)
    refine (norm_iff _).2 (fun _ => ?_)
    simp [outL]
    omega
  | x :: y :: z :: l, hd, h => by
    have h2 : Norm (z :: l) := by
      rw [norm_iff] at h ⊢
      intro hn
      have := h (by simp)
      simpa using this
    have ih := outL_norm (l := z :: l) (fun w hw => hd w (List.mem_cons_of_mem _ (List.mem_cons_of_mem _ hw))) h2
    rw [norm_iff] at ih ⊢
    intro hn
    have hne : outL (z :: l) ≠ [] := by cases l <;> simp [outL]
    have := ih hne
    simp only [outL]
    rw [List.getLast_cons hne]
    exact this
end
section
def IsNat (l : List Int) (v : Nat) : Prop := Dig B64 l ∧ Norm l ∧ val B64 l = v
theorem IsNat.uniq {a b : List Int} {v : Nat} (h : IsNat a v) (k : IsNat b v) : a = b := norm_inj B64_pos h.1 k.1 h.2.1 k.2.1 (h.2.2.trans k.2.2.symm)
theorem IsNat.nil : IsNat [] 0 := ⟨Dig.nil _, norm_nil, rfl⟩
theorem IsNat.out {l : List Int} {v : Nat} (hd : Dig B32 l) (hn : Norm l) (hv : val B32 l = v) : IsNat (outL l) v := ⟨outL_dig hd, outL_norm hd hn, by rw [outL_val hd, hv]⟩
end
section
theorem mul_step {B : Nat} {a b out : List Int} {i j : Nat} {ai c x c' : Int} (hp : i + j < out.length)
    (hv : val B out + B ^ (i + j) * c.toNat = val B (a.take i) * val B b + B ^ i * (ai.toNat * val B (b.take j)))
    (hx : x.toNat + B * c'.toNat = ai.toNat * (rd b (j : Int)).toNat + (rd out ((i + j : Nat) : Int)).toNat + c.toNat) :
    val B (out.set (i + j) x) + B ^ (i + (j + 1)) * c'.toNat = val B (a.take i) * val B b + B ^ i * (ai.toNat * val B (b.take (j + 1))) := by
  have h1 := val_set B out (i + j) x hp
  rw [val_take_succ, Nat.mul_add, Nat.mul_add, ← Nat.add_assoc i j 1, Nat.pow_succ]
  have h2 := congrArg (B ^ (i + j) * ·) hx
  simp only [Nat.mul_add] at h2
  have h3 : B ^ (i + j) * (B * c'.toNat) = B ^ (i + j) * B * c'.toNat := (Nat.mul_assoc _ _ _).symm
  have h4 : B ^ (i + j) * (ai.toNat * (rd b (j : Int)).toNat) = B ^ i * (ai.toNat * (B ^ j * (rd b (j : Int)).toNat)) := by
    rw [Nat.pow_add]
    simp only [Nat.mul_assoc, Nat.mul_left_comm]
  omega
theorem mul_carry {B : Nat} (hB : 0 < B) {x c' p q o c : Nat} (hp : p < B) (hq : q < B) (ho : o < B) (hc : c < B) (hx : x + B * c' = p * q + o + c) : c' < B := by
  have h1 : p * q ≤ (B - 1) * (B - 1) := Nat.mul_le_mul (by omega) (by omega)
  rcases Nat.lt_or_ge c' B with h | h
  · exact h
  · have h2 : B * B ≤ B * c' := Nat.mul_le_mul_left B h
    obtain ⟨m, rfl⟩ : ∃ m, B = m + 1 := ⟨B - 1, by omega⟩
    simp only [Nat.add_sub_cancel] at h1
    have h3 : (m + 1) * (m + 1) = m * m + 2 * m + 1 := by
      rw [Nat.add_mul, Nat.mul_add, Nat.mul_one, Nat.one_mul]
      omega
    omega
theorem mul_end {B : Nat} {a b out : List Int} {i : Nat} {c : Int} (hp : i + b.length < out.length) (h0 : rd out ((i + b.length : Nat) : Int) = 0)
    (hv : val B out + B ^ (i + b.length) * c.toNat = val B (a.take i) * val B b + B ^ i * ((rd a (i : Int)).toNat * val B (b.take b.length))) :
    val B (out.set (i + b.length) c) = val B (a.take (i + 1)) * val B b := by
  have h1 := val_set B out (i + b.length) c hp
  rw [h0] at h1
  rw [List.take_length] at hv
  rw [val_take_succ, Nat.add_mul]
  have h2 : B ^ i * (rd a (i : Int)).toNat * val B b = B ^ i * ((rd a (i : Int)).toNat * val B b) := Nat.mul_assoc _ _ _
  simp at h1
  omega
def Clear (l : List Int) (n : Nat) : Prop := ∀ m : Nat, n ≤ m → rd l (m : Int) = 0
theorem Clear.set {l : List Int} {n p : Nat} {x : Int} (h : Clear l n) (hp : p < n) : Clear (l.set p x) n := fun m hm => by rw [rd_set_ne _ _ _ _ (by omega)]; exact h m hm
theorem Clear.more {l : List Int} {n : Nat} (h : Clear l n) (x : Int) : Clear (l.set n x) (n + 1) := fun m hm => by rw [rd_set_ne _ _ _ _ (by omega)]; exact h m (by omega)
theorem Clear.zeros (n m : Nat) : Clear (List.replicate n 0) m := fun k hk => by
  rw [rd_nat, List.getD_eq_getElem?_getD, List.getElem?_replicate]
  split <;> rfl
end
section
theorem cast_dig {B n : Nat} (h : n < B) : 0 ≤ (n : Int) ∧ (n : Int) < (B : Int) := by omega
theorem low32_nat (n : Nat) (h : n < 18446744073709551616) : bits .and .u64 (n : Int) 4294967295 = ((n % 4294967296 : Nat) : Int) := by
  rw [and_low32 _ (by omega) (by omega)]
  omega
def sl (B P : Nat) : Nat → List Int → List Int
  | c, [] => [(c : Int)]
  | c, x :: l => (((x.toNat * P + c) % B : Nat) : Int) :: sl B P ((x.toNat * P + c) / B) l
theorem shl_nat (x p : Nat) (hp : p ≤ 64) : shl .u64 (x : Int) (p : Int) = ((x * 2 ^ p % 18446744073709551616 : Nat) : Int) := by
  unfold shl
  rw [wrap_u64, Int.toNat_natCast, show IntKind.u64.bits = 64 from rfl, Nat.min_eq_left hp, show ((x : Int) * 2 ^ p) = ((x * 2 ^ p : Nat) : Int) by simp]
  exact (Int.natCast_emod _ 18446744073709551616).symm
theorem or_nat (p x y : Nat) (hp : p ≤ 64) (hx : x < 18446744073709551616) (h : 2 ^ p ∣ x) (hy : y < 2 ^ p) : bits .or .u64 (x : Int) (y : Int) = ((x + y : Nat) : Int) := by
  have h64 : 2 ^ p ≤ 2 ^ 64 := Nat.pow_le_pow_right (by omega) hp
  have hc : ((2 : Int) ^ p) = ((2 ^ p : Nat) : Int) := by simp
  rw [or_join p x y (by omega) (by rw [hc]; have := Nat.mod_eq_zero_of_dvd h; omega) (by omega) (by omega) (by rw [hc]; omega) (by omega)]
  omega
theorem or_nat' (p x y : Nat) (hp : p ≤ 64) (hx : x < 18446744073709551616) (h : 2 ^ p ∣ x) (hy : y < 2 ^ p) : bits .or .u64 (y : Int) (x : Int) = ((y + x : Nat) : Int) := by
  rw [bits_or_comm, or_nat p x y hp hx h hy, Nat.add_comm]
theorem pow_mul_mod (v w n : Nat) : v * 2 ^ n = (2 ^ w) ^ (n / w) * (v * 2 ^ (n % w)) := by
  rw [Nat.mul_left_comm, ← Nat.pow_mul, ← Nat.pow_add, Nat.div_add_mod]
theorem B32_pow : B32 = 2 ^ 32 := by unfold B32; rfl
end
section
theorem rd_mid (acc r : List Int) (c : Int) (p : Nat) (h : p = acc.length) : rd (acc ++ c :: r) (p : Int) = c := by
  subst h
  simp [rd_nat, List.getD_eq_getElem?_getD]
def shOk (a : List Int) (n : Int) : Prop := a.length ≤ 1200 ∧ ¬ (n > 80000) ∧ ¬ (n < -80000)
instance (a : List Int) (n : Int) : Decidable (shOk a n) := by unfold shOk; infer_instance
end
section
def IsBits (v n : Nat) : Prop := v < 2 ^ n ∧ (n = 0 ∨ 2 ^ (n - 1) ≤ v)
instance (v n : Nat) : Decidable (IsBits v n) := by unfold IsBits; infer_instance
theorem IsBits.uniq {v n m : Nat} (h : IsBits v n) (k : IsBits v m) : n = m := by
  have one : ∀ a b : Nat, IsBits v a → IsBits v b → a ≤ b := by
    intro a b h k
    rcases h.2 with h2 | h2
    · omega
    · rcases Nat.lt_or_ge b a with h3 | h3
      · have := Nat.pow_le_pow_right (n := 2) (by omega) (show b ≤ a - 1 by omega)
        have := k.1
        omega
      · exact h3
  exact Nat.le_antisymm (one n m h k) (one m n k h)
theorem IsBits.zero : IsBits 0 0 := ⟨by decide, Or.inl rfl⟩
theorem IsBits.pos {v n : Nat} (h : IsBits v n) (hv : 0 < v) : 0 < n := by
  rcases Nat.eq_zero_or_pos n with h2 | h2
  · subst h2
    have := h.1
    simp at this
    omega
  · exact h2
theorem IsBits.up {v m s : Nat} (h : IsBits (v / 2 ^ s) m) (hv : 0 < v / 2 ^ s) : IsBits v (s + m) := by
  have hp : 0 < 2 ^ s := Nat.pow_pos (by omega)
  have hm := h.pos hv
  refine ⟨?_, Or.inr ?_⟩
  · rw [Nat.pow_add, Nat.mul_comm]
    exact (Nat.div_lt_iff_lt_mul hp).1 h.1
  · rcases h.2 with h2 | h2
    · omega
    · rw [show s + m - 1 = s + (m - 1) by omega, Nat.pow_add, Nat.mul_comm]
      exact (Nat.le_div_iff_mul_le hp).1 h2
theorem IsBits.le {v n w : Nat} (h : IsBits v n) (hv : v < 2 ^ w) : n ≤ w := by
  rcases h.2 with h2 | h2
  · omega
  · rcases Nat.lt_or_ge w n with h3 | h3
    · have := Nat.pow_le_pow_right (n := 2) (by omega) (show w ≤ n - 1 by omega)
      omega
    · exact h3
theorem lenT : ∀ i : Nat, i < 256 → IsBits i (bt (⟨#[0, 1, 2, 2, 3, 3, 3, 3, 4, 4, 4, 4, 4, 4, 4, 4, 5, 5, 5, 5, 5, 5, 5, 5, 5, 5, 5, 5, 5, 5, 5, 5, 6, 6, 6, 6, 6, 6, 6, 6, 6, 6, 6, 6, 6, 6, 6, 6, 6, 6, 6, 6, 6, 6, 6, 6, 6, 6, 6, 6, 6, 6, 6, 6, 7, 7, 7, 7, 7, 7, 7, 7, 7, 7, 7, 7, 7, 7, 7, 7, 7, 7, 7, 7, 7, 7, 7, 7, 7, 7, 7, 7, 7, 7, 7, 7, 7, 7, 7, 7, 7, 7, 7, 7, 7, 7, 7, 7, 7, 7, 7, 7, 7, 7, 7, 7, 7, 7, 7, 7, 7, 7, 7, 7, 7, 7, 7, 7, 8, 8, 8, 8, 8, 8, 8, 8, 8, 8, 8, 8, 8, 8, 8, 8, 8, 8, 8, 8, 8, 8, 8, 8, 8, 8, 8, 8, 8, 8, 8, 8, 8, 8, 8, 8, 8, 8, 8, 8, 8, 8, 8, 8, 8, 8, 8, 8, 8, 8, 8, 8, 8, 8, 8, 8, 8, 8, 8, 8, 8, 8, 8, 8, 8, 8, 8, 8, 8, 8, 8, 8, 8, 8, 8, 8, 8, 8, 8, 8, 8, 8, 8, 8, 8, 8, 8, 8, 8, 8, 8, 8, 8, 8, 8, 8, 8, 8, 8, 8, 8, 8, 8, 8, 8, 8, 8, 8, 8, 8, 8, 8, 8, 8, 8, 8, 8, 8, 8, 8, 8, 8, 8, 8, 8, 8, 8, 8]⟩ : ByteArray) (i : Int)).toNat ∧ 0 ≤ bt (⟨#[0, 1, 2, 2, 3, 3, 3, 3, 4, 4, 4, 4, 4, 4, 4, 4, 5, 5, 5, 5, 5, 5, 5, 5, 5, 5, 5, 5, 5, 5, 5, 5, 6, 6, 6, 6, 6, 6, 6, 6, 6, 6, 6, 6, 6, 6, 6, 6, 6, 6, 6, 6, 6, 6, 6, 6, 6, 6, 6, 6, 6, 6, 6, 6, 7, 7, 7, 7, 7, 7, 7, 7, 7, 7, 7, 7, 7, 7, 7, 7, 7, 7, 7, 7, 7, 7, 7, 7, 7, 7, 7, 7, 7, 7, 7, 7, 7, 7, 7, 7, 7, 7, 7, 7, 7, 7, 7, 7, 7, 7, 7, 7, 7, 7, 7, 7, 7, 7, 7, 7, 7, 7, 7, 7, 7, 7, 7, 7, 8, 8, 8, 8, 8, 8, 8, 8, 8, 8, 8, 8, 8, 8, 8, 8, 8, 8, 8, 8, 8, 8, 8, 8, 8, 8, 8, 8, 8, 8, 8, 8, 8, 8, 8, 8, 8, 8, 8, 8, 8, 8, 8, 8, 8, 8, 8, 8, 8, 8, 8, 8, 8, 8, 8, 8, 8, 8, 8, 8, 8, 8, 8, 8, 8, 8, 8, 8, 8, 8, 8, 8, 8, 8, 8, 8, 8, 8, 8, 8, 8, 8, 8, 8, 8, 8, 8, 8, 8, 8, 8, 8, 8, 8, 8, 8, 8, 8, 8, 8, 8, 8, 8, 8, 8, 8, 8, 8, 8, 8, 8, 8, 8, 8, 8, 8, 8, 8, 8, 8, 8, 8, 8, 8, 8, 8, 8, 8]⟩ : ByteArray) (i : Int) := by decide +kernel
end
section
theorem and_one (x : Nat) (h : x ≤ 20000) : bits .and .i64 (x : Int) 1 = ((x % 2 : Nat) : Int) := by
  have := bits_mask .i64 15 (by decide) (fun n h0 h1 => by simp only [IntKind.wrap, IntKind.bits, IntKind.signed] at *; simp at *; omega) 1 (by decide) (x : Int) (by omega) (by simp; omega)
  simp at this
  rw [this]
  omega
theorem pow_half (b x : Nat) : b ^ x = b ^ (x % 2) * (b * b) ^ (x / 2) := by
  rw [← Nat.pow_two, ← Nat.pow_mul, ← Nat.pow_add]
  congr 1
  omega
def powOk (m : Nat) (e : Int) : Prop := ¬ (e < 0) ∧ ¬ (e > 20000) ∧ ¬ (wrap64 ((m : Int) * e) > 76800)
instance (m : Nat) (e : Int) : Decidable (powOk m e) := by unfold powOk; infer_instance
end
section
theorem est_le {B d1 d0 n u q r : Nat} (hq : q * d1 + r = n) (hx : q * d0 ≤ B * r + u) : q * (d1 * B + d0) ≤ n * B + u := by
  subst hq
  have e1 : q * (d1 * B + d0) = q * d1 * B + q * d0 := by rw [Nat.mul_add, Nat.mul_assoc]
  have e2 : (q * d1 + r) * B = q * d1 * B + B * r := by rw [Nat.add_mul, Nat.mul_comm r B]
  omega
theorem est_gt {B d1 d0 n u q r : Nat} (hq : q * d1 + r = n) (hx : B * r + u < q * d0) : n * B + u < q * (d1 * B + d0) := by
  subst hq
  have e1 : q * (d1 * B + d0) = q * d1 * B + q * d0 := by rw [Nat.mul_add, Nat.mul_assoc]
  have e2 : (q * d1 + r) * B = q * d1 * B + B * r := by rw [Nat.add_mul, Nat.mul_comm r B]
  omega
theorem est_over {B d0 q r u : Nat} (hq : q ≤ B) (hd : d0 < B) (hr : B ≤ r) : q * d0 ≤ B * r + u := by
  have h1 := Nat.mul_le_mul hq (Nat.le_of_lt hd)
  have h2 := Nat.mul_le_mul_left B hr
  omega
theorem div_is {T D q : Nat} (hD : 0 < D) (h1 : q * D ≤ T) (h2 : T / D ≤ q) : q = T / D := by
  have := (Nat.le_div_iff_mul_le hD).2 h1
  omega
theorem div_less {T D q : Nat} (hD : 0 < D) (h : T < q * D) : T / D + 1 ≤ q := (Nat.div_lt_iff_lt_mul hD).2 h
theorem div_lt_base {B D n u : Nat} (hn : n < D) (hu : u < B) : (n * B + u) / D < B := by
  have hD : 0 < D := by omega
  rw [Nat.div_lt_iff_lt_mul hD]
  have h1 := Nat.mul_le_mul_right B (show n + 1 ≤ D from hn)
  rw [Nat.add_mul, Nat.mul_comm D B] at h1
  omega
theorem est_start {B d1 d0 n : Nat} (hd1 : B ≤ 2 * d1) (hd0 : d0 < B) (hn : n < d1 * B + d0) : n / d1 ≤ B + 1 := by
  have h1 : 0 < d1 := by omega
  have h2 : n < (B + 2) * d1 := by
    have : (B + 2) * d1 = d1 * B + 2 * d1 := by rw [Nat.add_mul, Nat.mul_comm B d1]
    omega
  have := (Nat.div_lt_iff_lt_mul h1).2 h2
  omega
theorem est_floor {B d1 d0 n u : Nat} (h1 : 0 < d1) (hu : u < B) : (n * B + u) / (d1 * B + d0) ≤ n / d1 := by
  have hD : 0 < d1 * B + d0 := by
    have := Nat.mul_pos h1 (show 0 < B by omega)
    omega
  rw [Nat.le_div_iff_mul_le h1]
  have h3 := Nat.div_mul_le_self (n * B + u) (d1 * B + d0)
  generalize (n * B + u) / (d1 * B + d0) = Q at *
  have e1 : Q * (d1 * B + d0) = Q * d1 * B + Q * d0 := by rw [Nat.mul_add, Nat.mul_assoc]
  have h4 : Q * d1 * B < (n + 1) * B := by
    rw [Nat.add_mul]
    omega
  have := Nat.lt_of_mul_lt_mul_right h4
  omega
theorem quot_of {W V Q R : Nat} (h : R + Q * V = W) (hR : R < V) : Q = W / V ∧ R = W % V := by
  subst h
  constructor
  · rw [Nat.add_mul_div_right _ _ (by omega), Nat.div_eq_of_lt hR]; omega
  · rw [Nat.add_mul_mod_self_right, Nat.mod_eq_of_lt hR]
end
section
theorem bits_of (v : Nat) (hv : v < 18446744073709551616) : ∃ m : Nat, IsBits v m ∧ m ≤ 64 := by
  by_cases h0 : v = 0
  · subst h0
    exact ⟨0, IsBits.zero, by decide⟩
  · have h1 : v < 2 ^ (v.log2 + 1) := Nat.lt_log2_self
    have h2 : 2 ^ v.log2 ≤ v := Nat.log2_self_le h0
    have h : IsBits v (v.log2 + 1) := ⟨h1, .inr (by rw [Nat.add_sub_cancel]; exact h2)⟩
    exact ⟨v.log2 + 1, h, h.le (w := 64) hv⟩
end
section
theorem u64_nat {n : Nat} (h : n < 18446744073709551616) : IntKind.u64.wrap (n : Int) = (n : Int) := wrap_u64_id (by omega)
theorem d64_rest (n u q D : Nat) (h : q * D ≤ n * 4294967296 + u) (hr : n * 4294967296 + u - q * D < 18446744073709551616) :
    IntKind.u64.wrap ((IntKind.u64.wrap ((IntKind.u64.wrap ((n : Int) * 4294967296)) + (u : Int))) - (IntKind.u64.wrap ((q : Int) * (D : Int)))) = ((n * 4294967296 + u - q * D : Nat) : Int) := by
  rw [← Int.natCast_mul]
  generalize q * D = z at *
  rw [wrap_u64, wrap_u64, wrap_u64, wrap_u64]
  omega
theorem d64_cond (q d0 r u : Nat) (hq : q < 4294967296) (h0 : d0 < 4294967296) (hr : r < 4294967296) (hu : u < 4294967296) :
    (decide ((IntKind.u64.wrap ((q : Int) * (d0 : Int))) > (IntKind.u64.wrap ((IntKind.u64.wrap (4294967296 * (r : Int))) + (u : Int))))) = decide (4294967296 * r + u < q * d0) := by
  have h1 : q * d0 < 18446744073709551616 := Nat.lt_of_lt_of_le (Nat.mul_lt_mul'' hq h0) (by decide)
  rw [← Int.natCast_mul, u64_nat h1, show (4294967296 : Int) * (r : Int) = ((4294967296 * r : Nat) : Int) by omega, u64_nat (by omega), ← Int.natCast_add, u64_nat (by omega)]
  generalize q * d0 = z
  by_cases h : 4294967296 * r + u < z
  · rw [decide_eq_true h, decide_eq_true (by omega)]
  · rw [decide_eq_false h, decide_eq_false (by omega)]
theorem d64_num {D d1 d0 n u : Nat} (e : D = d1 * 4294967296 + d0) (h1 : 2147483648 ≤ d1 ∧ d1 < 4294967296) (h0 : d0 < 4294967296) (hu : u < 4294967296) (hn : n < D) {q r : Nat} (hq : q * d1 + r = n) (hQ : (n * 4294967296 + u) / D ≤ q) (hq1 : q ≤ 4294967297) (hr : r < 4294967296) (hc : 4294967296 ≤ q ∨ 4294967296 * r + u < q * d0) :
    ∃ p, q = p + 1 ∧ p * d1 + (r + d1) = n ∧ (n * 4294967296 + u) / D ≤ p ∧ p ≤ 4294967296 ∧ (4294967296 ≤ r + d1 → p = (n * 4294967296 + u) / D) := by
  have hD : 0 < D := by omega
  have hlt : (n * 4294967296 + u) / D < q := by
    rcases hc with h | h
    · exact Nat.lt_of_lt_of_le (div_lt_base hn hu) h
    · have := est_gt hq h
      rw [← e] at this
      exact div_less hD this
  have hq0 : 0 < q := Nat.lt_of_le_of_lt (Nat.zero_le _) hlt
  obtain ⟨p, rfl⟩ : ∃ p, q = p + 1 := ⟨q - 1, by omega⟩
  have h3 : p * d1 + (r + d1) = n := by rw [← hq, Nat.add_mul]; omega
  refine ⟨p, rfl, h3, by omega, by omega, fun ho => ?_⟩
  have h4 := est_le h3 (est_over (u := u) (show p ≤ 4294967296 by omega) h0 ho)
  rw [← e] at h4
  exact div_is hD h4 (by omega)
theorem d64_sure {D d1 d0 n u : Nat} (e : D = d1 * 4294967296 + d0) (h1 : 2147483648 ≤ d1 ∧ d1 < 4294967296) (h0 : d0 < 4294967296) (hu : u < 4294967296) (hn : n < D) {q r : Nat} (hq : q * d1 + r = n) (hQ : (n * 4294967296 + u) / D ≤ q) (hc : ¬ 4294967296 * r + u < q * d0) : q = (n * 4294967296 + u) / D := by
  have hD : 0 < D := by omega
  have h4 := est_le (B := 4294967296) (u := u) hq (Nat.le_of_not_lt hc)
  rw [← e] at h4
  exact div_is hD h4 hQ
theorem two_steps {n u u0 D B : Nat} (hD : 0 < D) : ((n * B + u) * B + u0) / D = (n * B + u) / D * B + ((n * B + u) % D * B + u0) / D ∧ ((n * B + u) * B + u0) % D = ((n * B + u) % D * B + u0) % D := by
  generalize n * B + u = a
  have h := Nat.div_add_mod a D
  have e : a * B + u0 = (a % D * B + u0) + D * (a / D * B) := by
    conv => lhs; rw [← h]
    rw [Nat.add_mul, Nat.mul_assoc]; omega
  constructor
  · rw [e, Nat.add_mul_div_left _ _ hD]; omega
  · rw [e, Nat.add_mul_mod_self_left]
theorem norm_num64 {hi lo y s : Nat} (hs : s ≤ 63) (hlo : lo < 18446744073709551616) (hh : hi < y) (hy : y * 2 ^ s < 18446744073709551616) :
    hi * 2 ^ s < 18446744073709551616 ∧ lo / 2 ^ (64 - s) < 2 ^ s ∧ (hi * 18446744073709551616 + lo) * 2 ^ s = (hi * 2 ^ s + lo / 2 ^ (64 - s)) * 18446744073709551616 + lo * 2 ^ s % 18446744073709551616 ∧ hi * 2 ^ s + lo / 2 ^ (64 - s) < y * 2 ^ s := by
  have hp : 0 < 2 ^ s := Nat.pow_pos (by decide)
  have e64 : (18446744073709551616 : Nat) = 2 ^ (64 - s) * 2 ^ s := by rw [← Nat.pow_add, show 64 - s + s = 64 by omega]
  have h1 : hi * 2 ^ s < y * 2 ^ s := Nat.mul_lt_mul_of_pos_right hh hp
  have h2 : lo / 2 ^ (64 - s) < 2 ^ s := by
    rw [Nat.div_lt_iff_lt_mul (Nat.pow_pos (by decide)), Nat.mul_comm, ← e64]; exact hlo
  have h3 : lo * 2 ^ s / 18446744073709551616 = lo / 2 ^ (64 - s) := by
    rw [e64, Nat.mul_div_mul_right _ _ hp]
  have h4 := Nat.div_add_mod (lo * 2 ^ s) 18446744073709551616
  have h5 : (hi + 1) * 2 ^ s ≤ y * 2 ^ s := Nat.mul_le_mul_right _ hh
  rw [Nat.add_mul] at h5
  refine ⟨by omega, h2, ?_, by omega⟩
  rw [Nat.add_mul, Nat.add_mul, ← h3, Nat.mul_right_comm]
  omega
end
section
theorem val_drop_rd (B : Nat) {l : List Int} {p : Nat} (h : p < l.length) : val B (l.drop p) = (rd l (p : Int)).toNat + B * val B (l.drop (p + 1)) := by
  rw [List.drop_eq_getElem_cons h, val_cons]
  congr 2
  simp [rd_nat, h]
end
section
theorem exists_num (B : Nat) (hB : 1 < B) (n : Nat) : ∀ v : Nat, v ≤ n → ∃ l, Dig B l ∧ Norm l ∧ val B l = v := by
  induction n with
  | zero => intro v hv; exact ⟨[], Dig.nil _, norm_nil, by simp [val]; omega⟩
  | succ n ih =>
    intro v hv
    by_cases h0 : v = 0
    · exact ⟨[], Dig.nil _, norm_nil, by simp [val, h0]⟩
    · have hlt : v / B < v := Nat.div_lt_self (by omega) hB
      obtain ⟨l, h1, h2, h3⟩ := ih (v / B) (by omega)
      have hm := Nat.mod_lt v (show 0 < B by omega)
      have hdm := Nat.mod_add_div v B
      refine ⟨((v % B : Nat) : Int) :: l, Dig.cons (by omega) h1, ?_, by rw [val_cons, h3, Int.toNat_natCast]; exact hdm⟩
      rw [norm_iff]
      intro h
      cases l with
      | nil =>
        have h4 : v / B = 0 := by rw [← h3]; rfl
        rw [h4, Nat.mul_zero, Nat.add_zero] at hdm
        show ((v % B : Nat) : Int) ≠ 0
        omega
      | cons y l =>
        rw [List.getLast_cons (by simp)]
        exact (norm_iff _).1 h2 (by simp)
theorem exists_nat (v : Nat) : ∃ l, IsNat l v := by
  obtain ⟨l, h⟩ := exists_num B64 (by unfold B64; omega) v v (Nat.le_refl _)
  exact ⟨l, h⟩
theorem dw_num {q r vo d x rest B : Nat} (h : d * q + r = rest * B + x) : (q + B * vo) * d + r = x + B * (vo * d + rest) := by
  rw [Nat.add_mul, Nat.mul_add, Nat.mul_assoc, Nat.mul_comm q d, Nat.mul_comm B rest]
  omega
theorem len_le_of_val {l : List Int} (hd : Dig B64 l) (hn : Norm l) {m : Nat} (h : val B64 l < B64 ^ m) : l.length ≤ m := by
  rcases Nat.lt_or_ge m l.length with h1 | h1
  · have h2 := val_ge hd hn (by omega)
    have h3 : B64 ^ m ≤ B64 ^ (l.length - 1) := Nat.pow_le_pow_right B64_pos (by omega)
    omega
  · exact h1
end
section
def dv (v : Nat) : List Int → Nat
  | [] => v
  | c :: l => dv (v * 10 + (c - 48).toNat) l
def IsDig (l : List Int) : Prop := ∀ c ∈ l, 48 ≤ c ∧ c ≤ 57
theorem IsDig.take {l : List Int} (h : IsDig l) (k : Nat) : IsDig (l.take k) := fun x hx => h x (List.mem_of_mem_take hx)
theorem IsDig.drop {l : List Int} (h : IsDig l) (k : Nat) : IsDig (l.drop k) := fun x hx => h x (List.mem_of_mem_drop hx)
theorem IsDig.rd {l : List Int} (h : IsDig l) (i : Nat) (hi : i < l.length) : 48 ≤ rd l (i : Int) ∧ rd l (i : Int) ≤ 57 := by
  rw [rd_nat, List.getD_eq_getElem?_getD, List.getElem?_eq_getElem hi]
  exact h _ (List.getElem_mem hi)
end
section
instance (l : List Int) : Decidable (IsDig l) := by unfold IsDig; infer_instance
end
end Go.Proofs.Ytlggnljibebfeaa.M
end
section
namespace Go.Proofs.Ytlggnljibebfeaa.M
open Go.RowKit Go.Proofs.Ytlggnljibebfeaa.G Go.Proofs.YtlggnljibebfeaaV.PrintWords Go.Proofs.YtlggnljibebfeaaV.PrintLast Go.Proofs.Ytlggnljibebfeaa.X
set_option linter.unusedVariables false
set_option linter.unusedSimpArgs false
def shf (k : IntKind) (x y : Int) : Int := Int.fdiv x (2 ^ min y.toNat k.bits)
theorem shf_nat (x p : Nat) (hp : p ≤ 64) : shf .u64 (x : Int) (p : Int) = ((x / 2 ^ p : Nat) : Int) := by
 unfold shf
 rw [Int.toNat_natCast, show IntKind.u64.bits = 64 from rfl, Nat.min_eq_left hp, Int.fdiv_eq_ediv_of_nonneg _ (Int.pow_nonneg (by decide))]
 have : (2 : Int) ^ p = ((2 ^ p : Nat) : Int) := by rw [Int.natCast_pow]; rfl
 rw [this]
 rfl
theorem set_rep (O : List Int) (k : Nat) (v : Int) : (O ++ List.replicate (k + 1) 0).set O.length v = (O ++ [v]) ++ List.replicate k 0 := by
 rw [List.set_append_right _ _ (Nat.le_refl _), Nat.sub_self, List.replicate_succ, List.set_cons_zero, List.append_assoc]
 rfl
theorem run_ext3 {ρ : Operand → Value} {o : Oper} {x y z : Operand} {f : FuncId} {ts : Array TypeId} {v : Value} {w : World} (ho : o.op = .call { callee := .value (.func f), args := #[x, y, z], argTypes := ts })
  (hf : ρ (.func f) = .func (.func f) #[] #[]) (hr : (callFunc f #[ρ x, ρ y, ρ z]).run Try.prog w = .ok (.value v) w) : (execOp ρ o).run Try.prog w = .ok (.value v) w := by
 unfold execOp
 simp only [ho, resolve, Sem.run_bind, Sem.run_pure, Result.andThen_ok, List.map_toArray, List.map_cons, List.map_nil, hf]
 simpa [Deferred.ofValue, invoke] using hr
section
variable {B : List Nat} {w0 : Base} {rd : Option Nat} {n : Nat} {env : List (Nat × Value)} {bs : List Box} {fs : List Fact} {K : Exit → St → Prop} {ops : Array Oper} {j : Nat}
theorem xad (d : Nat) (a b c : Int) {o : Oper} {x y z : Operand} {ts : Array TypeId} (hc : c.toNat ≤ 1) (h : NW ⟨Try.prog, n, B, w0, rd⟩ ops (Nat.succ j) ⟨(d, .tuple #[.int .u64 (add64s a b c), .int .u64 (add64c a b c)]) :: env, bs, fs⟩ K)
  (ho : ops[j]? = some o := by rfl) (hop : o.op = .call { callee := .value (.func 124), args := #[x, y, z], argTypes := ts } := by rfl) (hg : guardD ops env o = some true := by kernel_rfl) (hf : fitO n env o = true := by kernel_rfl) (hd : o.dst = some d := by rfl)
  (hx : evD env x = .int .u64 a := by kernel_rfl) (hy : evD env y = .int .u64 b := by kernel_rfl) (hz : evD env z = .int .u64 c := by kernel_rfl) : NW ⟨Try.prog, n, B, w0, rd⟩ ops j ⟨env, bs, fs⟩ K :=
 nv (X := ⟨Try.prog, n, B, w0, rd⟩) _ d _ ho hg hf hd (fun w _ _ => run_ext3 hop rfl (by rw [hx, hy, hz]; exact run_Add64 a b c hc w)) rfl h
end
theorem trimL_take (n : Nat) : ∀ {l : List Int} {m : Nat}, l.length = n → m ≤ l.length → (∀ i : Nat, m ≤ i → rd l i = 0) → (0 < m → rd l ((m - 1 : Nat) : Int) ≠ 0) → trimL l = l.take m := by
 induction n with
 | zero =>
  intro l m hl hm _ _
  have : l = [] := List.eq_nil_of_length_eq_zero hl
  subst this
  simp
  rfl
 | succ n ih =>
  intro l m hl hm hz hn
  obtain ⟨a, x, rfl⟩ := snoc_of (l := l) (by omega)
  have ha : a.length = n := by simp at hl; exact hl
  have hx : rd (a ++ [x]) (a.length : Int) = x := by simp [rd_nat]
  by_cases he : m = a.length + 1
  ·subst he
   have h1 := hn (by omega)
   rw [show a.length + 1 - 1 = a.length by omega, hx] at h1
   rw [List.take_of_length_le (by simp)]
   exact norm_snoc.2 h1
  ·have hm' : m ≤ a.length := by simp at hm; omega
   have h0 := hz a.length hm'
   rw [hx] at h0
   subst h0
   rw [trimL_snoc_zero, List.take_append_of_le_length hm']
   refine ih ha hm' (fun i hi => ?_) (fun hp => ?_)
   ·rcases Nat.lt_or_ge i a.length with h | h
    ·have := hz i hi
     rwa [rd_append_left _ _ _ (by simpa using h)] at this
    ·exact rd_of_ge a i (by simpa using h)
   ·have := hn hp
    rwa [rd_append_left _ _ _ (by simp; omega)] at this
theorem ct_impl_trimmed (l : List Int) (A : Option Addr) (c : Nat) (hl : l.length ≤ 1000000000) : CtR Try.prog 49 [.slice A l.length c] [Row .u64 A c l] .u64 (trimL l) := by
 refine ct_of Try.func49 rfl (by kernel_rfl) (fun B w0 => ?_)
 refine SW_know zi0 (fun w h => h.2) (fun hc => ?_)
 refine xr [] [(2, .slice none 0 0)] ?_
 refine xr [] [(3, .int .i64 (((List.length l) : Nat) : Int))] ?_
 refine SW_seq ?_
 refine SW_block ?_
 refine SW_loopn (fun m s => m ≤ l.length ∧ (∀ i : Nat, m ≤ i → rd l i = 0) ∧ Weak s ⟨[(0, .slice A l.length c), (3, .int .i64 (m : Int))], [], [Row .u64 A c l]⟩) l.length ⟨Nat.le_refl _, fun i hi => rd_of_ge l i (by simpa using hi), ?_⟩ (fun m s ⟨h1, h2, hw⟩ => ?_)
 ·exact xw (zsS zi0 zs0)
 ·refine SW_weak hw ?_
  clear hw
  have fin : ∀ {A}, trimL l = l.take m → ∀ w, Row .u64 A c l w → Row .u64 A m (trimL l) w := fun e w h => e ▸ row_take m m (Nat.le_refl m) h
  have len : trimL l = l.take m → (trimL l).length = m := fun e => by rw [e, List.length_take]; omega
  by_cases h0 : m = 0
  ·have z0 : decide ((m : Int) > 0) = false := decide_eq_false (by omega)
   have e := trimL_take _ rfl h1 h2 (fun z => absurd h0 (by omega))
   refine SW_fact zi0 (fin e) ?_
   refine SW_seq ?_
   refine xg ?_
   refine xn 3 [] [(8, .bool (decide ((m : Int) > 0)))] ?_
   refine xkf 8 z0 ?_
   refine xz [] [(15, .bool false)] ?_
   refine xs0 ?_
   refine SW_exit ?_
   refine xg ?_
   refine xn 3 [] [(20, .int .i64 (m : Int)), (19, .int .i64 (m : Int)), (18, .slice A (List.length l) c)] ?_
   refine xsx 21 36 (A) (List.length l) (c) (m) IntKind.i64 IntKind.i64 ((m : Int)) ⟨rfl⟩ (by omega) ?_
   refine xz [] [(2, .slice A m m)] ?_
   refine SW_ret ?_
   refine xe (A, m) (.slice A m m) [] ?_ (zsS zi0 zs0)
   rw [len e]
  ·have z0 : decide ((m : Int) > 0) = true := decide_eq_true (by omega)
   refine SW_know zi0 (fun w h => row_at h (by omega)) (fun ⟨ad, e⟩ => ?_)
   subst e
   have wi : IntKind.i64.wrap ((m : Int) - 1) = ((m - 1 : Nat) : Int) := by rw [wrap_i64 (by omega)]; omega
   refine SW_seq ?_
   refine xg ?_
   refine xn 3 [] [(8, .bool (decide ((m : Int) > 0)))] ?_
   refine xkt 8 z0 ?_
   refine xn 6 [] [(11, .int .i64 (IntKind.wrap IntKind.i64 ((m : Int) - 1))), (9, .slice (some ad) (List.length l) c)] ?_
   refine xfi 12 36 (ad) (List.length l) (c) ((m) - 1) IntKind.i64 (IntKind.wrap IntKind.i64 ((m : Int) - 1)) (Nn.w (Nn.sub ⟨rfl⟩ ⟨rfl⟩ (by omega)) (by omega)) (by omega) ?_
   refine xfl 13 zi0 (m - 1) (by omega) ?_
   refine xz [] [(15, .bool (rd l (((m - 1) : Nat) : Int) == 0))] ?_
   refine xs (rd l (((m - 1) : Nat) : Int) == 0) (fun q0 => ?_) (fun q0 => ?_)
   ·refine SW_skip ?_
    refine SW_block ?_
    refine xrl [] [(3, .int .i64 (IntKind.wrap IntKind.i64 ((m : Int) - 1)))] ?_
    rw [wi]
    refine ⟨m - 1, by omega, by omega, fun i hi => ?_, ?_⟩
    ·rcases Nat.eq_or_lt_of_le hi with h | h
     ·rw [← h]; simpa using q0
     ·exact h2 i (by omega)
    ·exact xw (zsS zi0 zs0)
   ·have e := trimL_take _ rfl h1 h2 (fun _ => by simpa using q0)
    refine SW_fact zi0 (fin e) ?_
    refine SW_exit ?_
    refine xg ?_
    refine xn 3 [] [(20, .int .i64 (m : Int)), (19, .int .i64 (m : Int)), (18, .slice (some ad) (List.length l) c)] ?_
    refine xsx 21 36 (some ad) (List.length l) (c) (m) IntKind.i64 IntKind.i64 ((m : Int)) ⟨rfl⟩ (by omega) ?_
    refine xz [] [(2, .slice (some ad) m m)] ?_
    refine SW_ret ?_
    refine xe (some ad, m) (.slice (some ad) m m) [] ?_ (zsS zi0 zs0)
    rw [len e]
theorem ct_impl_trimmed_own (g : Nat) (l : List Int) (c : Nat) (hl : l.length ≤ 1000000000) (hc : l.length ≤ c) : CtM Try.prog 49 [.slice (some ⟨g, 0, none⟩) l.length c] [⟨g, cl .u64 l [], 36⟩] [] (γ := Unit) (fun _ => .slice (some ⟨g, 0, none⟩) (trimL l).length (trimL l).length) (fun _ => [⟨g, cl .u64 l [], 36⟩]) (fun _ => []) := by
 refine cm_of Try.func49 rfl (by kernel_rfl) (fun B w0 => ?_)
 refine xr [] [(2, .slice none 0 0)] ?_
 refine xr [] [(3, .int .i64 (((List.length l) : Nat) : Int))] ?_
 refine SW_seq ?_
 refine SW_block ?_
 refine SW_loopn (fun m s => m ≤ l.length ∧ (∀ i : Nat, m ≤ i → rd l i = 0) ∧ Weak s ⟨[(0, .slice (some ⟨g, 0, none⟩) l.length c), (3, .int .i64 (m : Int))], [⟨g, cl .u64 l [], 36⟩], []⟩) l.length ⟨Nat.le_refl _, fun i hi => rd_of_ge l i (by simpa using hi), ?_⟩ (fun m s ⟨h1, h2, hw⟩ => ?_)
 ·exact xw zs0
 ·refine SW_weak hw ?_
  clear hw
  have len : trimL l = l.take m → (trimL l).length = m := fun e => by rw [e, List.length_take]; omega
  by_cases h0 : m = 0
  ·have z0 : decide ((m : Int) > 0) = false := decide_eq_false (by omega)
   have e := trimL_take _ rfl h1 h2 (fun z => absurd h0 (by omega))
   rw [len e]
   refine SW_seq ?_
   refine xg ?_
   refine xn 3 [] [(8, .bool (decide ((m : Int) > 0)))] ?_
   refine xkf 8 z0 ?_
   refine xz [] [(15, .bool false)] ?_
   refine xs0 ?_
   refine SW_exit ?_
   refine xg ?_
   refine xn 3 [] [(20, .int .i64 (m : Int)), (19, .int .i64 (m : Int)), (18, .slice (some ⟨g, 0, none⟩) (List.length l) c)] ?_
   refine xsx 21 36 (some ⟨g, 0, none⟩) (List.length l) (c) (m) IntKind.i64 IntKind.i64 ((m : Int)) ⟨rfl⟩ (by omega) ?_
   refine xz [] [(2, .slice (some ⟨g, 0, none⟩) m m)] ?_
   refine SW_ret ?_
   refine xmeg (.slice (some ⟨g, 0, none⟩) m m) [] ?_
   exact ⟨(), [true], rfl, rfl, zs0⟩
  ·have z0 : decide ((m : Int) > 0) = true := decide_eq_true (by omega)
   have wi : IntKind.i64.wrap ((m : Int) - 1) = ((m - 1 : Nat) : Int) := by rw [wrap_i64 (by omega)]; omega
   have vi : Ve (IntKind.i64.wrap ((m : Int) - 1)) ((m - 1 : Nat) : Int) := ⟨wi⟩
   refine SW_seq ?_
   refine xg ?_
   refine xn 3 [] [(8, .bool (decide ((m : Int) > 0)))] ?_
   refine xkt 8 z0 ?_
   refine xn 5 [] [(10, .int .i64 (m : Int)), (9, .slice (some ⟨g, 0, none⟩) (List.length l) c)] ?_
   refine xve 11 IntKind.i64 (IntKind.wrap IntKind.i64 ((m : Int) - 1)) ((((m - 1) : Nat) : Int)) vi ?_
   refine xoi 12 36 (g) (List.length l) (c) (m - 1) IntKind.i64 ((((m - 1) : Nat) : Int)) ⟨rfl⟩ (by omega) ?_
   refine xol 13 0 (g) (m - 1) IntKind.u64 (l) ([]) 36 (by first | omega | (simp <;> omega)) ?_
   refine xz [] [(15, .bool (rd l (((m - 1) : Nat) : Int) == 0))] ?_
   refine xs (rd l (((m - 1) : Nat) : Int) == 0) (fun q0 => ?_) (fun q0 => ?_)
   ·refine SW_skip ?_
    refine SW_block ?_
    refine SW_region ?_
    refine xn 1 [] [(16, .int .i64 (m : Int))] ?_
    refine xve 17 IntKind.i64 (IntKind.wrap IntKind.i64 ((m : Int) - 1)) ((((m - 1) : Nat) : Int)) vi ?_
    refine xz [] [(3, .int .i64 (((m - 1) : Nat) : Int))] ?_
    refine ⟨m - 1, by omega, by omega, fun i hi => ?_, ?_⟩
    ·rcases Nat.eq_or_lt_of_le hi with h | h
     ·rw [← h]; simpa using q0
     ·exact h2 i (by omega)
    ·exact xw zs0
   ·have e := trimL_take _ rfl h1 h2 (fun _ => by simpa using q0)
    rw [len e]
    refine SW_exit ?_
    refine xg ?_
    refine xn 3 [] [(20, .int .i64 (m : Int)), (19, .int .i64 (m : Int)), (18, .slice (some ⟨g, 0, none⟩) (List.length l) c)] ?_
    refine xsx 21 36 (some ⟨g, 0, none⟩) (List.length l) (c) (m) IntKind.i64 IntKind.i64 ((m : Int)) ⟨rfl⟩ (by omega) ?_
    refine xz [] [(2, .slice (some ⟨g, 0, none⟩) m m)] ?_
    refine SW_ret ?_
    refine xmeg (.slice (some ⟨g, 0, none⟩) m m) [] ?_
    exact ⟨(), [true], rfl, rfl, zs0⟩
theorem add64_val {a b c : Int} (ha : 0 ≤ a ∧ a < (B64 : Int)) (hb : 0 ≤ b ∧ b < (B64 : Int)) (hc : 0 ≤ c ∧ c ≤ 1) : (0 ≤ add64s a b c ∧ add64s a b c < (B64 : Int)) ∧ (0 ≤ add64c a b c ∧ add64c a b c ≤ 1) ∧ (add64s a b c).toNat + B64 * (add64c a b c).toNat = a.toNat + b.toNat + c.toNat := by
 unfold add64s add64c
 unfold B64 at *
 omega
theorem add_step {a b O : List Int} {i : Nat} {c : Int} (da : Dig B64 a) (db : Dig B64 b) (dO : Dig B64 O) (hl : O.length = i) (hc : 0 ≤ c ∧ c ≤ 1) (hv : val B64 O + B64 ^ i * c.toNat = val B64 (a.take i) + val B64 (b.take i)) :
  Dig B64 (O ++ [add64s (rd a i) (rd b i) c]) ∧ (0 ≤ add64c (rd a i) (rd b i) c ∧ add64c (rd a i) (rd b i) c ≤ 1) ∧ val B64 (O ++ [add64s (rd a i) (rd b i) c]) + B64 ^ (i + 1) * (add64c (rd a i) (rd b i) c).toNat = val B64 (a.take (i + 1)) + val B64 (b.take (i + 1)) := by
 obtain ⟨h1, h2, h3⟩ := add64_val (da.rd B64_pos i) (db.rd B64_pos i) hc
 refine ⟨dO.snoc h1, h2, ?_⟩
 rw [val_snoc, val_take_succ, val_take_succ, hl, Nat.pow_succ, Nat.mul_assoc]
 have h4 : B64 ^ i * (add64s (rd a i) (rd b i) c).toNat + B64 ^ i * (B64 * (add64c (rd a i) (rd b i) c).toNat) = B64 ^ i * (rd a i).toNat + B64 ^ i * (rd b i).toNat + B64 ^ i * c.toNat := by
  rw [← Nat.mul_add, h3, Nat.mul_add, Nat.mul_add]
 omega
theorem ct_impl_nat_add_rows (a b : List Int) (A A' : Option Addr) (c c' : Nat) (da : Dig B64 a) (db : Dig B64 b) (hla : a.length ≤ 1000000) (hlb : b.length ≤ 1000000) : ∀ r, Dig B64 r → Norm r → val B64 r = val B64 a + val B64 b → CtR Try.prog 99 [.slice A a.length c, .slice A' b.length c'] [Row .u64 A c a, Row .u64 A' c' b] .u64 r := by
 intro r dr nr vr
 refine ct_of Try.func99 rfl (by kernel_rfl) (fun B w0 => ?_)
 refine xr [] [] ?_
 refine SW_cut (fun s' => ∃ p q C C' k k', (Dig B64 p ∧ Dig B64 q) ∧ (p.length ≤ 1000000 ∧ q.length ≤ p.length) ∧ val B64 r = val B64 p + val B64 q ∧ Weak s' ⟨[(0, .slice C p.length k), (1, .slice C' q.length k')], [], [Row .u64 C k p, Row .u64 C' k' q]⟩) ?_ ?_
 ·by_cases h : a.length < b.length
  ·have z0 : decide ((a.length : Int) < (b.length : Int)) = true := decide_eq_true (by omega)
   refine xr [] [(13, .bool (decide ((((List.length a) : Nat) : Int) < (((List.length b) : Nat) : Int))))] ?_
   refine xst z0 ?_
   refine xrl [] [(1, .slice A (List.length a) c), (0, .slice A' (List.length b) c')] ?_
   refine ⟨b, a, A', A, c', c, ⟨db, da⟩, ⟨hlb, by omega⟩, by omega, ?_⟩
   exact xw (zsS (ziS zi0) (zsS zi0 zs0))
  ·have z0 : decide ((a.length : Int) < (b.length : Int)) = false := decide_eq_false (by omega)
   refine xr [] [(13, .bool (decide ((((List.length a) : Nat) : Int) < (((List.length b) : Nat) : Int))))] ?_
   refine xsf z0 ?_
   refine SW_skip ?_
   refine ⟨a, b, A, A', c, c', ⟨da, db⟩, ⟨hla, by omega⟩, by omega, ?_⟩
   exact xw (zsS zi0 (zsS (ziS zi0) zs0))
 ·rintro s' ⟨p, q, C, C', k, k', ⟨dp, dq⟩, ⟨hlp, hlq⟩, hv, hw⟩
  refine SW_weak hw ?_
  clear hw
  refine xg ?_
  refine xn 3 [] [(18, .int .i64 (IntKind.wrap IntKind.i64 ((((List.length p) : Nat) : Int) + 1)))] ?_
  refine xma 19 36 ((List.length p) + 1) IntKind.u64 8 (IntKind.wrap IntKind.i64 ((((List.length p) : Nat) : Int) + 1)) (Nn.w (Nn.add ⟨rfl⟩ ⟨rfl⟩) (by omega)) (by omega) (fun g0 => ?_)
  refine xz [] [(5, .slice (some ⟨g0, 0, none⟩) (List.length p + 1) (List.length p + 1))] ?_
  refine xr [] [(6, .int .u64 0)] ?_
  refine SW_seq ?_
  refine xr [] [(22, .int .i64 0), (21, .int .i64 (((List.length p) : Nat) : Int))] ?_
  refine SW_block ?_
  refine SW_loopn (fun n s => ∃ i O cy, n + i = p.length ∧ O.length = i ∧ Dig B64 O ∧ (0 ≤ cy ∧ cy ≤ 1) ∧ val B64 O + B64 ^ i * cy.toNat = val B64 (p.take i) + val B64 (q.take i) ∧ Weak s ⟨[(0, .slice C p.length k), (1, .slice C' q.length k'), (5, .slice (some ⟨g0, 0, none⟩) (p.length + 1) (p.length + 1)), (6, .int .u64 cy), (21, .int .i64 p.length), (22, .int .i64 (i : Int))], [⟨g0, cl .u64 (O ++ List.replicate (n + 1) 0) [], 36⟩], [Row .u64 C k p, Row .u64 C' k' q]⟩) p.length ⟨0, [], 0, rfl, rfl, Dig.nil _, by decide, by simp [val_nil], ?_⟩ (fun n s ⟨i, O, cy, h1, h2, h3, h4, h5, hw⟩ => ?_)
  ·exact xw (zsS zi0 (zsS (ziS zi0) zs0))
  ·refine SW_weak hw ?_
   clear hw
   by_cases hi : i < p.length
   ·have z0 : decide ((i : Int) < (p.length : Int)) = true := decide_eq_true (by omega)
    refine SW_know zi0 (fun w h => row_at h (by omega)) (fun ⟨ad, e⟩ => ?_)
    subst e
    obtain ⟨n, rfl⟩ : ∃ n', n = n' + 1 := ⟨n - 1, by omega⟩
    obtain ⟨s1, s2, s3⟩ := add_step dp dq h3 h2 h4 h5
    refine xr [] [(23, .bool (decide ((i : Int) < (((List.length p) : Nat) : Int))))] ?_
    refine SW_seq ?_
    refine xst z0 ?_
    refine SW_skip ?_
    refine SW_seq ?_
    refine SW_block ?_
    refine xr [] [(7, .int .i64 (i : Int))] ?_
    refine xr [] [(8, .int .u64 0)] ?_
    refine SW_cut (fun s' => Weak s' ⟨[(0, .slice (some ad) p.length k), (1, .slice C' q.length k'), (5, .slice (some ⟨g0, 0, none⟩) (p.length + 1) (p.length + 1)), (6, .int .u64 cy), (7, .int .i64 (i : Int)), (8, .int .u64 (rd q i)), (21, .int .i64 p.length), (22, .int .i64 (i : Int))], [⟨g0, cl .u64 (O ++ List.replicate (n + 1 + 1) 0) [], 36⟩], [Row .u64 (some ad) k p, Row .u64 C' k' q]⟩) ?_ ?_
    ·by_cases hq : i < q.length
     ·have z1 : decide ((i : Int) < (q.length : Int)) = true := decide_eq_true (by omega)
      refine SW_know (ziS zi0) (fun w h => row_at h (by omega)) (fun ⟨ad', e⟩ => ?_)
      subst e
      refine xr [] [(28, .bool (decide ((i : Int) < (((List.length q) : Nat) : Int))))] ?_
      refine xst z1 ?_
      refine SW_region ?_
      refine xn 2 [] [(30, .int .i64 (i : Int)), (29, .slice (some ad') (List.length q) k')] ?_
      refine xfi 31 36 (ad') (List.length q) (k') (i) IntKind.i64 ((i : Int)) ⟨rfl⟩ (by omega) ?_
      refine xfl 32 (ziS zi0) (i) (by omega) ?_
      refine xz [] [(8, .int .u64 (rd q (i : Int)))] ?_
      exact xw (zsS zi0 (zsS (ziS zi0) zs0))
     ·have z1 : decide ((i : Int) < (q.length : Int)) = false := decide_eq_false (by omega)
      refine xr [] [(28, .bool (decide ((i : Int) < (((List.length q) : Nat) : Int))))] ?_
      refine xsf z1 ?_
      refine SW_skip ?_
      rw [rd_of_ge q i (by simpa using hq)]
      exact xw (zsS zi0 (zsS (ziS zi0) zs0))
    ·rintro s' hw
     refine SW_weak hw ?_
     clear hw
     refine SW_region ?_
     refine xn 4 [] [(37, .int .i64 (i : Int)), (36, .slice (some ad) (List.length p) k), (35, .int .i64 (i : Int)), (34, .slice (some ⟨g0, 0, none⟩) (List.length p + 1) (List.length p + 1))] ?_
     refine xfi 38 36 (ad) (List.length p) (k) (i) IntKind.i64 ((i : Int)) ⟨rfl⟩ (by omega) ?_
     refine xfl 39 zi0 (i) (by omega) ?_
     refine xn 8 [] [(41, .int .u64 cy), (40, .int .u64 (rd q (i : Int)))] ?_
     refine xad 42 (rd p (i : Int)) (rd q (i : Int)) (cy) (by omega) ?_
     refine xn 12 [] [(44, .int .u64 (add64c (rd p (i : Int)) (rd q (i : Int)) cy)), (43, .int .u64 (add64s (rd p (i : Int)) (rd q (i : Int)) cy))] ?_
     refine xoi 45 36 (g0) (List.length p + 1) (List.length p + 1) (i) IntKind.i64 ((i : Int)) ⟨rfl⟩ (by omega) ?_
     refine xos 0 (g0) (i) IntKind.u64 (O ++ List.replicate (n + 1 + 1) 0) ([]) 36 (add64s (rd p (i : Int)) (rd q (i : Int)) cy) (by first | omega | (simp <;> omega)) ?_
     refine xz [] [(6, .int .u64 (add64c (rd p (i : Int)) (rd q (i : Int)) cy))] ?_
     refine xrl [] [(22, .int .i64 (IntKind.wrap IntKind.i64 ((i : Int) + 1)))] ?_
     have wi : IntKind.i64.wrap ((i : Int) + 1) = ((i + 1 : Nat) : Int) := by rw [wrap_i64 (by omega)]; omega
     have es : ∀ v, (O ++ List.replicate (n + 1 + 1) 0).set i v = (O ++ [v]) ++ List.replicate (n + 1) 0 := fun v => by rw [← h2]; exact set_rep O (n + 1) v
     rw [wi, es]
     refine ⟨n, by omega, i + 1, O ++ [add64s (rd p i) (rd q i) cy], _, by omega, by simp; omega, s1, s2, s3, ?_⟩
     exact xw (zsS zi0 (zsS (ziS zi0) zs0))
   ·have z0 : decide ((i : Int) < (p.length : Int)) = false := decide_eq_false (by omega)
    obtain rfl : n = 0 := by omega
    have er : trimL (O ++ [cy]) = r := by
     refine norm_inj B64_pos (h3.snoc (by unfold B64; omega)).trim dr (norm_trim _) nr ?_
     rw [val_trim, val_snoc, h2, h5, val_take_all _ _ _ (by omega), val_take_all _ _ _ (by omega), hv]
    have ct := ct_impl_trimmed (O ++ [cy]) (some ⟨g0, 0, none⟩) (O ++ [cy]).length (by simp; omega)
    rw [er] at ct
    refine xr [] [(23, .bool (decide ((i : Int) < (((List.length p) : Nat) : Int))))] ?_
    refine SW_seq ?_
    refine xsf z0 ?_
    refine SW_exit ?_
    refine xg ?_
    refine xn 4 [] [(50, .int .u64 cy), (49, .int .i64 (((List.length p) : Nat) : Int)), (47, .slice (some ⟨g0, 0, none⟩) (List.length p + 1) (List.length p + 1))] ?_
    refine xoi 51 36 (g0) (List.length p + 1) (List.length p + 1) (List.length p) IntKind.i64 ((((List.length p) : Nat) : Int)) ⟨rfl⟩ (by omega) ?_
    refine xos 0 (g0) (List.length p) IntKind.u64 (O ++ List.replicate (0 + 1) 0) ([]) 36 (cy) (by first | omega | (simp <;> omega)) ?_
    refine xz [] [] ?_
    refine xg ?_
    refine xn 1 [] [(52, .slice (some ⟨g0, 0, none⟩) (List.length p + 1) (List.length p + 1))] ?_
    have es : (O ++ List.replicate (0 + 1) 0).set p.length cy = O ++ [cy] := by
     rw [show p.length = O.length by omega]
     exact (set_rep O 0 cy).trans (by simp)
    have el : p.length + 1 = (O ++ [cy]).length := by simp; omega
    rw [es]
    refine NW_fz 0 (p.length + 1) g0 .u64 (O ++ [cy]) [] 36 (by simp; omega) (by simp; omega) ?_
    rw [el]
    refine xcr 53 ct (zsS zi0 zs0) (fun A0 k0 => ?_)
    refine xz [] [(4, .slice A0 (List.length r) k0)] ?_
    refine SW_ret ?_
    refine xe (A0, k0) (.slice A0 (List.length r) k0) [] ?_ (zsS zi0 zs0)
    rfl
end Go.Proofs.Ytlggnljibebfeaa.M
end
section
namespace Go.Proofs.Ytlggnljibebfeaa.M
open Go.RowKit Go.Proofs.Ytlggnljibebfeaa.G Go.Proofs.YtlggnljibebfeaaV.PrintWords Go.Proofs.YtlggnljibebfeaaV.PrintLast Go.Proofs.Ytlggnljibebfeaa.X
set_option linter.unusedVariables false
set_option linter.unusedSimpArgs false
theorem ct_impl_word_rows (a : Int) (n : Nat) (ha : Nn a n) (hn : n < B64) : ∀ r, Dig B64 r → Norm r → val B64 r = n → CtR Try.prog 100 [.int .u64 a] [] .u64 r := by
 intro r dr nr vr
 obtain ⟨rfl⟩ := ha
 have er : trimL [(n : Int)] = r := norm_inj B64_pos (Dig.cons (cast_dig hn) (Dig.nil _)).trim dr (norm_trim _) nr (by rw [val_trim, val_one, vr]; rfl)
 refine ct_of Try.func100 rfl (by kernel_rfl) (fun B w0 => ?_)
 refine xr [] [(2, .slice none 0 0)] ?_
 refine xg ?_
 refine xn 1 [] [(3, .int .u64 (n : Int))] ?_
 refine xbl 4 [.int .u64 (n : Int)] 36 1 (fun g0 => ?_)
 have ct := ct_impl_trimmed [(n : Int)] (some ⟨g0, 0, none⟩) 1 (by simp)
 rw [er] at ct
 refine NW_fz 0 1 g0 .u64 [(n : Int)] [] 36 (by simp) (by simp) ?_
 refine xcr 5 ct (zsS zi0 zs0) (fun A0 k0 => ?_)
 refine xz [] [(2, .slice A0 (List.length r) k0)] ?_
 refine SW_ret ?_
 refine xe (A0, k0) (.slice A0 (List.length r) k0) [] ?_ (zsS zi0 zs0)
 rfl
def len8tab : ByteArray := (⟨#[0, 1, 2, 2, 3, 3, 3, 3, 4, 4, 4, 4, 4, 4, 4, 4, 5, 5, 5, 5, 5, 5, 5, 5, 5, 5, 5, 5, 5, 5, 5, 5, 6, 6, 6, 6, 6, 6, 6, 6, 6, 6, 6, 6, 6, 6, 6, 6, 6, 6, 6, 6, 6, 6, 6, 6, 6, 6, 6, 6, 6, 6, 6, 6, 7, 7, 7, 7, 7, 7, 7, 7, 7, 7, 7, 7, 7, 7, 7, 7, 7, 7, 7, 7, 7, 7, 7, 7, 7, 7, 7, 7, 7, 7, 7, 7, 7, 7, 7, 7, 7, 7, 7, 7, 7, 7, 7, 7, 7, 7, 7, 7, 7, 7, 7, 7, 7, 7, 7, 7, 7, 7, 7, 7, 7, 7, 7, 7, 8, 8, 8, 8, 8, 8, 8, 8, 8, 8, 8, 8, 8, 8, 8, 8, 8, 8, 8, 8, 8, 8, 8, 8, 8, 8, 8, 8, 8, 8, 8, 8, 8, 8, 8, 8, 8, 8, 8, 8, 8, 8, 8, 8, 8, 8, 8, 8, 8, 8, 8, 8, 8, 8, 8, 8, 8, 8, 8, 8, 8, 8, 8, 8, 8, 8, 8, 8, 8, 8, 8, 8, 8, 8, 8, 8, 8, 8, 8, 8, 8, 8, 8, 8, 8, 8, 8, 8, 8, 8, 8, 8, 8, 8, 8, 8, 8, 8, 8, 8, 8, 8, 8, 8, 8, 8, 8, 8, 8, 8, 8, 8, 8, 8, 8, 8, 8, 8, 8, 8, 8, 8, 8, 8, 8, 8, 8, 8]⟩ : ByteArray)
theorem len8 : ∀ i : Nat, i < 256 → IsBits i (bt len8tab i).toNat ∧ 0 ≤ bt len8tab i := fun i hi => lenT i hi
theorem run_sidx {P : Program} {t : TypeId} {ρ : Operand → Value} {o : Oper} {x ix : Operand} {s : ByteArray} {k : IntKind} {i : Nat} (ho : o.op = .index t x ix) (hx : ρ x = .string s) (hi : ρ ix = .int k (i : Int)) (ht : ∀ w, (underlying t).run P w = .ok .string w) (h1 : i < s.size) (w : World) : (execOp ρ o).run P w = .ok (.value (.int .u8 (bt s i))) w := by
 have e : bt s (i : Int) = ((s[i]'h1).toNat : Int) := by
  have := bt_at s (i : Int) (by simpa using h1)
  simp only [Int.toNat_natCast] at this
  exact this.symm
 unfold execOp
 simp only [ho, hx, hi]
 simp [Instr.index, Sem.run_bind, Result.andThen, asIntOf, ht, h1, e]
section
variable {X : Cx} {env : List (Nat × Value)} {bs : List Box} {fs : List Fact} {K : Exit → St → Prop} {ops : Array Oper} {j : Nat}
theorem xsi (d : Nat) (s : ByteArray) (k : IntKind) (y : Nat) (v : Int) (hv : bt s (y : Int) = v) (h1 : y < s.size) {o : Oper} {t : TypeId} {x ix : Operand} (h : NW X ops (Nat.succ j) ⟨(d, .int .u8 v) :: env, bs, fs⟩ K)
  (ho : ops[j]? = some o := by rfl) (hop : o.op = .index t x ix := by rfl) (hg : guardD ops env o = some true := by kernel_rfl) (hf : fitO X.n env o = true := by kernel_rfl) (hd : o.dst = some d := by rfl)
  (hx : evD env x = .string s := by kernel_rfl) (hi : evD env ix = .int k (y : Int) := by kernel_rfl) (ht : ∀ w, (underlying t).run X.P w = .ok .string w := by intro w; kernel_rfl) : NW X ops j ⟨env, bs, fs⟩ K := by
 subst hv
 exact nv _ d _ ho hg hf hd (fun w _ _ => run_sidx hop hx hi ht h1 w) rfl h
end
theorem bits_down {x m s : Nat} (h : IsBits x m) (hx : x < 18446744073709551616) (hs : 2 ^ s ≤ x) : ∃ m', IsBits (x / 2 ^ s) m' ∧ m = s + m' := by
 obtain ⟨m', h1, _⟩ := bits_of (x / 2 ^ s) (Nat.lt_of_le_of_lt (Nat.div_le_self _ _) hx)
 exact ⟨m', h1, h.uniq (h1.up (Nat.div_pos hs (Nat.pow_pos (by decide))))⟩
theorem ct_bits_Len64 (x : Nat) (hx : x < 18446744073709551616) (m : Nat) (hm : IsBits x m) : CtV Try.prog 128 [.int .u64 (x : Int)] [] (.int .i64 (m : Int)) := by
 refine ct_of Try.func128 rfl (by kernel_rfl) (fun B w0 => ?_)
 refine xr [] [(2, .int .i64 0)] ?_
 have hm64 : m ≤ 64 := hm.le (w := 64) hx
 have stage : ∀ (S : Nat) (y s m' : Nat), y < 18446744073709551616 → IsBits y m' → m = s + m' → 2 ^ S ≤ y → ∃ m2, IsBits (y / 2 ^ S) m2 ∧ m = s + S + m2 := fun S y s m' hy h1 h2 h3 => by
  obtain ⟨m2, h4, h5⟩ := bits_down h1 hy h3
  exact ⟨m2, h4, by omega⟩
 refine SW_cut (fun s' => ∃ y s m', y < 4294967296 ∧ IsBits y m' ∧ m = s + m' ∧ Weak s' ⟨[(0, .int .u64 (y : Int)), (2, .int .i64 (s : Int))], [], []⟩) ?_ ?_
 ·by_cases h : 4294967296 ≤ x
  ·have z : decide ((x : Int) ≥ 4294967296) = true := decide_eq_true (by omega)
   have v : Ve (shf .u64 (x : Int) 32) ((x / 2 ^ 32 : Nat) : Int) := ⟨shf_nat x 32 (by decide)⟩
   obtain ⟨m2, h4, h5⟩ := stage 32 x 0 m hx hm (by omega) h
   refine xr [] [(4, .bool (decide ((x : Int) ≥ 4294967296)))] ?_
   refine xst z ?_
   refine xg ?_
   refine xn 1 [] [(5, .int .u64 (x : Int))] ?_
   refine xve 6 IntKind.u64 (shf IntKind.u64 (x : Int) 32) ((((x / 2 ^ 32) : Nat) : Int)) v ?_
   refine xz [] [(0, .int .u64 (((x / 2 ^ 32) : Nat) : Int))] ?_
   refine xrl [] [(2, .int .i64 32)] ?_
   refine ⟨x / 2 ^ 32, 32, m2, by omega, h4, by omega, ?_⟩
   exact xw zs0
  ·have z : decide ((x : Int) ≥ 4294967296) = false := decide_eq_false (by omega)
   refine xr [] [(4, .bool (decide ((x : Int) ≥ 4294967296)))] ?_
   refine xsf z ?_
   refine SW_skip ?_
   refine ⟨x, 0, m, by omega, hm, by omega, ?_⟩
   exact xw zs0
 ·rintro s' ⟨y, s, m', hy, h1, h2, hw⟩
  refine SW_weak hw ?_
  clear hw
  refine SW_cut (fun s' => ∃ y s m', y < 65536 ∧ IsBits y m' ∧ m = s + m' ∧ Weak s' ⟨[(0, .int .u64 (y : Int)), (2, .int .i64 (s : Int))], [], []⟩) ?_ ?_
  ·by_cases h : 65536 ≤ y
   ·have z : decide ((y : Int) ≥ 65536) = true := decide_eq_true (by omega)
    have v : Ve (shf .u64 (y : Int) 16) ((y / 2 ^ 16 : Nat) : Int) := ⟨shf_nat y 16 (by decide)⟩
    have v2 : Ve (IntKind.i64.wrap ((s : Int) + 16)) ((s + 16 : Nat) : Int) := ⟨(Nn.w (Nn.add ⟨rfl⟩ ⟨rfl⟩ : Nn ((s : Int) + 16) (s + 16)) (by omega)).out⟩
    obtain ⟨m2, h4, h5⟩ := stage 16 y s m' (by omega) h1 h2 h
    refine xr [] [(8, .bool (decide ((y : Int) ≥ 65536)))] ?_
    refine xst z ?_
    refine xg ?_
    refine xn 1 [] [(9, .int .u64 (y : Int))] ?_
    refine xve 10 IntKind.u64 (shf IntKind.u64 (y : Int) 16) ((((y / 2 ^ 16) : Nat) : Int)) v ?_
    refine xz [] [(0, .int .u64 (((y / 2 ^ 16) : Nat) : Int))] ?_
    refine SW_region ?_
    refine xn 1 [] [(11, .int .i64 (s : Int))] ?_
    refine xve 12 IntKind.i64 (IntKind.wrap IntKind.i64 ((s : Int) + 16)) ((((s + 16) : Nat) : Int)) v2 ?_
    refine xz [] [(2, .int .i64 (((s + 16) : Nat) : Int))] ?_
    refine ⟨y / 2 ^ 16, s + 16, m2, by omega, h4, by omega, ?_⟩
    exact xw zs0
   ·have z : decide ((y : Int) ≥ 65536) = false := decide_eq_false (by omega)
    refine xr [] [(8, .bool (decide ((y : Int) ≥ 65536)))] ?_
    refine xsf z ?_
    refine SW_skip ?_
    refine ⟨y, s, m', by omega, h1, h2, ?_⟩
    exact xw zs0
  ·rintro s' ⟨y, s, m', hy, h1, h2, hw⟩
   refine SW_weak hw ?_
   clear hw
   refine SW_cut (fun s' => ∃ y s m', y < 256 ∧ IsBits y m' ∧ m = s + m' ∧ Weak s' ⟨[(0, .int .u64 (y : Int)), (2, .int .i64 (s : Int))], [], []⟩) ?_ ?_
   ·by_cases h : 256 ≤ y
    ·have z : decide ((y : Int) ≥ 256) = true := decide_eq_true (by omega)
     have v : Ve (shf .u64 (y : Int) 8) ((y / 2 ^ 8 : Nat) : Int) := ⟨shf_nat y 8 (by decide)⟩
     have v2 : Ve (IntKind.i64.wrap ((s : Int) + 8)) ((s + 8 : Nat) : Int) := ⟨(Nn.w (Nn.add ⟨rfl⟩ ⟨rfl⟩ : Nn ((s : Int) + 8) (s + 8)) (by omega)).out⟩
     obtain ⟨m2, h4, h5⟩ := stage 8 y s m' (by omega) h1 h2 h
     refine xr [] [(14, .bool (decide ((y : Int) ≥ 256)))] ?_
     refine xst z ?_
     refine xg ?_
     refine xn 1 [] [(15, .int .u64 (y : Int))] ?_
     refine xve 16 IntKind.u64 (shf IntKind.u64 (y : Int) 8) ((((y / 2 ^ 8) : Nat) : Int)) v ?_
     refine xz [] [(0, .int .u64 (((y / 2 ^ 8) : Nat) : Int))] ?_
     refine SW_region ?_
     refine xn 1 [] [(17, .int .i64 (s : Int))] ?_
     refine xve 18 IntKind.i64 (IntKind.wrap IntKind.i64 ((s : Int) + 8)) ((((s + 8) : Nat) : Int)) v2 ?_
     refine xz [] [(2, .int .i64 (((s + 8) : Nat) : Int))] ?_
     refine ⟨y / 2 ^ 8, s + 8, m2, by omega, h4, by omega, ?_⟩
     exact xw zs0
    ·have z : decide ((y : Int) ≥ 256) = false := decide_eq_false (by omega)
     refine xr [] [(14, .bool (decide ((y : Int) ≥ 256)))] ?_
     refine xsf z ?_
     refine SW_skip ?_
     refine ⟨y, s, m', by omega, h1, h2, ?_⟩
     exact xw zs0
   ·rintro s' ⟨y, s, m', hy, h1, h2, hw⟩
    refine SW_weak hw ?_
    clear hw
    obtain ⟨k1, k2⟩ := len8 y hy
    have hu := k1.uniq h1
    have hv : bt len8tab y = (m' : Int) := by omega
    have hsz : len8tab.size = 256 := by kernel_rfl
    have v3 : Ve (IntKind.u8.wrap (y : Int)) (y : Int) := ⟨by simp [IntKind.wrap, IntKind.bits, IntKind.signed]; omega⟩
    have v4 : Ve (IntKind.i64.wrap (m' : Int)) (m' : Int) := ⟨wrap_i64 (by omega)⟩
    have v5 : Ve (IntKind.i64.wrap ((s : Int) + (m' : Int))) (m : Int) := ⟨by rw [wrap_i64 (by omega)]; omega⟩
    refine xg ?_
    refine xn 2 [] [(20, .int .u64 (y : Int)), (19, .int .i64 (s : Int))] ?_
    refine xve 21 IntKind.u8 (IntKind.wrap IntKind.u8 (y : Int)) ((y : Int)) v3 ?_
    refine xsi 22 len8tab .u8 y (m' : Int) hv (by omega) ?_
    refine xve 23 IntKind.i64 (IntKind.wrap IntKind.i64 ((m' : Nat) : Int)) (((m' : Nat) : Int)) v4 ?_
    refine xve 24 IntKind.i64 (IntKind.wrap IntKind.i64 ((s : Int) + ((m' : Nat) : Int))) ((m : Int)) v5 ?_
    refine xz [] [(2, .int .i64 (m : Int))] ?_
    refine SW_ret ?_
    refine xe () (.int .i64 (m : Int)) [] ?_ trivial
    rfl
theorem ct_bits_LeadingZeros64 (x : Nat) (hx : x < 18446744073709551616) (m : Nat) (hm : IsBits x m) : CtV Try.prog 127 [.int .u64 (x : Int)] [] (.int .i64 ((64 - m : Nat) : Int)) := by
 have hm64 : m ≤ 64 := hm.le (w := 64) hx
 refine ct_of Try.func127 rfl (by kernel_rfl) (fun B w0 => ?_)
 have v : Ve (IntKind.i64.wrap (64 - (m : Int))) ((64 - m : Nat) : Int) := ⟨(Nn.w (Nn.sub ⟨rfl⟩ ⟨rfl⟩ hm64 : Nn (64 - (m : Int)) (64 - m)) (by omega)).out⟩
 refine xr [] [(2, .int .i64 0)] ?_
 refine xg ?_
 refine xn 1 [] [(3, .int .u64 (x : Int))] ?_
 refine xcv 4 (ct_bits_Len64 (x) hx (m) hm) zs0 ?_
 refine xve 5 IntKind.i64 (IntKind.wrap IntKind.i64 (64 - (m : Int))) ((((64 - m) : Nat) : Int)) v ?_
 refine xz [] [(2, .int .i64 (((64 - m) : Nat) : Int))] ?_
 refine SW_ret ?_
 refine xe () (.int .i64 (((64 - m) : Nat) : Int)) [] ?_ trivial
 rfl
end Go.Proofs.Ytlggnljibebfeaa.M
end
section
namespace Go.Proofs.Ytlggnljibebfeaa.M
open Go.RowKit Go.Proofs.Ytlggnljibebfeaa.G Go.Proofs.YtlggnljibebfeaaV.PrintWords Go.Proofs.YtlggnljibebfeaaV.PrintLast Go.Proofs.Ytlggnljibebfeaa.X
set_option linter.unusedVariables false
set_option linter.unusedSimpArgs false
theorem veU {z : Int} {n : Nat} (h : z = (n : Int)) (hn : n < 18446744073709551616) : Ve (IntKind.u64.wrap z) (n : Int) := ⟨by rw [h]; exact wrap_u64_id (by omega)⟩
theorem veI {z : Int} {n : Nat} (h : z = (n : Int)) (hn : n ≤ 9223372036854775807) : Ve (IntKind.i64.wrap z) (n : Int) := ⟨by rw [h]; exact wrap_i64 (by omega)⟩
theorem low_ve (x : Nat) (h : x < 18446744073709551616) : Ve (bits .and .u64 (x : Int) 4294967295) ((x % 4294967296 : Nat) : Int) := ⟨low32_nat x h⟩
theorem high_ve (x : Nat) : Ve (shf .u64 (x : Int) 32) ((x / 4294967296 : Nat) : Int) := ⟨shf_nat x 32 (by decide)⟩
theorem mul_halves (x y : Nat) : ∃ a b c d : Nat, x / 4294967296 * (y / 4294967296) = a ∧ x / 4294967296 * (y % 4294967296) = b ∧ x % 4294967296 * (y / 4294967296) = c ∧ x % 4294967296 * (y % 4294967296) = d ∧ x * y = a * 18446744073709551616 + (b + c) * 4294967296 + d := by
 refine ⟨_, _, _, _, rfl, rfl, rfl, rfl, ?_⟩
 have h1 := Nat.div_add_mod x 4294967296
 have h2 := Nat.div_add_mod y 4294967296
 generalize x / 4294967296 = x1 at *
 generalize x % 4294967296 = x0 at *
 generalize y / 4294967296 = y1 at *
 generalize y % 4294967296 = y0 at *
 subst h1
 subst h2
 simp only [Nat.add_mul, Nat.mul_add]
 have e1 : 4294967296 * x1 * (4294967296 * y1) = x1 * y1 * 18446744073709551616 := by
  rw [Nat.mul_mul_mul_comm, Nat.mul_comm]
 have e2 : 4294967296 * x1 * y0 = x1 * y0 * 4294967296 := by rw [Nat.mul_assoc, Nat.mul_comm]
 have e3 : x0 * (4294967296 * y1) = x0 * y1 * 4294967296 := by rw [Nat.mul_left_comm, Nat.mul_comm]
 rw [e1, e2, e3]
 omega
theorem ct_bits_Mul64 (x y : Nat) (hx : x < 18446744073709551616) (hy : y < 18446744073709551616) : CtV Try.prog 123 [.int .u64 (x : Int), .int .u64 (y : Int)] [] (.tuple #[.int .u64 ((x * y / 18446744073709551616 : Nat) : Int), .int .u64 ((x * y % 18446744073709551616 : Nat) : Int)]) := by
 refine ct_of Try.func123 rfl (by kernel_rfl) (fun B w0 => ?_)
 obtain ⟨a, b, c, d, ha, hb, hc, hd, hxy⟩ := mul_halves x y
 have bx1 : x / 4294967296 ≤ 4294967295 := by omega
 have by1 : y / 4294967296 ≤ 4294967295 := by omega
 have bx0 : x % 4294967296 ≤ 4294967295 := by omega
 have by0 : y % 4294967296 ≤ 4294967295 := by omega
 have ba : a ≤ 18446744065119617025 := ha ▸ Nat.mul_le_mul bx1 by1
 have bb : b ≤ 18446744065119617025 := hb ▸ Nat.mul_le_mul bx1 by0
 have bc : c ≤ 18446744065119617025 := hc ▸ Nat.mul_le_mul bx0 by1
 have bd : d ≤ 18446744065119617025 := hd ▸ Nat.mul_le_mul bx0 by0
 have v1 := low_ve x hx
 have v2 := high_ve x
 have v3 := low_ve y hy
 have v4 := high_ve y
 have v5 : Ve (IntKind.u64.wrap (((x % 4294967296 : Nat) : Int) * ((y % 4294967296 : Nat) : Int))) (d : Int) := veU (by rw [← Int.natCast_mul, hd]) (by omega)
 have v6 : Ve (IntKind.u64.wrap (((x / 4294967296 : Nat) : Int) * ((y % 4294967296 : Nat) : Int))) (b : Int) := veU (by rw [← Int.natCast_mul, hb]) (by omega)
 have v7 := high_ve d
 have v8 : Ve (IntKind.u64.wrap ((b : Int) + ((d / 4294967296 : Nat) : Int))) ((b + d / 4294967296 : Nat) : Int) := veU (by omega) (by omega)
 have v9 := low_ve (b + d / 4294967296) (by omega)
 have v10 := high_ve (b + d / 4294967296)
 have v11 : Ve (IntKind.u64.wrap (((x % 4294967296 : Nat) : Int) * ((y / 4294967296 : Nat) : Int))) (c : Int) := veU (by rw [← Int.natCast_mul, hc]) (by omega)
 have v12 : Ve (IntKind.u64.wrap ((((b + d / 4294967296) % 4294967296 : Nat) : Int) + (c : Int))) (((b + d / 4294967296) % 4294967296 + c : Nat) : Int) := veU (by omega) (by omega)
 have v13 := high_ve ((b + d / 4294967296) % 4294967296 + c)
 have v14 : Ve (IntKind.u64.wrap (((x / 4294967296 : Nat) : Int) * ((y / 4294967296 : Nat) : Int))) (a : Int) := veU (by rw [← Int.natCast_mul, ha]) (by omega)
 have hP : x * y < 18446744073709551616 * 18446744073709551616 := Nat.mul_lt_mul'' hx hy
 have v15 : Ve (IntKind.u64.wrap ((a : Int) + (((b + d / 4294967296) / 4294967296 : Nat) : Int))) ((a + (b + d / 4294967296) / 4294967296 : Nat) : Int) := veU (by omega) (by omega)
 have v16 : Ve (IntKind.u64.wrap (((a + (b + d / 4294967296) / 4294967296 : Nat) : Int) + ((((b + d / 4294967296) % 4294967296 + c) / 4294967296 : Nat) : Int))) ((x * y / 18446744073709551616 : Nat) : Int) := veU (by omega) (by omega)
 have v17 : Ve (IntKind.u64.wrap ((x : Int) * (y : Int))) ((x * y % 18446744073709551616 : Nat) : Int) := ⟨by
  rw [← Int.natCast_mul, wrap_u64]
  omega⟩
 refine xr [] [(5, .int .u64 0), (4, .int .u64 0)] ?_
 refine xg ?_
 refine xn 1 [] [(14, .int .u64 (x : Int))] ?_
 refine xve 15 IntKind.u64 (bits BinOp.and IntKind.u64 (x : Int) 4294967295) ((((x % 4294967296) : Nat) : Int)) v1 ?_
 refine xz [] [(6, .int .u64 (((x % 4294967296) : Nat) : Int))] ?_
 refine xg ?_
 refine xn 1 [] [(16, .int .u64 (x : Int))] ?_
 refine xve 17 IntKind.u64 (shf IntKind.u64 (x : Int) 32) ((((x / 4294967296) : Nat) : Int)) v2 ?_
 refine xz [] [(7, .int .u64 (((x / 4294967296) : Nat) : Int))] ?_
 refine xg ?_
 refine xn 1 [] [(18, .int .u64 (y : Int))] ?_
 refine xve 19 IntKind.u64 (bits BinOp.and IntKind.u64 (y : Int) 4294967295) ((((y % 4294967296) : Nat) : Int)) v3 ?_
 refine xz [] [(8, .int .u64 (((y % 4294967296) : Nat) : Int))] ?_
 refine xg ?_
 refine xn 1 [] [(20, .int .u64 (y : Int))] ?_
 refine xve 21 IntKind.u64 (shf IntKind.u64 (y : Int) 32) ((((y / 4294967296) : Nat) : Int)) v4 ?_
 refine xz [] [(9, .int .u64 (((y / 4294967296) : Nat) : Int))] ?_
 refine xg ?_
 refine xn 2 [] [(23, .int .u64 (((y % 4294967296) : Nat) : Int)), (22, .int .u64 (((x % 4294967296) : Nat) : Int))] ?_
 refine xve 24 IntKind.u64 (IntKind.wrap IntKind.u64 ((((x % 4294967296) : Nat) : Int) * (((y % 4294967296) : Nat) : Int))) ((d : Int)) v5 ?_
 refine xz [] [(10, .int .u64 (d : Int))] ?_
 refine xg ?_
 refine xn 2 [] [(26, .int .u64 (((y % 4294967296) : Nat) : Int)), (25, .int .u64 (((x / 4294967296) : Nat) : Int))] ?_
 refine xve 27 IntKind.u64 (IntKind.wrap IntKind.u64 ((((x / 4294967296) : Nat) : Int) * (((y % 4294967296) : Nat) : Int))) ((b : Int)) v6 ?_
 refine xn 4 [] [(28, .int .u64 (d : Int))] ?_
 refine xve 29 IntKind.u64 (shf IntKind.u64 (d : Int) 32) ((((d / 4294967296) : Nat) : Int)) v7 ?_
 refine xve 30 IntKind.u64 (IntKind.wrap IntKind.u64 ((b : Int) + (((d / 4294967296) : Nat) : Int))) ((((b + d / 4294967296) : Nat) : Int)) v8 ?_
 refine xz [] [(11, .int .u64 (((b + d / 4294967296) : Nat) : Int))] ?_
 refine xg ?_
 refine xn 1 [] [(31, .int .u64 (((b + d / 4294967296) : Nat) : Int))] ?_
 refine xve 32 IntKind.u64 (bits BinOp.and IntKind.u64 (((b + d / 4294967296) : Nat) : Int) 4294967295) (((((b + d / 4294967296) % 4294967296) : Nat) : Int)) v9 ?_
 refine xz [] [(12, .int .u64 ((((b + d / 4294967296) % 4294967296) : Nat) : Int))] ?_
 refine xg ?_
 refine xn 1 [] [(33, .int .u64 (((b + d / 4294967296) : Nat) : Int))] ?_
 refine xve 34 IntKind.u64 (shf IntKind.u64 (((b + d / 4294967296) : Nat) : Int) 32) (((((b + d / 4294967296) / 4294967296) : Nat) : Int)) v10 ?_
 refine xz [] [(13, .int .u64 ((((b + d / 4294967296) / 4294967296) : Nat) : Int))] ?_
 refine xg ?_
 refine xn 3 [] [(37, .int .u64 (((y / 4294967296) : Nat) : Int)), (36, .int .u64 (((x % 4294967296) : Nat) : Int)), (35, .int .u64 ((((b + d / 4294967296) % 4294967296) : Nat) : Int))] ?_
 refine xve 38 IntKind.u64 (IntKind.wrap IntKind.u64 ((((x % 4294967296) : Nat) : Int) * (((y / 4294967296) : Nat) : Int))) ((c : Int)) v11 ?_
 refine xve 39 IntKind.u64 (IntKind.wrap IntKind.u64 (((((b + d / 4294967296) % 4294967296) : Nat) : Int) + (c : Int))) (((((b + d / 4294967296) % 4294967296 + c) : Nat) : Int)) v12 ?_
 refine xz [] [(12, .int .u64 ((((b + d / 4294967296) % 4294967296 + c) : Nat) : Int))] ?_
 refine xg ?_
 refine xn 2 [] [(41, .int .u64 (((y / 4294967296) : Nat) : Int)), (40, .int .u64 (((x / 4294967296) : Nat) : Int))] ?_
 refine xve 42 IntKind.u64 (IntKind.wrap IntKind.u64 ((((x / 4294967296) : Nat) : Int) * (((y / 4294967296) : Nat) : Int))) ((a : Int)) v14 ?_
 refine xn 4 [] [(43, .int .u64 ((((b + d / 4294967296) / 4294967296) : Nat) : Int))] ?_
 refine xve 44 IntKind.u64 (IntKind.wrap IntKind.u64 ((a : Int) + ((((b + d / 4294967296) / 4294967296) : Nat) : Int))) ((((a + (b + d / 4294967296) / 4294967296) : Nat) : Int)) v15 ?_
 refine xn 6 [] [(45, .int .u64 ((((b + d / 4294967296) % 4294967296 + c) : Nat) : Int))] ?_
 refine xve 46 IntKind.u64 (shf IntKind.u64 ((((b + d / 4294967296) % 4294967296 + c) : Nat) : Int) 32) ((((((b + d / 4294967296) % 4294967296 + c) / 4294967296) : Nat) : Int)) v13 ?_
 refine xve 47 IntKind.u64 (IntKind.wrap IntKind.u64 ((((a + (b + d / 4294967296) / 4294967296) : Nat) : Int) + (((((b + d / 4294967296) % 4294967296 + c) / 4294967296) : Nat) : Int))) ((((x * y / 18446744073709551616) : Nat) : Int)) v16 ?_
 refine xz [] [(4, .int .u64 (((x * y / 18446744073709551616) : Nat) : Int))] ?_
 refine xg ?_
 refine xn 2 [] [(49, .int .u64 (y : Int)), (48, .int .u64 (x : Int))] ?_
 refine xve 50 IntKind.u64 (IntKind.wrap IntKind.u64 ((x : Int) * (y : Int))) ((((x * y % 18446744073709551616) : Nat) : Int)) v17 ?_
 refine xz [] [(5, .int .u64 (((x * y % 18446744073709551616) : Nat) : Int))] ?_
 refine SW_ret ?_
 refine xe () (.tuple #[.int .u64 (((x * y / 18446744073709551616) : Nat) : Int), .int .u64 (((x * y % 18446744073709551616) : Nat) : Int)]) [] ?_ trivial
 rfl
theorem ad_ve (a b : Nat) : Ve (add64s (a : Int) (b : Int) 0) (((a + b) % 18446744073709551616 : Nat) : Int) ∧ Ve (add64c (a : Int) (b : Int) 0) (((a + b) / 18446744073709551616 : Nat) : Int) := ⟨⟨by simp [add64s]⟩, ⟨by simp [add64c]⟩⟩
theorem nat_rd {l : List Int} (d : Dig B64 l) (i : Nat) : ∃ x : Nat, rd l (i : Int) = (x : Int) ∧ x < 18446744073709551616 := ⟨(rd l i).toNat, by have := (d.rd B64_pos i).1; omega, by have := d.rd B64_pos i; unfold B64 at this; omega⟩
theorem cl_split {k : IntKind} {r rest O : List Int} (h : r ++ rest = O) : cl k r (rest.map (fun n => .int k n)) = cl k O [] := by
 rw [← h]
 simp [cl]
theorem trim_app (l : List Int) : trimL l ++ l.drop (trimL l).length = l := by
 conv => lhs; lhs; rw [trimL_eq_take l]
 exact List.take_append_drop _ _
theorem ct_impl_nat_mul_own (a b : List Int) (A A' : Option Addr) (c c' : Nat) (da : Dig B64 a) (db : Dig B64 b) (hla : a.length ≤ 1000000) (hlb : b.length ≤ 1000000) : ∀ r, Dig B64 r → Norm r → val B64 r = val B64 a * val B64 b → CtO Try.prog 97 [.slice A a.length c, .slice A' b.length c'] [Row .u64 A c a, Row .u64 A' c' b] 36 .u64 r := by
 intro r dr nr vr
 refine cm_of Try.func97 rfl (by kernel_rfl) (fun B w0 => ?_)
 refine xr [] [(4, .slice none 0 0)] ?_
 refine xg ?_
 refine xn 5 [] [(18, .int .i64 (IntKind.wrap IntKind.i64 ((((List.length a) : Nat) : Int) + (((List.length b) : Nat) : Int))))] ?_
 refine xma 19 36 ((List.length a) + (List.length b)) IntKind.u64 8 (IntKind.wrap IntKind.i64 ((((List.length a) : Nat) : Int) + (((List.length b) : Nat) : Int))) (Nn.w (Nn.add ⟨rfl⟩ ⟨rfl⟩) (by omega)) (by omega) (fun g0 => ?_)
 refine xz [] [(5, .slice (some ⟨g0, 0, none⟩) (List.length a + List.length b) (List.length a + List.length b))] ?_
 refine SW_seq ?_
 refine xr [] [(22, .int .i64 0), (21, .int .i64 (((List.length a) : Nat) : Int)), (20, .slice A (List.length a) c)] ?_
 refine SW_block ?_
 refine SW_loopn (fun m s => ∃ (i : Nat) (O : List Int), m + i = a.length ∧ O.length = a.length + b.length ∧ Dig B64 O ∧ Clear O (i + b.length) ∧ val B64 O = val B64 (a.take i) * val B64 b ∧ Weak s ⟨[(0, .slice A a.length c), (1, .slice A' b.length c'), (5, .slice (some ⟨g0, 0, none⟩) (a.length + b.length) (a.length + b.length)), (20, .slice A a.length c), (21, .int .i64 a.length), (22, .int .i64 (i : Int))], [⟨g0, cl .u64 O [], 36⟩], [Row .u64 A c a, Row .u64 A' c' b]⟩) a.length ⟨0, List.replicate (a.length + b.length) 0, rfl, by simp, Dig.zeros B64_pos _, Clear.zeros _ _, by rw [val_zeros]; simp [val], ?_⟩ (fun m s ⟨i, O, h1, h2, h3, h4, h5, hw⟩ => ?_)
 ·exact xw (zsS zi0 (zsS (ziS zi0) zs0))
 ·refine SW_weak hw ?_
  clear hw
  by_cases hi : i < a.length
  ·have z1 : decide ((i : Int) < (a.length : Int)) = true := decide_eq_true (by omega)
   refine SW_know zi0 (fun w h => row_at h (by omega)) (fun ⟨ad, e⟩ => ?_)
   subst e
   obtain ⟨m, rfl⟩ : ∃ m', m = m' + 1 := ⟨m - 1, by omega⟩
   obtain ⟨x, hx, hxB⟩ := nat_rd da i
   have v1 : Ve (rd a (i : Int)) (x : Int) := ⟨hx⟩
   have vi : Ve (IntKind.i64.wrap ((i : Int) + 1)) ((i + 1 : Nat) : Int) := veI (by omega) (by omega)
   refine xr [] [(23, .bool (decide ((i : Int) < (((List.length a) : Nat) : Int))))] ?_
   refine SW_seq ?_
   refine xst z1 ?_
   refine SW_skip ?_
   refine SW_seq ?_
   refine SW_block ?_
   refine xg ?_
   refine xn 1 [] [(24, .int .i64 (i : Int))] ?_
   refine xfi 25 36 (ad) (List.length a) (c) (i) IntKind.i64 ((i : Int)) ⟨rfl⟩ (by omega) ?_
   refine xfle 26 zi0 (i) ((x : Int)) v1 (by omega) ?_
   refine xz [] [(7, .int .u64 (x : Int)), (6, .int .i64 (i : Int))] ?_
   refine xr [] [(8, .int .u64 0)] ?_
   refine SW_seq ?_
   refine xr [] [(29, .int .i64 0), (28, .int .i64 (((List.length b) : Nat) : Int)), (27, .slice A' (List.length b) c')] ?_
   refine SW_block ?_
   refine SW_loopn (fun k s => ∃ (j : Nat) (O : List Int) (cy : Nat), k + j = b.length ∧ O.length = a.length + b.length ∧ Dig B64 O ∧ Clear O (i + b.length) ∧ cy < 18446744073709551616 ∧ val B64 O + B64 ^ (i + j) * ((cy : Nat) : Int).toNat = val B64 (a.take i) * val B64 b + B64 ^ i * ((x : Int).toNat * val B64 (b.take j)) ∧ Weak s ⟨[(0, .slice (some ad) a.length c), (1, .slice A' b.length c'), (5, .slice (some ⟨g0, 0, none⟩) (a.length + b.length) (a.length + b.length)), (6, .int .i64 (i : Int)), (7, .int .u64 (x : Int)), (8, .int .u64 (cy : Int)), (20, .slice (some ad) a.length c), (21, .int .i64 a.length), (22, .int .i64 (i : Int)), (27, .slice A' b.length c'), (28, .int .i64 b.length), (29, .int .i64 (j : Int))], [⟨g0, cl .u64 O [], 36⟩], [Row .u64 (some ad) c a, Row .u64 A' c' b]⟩) b.length ⟨0, O, 0, rfl, h2, h3, h4, by decide, by simp [val, h5], ?_⟩ (fun k s ⟨j, O, cy, k1, k2, k3, k4, k5, k6, hw⟩ => ?_)
   ·exact xw (zsS zi0 (zsS (ziS zi0) zs0))
   ·refine SW_weak hw ?_
    clear hw
    by_cases hj : j < b.length
    ·have z2 : decide ((j : Int) < (b.length : Int)) = true := decide_eq_true (by omega)
     refine SW_know (ziS zi0) (fun w h => row_at h (by omega)) (fun ⟨ad', e⟩ => ?_)
     subst e
     obtain ⟨k, rfl⟩ : ∃ k', k = k' + 1 := ⟨k - 1, by omega⟩
     obtain ⟨y, hy, hyB⟩ := nat_rd db j
     obtain ⟨o, ho, hoB⟩ := nat_rd k3 (i + j)
     have v2 : Ve (rd b (j : Int)) (y : Int) := ⟨hy⟩
     have v3 : Ve (rd O ((i + j : Nat) : Int)) (o : Int) := ⟨ho⟩
     have vj : Ve (IntKind.i64.wrap ((j : Int) + 1)) ((j + 1 : Nat) : Int) := veI (by omega) (by omega)
     have hP : x * y < 18446744073709551616 * 18446744073709551616 := Nat.mul_lt_mul'' hxB hyB
     obtain ⟨v4, v5⟩ := ad_ve (x * y % 18446744073709551616) o
     obtain ⟨v6, v7⟩ := ad_ve ((x * y % 18446744073709551616 + o) % 18446744073709551616) cy
     have hcy : (x * y / 18446744073709551616) + (x * y % 18446744073709551616 + o) / 18446744073709551616 + ((x * y % 18446744073709551616 + o) % 18446744073709551616 + cy) / 18446744073709551616 < B64 :=
      mul_carry (B := B64) (x := ((x * y % 18446744073709551616 + o) % 18446744073709551616 + cy) % 18446744073709551616) (p := x) (q := y) (o := o) (c := cy) B64_pos hxB hyB hoB k5 (by unfold B64; omega)
     have hcy' : (x * y / 18446744073709551616) + (x * y % 18446744073709551616 + o) / 18446744073709551616 + ((x * y % 18446744073709551616 + o) % 18446744073709551616 + cy) / 18446744073709551616 < 18446744073709551616 := hcy
     have v8 : Ve (IntKind.u64.wrap (((x * y / 18446744073709551616 : Nat) : Int) + (((x * y % 18446744073709551616 + o) / 18446744073709551616 : Nat) : Int))) ((x * y / 18446744073709551616 + (x * y % 18446744073709551616 + o) / 18446744073709551616 : Nat) : Int) := veU (by omega) (by omega)
     have v9 : Ve (IntKind.u64.wrap (((x * y / 18446744073709551616 + (x * y % 18446744073709551616 + o) / 18446744073709551616 : Nat) : Int) + ((((x * y % 18446744073709551616 + o) % 18446744073709551616 + cy) / 18446744073709551616 : Nat) : Int))) ((x * y / 18446744073709551616 + (x * y % 18446744073709551616 + o) / 18446744073709551616 + ((x * y % 18446744073709551616 + o) % 18446744073709551616 + cy) / 18446744073709551616 : Nat) : Int) := veU (by omega) (by omega)
     have hst := mul_step (B := B64) (a := a) (b := b) (out := O) (i := i) (j := j) (ai := (x : Int)) (c := (cy : Int)) (x := ((((x * y % 18446744073709551616 + o) % 18446744073709551616 + cy) % 18446744073709551616 : Nat) : Int)) (c' := ((x * y / 18446744073709551616 + (x * y % 18446744073709551616 + o) / 18446744073709551616 + ((x * y % 18446744073709551616 + o) % 18446744073709551616 + cy) / 18446744073709551616 : Nat) : Int)) (by omega) k6 (by
      rw [hy, ho]
      simp only [Int.toNat_natCast]
      unfold B64
      omega)
     refine xr [] [(30, .bool (decide ((j : Int) < (((List.length b) : Nat) : Int))))] ?_
     refine SW_seq ?_
     refine xst z2 ?_
     refine SW_skip ?_
     refine SW_seq ?_
     refine SW_block ?_
     refine xg ?_
     refine xn 1 [] [(31, .int .i64 (j : Int))] ?_
     refine xfi 32 36 (ad') (List.length b) (c') (j) IntKind.i64 ((j : Int)) ⟨rfl⟩ (by omega) ?_
     refine xfle 33 (ziS zi0) (j) ((y : Int)) v2 (by omega) ?_
     refine xz [] [(10, .int .u64 (y : Int)), (9, .int .i64 (j : Int))] ?_
     refine xg ?_
     refine xn 2 [] [(36, .int .u64 (y : Int)), (35, .int .u64 (x : Int))] ?_
     refine xcv 37 (ct_bits_Mul64 (x) (y) hxB hyB) zs0 ?_
     refine xz [] [(12, .int .u64 (((x * y % 18446744073709551616) : Nat) : Int)), (11, .int .u64 (((x * y / 18446744073709551616) : Nat) : Int))] ?_
     refine xg ?_
     refine xn 5 [] [(45, .int .i64 (IntKind.wrap IntKind.i64 ((i : Int) + (j : Int)))), (42, .slice (some ⟨g0, 0, none⟩) (List.length a + List.length b) (List.length a + List.length b)), (41, .int .u64 (((x * y % 18446744073709551616) : Nat) : Int))] ?_
     refine xoi 46 36 (g0) (List.length a + List.length b) (List.length a + List.length b) ((i) + (j)) IntKind.i64 (IntKind.wrap IntKind.i64 ((i : Int) + (j : Int))) (Nn.w (Nn.add ⟨rfl⟩ ⟨rfl⟩) (by omega)) (by omega) ?_
     refine xole 47 0 (g0) (i + j) IntKind.u64 (O) ([]) 36 ((o : Int)) v3 (by first | omega | (simp <;> omega)) ?_
     refine xad 48 ((((x * y % 18446744073709551616) : Nat) : Int)) ((o : Int)) (0) (by omega) ?_
     refine xn 9 [] [(40, .tuple #[.int .u64 (add64s (((x * y % 18446744073709551616) : Nat) : Int) (o : Int) 0), .int .u64 (add64c (((x * y % 18446744073709551616) : Nat) : Int) (o : Int) 0)])] ?_
     refine xve 49 IntKind.u64 (add64s (((x * y % 18446744073709551616) : Nat) : Int) (o : Int) 0) (((((x * y % 18446744073709551616 + o) % 18446744073709551616) : Nat) : Int)) v4 ?_
     refine xve 50 IntKind.u64 (add64c (((x * y % 18446744073709551616) : Nat) : Int) (o : Int) 0) (((((x * y % 18446744073709551616 + o) / 18446744073709551616) : Nat) : Int)) v5 ?_
     refine xz [] [(13, .int .u64 ((((x * y % 18446744073709551616 + o) / 18446744073709551616) : Nat) : Int)), (12, .int .u64 ((((x * y % 18446744073709551616 + o) % 18446744073709551616) : Nat) : Int))] ?_
     refine xg ?_
     refine xn 2 [] [(52, .int .u64 ((((x * y % 18446744073709551616 + o) / 18446744073709551616) : Nat) : Int)), (51, .int .u64 (((x * y / 18446744073709551616) : Nat) : Int))] ?_
     refine xve 53 IntKind.u64 (IntKind.wrap IntKind.u64 ((((x * y / 18446744073709551616) : Nat) : Int) + ((((x * y % 18446744073709551616 + o) / 18446744073709551616) : Nat) : Int))) ((((x * y / 18446744073709551616 + (x * y % 18446744073709551616 + o) / 18446744073709551616) : Nat) : Int)) v8 ?_
     refine xz [] [(11, .int .u64 (((x * y / 18446744073709551616 + (x * y % 18446744073709551616 + o) / 18446744073709551616) : Nat) : Int))] ?_
     refine xg ?_
     refine xn 2 [] [(56, .int .u64 (cy : Int)), (55, .int .u64 ((((x * y % 18446744073709551616 + o) % 18446744073709551616) : Nat) : Int))] ?_
     refine xad 57 (((((x * y % 18446744073709551616 + o) % 18446744073709551616) : Nat) : Int)) ((cy : Int)) (0) (by omega) ?_
     refine xn 4 [] [(54, .tuple #[.int .u64 (add64s ((((x * y % 18446744073709551616 + o) % 18446744073709551616) : Nat) : Int) (cy : Int) 0), .int .u64 (add64c ((((x * y % 18446744073709551616 + o) % 18446744073709551616) : Nat) : Int) (cy : Int) 0)])] ?_
     refine xve 58 IntKind.u64 (add64s ((((x * y % 18446744073709551616 + o) % 18446744073709551616) : Nat) : Int) (cy : Int) 0) ((((((x * y % 18446744073709551616 + o) % 18446744073709551616 + cy) % 18446744073709551616) : Nat) : Int)) v6 ?_
     refine xve 59 IntKind.u64 (add64c ((((x * y % 18446744073709551616 + o) % 18446744073709551616) : Nat) : Int) (cy : Int) 0) ((((((x * y % 18446744073709551616 + o) % 18446744073709551616 + cy) / 18446744073709551616) : Nat) : Int)) v7 ?_
     refine xz [] [(13, .int .u64 (((((x * y % 18446744073709551616 + o) % 18446744073709551616 + cy) / 18446744073709551616) : Nat) : Int)), (12, .int .u64 (((((x * y % 18446744073709551616 + o) % 18446744073709551616 + cy) % 18446744073709551616) : Nat) : Int))] ?_
     refine SW_region ?_
     refine xn 7 [] [(66, .int .u64 (((((x * y % 18446744073709551616 + o) % 18446744073709551616 + cy) / 18446744073709551616) : Nat) : Int)), (65, .int .u64 (((x * y / 18446744073709551616 + (x * y % 18446744073709551616 + o) / 18446744073709551616) : Nat) : Int)), (64, .int .u64 (((((x * y % 18446744073709551616 + o) % 18446744073709551616 + cy) % 18446744073709551616) : Nat) : Int)), (63, .int .i64 (IntKind.wrap IntKind.i64 ((i : Int) + (j : Int)))), (60, .slice (some ⟨g0, 0, none⟩) (List.length a + List.length b) (List.length a + List.length b))] ?_
     refine xve 67 IntKind.u64 (IntKind.wrap IntKind.u64 ((((x * y / 18446744073709551616 + (x * y % 18446744073709551616 + o) / 18446744073709551616) : Nat) : Int) + (((((x * y % 18446744073709551616 + o) % 18446744073709551616 + cy) / 18446744073709551616) : Nat) : Int))) ((((x * y / 18446744073709551616 + (x * y % 18446744073709551616 + o) / 18446744073709551616 + ((x * y % 18446744073709551616 + o) % 18446744073709551616 + cy) / 18446744073709551616) : Nat) : Int)) v9 ?_
     refine xoi 68 36 (g0) (List.length a + List.length b) (List.length a + List.length b) ((i) + (j)) IntKind.i64 (IntKind.wrap IntKind.i64 ((i : Int) + (j : Int))) (Nn.w (Nn.add ⟨rfl⟩ ⟨rfl⟩) (by omega)) (by omega) ?_
     refine xos 0 (g0) (i + j) IntKind.u64 (O) ([]) 36 ((((((x * y % 18446744073709551616 + o) % 18446744073709551616 + cy) % 18446744073709551616) : Nat) : Int)) (by first | omega | (simp <;> omega)) ?_
     refine xz [] [(8, .int .u64 (((x * y / 18446744073709551616 + (x * y % 18446744073709551616 + o) / 18446744073709551616 + ((x * y % 18446744073709551616 + o) % 18446744073709551616 + cy) / 18446744073709551616) : Nat) : Int))] ?_
     refine SW_region ?_
     refine xve 69 IntKind.i64 (IntKind.wrap IntKind.i64 ((j : Int) + 1)) ((((j + 1) : Nat) : Int)) vj ?_
     refine xz [] [(29, .int .i64 (((j + 1) : Nat) : Int))] ?_
     refine ⟨k, by omega, j + 1, _, _, by omega, by rw [List.length_set]; exact k2, k3.set _ (cast_dig (Nat.mod_lt _ (by decide))), k4.set (by omega), hcy', hst, ?_⟩
     exact xw (zsS zi0 (zsS (ziS zi0) zs0))
    ·have z2 : decide ((j : Int) < (b.length : Int)) = false := decide_eq_false (by omega)
     obtain rfl : j = b.length := by omega
     obtain rfl : k = 0 := by omega
     have hend := mul_end (B := B64) (a := a) (b := b) (out := O) (i := i) (c := (cy : Int)) (by omega) (k4 _ (Nat.le_refl _)) (by rw [hx]; exact k6)
     refine xr [] [(30, .bool (decide ((((List.length b) : Nat) : Int) < (((List.length b) : Nat) : Int))))] ?_
     refine SW_seq ?_
     refine xsf z2 ?_
     refine SW_exit ?_
     refine SW_region ?_
     refine xn 6 [] [(75, .int .u64 (cy : Int)), (74, .int .i64 (IntKind.wrap IntKind.i64 ((i : Int) + (((List.length b) : Nat) : Int)))), (70, .slice (some ⟨g0, 0, none⟩) (List.length a + List.length b) (List.length a + List.length b))] ?_
     refine xoi 76 36 (g0) (List.length a + List.length b) (List.length a + List.length b) ((i) + (List.length b)) IntKind.i64 (IntKind.wrap IntKind.i64 ((i : Int) + (((List.length b) : Nat) : Int))) (Nn.w (Nn.add ⟨rfl⟩ ⟨rfl⟩) (by omega)) (by omega) ?_
     refine xos 0 (g0) (i + List.length b) IntKind.u64 (O) ([]) 36 ((cy : Int)) (by first | omega | (simp <;> omega)) ?_
     refine xz [] [] ?_
     refine SW_region ?_
     refine xve 77 IntKind.i64 (IntKind.wrap IntKind.i64 ((i : Int) + 1)) ((((i + 1) : Nat) : Int)) vi ?_
     refine xz [] [(22, .int .i64 (((i + 1) : Nat) : Int))] ?_
     refine ⟨m, by omega, i + 1, _, by omega, by rw [List.length_set]; exact k2, k3.set _ (cast_dig k5), ?_, hend, ?_⟩
     ·have := k4.more (cy : Int)
      rwa [show i + b.length + 1 = i + 1 + b.length by omega] at this
     exact xw (zsS zi0 (zsS (ziS zi0) zs0))
  ·have z1 : decide ((i : Int) < (a.length : Int)) = false := decide_eq_false (by omega)
   obtain rfl : i = a.length := by omega
   obtain rfl : m = 0 := by omega
   rw [List.take_length] at h5
   have er : trimL O = r := norm_inj B64_pos h3.trim dr (norm_trim _) nr (by rw [val_trim, h5, vr])
   have ct := ct_impl_trimmed_own g0 O O.length (by omega) (Nat.le_refl _)
   rw [er] at ct
   have tk := trim_app O
   rw [er] at tk
   rw [← h2]
   refine xr [] [(23, .bool (decide ((((List.length a) : Nat) : Int) < (((List.length a) : Nat) : Int))))] ?_
   refine SW_seq ?_
   refine xsf z1 ?_
   refine SW_exit ?_
   refine xg ?_
   refine xn 1 [] [(78, .slice (some ⟨g0, 0, none⟩) (List.length O) (List.length O))] ?_
   refine xcm 79 [true] ct zs0 (fun z2 => ?_)
   refine xz [] [(4, .slice (some ⟨g0, 0, none⟩) (List.length r) (List.length r))] ?_
   refine SW_ret ?_
   refine xmeg (.slice (some ⟨g0, 0, none⟩) (List.length r) (List.length r)) [] ?_
   refine ⟨(g0, (O.drop r.length).map (fun n => .int .u64 n)), [true], rfl, ?_, zs0⟩
   show [(⟨g0, cl .u64 r ((O.drop r.length).map (fun n => .int .u64 n)), _⟩ : Box)] = [⟨g0, cl .u64 O [], _⟩]
   rw [cl_split tk]
   rfl
theorem ct_impl_nat_mul_rows (a b : List Int) (A A' : Option Addr) (c c' : Nat) (da : Dig B64 a) (db : Dig B64 b) (hla : a.length ≤ 1000000) (hlb : b.length ≤ 1000000) : ∀ r, Dig B64 r → Norm r → val B64 r = val B64 a * val B64 b → CtR Try.prog 97 [.slice A a.length c, .slice A' b.length c'] [Row .u64 A c a, Row .u64 A' c' b] .u64 r := fun r dr nr vr =>
 ctR_of_O (by
  have h1 : val B64 r < B64 ^ (a.length + b.length) := by
   rw [vr, Nat.pow_add]
   exact Nat.mul_lt_mul'' (val_lt da) (val_lt db)
  have := len_le_of_val dr nr h1
  omega) (ct_impl_nat_mul_own a b A A' c c' da db hla hlb r dr nr vr)
end Go.Proofs.Ytlggnljibebfeaa.M
end
section
namespace Go.Proofs.Ytlggnljibebfeaa.M
open Go.RowKit Go.Proofs.Ytlggnljibebfeaa.G Go.Proofs.YtlggnljibebfeaaV.PrintWords Go.Proofs.YtlggnljibebfeaaV.PrintLast Go.Proofs.Ytlggnljibebfeaa.X
set_option linter.unusedVariables false
set_option linter.unusedSimpArgs false
theorem quo_parts {D d1 : Nat} (hd : 0 < d1) (hdl : d1 < 4294967296) (hD1 : D < 18446744073709551616) : D / d1 < 18446744073709551616 ∧ D / d1 * d1 < 18446744073709551616 ∧ D / d1 * d1 + D % d1 = D ∧ D % d1 < 4294967296 := by
 have h1 := Nat.div_le_self D d1
 have h2 := Nat.div_add_mod D d1
 have h3 := Nat.mod_lt D hd
 rw [Nat.mul_comm] at h2
 exact ⟨by omega, by omega, h2, by omega⟩
theorem wrap_nat (x : Int) : ∃ z : Nat, Ve (IntKind.u64.wrap x) (z : Int) := ⟨(IntKind.u64.wrap x).toNat, ⟨by rw [wrap_u64]; omega⟩⟩
theorem ct_bits_Div64 (hi lo y : Nat) (hlo : lo < 18446744073709551616) (hy : y < 18446744073709551616) (hh : hi < y) : CtV Try.prog 126 [.int .u64 (hi : Int), .int .u64 (lo : Int), .int .u64 (y : Int)] [] (.tuple #[.int .u64 (((hi * 18446744073709551616 + lo) / y : Nat) : Int), .int .u64 (((hi * 18446744073709551616 + lo) % y : Nat) : Int)]) := by
 refine ct_of Try.func126 rfl (by kernel_rfl) (fun B w0 => ?_)
 have c1 : ((y : Int) == 0) = false := by rw [beq_eq_false_iff_ne]; omega
 have c2 : decide ((y : Int) ≤ (hi : Int)) = false := decide_eq_false (by omega)
 by_cases hz : hi = 0
 ·subst hz
  have c3 : (((0 : Nat) : Int) == 0) = true := rfl
  refine xr [] [(7, .int .u64 0), (6, .int .u64 0)] ?_
  refine SW_seq ?_
  refine xr [] [(20, .bool ((y : Int) == 0))] ?_
  refine xsf c1 ?_
  refine SW_skip ?_
  refine SW_seq ?_
  refine xr [] [(24, .bool (decide ((y : Int) ≤ 0)))] ?_
  refine xsf c2 ?_
  refine SW_skip ?_
  refine SW_seq ?_
  refine xr [] [(27, .bool true)] ?_
  refine xs1 ?_
  refine xd (fun hB => ?_)
  refine xdk [(0, []), (1, []), (3, []), (4, [])] [(32, .int .u64 (y : Int)), (31, .int .u64 (lo : Int)), (29, .int .u64 (y : Int)), (28, .int .u64 (lo : Int))] hB ?_
  refine xdqo 2 hB 30 ((lo)) ((y)) (by omega) (by omega) ?_
  refine xdk [(6, [])] [(6, .int .u64 (((lo / y) : Nat) : Int))] hB ?_
  refine xdqr 5 hB 33 ((lo)) ((y)) (by omega) (by omega) ?_
  refine xdk [(7, [])] [(7, .int .u64 (((lo % y) : Nat) : Int))] hB ?_
  refine xdz ?_
  refine SW_ret ?_
  refine xe () (.tuple #[.int .u64 (((lo / y) : Nat) : Int), .int .u64 (((lo % y) : Nat) : Int)]) [] ?_ trivial
  rw [Nat.zero_mul, Nat.zero_add]
 ·have c3 : ((hi : Int) == 0) = false := by rw [beq_eq_false_iff_ne]; omega
  obtain ⟨m, hm, hm64⟩ := bits_of y hy
  have hm0 : 0 < m := hm.pos (by omega)
  obtain ⟨s, hs⟩ : ∃ s, s = 64 - m := ⟨_, rfl⟩
  have lz := ct_bits_LeadingZeros64 y hy m hm
  rw [← hs] at lz
  have hs63 : s ≤ 63 := by omega
  have hD1 : y * 2 ^ s < 18446744073709551616 := by
   have := Nat.mul_lt_mul_of_pos_right hm.1 (show 0 < 2 ^ s from Nat.pow_pos (by decide))
   rwa [← Nat.pow_add, show m + s = 64 by omega] at this
  have hD0 : 9223372036854775808 ≤ y * 2 ^ s := by
   have h0 : 2 ^ (m - 1) ≤ y := by rcases hm.2 with h | h <;> omega
   have := Nat.mul_le_mul_right (2 ^ s) h0
   rwa [← Nat.pow_add, show m - 1 + s = 63 by omega] at this
  obtain ⟨n1, n2, n3, n4⟩ := norm_num64 hs63 hlo hh hD1
  have v1 : Ve (IntKind.u64.wrap (s : Int)) (s : Int) := veU rfl (by omega)
  have v2 : Ve (shl .u64 (y : Int) (s : Int)) ((y * 2 ^ s : Nat) : Int) := ⟨by rw [shl_nat _ _ (by omega), Nat.mod_eq_of_lt hD1]⟩
  have v5 : Ve (shl .u64 (hi : Int) (s : Int)) ((hi * 2 ^ s : Nat) : Int) := ⟨by rw [shl_nat _ _ (by omega), Nat.mod_eq_of_lt n1]⟩
  have v6 : Ve (IntKind.u64.wrap (64 - (s : Int))) ((64 - s : Nat) : Int) := veU (by omega) (by omega)
  have v7 : Ve (shf .u64 (lo : Int) ((64 - s : Nat) : Int)) ((lo / 2 ^ (64 - s) : Nat) : Int) := ⟨shf_nat _ _ (by omega)⟩
  have v8 : Ve (bits .or .u64 ((hi * 2 ^ s : Nat) : Int) ((lo / 2 ^ (64 - s) : Nat) : Int)) ((hi * 2 ^ s + lo / 2 ^ (64 - s) : Nat) : Int) := ⟨or_nat s _ _ (by omega) n1 (Nat.dvd_mul_left _ _) n2⟩
  have v9 : Ve (shl .u64 (lo : Int) (s : Int)) ((lo * 2 ^ s % 18446744073709551616 : Nat) : Int) := ⟨shl_nat _ _ (by omega)⟩
  have hX : (hi * 18446744073709551616 + lo) / y = (hi * 18446744073709551616 + lo) * 2 ^ s / (y * 2 ^ s) := (Nat.mul_div_mul_right _ _ (Nat.pow_pos (by decide))).symm
  have hX2 : (hi * 18446744073709551616 + lo) % y = (hi * 18446744073709551616 + lo) * 2 ^ s % (y * 2 ^ s) / 2 ^ s := by rw [Nat.mul_mod_mul_right, Nat.mul_div_cancel _ (Nat.pow_pos (by decide))]
  rw [hX, hX2, n3]
  have hL : lo * 2 ^ s % 18446744073709551616 < 18446744073709551616 := Nat.mod_lt _ (by decide)
  generalize hi * 2 ^ s + lo / 2 ^ (64 - s) = n at v8 n4
  generalize lo * 2 ^ s % 18446744073709551616 = L at v9 hL
  generalize y * 2 ^ s = D at v2 hD0 hD1 n4
  clear hX hX2 n3
  have v3 := high_ve D
  have v4 := low_ve D hD1
  have v10 := high_ve L
  have v11 := low_ve L hL
  have hd1 : 2147483648 ≤ D / 4294967296 ∧ D / 4294967296 < 4294967296 := by omega
  have hd0 : D % 4294967296 < 4294967296 := by omega
  have hDe : D = D / 4294967296 * 4294967296 + D % 4294967296 := by omega
  have hu : L / 4294967296 < 4294967296 := by omega
  have hu0 : L % 4294967296 < 4294967296 := by omega
  have hLe : n * 18446744073709551616 + L = (n * 4294967296 + L / 4294967296) * 4294967296 + L % 4294967296 := by omega
  rw [hLe]
  clear hLe
  generalize D / 4294967296 = d1 at *
  generalize D % 4294967296 = d0 at *
  generalize L / 4294967296 = u at *
  generalize L % 4294967296 = u0 at *
  have hD : 0 < D := by omega
  have hn64 : n < 18446744073709551616 := by omega
  obtain ⟨t1, t2⟩ := two_steps (n := n) (u := u) (u0 := u0) (B := 4294967296) hD
  rw [t1, t2]
  clear t1 t2
  obtain ⟨p1, p2, p3, p4⟩ := quo_parts (D := n) (d1 := d1) (by omega) hd1.2 hn64
  have v12 : Ve (IntKind.u64.wrap (((n / d1 : Nat) : Int) * (d1 : Int))) ((n / d1 * d1 : Nat) : Int) := veU (by rw [← Int.natCast_mul]) p2
  have v13 : Ve (IntKind.u64.wrap ((n : Int) - ((n / d1 * d1 : Nat) : Int))) ((n % d1 : Nat) : Int) := veU (by omega) (by omega)
  have hr1 := Nat.mod_lt (n * 4294967296 + u) hD
  have hr2 := Nat.div_add_mod (n * 4294967296 + u) D
  rw [Nat.mul_comm] at hr2
  have hr3 := d64_rest n u ((n * 4294967296 + u) / D) D (by omega) (by omega)
  rw [show n * 4294967296 + u - (n * 4294967296 + u) / D * D = (n * 4294967296 + u) % D by omega] at hr3
  have hq1 : (n * 4294967296 + u) / D < 4294967296 := div_lt_base n4 hu
  obtain ⟨q1, eq1⟩ : ∃ q1, (n * 4294967296 + u) / D = q1 := ⟨_, rfl⟩
  obtain ⟨m2, em2⟩ : ∃ m2, (n * 4294967296 + u) % D = m2 := ⟨_, rfl⟩
  have f1 : (n * 4294967296 + u) / D ≤ n / d1 := by rw [hDe]; exact est_floor (by omega) hu
  have f2 : n / d1 ≤ 4294967297 := est_start (B := 4294967296) (d0 := d0) (by omega) hd0 (by omega)
  rw [eq1, em2]
  rw [em2] at hr1
  rw [eq1, em2] at hr3
  rw [eq1] at hq1
  refine xr [] [(7, .int .u64 0), (6, .int .u64 0)] ?_
  refine SW_seq ?_
  refine xr [] [(20, .bool ((y : Int) == 0))] ?_
  refine xsf c1 ?_
  refine SW_skip ?_
  refine SW_seq ?_
  refine xr [] [(24, .bool (decide ((y : Int) ≤ (hi : Int))))] ?_
  refine xsf c2 ?_
  refine SW_skip ?_
  refine SW_seq ?_
  refine xr [] [(27, .bool ((hi : Int) == 0))] ?_
  refine xsf c3 ?_
  refine SW_skip ?_
  refine xg ?_
  refine xn 1 [] [(34, .int .u64 (y : Int))] ?_
  refine xcv 35 lz zs0 ?_
  refine xve 36 IntKind.u64 (IntKind.wrap IntKind.u64 (s : Int)) ((s : Int)) v1 ?_
  refine xz [] [(8, .int .u64 (s : Int))] ?_
  refine xg ?_
  refine xn 2 [] [(38, .int .u64 (s : Int)), (37, .int .u64 (y : Int))] ?_
  refine xve 39 IntKind.u64 (shl IntKind.u64 (y : Int) (s : Int)) ((D : Int)) v2 ?_
  refine xz [] [(2, .int .u64 (D : Int))] ?_
  refine xg ?_
  refine xn 1 [] [(40, .int .u64 (D : Int))] ?_
  refine xve 41 IntKind.u64 (shf IntKind.u64 (D : Int) 32) ((d1 : Int)) v3 ?_
  refine xz [] [(9, .int .u64 (d1 : Int))] ?_
  refine xg ?_
  refine xn 1 [] [(42, .int .u64 (D : Int))] ?_
  refine xve 43 IntKind.u64 (bits BinOp.and IntKind.u64 (D : Int) 4294967295) ((d0 : Int)) v4 ?_
  refine xz [] [(10, .int .u64 (d0 : Int))] ?_
  refine xg ?_
  refine xn 2 [] [(45, .int .u64 (s : Int)), (44, .int .u64 (hi : Int))] ?_
  refine xve 46 IntKind.u64 (shl IntKind.u64 (hi : Int) (s : Int)) ((((hi * 2 ^ s) : Nat) : Int)) v5 ?_
  refine xn 5 [] [(48, .int .u64 (s : Int)), (47, .int .u64 (lo : Int))] ?_
  refine xve 49 IntKind.u64 (IntKind.wrap IntKind.u64 (64 - (s : Int))) ((((64 - s) : Nat) : Int)) v6 ?_
  refine xve 50 IntKind.u64 (shf IntKind.u64 (lo : Int) (((64 - s) : Nat) : Int)) ((((lo / 2 ^ (64 - s)) : Nat) : Int)) v7 ?_
  refine xve 51 IntKind.u64 (bits BinOp.or IntKind.u64 (((hi * 2 ^ s) : Nat) : Int) (((lo / 2 ^ (64 - s)) : Nat) : Int)) ((n : Int)) v8 ?_
  refine xz [] [(11, .int .u64 (n : Int))] ?_
  refine xg ?_
  refine xn 2 [] [(53, .int .u64 (s : Int)), (52, .int .u64 (lo : Int))] ?_
  refine xve 54 IntKind.u64 (shl IntKind.u64 (lo : Int) (s : Int)) ((L : Int)) v9 ?_
  refine xz [] [(12, .int .u64 (L : Int))] ?_
  refine xg ?_
  refine xn 1 [] [(55, .int .u64 (L : Int))] ?_
  refine xve 56 IntKind.u64 (shf IntKind.u64 (L : Int) 32) ((u : Int)) v10 ?_
  refine xz [] [(13, .int .u64 (u : Int))] ?_
  refine xg ?_
  refine xn 1 [] [(57, .int .u64 (L : Int))] ?_
  refine xve 58 IntKind.u64 (bits BinOp.and IntKind.u64 (L : Int) 4294967295) ((u0 : Int)) v11 ?_
  refine xz [] [(14, .int .u64 (u0 : Int))] ?_
  refine xg ?_
  refine xn 2 [] [(60, .int .u64 (d1 : Int)), (59, .int .u64 (n : Int))] ?_
  refine xqo 61 ((n)) ((d1)) (by omega) (by omega) ?_
  refine xz [] [(15, .int .u64 (((n / d1) : Nat) : Int))] ?_
  refine xg ?_
  refine xn 3 [] [(64, .int .u64 (d1 : Int)), (63, .int .u64 (((n / d1) : Nat) : Int)), (62, .int .u64 (n : Int))] ?_
  refine xve 65 IntKind.u64 (IntKind.wrap IntKind.u64 ((((n / d1) : Nat) : Int) * (d1 : Int))) ((((n / d1 * d1) : Nat) : Int)) v12 ?_
  refine xve 66 IntKind.u64 (IntKind.wrap IntKind.u64 ((n : Int) - (((n / d1 * d1) : Nat) : Int))) ((((n % d1) : Nat) : Int)) v13 ?_
  refine xz [] [(16, .int .u64 (((n % d1) : Nat) : Int))] ?_
  refine SW_cut (fun s' => Weak s' ⟨[(2, .int .u64 (D : Int)), (8, .int .u64 (s : Int)), (9, .int .u64 (d1 : Int)), (10, .int .u64 (d0 : Int)), (11, .int .u64 (n : Int)), (13, .int .u64 (u : Int)), (14, .int .u64 (u0 : Int)), (15, .int .u64 (q1 : Int))], [], []⟩) ?_ ?_
  ·refine SW_block ?_
   refine SW_loopn (fun M s' => ∃ q r : Nat, q = M ∧ q * d1 + r = n ∧ r < 4294967296 ∧ (n * 4294967296 + u) / D ≤ q ∧ q ≤ 4294967297 ∧ Weak s' ⟨[(2, .int .u64 (D : Int)), (8, .int .u64 (s : Int)), (9, .int .u64 (d1 : Int)), (10, .int .u64 (d0 : Int)), (11, .int .u64 (n : Int)), (13, .int .u64 (u : Int)), (14, .int .u64 (u0 : Int)), (15, .int .u64 (q : Int)), (16, .int .u64 (r : Int))], [], []⟩) (n / d1) ⟨n / d1, n % d1, rfl, p3, p4, f1, f2, ?_⟩ (fun M s' ⟨q, r, k1, k2, k3, k4, k5, hw⟩ => ?_)
   ·exact xw zs0
   ·refine SW_weak hw ?_
    clear hw
    have back : (4294967296 ≤ q ∨ 4294967296 * r + u < q * d0) → ∃ p, q = p + 1 ∧ p * d1 + (r + d1) = n ∧ (n * 4294967296 + u) / D ≤ p ∧ p ≤ 4294967296 ∧ (4294967296 ≤ r + d1 → p = (n * 4294967296 + u) / D) := fun hc => d64_num hDe hd1 hd0 hu n4 k2 k4 k5 k3 hc
    have w1 : Ve (IntKind.u64.wrap ((r : Int) + (d1 : Int))) ((r + d1 : Nat) : Int) := veU (by omega) (by omega)
    refine SW_seq ?_
    refine SW_cut (fun s' => Weak s' ⟨[(2, .int .u64 (D : Int)), (8, .int .u64 (s : Int)), (9, .int .u64 (d1 : Int)), (10, .int .u64 (d0 : Int)), (11, .int .u64 (n : Int)), (13, .int .u64 (u : Int)), (14, .int .u64 (u0 : Int)), (15, .int .u64 (q : Int)), (16, .int .u64 (r : Int)), (78, .bool (decide (4294967296 ≤ q ∨ 4294967296 * r + u < q * d0)))], [], []⟩) ?_ ?_
    ·by_cases hb : 4294967296 ≤ q
     ·have z : decide ((q : Int) ≥ 4294967296) = true := decide_eq_true (by omega)
      rw [decide_eq_true (show 4294967296 ≤ q ∨ 4294967296 * r + u < q * d0 from .inl hb)]
      refine SW_region ?_
      refine xn 3 [] [(69, .bool (decide ((q : Int) ≥ 4294967296)))] ?_
      refine xkt 69 z ?_
      refine xz [] [(78, .bool true)] ?_
      exact xw zs0
     ·have z : decide ((q : Int) ≥ 4294967296) = false := decide_eq_false (by omega)
      have z2 := d64_cond q d0 r u (by omega) hd0 k3 hu
      refine SW_region ?_
      refine xn 3 [] [(69, .bool (decide ((q : Int) ≥ 4294967296)))] ?_
      refine xkf 69 z ?_
      refine xz [] [(78, .bool (decide (IntKind.wrap IntKind.u64 ((q : Int) * (d0 : Int)) > IntKind.wrap IntKind.u64 (IntKind.wrap IntKind.u64 (4294967296 * (r : Int)) + (u : Int)))))] ?_
      rw [z2, show decide (4294967296 ≤ q ∨ 4294967296 * r + u < q * d0) = decide (4294967296 * r + u < q * d0) from decide_eq_decide.2 ⟨fun h => h.elim (fun h => absurd h hb) id, .inr⟩]
      exact xw zs0
    ·rintro s' hw
     refine SW_weak hw ?_
     clear hw
     by_cases hc : 4294967296 ≤ q ∨ 4294967296 * r + u < q * d0
     ·rw [decide_eq_true hc]
      obtain ⟨p, rfl, hp1, hp2, hp3, hp4⟩ := back hc
      have w2 : Ve (IntKind.u64.wrap (((p + 1 : Nat) : Int) - 1)) (p : Int) := veU (by omega) (by omega)
      by_cases ho : 4294967296 ≤ r + d1
      ·have z : decide (((r + d1 : Nat) : Int) ≥ 4294967296) = true := decide_eq_true (by omega)
       refine xs1 ?_
       refine SW_skip ?_
       refine SW_block ?_
       refine xg ?_
       refine xn 1 [] [(79, .int .u64 (((p + 1) : Nat) : Int))] ?_
       refine xve 80 IntKind.u64 (IntKind.wrap IntKind.u64 ((((p + 1) : Nat) : Int) - 1)) ((p : Int)) w2 ?_
       refine xz [] [(15, .int .u64 (p : Int))] ?_
       refine xg ?_
       refine xn 2 [] [(82, .int .u64 (d1 : Int)), (81, .int .u64 (r : Int))] ?_
       refine xve 83 IntKind.u64 (IntKind.wrap IntKind.u64 ((r : Int) + (d1 : Int))) ((((r + d1) : Nat) : Int)) w1 ?_
       refine xz [] [(16, .int .u64 (((r + d1) : Nat) : Int))] ?_
       refine xr [] [(85, .bool (decide ((((r + d1) : Nat) : Int) ≥ 4294967296)))] ?_
       refine xst z ?_
       refine SW_exit ?_
       rw [← eq1, ← hp4 ho]
       exact xw zs0
      ·have z : decide (((r + d1 : Nat) : Int) ≥ 4294967296) = false := decide_eq_false (by omega)
       refine xs1 ?_
       refine SW_skip ?_
       refine SW_block ?_
       refine xg ?_
       refine xn 1 [] [(79, .int .u64 (((p + 1) : Nat) : Int))] ?_
       refine xve 80 IntKind.u64 (IntKind.wrap IntKind.u64 ((((p + 1) : Nat) : Int) - 1)) ((p : Int)) w2 ?_
       refine xz [] [(15, .int .u64 (p : Int))] ?_
       refine xg ?_
       refine xn 2 [] [(82, .int .u64 (d1 : Int)), (81, .int .u64 (r : Int))] ?_
       refine xve 83 IntKind.u64 (IntKind.wrap IntKind.u64 ((r : Int) + (d1 : Int))) ((((r + d1) : Nat) : Int)) w1 ?_
       refine xz [] [(16, .int .u64 (((r + d1) : Nat) : Int))] ?_
       refine xr [] [(85, .bool (decide ((((r + d1) : Nat) : Int) ≥ 4294967296)))] ?_
       refine xsf z ?_
       refine SW_skip ?_
       refine ⟨p, by omega, p, r + d1, rfl, hp1, by omega, hp2, by omega, ?_⟩
       exact xw zs0
     ·rw [decide_eq_false hc]
      have he := d64_sure hDe hd1 hd0 hu n4 k2 k4 (fun h => hc (.inr h))
      refine xs0 ?_
      refine SW_exit ?_
      rw [← eq1, ← he]
      exact xw zs0
  ·rintro s' hw
   refine SW_weak hw ?_
   clear hw
   obtain ⟨z1, ⟨e1⟩⟩ := wrap_nat ((n : Int) * 4294967296)
   rw [e1] at hr3
   have y1 : Ve (IntKind.u64.wrap ((n : Int) * 4294967296)) (z1 : Int) := ⟨e1⟩
   clear e1
   obtain ⟨z2, ⟨e2⟩⟩ := wrap_nat ((z1 : Int) + (u : Int))
   rw [e2] at hr3
   have y2 : Ve (IntKind.u64.wrap ((z1 : Int) + (u : Int))) (z2 : Int) := ⟨e2⟩
   clear e2
   obtain ⟨z3, ⟨e3⟩⟩ := wrap_nat ((q1 : Int) * (D : Int))
   rw [e3] at hr3
   have y3 : Ve (IntKind.u64.wrap ((q1 : Int) * (D : Int))) (z3 : Int) := ⟨e3⟩
   clear e3
   have v14 : Ve (IntKind.u64.wrap ((z2 : Int) - (z3 : Int))) (m2 : Int) := ⟨hr3⟩
   clear hr3
   obtain ⟨j1, j2, j3, j4⟩ := quo_parts (D := m2) (d1 := d1) (by omega) hd1.2 (by omega)
   have v15 : Ve (IntKind.u64.wrap (((m2 / d1 : Nat) : Int) * (d1 : Int))) ((m2 / d1 * d1 : Nat) : Int) := veU (by rw [← Int.natCast_mul]) j2
   have v16 : Ve (IntKind.u64.wrap ((m2 : Int) - ((m2 / d1 * d1 : Nat) : Int))) ((m2 % d1 : Nat) : Int) := veU (by omega) (by omega)
   have g1 := Nat.mod_lt (m2 * 4294967296 + u0) hD
   have g2 := Nat.div_add_mod (m2 * 4294967296 + u0) D
   rw [Nat.mul_comm] at g2
   have g3 := d64_rest m2 u0 ((m2 * 4294967296 + u0) / D) D (by omega) (by omega)
   rw [show m2 * 4294967296 + u0 - (m2 * 4294967296 + u0) / D * D = (m2 * 4294967296 + u0) % D by omega] at g3
   have g4 : (m2 * 4294967296 + u0) / D < 4294967296 := div_lt_base hr1 hu0
   have f3 : (m2 * 4294967296 + u0) / D ≤ m2 / d1 := by rw [hDe]; exact est_floor (by omega) hu0
   have f4 : m2 / d1 ≤ 4294967297 := est_start (B := 4294967296) (d0 := d0) (by omega) hd0 (by omega)
   obtain ⟨q0, eq0⟩ : ∃ q0, (m2 * 4294967296 + u0) / D = q0 := ⟨_, rfl⟩
   obtain ⟨r0, er0⟩ : ∃ r0, (m2 * 4294967296 + u0) % D = r0 := ⟨_, rfl⟩
   rw [eq0, er0]
   rw [eq0, er0] at g3
   rw [eq0] at g4
   refine xg ?_
   refine xn 1 [] [(86, .int .u64 (n : Int))] ?_
   refine xve 87 IntKind.u64 (IntKind.wrap IntKind.u64 ((n : Int) * 4294967296)) ((z1 : Int)) y1 ?_
   refine xn 3 [] [(88, .int .u64 (u : Int))] ?_
   refine xve 89 IntKind.u64 (IntKind.wrap IntKind.u64 ((z1 : Int) + (u : Int))) ((z2 : Int)) y2 ?_
   refine xn 6 [] [(91, .int .u64 (D : Int)), (90, .int .u64 (q1 : Int))] ?_
   refine xve 92 IntKind.u64 (IntKind.wrap IntKind.u64 ((q1 : Int) * (D : Int))) ((z3 : Int)) y3 ?_
   refine xve 93 IntKind.u64 (IntKind.wrap IntKind.u64 ((z2 : Int) - (z3 : Int))) ((m2 : Int)) v14 ?_
   refine xz [] [(17, .int .u64 (m2 : Int))] ?_
   refine xg ?_
   refine xn 2 [] [(95, .int .u64 (d1 : Int)), (94, .int .u64 (m2 : Int))] ?_
   refine xqo 96 ((m2)) ((d1)) (by omega) (by omega) ?_
   refine xz [] [(18, .int .u64 (((m2 / d1) : Nat) : Int))] ?_
   refine xg ?_
   refine xn 3 [] [(99, .int .u64 (d1 : Int)), (98, .int .u64 (((m2 / d1) : Nat) : Int)), (97, .int .u64 (m2 : Int))] ?_
   refine xve 100 IntKind.u64 (IntKind.wrap IntKind.u64 ((((m2 / d1) : Nat) : Int) * (d1 : Int))) ((((m2 / d1 * d1) : Nat) : Int)) v15 ?_
   refine xve 101 IntKind.u64 (IntKind.wrap IntKind.u64 ((m2 : Int) - (((m2 / d1 * d1) : Nat) : Int))) ((((m2 % d1) : Nat) : Int)) v16 ?_
   refine xz [] [(16, .int .u64 (((m2 % d1) : Nat) : Int))] ?_
   refine SW_cut (fun s' => Weak s' ⟨[(2, .int .u64 (D : Int)), (8, .int .u64 (s : Int)), (14, .int .u64 (u0 : Int)), (15, .int .u64 (q1 : Int)), (17, .int .u64 (m2 : Int)), (18, .int .u64 (q0 : Int))], [], []⟩) ?_ ?_
   ·refine SW_block ?_
    refine SW_loopn (fun M s' => ∃ q r : Nat, q = M ∧ q * d1 + r = m2 ∧ r < 4294967296 ∧ (m2 * 4294967296 + u0) / D ≤ q ∧ q ≤ 4294967297 ∧ Weak s' ⟨[(2, .int .u64 (D : Int)), (8, .int .u64 (s : Int)), (9, .int .u64 (d1 : Int)), (10, .int .u64 (d0 : Int)), (14, .int .u64 (u0 : Int)), (15, .int .u64 (q1 : Int)), (17, .int .u64 (m2 : Int)), (18, .int .u64 (q : Int)), (16, .int .u64 (r : Int))], [], []⟩) (m2 / d1) ⟨m2 / d1, m2 % d1, rfl, j3, j4, f3, f4, ?_⟩ (fun M s' ⟨q, r, k1, k2, k3, k4, k5, hw⟩ => ?_)
    ·exact xw zs0
    ·refine SW_weak hw ?_
     clear hw
     have back : (4294967296 ≤ q ∨ 4294967296 * r + u0 < q * d0) → ∃ p, q = p + 1 ∧ p * d1 + (r + d1) = m2 ∧ (m2 * 4294967296 + u0) / D ≤ p ∧ p ≤ 4294967296 ∧ (4294967296 ≤ r + d1 → p = (m2 * 4294967296 + u0) / D) := fun hc => d64_num hDe hd1 hd0 hu0 hr1 k2 k4 k5 k3 hc
     have w1 : Ve (IntKind.u64.wrap ((r : Int) + (d1 : Int))) ((r + d1 : Nat) : Int) := veU (by omega) (by omega)
     refine SW_seq ?_
     refine SW_cut (fun s' => Weak s' ⟨[(2, .int .u64 (D : Int)), (8, .int .u64 (s : Int)), (9, .int .u64 (d1 : Int)), (10, .int .u64 (d0 : Int)), (14, .int .u64 (u0 : Int)), (15, .int .u64 (q1 : Int)), (17, .int .u64 (m2 : Int)), (18, .int .u64 (q : Int)), (16, .int .u64 (r : Int)), (113, .bool (decide (4294967296 ≤ q ∨ 4294967296 * r + u0 < q * d0)))], [], []⟩) ?_ ?_
     ·by_cases hb : 4294967296 ≤ q
      ·have z : decide ((q : Int) ≥ 4294967296) = true := decide_eq_true (by omega)
       rw [decide_eq_true (show 4294967296 ≤ q ∨ 4294967296 * r + u0 < q * d0 from .inl hb)]
       refine SW_region ?_
       refine xn 3 [] [(104, .bool (decide ((q : Int) ≥ 4294967296)))] ?_
       refine xkt 104 z ?_
       refine xz [] [(113, .bool true)] ?_
       exact xw zs0
      ·have z : decide ((q : Int) ≥ 4294967296) = false := decide_eq_false (by omega)
       have z2 := d64_cond q d0 r u0 (by omega) hd0 k3 hu0
       refine SW_region ?_
       refine xn 3 [] [(104, .bool (decide ((q : Int) ≥ 4294967296)))] ?_
       refine xkf 104 z ?_
       refine xz [] [(113, .bool (decide (IntKind.wrap IntKind.u64 ((q : Int) * (d0 : Int)) > IntKind.wrap IntKind.u64 (IntKind.wrap IntKind.u64 (4294967296 * (r : Int)) + (u0 : Int)))))] ?_
       rw [z2, show decide (4294967296 ≤ q ∨ 4294967296 * r + u0 < q * d0) = decide (4294967296 * r + u0 < q * d0) from decide_eq_decide.2 ⟨fun h => h.elim (fun h => absurd h hb) id, .inr⟩]
       exact xw zs0
     ·rintro s' hw
      refine SW_weak hw ?_
      clear hw
      by_cases hc : 4294967296 ≤ q ∨ 4294967296 * r + u0 < q * d0
      ·rw [decide_eq_true hc]
       obtain ⟨p, rfl, hp1, hp2, hp3, hp4⟩ := back hc
       have w2 : Ve (IntKind.u64.wrap (((p + 1 : Nat) : Int) - 1)) (p : Int) := veU (by omega) (by omega)
       by_cases ho : 4294967296 ≤ r + d1
       ·have z : decide (((r + d1 : Nat) : Int) ≥ 4294967296) = true := decide_eq_true (by omega)
        refine xs1 ?_
        refine SW_skip ?_
        refine SW_block ?_
        refine xg ?_
        refine xn 1 [] [(114, .int .u64 (((p + 1) : Nat) : Int))] ?_
        refine xve 115 IntKind.u64 (IntKind.wrap IntKind.u64 ((((p + 1) : Nat) : Int) - 1)) ((p : Int)) w2 ?_
        refine xz [] [(18, .int .u64 (p : Int))] ?_
        refine xg ?_
        refine xn 2 [] [(117, .int .u64 (d1 : Int)), (116, .int .u64 (r : Int))] ?_
        refine xve 118 IntKind.u64 (IntKind.wrap IntKind.u64 ((r : Int) + (d1 : Int))) ((((r + d1) : Nat) : Int)) w1 ?_
        refine xz [] [(16, .int .u64 (((r + d1) : Nat) : Int))] ?_
        refine xr [] [(120, .bool (decide ((((r + d1) : Nat) : Int) ≥ 4294967296)))] ?_
        refine xst z ?_
        refine SW_exit ?_
        rw [← eq0, ← hp4 ho]
        exact xw zs0
       ·have z : decide (((r + d1 : Nat) : Int) ≥ 4294967296) = false := decide_eq_false (by omega)
        refine xs1 ?_
        refine SW_skip ?_
        refine SW_block ?_
        refine xg ?_
        refine xn 1 [] [(114, .int .u64 (((p + 1) : Nat) : Int))] ?_
        refine xve 115 IntKind.u64 (IntKind.wrap IntKind.u64 ((((p + 1) : Nat) : Int) - 1)) ((p : Int)) w2 ?_
        refine xz [] [(18, .int .u64 (p : Int))] ?_
        refine xg ?_
        refine xn 2 [] [(117, .int .u64 (d1 : Int)), (116, .int .u64 (r : Int))] ?_
        refine xve 118 IntKind.u64 (IntKind.wrap IntKind.u64 ((r : Int) + (d1 : Int))) ((((r + d1) : Nat) : Int)) w1 ?_
        refine xz [] [(16, .int .u64 (((r + d1) : Nat) : Int))] ?_
        refine xr [] [(120, .bool (decide ((((r + d1) : Nat) : Int) ≥ 4294967296)))] ?_
        refine xsf z ?_
        refine SW_skip ?_
        refine ⟨p, by omega, p, r + d1, rfl, hp1, by omega, hp2, by omega, ?_⟩
        exact xw zs0
      ·rw [decide_eq_false hc]
       have he := d64_sure hDe hd1 hd0 hu0 hr1 k2 k4 (fun h => hc (.inr h))
       refine xs0 ?_
       refine SW_exit ?_
       rw [← eq0, ← he]
       exact xw zs0
   ·rintro s' hw
    refine SW_weak hw ?_
    clear hw
    obtain ⟨x1, ⟨e1⟩⟩ := wrap_nat ((m2 : Int) * 4294967296)
    rw [e1] at g3
    have w1 : Ve (IntKind.u64.wrap ((m2 : Int) * 4294967296)) (x1 : Int) := ⟨e1⟩
    clear e1
    obtain ⟨x2, ⟨e2⟩⟩ := wrap_nat ((x1 : Int) + (u0 : Int))
    rw [e2] at g3
    have w2 : Ve (IntKind.u64.wrap ((x1 : Int) + (u0 : Int))) (x2 : Int) := ⟨e2⟩
    clear e2
    obtain ⟨x3, ⟨e3⟩⟩ := wrap_nat ((q0 : Int) * (D : Int))
    rw [e3] at g3
    have w3 : Ve (IntKind.u64.wrap ((q0 : Int) * (D : Int))) (x3 : Int) := ⟨e3⟩
    clear e3
    have v17 : Ve (IntKind.u64.wrap ((x2 : Int) - (x3 : Int))) (r0 : Int) := ⟨g3⟩
    clear g3
    have v18 : Ve (IntKind.u64.wrap ((q1 : Int) * 4294967296)) ((q1 * 4294967296 : Nat) : Int) := veU (by omega) (by omega)
    have v19 : Ve (IntKind.u64.wrap (((q1 * 4294967296 : Nat) : Int) + (q0 : Int))) ((q1 * 4294967296 + q0 : Nat) : Int) := veU (by omega) (by omega)
    have v20 : Ve (shf .u64 (r0 : Int) (s : Int)) ((r0 / 2 ^ s : Nat) : Int) := ⟨shf_nat _ _ (by omega)⟩
    refine xg ?_
    refine xn 1 [] [(121, .int .u64 (q1 : Int))] ?_
    refine xve 122 IntKind.u64 (IntKind.wrap IntKind.u64 ((q1 : Int) * 4294967296)) ((((q1 * 4294967296) : Nat) : Int)) v18 ?_
    refine xn 3 [] [(123, .int .u64 (q0 : Int))] ?_
    refine xve 124 IntKind.u64 (IntKind.wrap IntKind.u64 ((((q1 * 4294967296) : Nat) : Int) + (q0 : Int))) ((((q1 * 4294967296 + q0) : Nat) : Int)) v19 ?_
    refine xn 5 [] [(125, .int .u64 (m2 : Int))] ?_
    refine xve 126 IntKind.u64 (IntKind.wrap IntKind.u64 ((m2 : Int) * 4294967296)) ((x1 : Int)) w1 ?_
    refine xn 7 [] [(127, .int .u64 (u0 : Int))] ?_
    refine xve 128 IntKind.u64 (IntKind.wrap IntKind.u64 ((x1 : Int) + (u0 : Int))) ((x2 : Int)) w2 ?_
    refine xn 10 [] [(130, .int .u64 (D : Int)), (129, .int .u64 (q0 : Int))] ?_
    refine xve 131 IntKind.u64 (IntKind.wrap IntKind.u64 ((q0 : Int) * (D : Int))) ((x3 : Int)) w3 ?_
    refine xve 132 IntKind.u64 (IntKind.wrap IntKind.u64 ((x2 : Int) - (x3 : Int))) ((r0 : Int)) v17 ?_
    refine xn 13 [] [(133, .int .u64 (s : Int))] ?_
    refine xve 134 IntKind.u64 (shf IntKind.u64 (r0 : Int) (s : Int)) ((((r0 / 2 ^ s) : Nat) : Int)) v20 ?_
    refine xz [] [(7, .int .u64 (((r0 / 2 ^ s) : Nat) : Int)), (6, .int .u64 (((q1 * 4294967296 + q0) : Nat) : Int))] ?_
    refine SW_ret ?_
    refine xe () (.tuple #[.int .u64 (((q1 * 4294967296 + q0) : Nat) : Int), .int .u64 (((r0 / 2 ^ s) : Nat) : Int)]) [] ?_ trivial
    rfl
end Go.Proofs.Ytlggnljibebfeaa.M
end
section
namespace Go.Proofs.Ytlggnljibebfeaa.M
open Go.RowKit Go.Proofs.Ytlggnljibebfeaa.G Go.Proofs.YtlggnljibebfeaaV.PrintWords Go.Proofs.YtlggnljibebfeaaV.PrintLast Go.Proofs.Ytlggnljibebfeaa.X
set_option linter.unusedVariables false
set_option linter.unusedSimpArgs false
theorem ct_impl_nat_divWord_rows (a : List Int) (A : Option Addr) (c d : Nat) (da : Dig B64 a) (hla : a.length ≤ 1000000) (hd : 0 < d) (hdB : d < 18446744073709551616) : ∀ r, Dig B64 r → Norm r → val B64 r = val B64 a / d → CtRV Try.prog 122 [.slice A a.length c, .int .u64 (d : Int)] [Row .u64 A c a] .u64 r (.int .u64 ((val B64 a % d : Nat) : Int)) := by
 intro r dr nr vr
 refine ct_of Try.func122 rfl (by kernel_rfl) (fun B w0 => ?_)
 have v0 : Ve (IntKind.i64.wrap ((a.length : Int) - 1)) ((a.length : Int) - 1) := ⟨wrap_i64 (by omega)⟩
 refine xr [] [(5, .int .u64 0), (4, .slice none 0 0)] ?_
 refine xg ?_
 refine xn 2 [] [(10, .int .i64 (((List.length a) : Nat) : Int))] ?_
 refine xma 11 36 (List.length a) IntKind.u64 8 ((((List.length a) : Nat) : Int)) ⟨rfl⟩ (by omega) (fun g0 => ?_)
 refine xz [] [(6, .slice (some ⟨g0, 0, none⟩) (List.length a) (List.length a))] ?_
 refine xr [] [(7, .int .u64 0)] ?_
 refine SW_seq ?_
 refine xg ?_
 refine xn 2 [] [(13, .int .i64 (((List.length a) : Nat) : Int))] ?_
 refine xve 14 IntKind.i64 (IntKind.wrap IntKind.i64 ((((List.length a) : Nat) : Int) - 1)) ((((List.length a) : Nat) : Int) - 1) v0 ?_
 refine xz [] [(8, .int .i64 ((((List.length a) : Nat) : Int) - 1))] ?_
 refine SW_then (fun s' => ∃ O : List Int, O.length = a.length ∧ Dig B64 O ∧ val B64 O * d + val B64 a % d = val B64 a ∧ Weak s' ⟨[(6, .slice (some ⟨g0, 0, none⟩) O.length a.length), (7, .int .u64 ((val B64 a % d : Nat) : Int))], [⟨g0, cl .u64 O [], 36⟩], [Row .u64 A c a]⟩) ?_ ?_
 ·refine SW_block ?_
  refine SW_loopn (fun m s => ∃ (O : List Int) (rest : Nat), m ≤ a.length ∧ O.length = a.length ∧ Dig B64 O ∧ rest < d ∧ val B64 (O.drop m) * d + rest = val B64 (a.drop m) ∧ Weak s ⟨[(0, .slice A a.length c), (1, .int .u64 (d : Int)), (6, .slice (some ⟨g0, 0, none⟩) a.length a.length), (7, .int .u64 (rest : Int)), (8, .int .i64 ((m : Int) - 1))], [⟨g0, cl .u64 O [], 36⟩], [Row .u64 A c a]⟩) a.length ⟨List.replicate a.length 0, 0, Nat.le_refl _, by simp, Dig.zeros B64_pos _, hd, by simp [val], ?_⟩ (fun m s ⟨O, rest, h1, h2, h3, h4, h5, hw⟩ => ?_)
  ·exact xw (zsS zi0 zs0)
  ·refine SW_weak hw ?_
   clear hw
   match m, h1, h5 with
   | 0, h1, h5 =>
    have z : decide (((0 : Nat) : Int) - 1 ≥ 0) = false := rfl
    rw [List.drop_zero, List.drop_zero] at h5
    obtain ⟨e1, e2⟩ := quot_of (show rest + val B64 O * d = val B64 a by omega) h4
    subst e2
    refine SW_seq ?_
    refine xr [] [(16, .bool false)] ?_
    refine xs0 ?_
    refine SW_exit ?_
    refine ⟨O, h2, h3, h5, ?_⟩
    rw [h2]
    exact xw (zsS zi0 zs0)
   | m + 1, h1, h5 =>
    have e0 : ((m + 1 : Nat) : Int) - 1 = (m : Int) := by omega
    rw [e0]
    have z : decide ((m : Int) ≥ 0) = true := decide_eq_true (by omega)
    refine SW_know zi0 (fun w h => row_at h (by omega)) (fun ⟨ad, e⟩ => ?_)
    subst e
    obtain ⟨x, hx, hxB⟩ := nat_rd da m
    have v1 : Ve (rd a (m : Int)) (x : Int) := ⟨hx⟩
    have v2 : Ve (IntKind.i64.wrap ((m : Int) - 1)) ((m : Int) - 1) := ⟨wrap_i64 (by omega)⟩
    have hq : (rest * 18446744073709551616 + x) / d < 18446744073709551616 := div_lt_base h4 hxB
    have hda := val_drop_rd B64 (l := a) (p := m) (by omega)
    rw [hx, Int.toNat_natCast] at hda
    have hdo := val_drop_rd B64 (l := O.set m (((rest * 18446744073709551616 + x) / d : Nat) : Int)) (p := m) (by rw [List.length_set]; omega)
    rw [rd_set_self O m _ (by omega), List.drop_set_of_lt (Nat.lt_succ_self m), Int.toNat_natCast] at hdo
    have hdm := Nat.div_add_mod (rest * 18446744073709551616 + x) d
    have hmod := Nat.mod_lt (rest * 18446744073709551616 + x) hd
    have hs2 : val B64 ((O.set m (((rest * 18446744073709551616 + x) / d : Nat) : Int)).drop m) * d + (rest * 18446744073709551616 + x) % d = val B64 (a.drop m) := by
     rw [hdo, hda, ← h5]
     exact dw_num hdm
    refine SW_seq ?_
    refine xr [] [(16, .bool (decide ((m : Int) ≥ 0)))] ?_
    refine xst z ?_
    refine SW_skip ?_
    refine SW_seq ?_
    refine SW_block ?_
    refine SW_region ?_
    refine xn 5 [] [(24, .int .i64 (m : Int)), (23, .slice (some ad) (List.length a) c), (22, .int .u64 (rest : Int)), (21, .int .i64 (m : Int)), (20, .slice (some ⟨g0, 0, none⟩) (List.length a) (List.length a))] ?_
    refine xfi 25 36 (ad) (List.length a) (c) (m) IntKind.i64 ((m : Int)) ⟨rfl⟩ (by omega) ?_
    refine xfle 26 zi0 (m) ((x : Int)) v1 (by omega) ?_
    refine xn 8 [] [(27, .int .u64 (d : Int))] ?_
    refine xcv 28 (ct_bits_Div64 (rest) (x) (d) hxB hdB h4) zs0 ?_
    refine xn 12 [] [(30, .int .u64 ((((rest * 18446744073709551616 + x) % d) : Nat) : Int)), (29, .int .u64 ((((rest * 18446744073709551616 + x) / d) : Nat) : Int))] ?_
    refine xoi 31 36 (g0) (List.length a) (List.length a) (m) IntKind.i64 ((m : Int)) ⟨rfl⟩ (by omega) ?_
    refine xos 0 (g0) (m) IntKind.u64 (O) ([]) 36 (((((rest * 18446744073709551616 + x) / d) : Nat) : Int)) (by first | omega | (simp <;> omega)) ?_
    refine xz [] [(7, .int .u64 ((((rest * 18446744073709551616 + x) % d) : Nat) : Int))] ?_
    refine SW_region ?_
    refine xn 1 [] [(17, .int .i64 (m : Int))] ?_
    refine xve 18 IntKind.i64 (IntKind.wrap IntKind.i64 ((m : Int) - 1)) ((m : Int) - 1) v2 ?_
    refine xz [] [(8, .int .i64 ((m : Int) - 1))] ?_
    refine ⟨m, by omega, _, _, by omega, by rw [List.length_set]; exact h2, h3.set _ (cast_dig hq), hmod, hs2, ?_⟩
    exact xw (zsS zi0 zs0)
 ·rintro s' ⟨O, h2, h3, h5, hw⟩
  refine SW_weak hw ?_
  clear hw
  have er : trimL O = r := norm_inj B64_pos h3.trim dr (norm_trim _) nr (by rw [val_trim, vr]; exact (quot_of (R := val B64 a % d) (by omega) (Nat.mod_lt _ hd)).1)
  have ct := ct_impl_trimmed O (some ⟨g0, 0, none⟩) O.length (by omega)
  rw [er] at ct
  rw [← h2]
  generalize val B64 a % d = w
  refine xg ?_
  refine xn 1 [] [(32, .slice (some ⟨g0, 0, none⟩) (List.length O) (List.length O))] ?_
  refine NW_fz 0 a.length g0 .u64 O [] 36 (by omega) (by omega) ?_
  rw [← h2]
  refine xcr 33 ct (zsS zi0 zs0) (fun A0 k0 => ?_)
  refine xz [] [(5, .int .u64 (w : Int)), (4, .slice A0 (List.length r) k0)] ?_
  refine SW_ret ?_
  refine xe (A0, k0) (.tuple #[.slice A0 (List.length r) k0, .int .u64 (w : Int)]) [] ?_ (zsS zi0 zs0)
  rfl
end Go.Proofs.Ytlggnljibebfeaa.M
end
section
namespace Go.Proofs.Ytlggnljibebfeaa.M
open Go.RowKit Go.Proofs.Ytlggnljibebfeaa.G Go.Proofs.YtlggnljibebfeaaV.PrintWords Go.Proofs.YtlggnljibebfeaaV.PrintLast Go.Proofs.Ytlggnljibebfeaa.X
set_option linter.unusedVariables false
set_option linter.unusedSimpArgs false
theorem half_ve (k : Nat) : Ve (shf .i64 (k : Int) 1) ((k / 2 : Nat) : Int) := ⟨by
 unfold shf
 rw [show min (Int.toNat 1) IntKind.i64.bits = 1 from rfl, Int.fdiv_eq_ediv_of_nonneg _ (Int.pow_nonneg (by decide))]
 omega⟩
theorem pow_step {a b k V : Nat} (h : a * b ^ k = V) (hk : k % 2 = 1) : a * b * (b * b) ^ (k / 2) = V := by
 rw [← h, pow_half b k, hk, Nat.pow_one, Nat.mul_assoc]
theorem pow_step0 {a b k V : Nat} (h : a * b ^ k = V) (hk : k % 2 = 0) : a * (b * b) ^ (k / 2) = V := by
 rw [← h, pow_half b k, hk, Nat.pow_zero, Nat.one_mul]
theorem pow_small {a b k V : Nat} (ha : 0 < a) (hb : 0 < b) (h : a * b ^ k = V) : a ≤ V ∧ (0 < k → b ≤ V) := by
 have hp : 0 < b ^ k := Nat.pow_pos hb
 refine ⟨by rw [← h]; exact Nat.le_mul_of_pos_right _ hp, fun hk => ?_⟩
 have h1 : b ^ 1 ≤ b ^ k := Nat.pow_le_pow_right hb hk
 rw [Nat.pow_one] at h1
 rw [← h]
 exact Nat.le_trans h1 (Nat.le_mul_of_pos_left _ ha)
theorem ct_impl_pow_rows (a : List Int) (A : Option Addr) (c : Nat) (da : Dig B64 a) (na : Norm a) (h0 : 0 < val B64 a) (E : Int) (e : Nat) (hE : Nn E e) (he : e ≤ 20000) (L : Nat) (hL1 : L ≤ 500000) (hL : val B64 a ^ e < B64 ^ L) : ∀ r, Dig B64 r → Norm r → val B64 r = val B64 a ^ e → CtR Try.prog 125 [.slice A a.length c, .int .i64 E] [Row .u64 A c a] .u64 r := by
 intro r dr nr vr
 obtain ⟨rfl⟩ := hE
 refine ct_of Try.func125 rfl (by kernel_rfl) (fun B w0 => ?_)
 obtain ⟨w1, d1, n1, v1⟩ := exists_nat 1
 have cw := ct_impl_word_rows 1 1 ⟨rfl⟩ (by unfold B64; decide) w1 d1 n1 v1
 refine xr [] [(4, .slice none 0 0)] ?_
 refine xg ?_
 refine xcr 6 cw zs0 (fun A0 k0 => ?_)
 refine xz [] [(5, .slice A0 (List.length w1) k0)] ?_
 refine SW_cut (fun s' => ∃ (Ac : Option Addr) (cc : Nat), Weak s' ⟨[(5, .slice Ac r.length cc)], [], [Row .u64 Ac cc r]⟩) ?_ ?_
 ·refine SW_block ?_
  refine SW_loopn (fun k s' => ∃ (x y : List Int) (Ax Ay : Option Addr) (cx cy : Nat), Dig B64 x ∧ Norm x ∧ Dig B64 y ∧ Norm y ∧ 0 < val B64 x ∧ 0 < val B64 y ∧ k ≤ e ∧ val B64 x * val B64 y ^ k = val B64 a ^ e ∧ Weak s' ⟨[(0, .slice Ay y.length cy), (1, .int .i64 (k : Int)), (5, .slice Ax x.length cx)], [], [Row .u64 Ax cx x, Row .u64 Ay cy y]⟩) e ⟨w1, a, A0, A, k0, c, d1, n1, da, na, by rw [v1]; decide, h0, Nat.le_refl _, by rw [v1, Nat.one_mul], ?_⟩ (fun k s' hI => ?_)
  ·exact xw (zsS zi0 (zsS (ziS zi0) zs0))
  ·obtain ⟨x, y, Ax, Ay, cx, cy, i1, i2, i3, i4, i5, i6, i7, i8, hw⟩ := hI
   refine SW_weak hw ?_
   clear hw
   obtain ⟨b1, b2⟩ := pow_small i5 i6 i8
   by_cases hk : 0 < k
   ·have z1 : decide ((k : Int) > 0) = true := decide_eq_true (by omega)
    have vh := half_ve k
    have va : Ve (bits .and .i64 (k : Int) 1) ((k % 2 : Nat) : Int) := ⟨and_one k (by omega)⟩
    have lx : x.length ≤ L := len_le_of_val i1 i2 (Nat.lt_of_le_of_lt b1 hL)
    have ly : y.length ≤ L := len_le_of_val i3 i4 (Nat.lt_of_le_of_lt (b2 hk) hL)
    clear b1 b2
    obtain ⟨yy, d3, n3, v3⟩ := exists_nat (val B64 y * val B64 y)
    have cyy := ct_impl_nat_mul_rows y y Ay Ay cy cy i3 i3 (by omega) (by omega) yy d3 n3 v3
    have py : 0 < val B64 yy := by rw [v3]; exact Nat.mul_pos i6 i6
    by_cases ho : k % 2 = 1
    ·have z2 : (((k % 2 : Nat) : Int) == 1) = true := beq_iff_eq.2 (by omega)
     obtain ⟨xy, d2, n2, v2⟩ := exists_nat (val B64 x * val B64 y)
     have cxy := ct_impl_nat_mul_rows x y Ax Ay cx cy i1 i3 (by omega) (by omega) xy d2 n2 v2
     have px : 0 < val B64 xy := by rw [v2]; exact Nat.mul_pos i5 i6
     have hst := pow_step i8 ho
     rw [← v2, ← v3] at hst
     by_cases h1 : 1 < k
     ·have z3 : decide ((k : Int) > 1) = true := decide_eq_true (by omega)
      refine SW_seq ?_
      refine xr [] [(8, .bool (decide ((k : Int) > 0)))] ?_
      refine xst z1 ?_
      refine SW_skip ?_
      refine SW_seq ?_
      refine SW_block ?_
      refine SW_seq ?_
      refine xg ?_
      refine xn 1 [] [(11, .int .i64 (k : Int))] ?_
      refine xve 12 IntKind.i64 (bits BinOp.and IntKind.i64 (k : Int) 1) ((((k % 2) : Nat) : Int)) va ?_
      refine xz [] [(13, .bool ((((k % 2) : Nat) : Int) == 1))] ?_
      refine xst z2 ?_
      refine SW_region ?_
      refine xn 2 [] [(15, .slice Ay (List.length y) cy), (14, .slice Ax (List.length x) cx)] ?_
      refine xcr 16 cxy (zsS zi0 (zsS (ziS zi0) zs0)) (fun A1 k1 => ?_)
      refine xz [] [(5, .slice A1 (List.length xy) k1)] ?_
      refine xr [] [(18, .bool (decide ((k : Int) > 1)))] ?_
      refine xst z3 ?_
      refine SW_region ?_
      refine xn 2 [] [(20, .slice Ay (List.length y) cy), (19, .slice Ay (List.length y) cy)] ?_
      refine xcr 21 cyy (zsS (ziS (ziS zi0)) (zsS (ziS (ziS zi0)) zs0)) (fun A2 k2 => ?_)
      refine xz [] [(0, .slice A2 (List.length yy) k2)] ?_
      refine SW_region ?_
      refine xn 1 [] [(9, .int .i64 (k : Int))] ?_
      refine xve 10 IntKind.i64 (shf IntKind.i64 (k : Int) 1) ((((k / 2) : Nat) : Int)) vh ?_
      refine xz [] [(1, .int .i64 (((k / 2) : Nat) : Int))] ?_
      refine ⟨k / 2, by omega, xy, yy, A1, A2, k1, k2, d2, n2, d3, n3, px, py, by omega, hst, ?_⟩
      exact xw (zsS (ziS zi0) (zsS zi0 zs0))
     ·have z3 : decide ((k : Int) > 1) = false := decide_eq_false (by omega)
      obtain rfl : k = 1 := by omega
      have vh1 : Ve (shf .i64 ((1 : Nat) : Int) 1) ((0 : Nat) : Int) := vh
      refine SW_seq ?_
      refine xr [] [(8, .bool true)] ?_
      refine xs1 ?_
      refine SW_skip ?_
      refine SW_seq ?_
      refine SW_block ?_
      refine SW_seq ?_
      refine xr [] [(13, .bool true)] ?_
      refine xs1 ?_
      refine SW_region ?_
      refine xn 2 [] [(15, .slice Ay (List.length y) cy), (14, .slice Ax (List.length x) cx)] ?_
      refine xcr 16 cxy (zsS zi0 (zsS (ziS zi0) zs0)) (fun A1 k1 => ?_)
      refine xz [] [(5, .slice A1 (List.length xy) k1)] ?_
      refine xr [] [(18, .bool false)] ?_
      refine xs0 ?_
      refine SW_skip ?_
      refine xrl [] [(1, .int .i64 0)] ?_
      refine ⟨0, by omega, xy, y, A1, Ay, k1, cy, d2, n2, i3, i4, px, i6, by omega, by rw [Nat.pow_zero, v2]; rw [Nat.pow_one] at i8; omega, ?_⟩
      exact xw (zsS zi0 (zsS (ziS (ziS zi0)) zs0))
    ·have z2 : (((k % 2 : Nat) : Int) == 1) = false := by rw [beq_eq_false_iff_ne]; omega
     have z3 : decide ((k : Int) > 1) = true := decide_eq_true (by omega)
     have hst := pow_step0 i8 (by omega)
     rw [← v3] at hst
     refine SW_seq ?_
     refine xr [] [(8, .bool (decide ((k : Int) > 0)))] ?_
     refine xst z1 ?_
     refine SW_skip ?_
     refine SW_seq ?_
     refine SW_block ?_
     refine SW_seq ?_
     refine xg ?_
     refine xn 1 [] [(11, .int .i64 (k : Int))] ?_
     refine xve 12 IntKind.i64 (bits BinOp.and IntKind.i64 (k : Int) 1) ((((k % 2) : Nat) : Int)) va ?_
     refine xz [] [(13, .bool ((((k % 2) : Nat) : Int) == 1))] ?_
     refine xsf z2 ?_
     refine SW_skip ?_
     refine xr [] [(18, .bool (decide ((k : Int) > 1)))] ?_
     refine xst z3 ?_
     refine SW_region ?_
     refine xn 2 [] [(20, .slice Ay (List.length y) cy), (19, .slice Ay (List.length y) cy)] ?_
     refine xcr 21 cyy (zsS (ziS zi0) (zsS (ziS zi0) zs0)) (fun A1 k1 => ?_)
     refine xz [] [(0, .slice A1 (List.length yy) k1)] ?_
     refine SW_region ?_
     refine xn 1 [] [(9, .int .i64 (k : Int))] ?_
     refine xve 10 IntKind.i64 (shf IntKind.i64 (k : Int) 1) ((((k / 2) : Nat) : Int)) vh ?_
     refine xz [] [(1, .int .i64 (((k / 2) : Nat) : Int))] ?_
     refine ⟨k / 2, by omega, x, yy, Ax, A1, cx, k1, i1, i2, d3, n3, i5, py, by omega, hst, ?_⟩
     exact xw (zsS (ziS zi0) (zsS zi0 zs0))
   ·have z1 : decide ((k : Int) > 0) = false := decide_eq_false (by omega)
    obtain rfl : k = 0 := by omega
    rw [Nat.pow_zero, Nat.mul_one] at i8
    have er : x = r := norm_inj B64_pos i1 dr i2 nr (by rw [vr, i8])
    rw [← er]
    refine SW_seq ?_
    refine xr [] [(8, .bool false)] ?_
    refine xs0 ?_
    refine SW_exit ?_
    refine ⟨Ax, cx, ?_⟩
    exact xw (zsS zi0 zs0)
 ·rintro s' ⟨Ac, cc, hw⟩
  refine SW_weak hw ?_
  clear hw
  refine xr [] [(4, .slice Ac (List.length r) cc)] ?_
  refine SW_ret ?_
  refine xe (Ac, cc) (.slice Ac (List.length r) cc) [] ?_ (zsS zi0 zs0)
  rfl
theorem ct_impl_ten_rows (E : Int) (e : Nat) (hE : Nn E e) (he : e ≤ 20000) : ∀ r, Dig B64 r → Norm r → val B64 r = 10 ^ e → CtR Try.prog 98 [.int .i64 E] [] .u64 r := by
 intro r dr nr vr
 obtain ⟨rfl⟩ := hE
 refine ct_of Try.func98 rfl (by kernel_rfl) (fun B w0 => ?_)
 obtain ⟨w1, d1, n1, v1⟩ := exists_nat 10
 have cw := ct_impl_word_rows 10 10 ⟨rfl⟩ (by unfold B64; decide) w1 d1 n1 v1
 have h1 : 0 < val B64 w1 := by rw [v1]; decide
 have hL : val B64 w1 ^ e < B64 ^ (e + 1) := by
  rw [v1]
  refine Nat.lt_of_lt_of_le (Nat.lt_of_le_of_lt (Nat.pow_le_pow_left (show 10 ≤ B64 by unfold B64; decide) e) ?_) (Nat.le_refl _)
  exact Nat.pow_lt_pow_right (by unfold B64; decide) (Nat.lt_succ_self e)
 have vr' : val B64 r = val B64 w1 ^ e := by rw [v1]; exact vr
 have hL1 : e + 1 ≤ 500000 := by omega
 clear vr
 refine xr [] [(2, .slice none 0 0)] ?_
 refine xg ?_
 refine xcr 3 cw zs0 (fun A0 k0 => ?_)
 refine xn 2 [] [(4, .int .i64 (e : Int))] ?_
 refine xcr 5 (ct_impl_pow_rows (w1) (A0) (k0) d1 n1 h1 ((e : Int)) (e) ⟨rfl⟩ he (e + 1) hL1 hL (r) dr nr vr') (zsS zi0 zs0) (fun A1 k1 => ?_)
 refine xz [] [(2, .slice A1 (List.length r) k1)] ?_
 refine SW_ret ?_
 refine xe (A1, k1) (.slice A1 (List.length r) k1) [] ?_ (zsS zi0 zs0)
 rfl
end Go.Proofs.Ytlggnljibebfeaa.M
end
section
namespace Go.Proofs.Ytlggnljibebfeaa.M
open Go.RowKit Go.Proofs.Ytlggnljibebfeaa.G Go.Proofs.YtlggnljibebfeaaV.PrintWords Go.Proofs.YtlggnljibebfeaaV.PrintLast Go.Proofs.Ytlggnljibebfeaa.X
set_option linter.unusedVariables false
set_option linter.unusedSimpArgs false
theorem ct_spec_l1Trim (l : List Int) (A : Option Addr) (c : Nat) (hl : l.length ≤ 1000000000000) : CtR Try.prog 94 [.slice A l.length c] [Row .u64 A c l] .u64 (trimL l) := by
 refine ct_of Try.func94 rfl (by kernel_rfl) (fun B w0 => ?_)
 refine SW_know zi0 (fun w h => h.2) (fun hc => ?_)
 refine xr [] [(2, .slice none 0 0)] ?_
 refine xr [] [(3, .int .i64 (((List.length l) : Nat) : Int))] ?_
 refine SW_cut (fun s' => ∃ m : Nat, m ≤ l.length ∧ trimL l = l.take m ∧ Weak s' ⟨[(0, .slice A l.length c), (3, .int .i64 (m : Int))], [], [Row .u64 A c l]⟩) ?_ ?_
 ·refine SW_block ?_
  refine SW_loopn (fun m s => m ≤ l.length ∧ (∀ i : Nat, m ≤ i → rd l i = 0) ∧ Weak s ⟨[(0, .slice A l.length c), (3, .int .i64 (m : Int))], [], [Row .u64 A c l]⟩) l.length ⟨Nat.le_refl _, fun i hi => rd_of_ge l i (by simpa using hi), ?_⟩ (fun m s hI => ?_)
  ·exact xw (zsS zi0 zs0)
  ·obtain ⟨h1, h2, hw⟩ := hI
   refine SW_weak hw ?_
   clear hw
   by_cases h0 : m = 0
   ·have z0 : decide ((m : Int) > 0) = false := decide_eq_false (by omega)
    have e := trimL_take _ rfl h1 h2 (fun z => absurd h0 (by omega))
    refine SW_seq ?_
    refine xg ?_
    refine xn 3 [] [(9, .bool (decide ((m : Int) > 0)))] ?_
    refine xkf 9 z0 ?_
    refine xz [] [(16, .bool false)] ?_
    refine xs0 ?_
    refine SW_exit ?_
    refine ⟨m, h1, e, ?_⟩
    exact xw (zsS zi0 zs0)
   ·have z0 : decide ((m : Int) > 0) = true := decide_eq_true (by omega)
    refine SW_know zi0 (fun w h => row_at h (by omega)) (fun ⟨ad, e⟩ => ?_)
    subst e
    have wi : Ve (IntKind.i64.wrap ((m : Int) - 1)) ((m - 1 : Nat) : Int) := veI (by omega) (by omega)
    by_cases hz : rd l ((m - 1 : Nat) : Int) = 0
    ·have z1 : (rd l ((m - 1 : Nat) : Int) == 0) = true := beq_iff_eq.2 hz
     refine SW_seq ?_
     refine xg ?_
     refine xn 3 [] [(9, .bool (decide ((m : Int) > 0)))] ?_
     refine xkt 9 z0 ?_
     refine xn 5 [] [(11, .int .i64 (m : Int)), (10, .slice (some ad) (List.length l) c)] ?_
     refine xve 12 IntKind.i64 (IntKind.wrap IntKind.i64 ((m : Int) - 1)) ((((m - 1) : Nat) : Int)) wi ?_
     refine xfi 13 36 (ad) (List.length l) (c) (m - 1) IntKind.i64 ((((m - 1) : Nat) : Int)) ⟨rfl⟩ (by omega) ?_
     refine xfl 14 zi0 (m - 1) (by omega) ?_
     refine xz [] [(16, .bool (rd l (((m - 1) : Nat) : Int) == 0))] ?_
     refine xst z1 ?_
     refine SW_skip ?_
     refine SW_block ?_
     refine SW_region ?_
     refine xn 1 [] [(17, .int .i64 (m : Int))] ?_
     refine xve 18 IntKind.i64 (IntKind.wrap IntKind.i64 ((m : Int) - 1)) ((((m - 1) : Nat) : Int)) wi ?_
     refine xz [] [(3, .int .i64 (((m - 1) : Nat) : Int))] ?_
     refine ⟨m - 1, by omega, by omega, fun i hi => ?_, ?_⟩
     ·rcases Nat.eq_or_lt_of_le hi with h | h
      ·rw [← h]; exact hz
      ·exact h2 i (by omega)
     ·exact xw (zsS zi0 zs0)
    ·have z1 : (rd l ((m - 1 : Nat) : Int) == 0) = false := by rw [beq_eq_false_iff_ne]; exact hz
     have e := trimL_take _ rfl h1 h2 (fun _ => hz)
     refine SW_seq ?_
     refine xg ?_
     refine xn 3 [] [(9, .bool (decide ((m : Int) > 0)))] ?_
     refine xkt 9 z0 ?_
     refine xn 5 [] [(11, .int .i64 (m : Int)), (10, .slice (some ad) (List.length l) c)] ?_
     refine xve 12 IntKind.i64 (IntKind.wrap IntKind.i64 ((m : Int) - 1)) ((((m - 1) : Nat) : Int)) wi ?_
     refine xfi 13 36 (ad) (List.length l) (c) (m - 1) IntKind.i64 ((((m - 1) : Nat) : Int)) ⟨rfl⟩ (by omega) ?_
     refine xfl 14 zi0 (m - 1) (by omega) ?_
     refine xz [] [(16, .bool (rd l (((m - 1) : Nat) : Int) == 0))] ?_
     refine xsf z1 ?_
     refine SW_exit ?_
     refine ⟨m, h1, e, ?_⟩
     exact xw (zsS zi0 zs0)
 ·rintro s' ⟨m, h1, e, hw⟩
  refine SW_weak hw ?_
  clear hw
  rw [e]
  obtain ⟨y, hy⟩ : ∃ y, l.take m = y := ⟨_, rfl⟩
  obtain rfl : m = y.length := by rw [← hy, List.length_take]; omega
  have hz : y ++ (List.replicate y.length 0).drop y.length = y := by simp
  refine SW_fact (G := Row .u64 A c y) zi0 (fun w h => by have := row_take y.length c (by omega) h; rwa [hy] at this) ?_
  rw [hy]
  clear e
  refine xg ?_
  refine xn 1 [] [(19, .int .i64 (((List.length y) : Nat) : Int))] ?_
  refine xma 20 36 (List.length y) IntKind.u64 8 ((((List.length y) : Nat) : Int)) ⟨rfl⟩ (by omega) (fun g0 => ?_)
  refine xz [] [(4, .slice (some ⟨g0, 0, none⟩) (List.length y) (List.length y))] ?_
  refine xg ?_
  refine xn 3 [] [(23, .int .i64 (((List.length y) : Nat) : Int)), (22, .slice A (List.length l) c), (21, .slice (some ⟨g0, 0, none⟩) (List.length y) (List.length y))] ?_
  refine xsh 24 36 (A) (List.length l) (c) (List.length y) IntKind.i64 ((((List.length y) : Nat) : Int)) ⟨rfl⟩ (by omega) ?_
  refine xcq 25 0 36 (g0) (List.length y) (List.length y) (c) (List.replicate (List.length y) 0) ([]) zi0 (by first | rfl | (simp <;> omega)) (by first | omega | (simp <;> omega)) hz ?_
  refine xz [] [] ?_
  refine xr [] [(2, .slice (some ⟨g0, 0, none⟩) (List.length y) (List.length y))] ?_
  refine SW_fz 0 (List.length y) (g0) IntKind.u64 (y) ([]) 36 (by first | omega | (simp <;> omega)) (by first | omega | (simp <;> omega)) ?_
  refine SW_ret ?_
  refine xe (some ⟨g0, 0, none⟩, List.length y) (.slice (some ⟨g0, 0, none⟩) (List.length y) (List.length y)) [] ?_ (zsS zi0 zs0)
  rfl
theorem nat_rd32 {l : List Int} (d : Dig B32 l) (i : Nat) : ∃ x : Nat, rd l (i : Int) = (x : Int) ∧ x < 4294967296 := ⟨(rd l i).toNat, by have := (d.rd B32_pos i).1; omega, by have := d.rd B32_pos i; unfold B32 at this; omega⟩
theorem ct_spec_l1At (l : List Int) (A : Option Addr) (c : Nat) (N : Int) (n : Nat) (hN : Nn N n) (x : Int) (hx : Ve (rd l (n : Int)) x) (hl : l.length ≤ 1000000000000) : CtV Try.prog 101 [.slice A l.length c, .int .i64 N] [Row .u64 A c l] (.int .u64 x) := by
 obtain ⟨rfl⟩ := hN
 obtain ⟨rfl⟩ := hx
 refine ct_of Try.func101 rfl (by kernel_rfl) (fun B w0 => ?_)
 by_cases h : n < l.length
 ·have z : decide ((n : Int) < (l.length : Int)) = true := decide_eq_true (by omega)
  refine SW_know zi0 (fun w h => row_at h (by omega)) (fun ⟨ad, e⟩ => ?_)
  subst e
  refine xr [] [(4, .int .u64 0)] ?_
  refine SW_seq ?_
  refine xr [] [(8, .bool (decide ((n : Int) < (((List.length l) : Nat) : Int))))] ?_
  refine xst z ?_
  refine xg ?_
  refine xn 2 [] [(10, .int .i64 (n : Int)), (9, .slice (some ad) (List.length l) c)] ?_
  refine xfi 11 36 (ad) (List.length l) (c) (n) IntKind.i64 ((n : Int)) ⟨rfl⟩ (by omega) ?_
  refine xfl 12 zi0 (n) (by omega) ?_
  refine xz [] [(4, .int .u64 (rd l (n : Int)))] ?_
  refine SW_ret ?_
  refine xe () (.int .u64 (rd l (n : Int))) [] ?_ trivial
  rfl
 ·have z : decide ((n : Int) < (l.length : Int)) = false := decide_eq_false (by omega)
  rw [rd_of_ge l n (by simpa using h)]
  refine xr [] [(4, .int .u64 0)] ?_
  refine SW_seq ?_
  refine xr [] [(8, .bool (decide ((n : Int) < (((List.length l) : Nat) : Int))))] ?_
  refine xsf z ?_
  refine SW_skip ?_
  refine xr [] [(4, .int .u64 0)] ?_
  refine SW_ret ?_
  refine xe () (.int .u64 0) [] ?_ trivial
  rfl
theorem add32_step {a b O : List Int} {i x y cy : Nat} (hx : rd a (i : Int) = (x : Int)) (hy : rd b (i : Int) = (y : Int)) (hl : O.length = i) (hv : val B32 O + B32 ^ i * cy = val B32 (a.take i) + val B32 (b.take i)) :
  val B32 (O ++ [(((x + y + cy) % 4294967296 : Nat) : Int)]) + B32 ^ (i + 1) * ((x + y + cy) / 4294967296) = val B32 (a.take (i + 1)) + val B32 (b.take (i + 1)) := by
 rw [val_snoc, val_take_succ, val_take_succ, hl, hx, hy, Nat.pow_succ, Nat.mul_assoc]
 simp only [Int.toNat_natCast]
 have h := congrArg (B32 ^ i * ·) (Nat.mod_add_div (x + y + cy) 4294967296)
 rw [show B32 * ((x + y + cy) / 4294967296) = 4294967296 * ((x + y + cy) / 4294967296) from rfl]
 generalize (x + y + cy) % 4294967296 = m at *
 generalize 4294967296 * ((x + y + cy) / 4294967296) = q at *
 generalize B32 ^ i = P at *
 simp only [Nat.mul_add] at h ⊢
 omega
theorem cast_dig32 {n : Nat} (h : n < 4294967296) : 0 ≤ (n : Int) ∧ (n : Int) < (B32 : Int) := by unfold B32; omega
theorem val_lt_len {B : Nat} (hB : 0 < B) {l : List Int} (h : Dig B l) {n : Nat} (hn : l.length ≤ n) : val B l < B ^ n := Nat.lt_of_lt_of_le (val_lt h) (Nat.pow_le_pow_right hB hn)
theorem ct_spec_l1Add_rows (a b : List Int) (A A' : Option Addr) (c c' : Nat) (da : Dig B32 a) (db : Dig B32 b) (hla : a.length ≤ 1000000000) (hlb : b.length ≤ 1000000000) : ∀ r, Dig B32 r → Norm r → val B32 r = val B32 a + val B32 b → CtR Try.prog 57 [.slice A a.length c, .slice A' b.length c'] [Row .u64 A c a, Row .u64 A' c' b] .u64 r := by
 intro r dr nr vr
 refine ct_of Try.func57 rfl (by kernel_rfl) (fun B w0 => ?_)
 obtain ⟨n, hn, hn1, hn2, hn3⟩ : ∃ n, n = max a.length b.length ∧ a.length ≤ n ∧ b.length ≤ n ∧ n ≤ 1000000000 := ⟨_, rfl, by omega, by omega, by omega⟩
 refine xr [] [(4, .slice none 0 0)] ?_
 refine xr [] [(5, .int .i64 (((List.length a) : Nat) : Int))] ?_
 refine SW_cut (fun s' => Weak s' ⟨[(0, .slice A a.length c), (1, .slice A' b.length c'), (5, .int .i64 (n : Int))], [], [Row .u64 A c a, Row .u64 A' c' b]⟩) ?_ ?_
 ·by_cases h : b.length > a.length
  ·have z : decide ((b.length : Int) > (a.length : Int)) = true := decide_eq_true (by omega)
   obtain rfl : n = b.length := by omega
   refine xr [] [(15, .bool (decide ((((List.length b) : Nat) : Int) > (((List.length a) : Nat) : Int))))] ?_
   refine xst z ?_
   refine xrl [] [(5, .int .i64 (((List.length b) : Nat) : Int))] ?_
   exact xw (zsS zi0 (zsS (ziS zi0) zs0))
  ·have z : decide ((b.length : Int) > (a.length : Int)) = false := decide_eq_false (by omega)
   obtain rfl : n = a.length := by omega
   refine xr [] [(15, .bool (decide ((((List.length b) : Nat) : Int) > (((List.length a) : Nat) : Int))))] ?_
   refine xsf z ?_
   refine SW_skip ?_
   exact xw (zsS zi0 (zsS (ziS zi0) zs0))
 ·rintro s' hw
  refine SW_weak hw ?_
  clear hw
  refine xr [] [(6, .slice none 0 0)] ?_
  refine xr [] [(7, .int .u64 0)] ?_
  refine SW_seq ?_
  refine xr [] [(8, .int .i64 0)] ?_
  refine SW_then (fun s' => ∃ (sl : Value) (bs : List Box) (O : List Int), Own 36 .u64 sl bs O ∧ Dig B32 O ∧ O.length = n + 1 ∧ val B32 O = val B32 a + val B32 b ∧ Weak s' ⟨[(6, sl)], bs, []⟩) ?_ ?_
  ·refine SW_block ?_
   refine SW_loopn (fun m s' => ∃ (sl : Value) (bs : List Box) (O : List Int) (i cy : Nat), m + i = n + 1 ∧ Own 36 .u64 sl bs O ∧ Dig B32 O ∧ O.length = i ∧ cy ≤ 1 ∧ val B32 O + B32 ^ i * cy = val B32 (a.take i) + val B32 (b.take i) ∧ Weak s' ⟨[(0, .slice A a.length c), (1, .slice A' b.length c'), (5, .int .i64 (n : Int)), (6, sl), (7, .int .u64 (cy : Int)), (8, .int .i64 (i : Int))], bs, [Row .u64 A c a, Row .u64 A' c' b]⟩) (n + 1) ⟨_, _, [], 0, 0, rfl, Own.nil 36 .u64, Dig.nil _, rfl, by decide, rfl, ?_⟩ (fun m s' hI => ?_)
   ·exact xw (zsS zi0 (zsS (ziS zi0) zs0))
   ·obtain ⟨sl0, bs0, O, i, cy, k1, hO0, k3, k4, k5, k6, hw⟩ := hI
    refine SW_weak hw ?_
    clear hw
    by_cases hi : i ≤ n
    ·have z : decide ((i : Int) ≤ (n : Int)) = true := decide_eq_true (by omega)
     obtain ⟨m, rfl⟩ : ∃ m', m = m' + 1 := ⟨m - 1, by omega⟩
     obtain ⟨x, hx, hxB⟩ := nat_rd32 da i
     obtain ⟨y, hy, hyB⟩ := nat_rd32 db i
     have v1 : Ve (rd a (i : Int)) (x : Int) := ⟨hx⟩
     have v2 : Ve (rd b (i : Int)) (y : Int) := ⟨hy⟩
     have v3 : Ve (IntKind.u64.wrap ((x : Int) + (y : Int))) ((x + y : Nat) : Int) := veU (by omega) (by omega)
     have v4 : Ve (IntKind.u64.wrap (((x + y : Nat) : Int) + (cy : Int))) ((x + y + cy : Nat) : Int) := veU (by omega) (by omega)
     have v5 := low_ve (x + y + cy) (by omega)
     have v6 := high_ve (x + y + cy)
     have v7 : Ve (IntKind.i64.wrap ((i : Int) + 1)) ((i + 1 : Nat) : Int) := veI (by omega) (by omega)
     have hst := add32_step hx hy k4 k6
     refine SW_seq ?_
     refine xr [] [(20, .bool (decide ((i : Int) ≤ (n : Int))))] ?_
     refine xst z ?_
     refine SW_skip ?_
     refine SW_seq ?_
     refine SW_block ?_
     refine xg ?_
     refine xn 2 [] [(24, .int .i64 (i : Int)), (23, .slice A (List.length a) c)] ?_
     refine xcv 25 (ct_spec_l1At (a) (A) (c) ((i : Int)) (i) ⟨rfl⟩ ((x : Int)) v1 (by omega)) (zsS zi0 zs0) ?_
     refine xn 5 [] [(27, .int .i64 (i : Int)), (26, .slice A' (List.length b) c')] ?_
     refine xcv 28 (ct_spec_l1At (b) (A') (c') ((i : Int)) (i) ⟨rfl⟩ ((y : Int)) v2 (by omega)) (zsS (ziS zi0) zs0) ?_
     refine xve 29 IntKind.u64 (IntKind.wrap IntKind.u64 ((x : Int) + (y : Int))) ((((x + y) : Nat) : Int)) v3 ?_
     refine xn 8 [] [(30, .int .u64 (cy : Int))] ?_
     refine xve 31 IntKind.u64 (IntKind.wrap IntKind.u64 ((((x + y) : Nat) : Int) + (cy : Int))) ((((x + y + cy) : Nat) : Int)) v4 ?_
     refine xz [] [(9, .int .u64 (((x + y + cy) : Nat) : Int))] ?_
     refine xg ?_
     refine xn 2 [] [(33, .int .u64 (((x + y + cy) : Nat) : Int)), (32, sl0)] ?_
     refine xve 34 IntKind.u64 (bits BinOp.and IntKind.u64 (((x + y + cy) : Nat) : Int) 4294967295) (((((x + y + cy) % 4294967296) : Nat) : Int)) v5 ?_
     refine xbl 35 [.int .u64 ((((x + y + cy) % 4294967296) : Nat) : Int)] 36 1 (fun g0 => ?_)
     refine xow 36 8 (g0) (1) [((((x + y + cy) % 4294967296) : Nat) : Int)] hO0 (by first | omega | (simp <;> omega)) (fun sl1 bs1 hO1 => ?_)
     refine xz [] [(6, sl1)] ?_
     refine SW_region ?_
     refine xn 1 [] [(37, .int .u64 (((x + y + cy) : Nat) : Int))] ?_
     refine xve 38 IntKind.u64 (shf IntKind.u64 (((x + y + cy) : Nat) : Int) 32) (((((x + y + cy) / 4294967296) : Nat) : Int)) v6 ?_
     refine xz [] [(7, .int .u64 ((((x + y + cy) / 4294967296) : Nat) : Int))] ?_
     refine SW_region ?_
     refine xn 1 [] [(21, .int .i64 (i : Int))] ?_
     refine xve 22 IntKind.i64 (IntKind.wrap IntKind.i64 ((i : Int) + 1)) ((((i + 1) : Nat) : Int)) v7 ?_
     refine xz [] [(8, .int .i64 (((i + 1) : Nat) : Int))] ?_
     refine ⟨m, by omega, sl1, bs1, _, i + 1, (x + y + cy) / 4294967296, by omega, hO1, k3.snoc (cast_dig32 (Nat.mod_lt _ (by decide))), by rw [List.length_append, k4]; rfl, by omega, hst, ?_⟩
     exact xw (zsS zi0 (zsS (ziS zi0) zs0))
    ·have z : decide ((i : Int) ≤ (n : Int)) = false := decide_eq_false (by omega)
     obtain rfl : i = n + 1 := by omega
     rw [List.take_of_length_le (by omega), List.take_of_length_le (by omega)] at k6
     have hcy : cy = 0 := by
      have h1 := val_lt_len B32_pos da hn1
      have h2 := val_lt_len B32_pos db hn2
      rcases Nat.lt_or_ge cy 1 with h | h
      ·omega
      ·obtain rfl : cy = 1 := by omega
       rw [Nat.pow_succ, Nat.mul_one] at k6
       have h3 : B32 ^ n * 2 ≤ B32 ^ n * B32 := Nat.mul_le_mul_left _ (by unfold B32; decide)
       omega
     rw [hcy, Nat.mul_zero, Nat.add_zero] at k6
     refine SW_seq ?_
     refine xr [] [(20, .bool (decide ((((n + 1) : Nat) : Int) ≤ (n : Int))))] ?_
     refine xsf z ?_
     refine SW_exit ?_
     refine ⟨sl0, bs0, O, hO0, k3, k4, k6, ?_⟩
     exact xw zs0
  ·rintro s' ⟨sl, bs, O, hO, dO, lO, vO, hw⟩
   refine SW_weak hw ?_
   clear hw
   refine SW_own hO (by omega) (fun Ao co e => ?_)
   subst e
   have er : trimL O = r := norm_inj B32_pos dO.trim dr (norm_trim _) nr (by rw [val_trim, vO, vr])
   have ct := ct_spec_l1Trim O Ao co (by omega)
   rw [er] at ct
   refine xg ?_
   refine xn 1 [] [(39, .slice Ao (List.length O) co)] ?_
   refine xcr 40 ct (zsS zi0 zs0) (fun A0 k0 => ?_)
   refine xz [] [(4, .slice A0 (List.length r) k0)] ?_
   refine SW_ret ?_
   refine xe (A0, k0) (.slice A0 (List.length r) k0) [] ?_ (zsS zi0 zs0)
   rfl
end Go.Proofs.Ytlggnljibebfeaa.M
end
section
namespace Go.Proofs.Ytlggnljibebfeaa.M
open Go.RowKit Go.Proofs.Ytlggnljibebfeaa.G Go.Proofs.YtlggnljibebfeaaV.PrintWords Go.Proofs.YtlggnljibebfeaaV.PrintLast Go.Proofs.Ytlggnljibebfeaa.X
set_option linter.unusedVariables false
set_option linter.unusedSimpArgs false
theorem in_step {l O : List Int} {i x : Nat} (hx : rd l (i : Int) = (x : Int)) (hl : O.length = 2 * i) (hv : val B32 O = val B64 (l.take i)) : val B32 (O ++ [((x % 4294967296 : Nat) : Int), ((x / 4294967296 : Nat) : Int)]) = val B64 (l.take (i + 1)) := by
 rw [val_append, val_take_succ, hx, hv, hl, Nat.pow_mul, show B32 ^ 2 = B64 from rfl]
 congr 2
 simp only [val_cons, Int.toNat_natCast]
 unfold B32
 simp only [val]
 omega
theorem ct_spec_l1In_rows (l : List Int) (A : Option Addr) (c : Nat) (dl : Dig B64 l) (hl : l.length ≤ 1000000000) : ∀ r, Dig B32 r → Norm r → val B32 r = val B64 l → CtR Try.prog 47 [.slice A l.length c] [Row .u64 A c l] .u64 r := by
 intro r dr nr vr
 refine ct_of Try.func47 rfl (by kernel_rfl) (fun B w0 => ?_)
 refine xr [] [(2, .slice none 0 0)] ?_
 refine xr [] [(3, .slice none 0 0)] ?_
 refine SW_seq ?_
 refine xr [] [(8, .int .i64 0), (7, .int .i64 (((List.length l) : Nat) : Int)), (6, .slice A (List.length l) c)] ?_
 refine SW_then (fun s' => ∃ (sl : Value) (bs : List Box) (O : List Int), Own 36 .u64 sl bs O ∧ Dig B32 O ∧ O.length = 2 * l.length ∧ val B32 O = val B64 l ∧ Weak s' ⟨[(3, sl)], bs, []⟩) ?_ ?_
 ·refine SW_block ?_
  refine SW_loopn (fun m s' => ∃ (sl : Value) (bs : List Box) (O : List Int) (i : Nat), m + i = l.length ∧ Own 36 .u64 sl bs O ∧ Dig B32 O ∧ O.length = 2 * i ∧ val B32 O = val B64 (l.take i) ∧ Weak s' ⟨[(3, sl), (6, .slice A l.length c), (7, .int .i64 (l.length : Int)), (8, .int .i64 (i : Int))], bs, [Row .u64 A c l]⟩) l.length ⟨_, _, [], 0, rfl, Own.nil 36 .u64, Dig.nil _, rfl, rfl, ?_⟩ (fun m s' hI => ?_)
  ·exact xw (zsS zi0 zs0)
  ·obtain ⟨sl0, bs0, O, i, k1, hO0, k3, k4, k6, hw⟩ := hI
   refine SW_weak hw ?_
   clear hw
   by_cases hi : i < l.length
   ·have z : decide ((i : Int) < (l.length : Int)) = true := decide_eq_true (by omega)
    obtain ⟨m, rfl⟩ : ∃ m', m = m' + 1 := ⟨m - 1, by omega⟩
    refine SW_know zi0 (fun w h => row_at h (by omega)) (fun ⟨ad, e⟩ => ?_)
    subst e
    obtain ⟨x, hx, hxB⟩ := nat_rd dl i
    have v1 : Ve (rd l (i : Int)) (x : Int) := ⟨hx⟩
    have v5 := low_ve x hxB
    have v6 := high_ve x
    have v7 : Ve (IntKind.i64.wrap ((i : Int) + 1)) ((i + 1 : Nat) : Int) := veI (by omega) (by omega)
    have hst := in_step hx k4 k6
    refine xr [] [(9, .bool (decide ((i : Int) < (((List.length l) : Nat) : Int))))] ?_
    refine SW_seq ?_
    refine xst z ?_
    refine SW_skip ?_
    refine SW_seq ?_
    refine SW_block ?_
    refine xg ?_
    refine xfi 10 36 (ad) (List.length l) (c) (i) IntKind.i64 ((i : Int)) ⟨rfl⟩ (by omega) ?_
    refine xfle 11 zi0 (i) ((x : Int)) v1 (by omega) ?_
    refine xz [] [(5, .int .u64 (x : Int))] ?_
    refine SW_region ?_
    refine xn 2 [] [(13, .int .u64 (x : Int)), (12, sl0)] ?_
    refine xve 14 IntKind.u64 (bits BinOp.and IntKind.u64 (x : Int) 4294967295) ((((x % 4294967296) : Nat) : Int)) v5 ?_
    refine xn 4 [] [(15, .int .u64 (x : Int))] ?_
    refine xve 16 IntKind.u64 (shf IntKind.u64 (x : Int) 32) ((((x / 4294967296) : Nat) : Int)) v6 ?_
    refine xbl 17 [.int .u64 (((x % 4294967296) : Nat) : Int), .int .u64 (((x / 4294967296) : Nat) : Int)] 36 2 (fun g0 => ?_)
    refine xow 18 8 (g0) (2) [(((x % 4294967296) : Nat) : Int), (((x / 4294967296) : Nat) : Int)] hO0 (by first | omega | (simp <;> omega)) (fun sl1 bs1 hO1 => ?_)
    refine xz [] [(3, sl1)] ?_
    refine SW_region ?_
    refine xve 19 IntKind.i64 (IntKind.wrap IntKind.i64 ((i : Int) + 1)) ((((i + 1) : Nat) : Int)) v7 ?_
    refine xz [] [(8, .int .i64 (((i + 1) : Nat) : Int))] ?_
    refine ⟨m, by omega, sl1, bs1, _, i + 1, by omega, hO1, k3.append (Dig.cons (cast_dig32 (Nat.mod_lt _ (by decide))) (Dig.cons (cast_dig32 (by omega)) (Dig.nil _))), by rw [List.length_append, k4]; simp; omega, hst, ?_⟩
    exact xw (zsS zi0 zs0)
   ·have z : decide ((i : Int) < (l.length : Int)) = false := decide_eq_false (by omega)
    obtain rfl : i = l.length := by omega
    rw [List.take_length] at k6
    refine xr [] [(9, .bool (decide ((((List.length l) : Nat) : Int) < (((List.length l) : Nat) : Int))))] ?_
    refine SW_seq ?_
    refine xsf z ?_
    refine SW_exit ?_
    refine ⟨sl0, bs0, O, hO0, k3, k4, k6, ?_⟩
    exact xw zs0
 ·rintro s' ⟨sl, bs, O, hO, dO, lO, vO, hw⟩
  refine SW_weak hw ?_
  clear hw
  refine SW_own hO (by omega) (fun Ao co e => ?_)
  subst e
  have er : trimL O = r := norm_inj B32_pos dO.trim dr (norm_trim _) nr (by rw [val_trim, vO, vr])
  have ct := ct_spec_l1Trim O Ao co (by omega)
  rw [er] at ct
  refine xg ?_
  refine xn 1 [] [(20, .slice Ao (List.length O) co)] ?_
  refine xcr 21 ct (zsS zi0 zs0) (fun A0 k0 => ?_)
  refine xz [] [(2, .slice A0 (List.length r) k0)] ?_
  refine SW_ret ?_
  refine xe (A0, k0) (.slice A0 (List.length r) k0) [] ?_ (zsS zi0 zs0)
  rfl
end Go.Proofs.Ytlggnljibebfeaa.M
end
section
namespace Go.Proofs.Ytlggnljibebfeaa.M
open Go.RowKit Go.Proofs.Ytlggnljibebfeaa.G Go.Proofs.YtlggnljibebfeaaV.PrintWords Go.Proofs.YtlggnljibebfeaaV.PrintLast Go.Proofs.Ytlggnljibebfeaa.X
set_option linter.unusedVariables false
set_option linter.unusedSimpArgs false
theorem drop_two {l : List Int} {i : Nat} (h : i + 1 < l.length) : l.drop i = rd l (i : Int) :: rd l ((i + 1 : Nat) : Int) :: l.drop (i + 2) := by
 have e1 := rd_some (xs := l) (i := i) (by omega)
 have e2 := rd_some (xs := l) (i := i + 1) h
 rw [List.getElem?_eq_getElem (by omega)] at e1 e2
 rw [List.drop_eq_getElem_cons (show i < l.length by omega), List.drop_eq_getElem_cons h, Option.some.inj e1, Option.some.inj e2]
theorem drop_one {l : List Int} {i : Nat} (h : i + 1 = l.length) : l.drop i = [rd l (i : Int)] := by
 have e1 := rd_some (xs := l) (i := i) (by omega)
 rw [List.getElem?_eq_getElem (by omega)] at e1
 rw [List.drop_eq_getElem_cons (show i < l.length by omega), Option.some.inj e1, List.drop_eq_nil_of_le (by omega)]
theorem ct_spec_l1Out_own (l : List Int) (A : Option Addr) (c : Nat) (dl : Dig B32 l) (nl : Norm l) (hl : l.length ≤ 1000000000) : ∀ r, Dig B64 r → Norm r → val B64 r = val B32 l → CtW Try.prog 54 [.slice A l.length c] [Row .u64 A c l] 36 .u64 r := by
 intro r dr nr vr
 have er : outL l = r := norm_inj B64_pos (outL_dig dl) dr (outL_norm dl nl) nr (by rw [outL_val dl, vr])
 refine ctW_of Try.func54 rfl (by kernel_rfl) (fun B w0 => ?_)
 refine xr [] [(2, .slice none 0 0)] ?_
 refine xr [] [(3, .slice none 0 0)] ?_
 refine SW_seq ?_
 refine xr [] [(4, .int .i64 0)] ?_
 refine SW_then (fun s' => ∃ (sl : Value) (bs : List Box), Own 36 .u64 sl bs r ∧ Weak s' ⟨[(3, sl)], bs, []⟩) ?_ ?_
 ·refine SW_block ?_
  refine SW_loopn (fun m s' => ∃ (sl : Value) (bs : List Box) (O : List Int) (i : Nat), (m + i = l.length ∨ (m = 0 ∧ i = l.length + 1)) ∧ Own 36 .u64 sl bs O ∧ O.length ≤ i ∧ O ++ outL (l.drop i) = r ∧ Weak s' ⟨[(0, .slice A l.length c), (3, sl), (4, .int .i64 (i : Int))], bs, [Row .u64 A c l]⟩) l.length ⟨_, _, [], 0, .inl rfl, Own.nil 36 .u64, Nat.le_refl _, er, ?_⟩ (fun m s' hI => ?_)
  ·exact xw (zsS zi0 zs0)
  ·obtain ⟨sl0, bs0, O, i, k1, hO0, k3, k4, hw⟩ := hI
   refine SW_weak hw ?_
   clear hw
   by_cases hi : i < l.length
   ·have z : decide ((i : Int) < (l.length : Int)) = true := decide_eq_true (by omega)
    refine SW_know zi0 (fun w h => row_at h (by omega)) (fun ⟨ad, e⟩ => ?_)
    subst e
    obtain ⟨x, hx, hxB⟩ := nat_rd32 dl i
    have v1 : Ve (rd l (i : Int)) (x : Int) := ⟨hx⟩
    have v2 : Ve (IntKind.i64.wrap ((i : Int) + 1)) ((i + 1 : Nat) : Int) := veI (by omega) (by omega)
    have v3 : Ve (IntKind.i64.wrap ((i : Int) + 2)) ((i + 2 : Nat) : Int) := veI (by omega) (by omega)
    by_cases h2 : i + 1 < l.length
    ·have z2 : decide (((i + 1 : Nat) : Int) < (l.length : Int)) = true := decide_eq_true (by omega)
     obtain ⟨y, hy, hyB⟩ := nat_rd32 dl (i + 1)
     have v4 : Ve (rd l ((i + 1 : Nat) : Int)) (y : Int) := ⟨hy⟩
     have v5 : Ve (shl .u64 (y : Int) 32) ((y * 4294967296 : Nat) : Int) := ⟨by have := shl_nat y 32 (by omega); rw [show ((32 : Nat) : Int) = 32 from rfl] at this; rw [this]; omega⟩
     have v6 : Ve (bits .or .u64 (x : Int) ((y * 4294967296 : Nat) : Int)) ((x + y * 4294967296 : Nat) : Int) := ⟨or_nat' 32 (y * 4294967296) x (by omega) (by omega) (Nat.dvd_mul_left _ _) hxB⟩
     rw [drop_two h2, outL, hx, hy] at k4
     refine SW_seq ?_
     refine xr [] [(9, .bool (decide ((i : Int) < (((List.length l) : Nat) : Int))))] ?_
     refine xst z ?_
     refine SW_skip ?_
     refine SW_seq ?_
     refine SW_block ?_
     refine xg ?_
     refine xn 2 [] [(13, .int .i64 (i : Int)), (12, .slice (some ad) (List.length l) c)] ?_
     refine xfi 14 36 (ad) (List.length l) (c) (i) IntKind.i64 ((i : Int)) ⟨rfl⟩ (by omega) ?_
     refine xfle 15 zi0 (i) ((x : Int)) v1 (by omega) ?_
     refine xz [] [(5, .int .u64 (x : Int))] ?_
     refine SW_seq ?_
     refine xg ?_
     refine xn 1 [] [(16, .int .i64 (i : Int))] ?_
     refine xve 17 IntKind.i64 (IntKind.wrap IntKind.i64 ((i : Int) + 1)) ((((i + 1) : Nat) : Int)) v2 ?_
     refine xz [] [(20, .bool (decide ((((i + 1) : Nat) : Int) < (((List.length l) : Nat) : Int))))] ?_
     refine xst z2 ?_
     refine SW_region ?_
     refine xn 3 [] [(23, .int .i64 (i : Int)), (22, .slice (some ad) (List.length l) c), (21, .int .u64 (x : Int))] ?_
     refine xve 24 IntKind.i64 (IntKind.wrap IntKind.i64 ((i : Int) + 1)) ((((i + 1) : Nat) : Int)) v2 ?_
     refine xfi 25 36 (ad) (List.length l) (c) (i + 1) IntKind.i64 ((((i + 1) : Nat) : Int)) ⟨rfl⟩ (by omega) ?_
     refine xfle 26 zi0 (i + 1) ((y : Int)) v4 (by omega) ?_
     refine xve 27 IntKind.u64 (shl IntKind.u64 (y : Int) 32) ((((y * 4294967296) : Nat) : Int)) v5 ?_
     refine xve 28 IntKind.u64 (bits BinOp.or IntKind.u64 (x : Int) (((y * 4294967296) : Nat) : Int)) ((((x + y * 4294967296) : Nat) : Int)) v6 ?_
     refine xz [] [(5, .int .u64 (((x + y * 4294967296) : Nat) : Int))] ?_
     refine SW_region ?_
     refine xn 2 [] [(30, .int .u64 (((x + y * 4294967296) : Nat) : Int)), (29, sl0)] ?_
     refine xbl 31 [.int .u64 (((x + y * 4294967296) : Nat) : Int)] 36 1 (fun g0 => ?_)
     refine xow 32 8 (g0) (1) [(((x + y * 4294967296) : Nat) : Int)] hO0 (by first | omega | (simp <;> omega)) (fun sl1 bs1 hO1 => ?_)
     refine xz [] [(3, sl1)] ?_
     refine SW_region ?_
     refine xn 1 [] [(10, .int .i64 (i : Int))] ?_
     refine xve 11 IntKind.i64 (IntKind.wrap IntKind.i64 ((i : Int) + 2)) ((((i + 2) : Nat) : Int)) v3 ?_
     refine xz [] [(4, .int .i64 (((i + 2) : Nat) : Int))] ?_
     refine ⟨m - 2, by omega, sl1, bs1, _, i + 2, by omega, hO1, by rw [List.length_append]; simp; omega, ?_, ?_⟩
     ·rw [List.append_assoc, ← k4]
      congr 1
     ·exact xw (zsS zi0 zs0)
    ·have z2 : decide (((i + 1 : Nat) : Int) < (l.length : Int)) = false := decide_eq_false (by omega)
     rw [drop_one (by omega), outL, hx] at k4
     refine SW_seq ?_
     refine xr [] [(9, .bool (decide ((i : Int) < (((List.length l) : Nat) : Int))))] ?_
     refine xst z ?_
     refine SW_skip ?_
     refine SW_seq ?_
     refine SW_block ?_
     refine xg ?_
     refine xn 2 [] [(13, .int .i64 (i : Int)), (12, .slice (some ad) (List.length l) c)] ?_
     refine xfi 14 36 (ad) (List.length l) (c) (i) IntKind.i64 ((i : Int)) ⟨rfl⟩ (by omega) ?_
     refine xfle 15 zi0 (i) ((x : Int)) v1 (by omega) ?_
     refine xz [] [(5, .int .u64 (x : Int))] ?_
     refine SW_seq ?_
     refine xg ?_
     refine xn 1 [] [(16, .int .i64 (i : Int))] ?_
     refine xve 17 IntKind.i64 (IntKind.wrap IntKind.i64 ((i : Int) + 1)) ((((i + 1) : Nat) : Int)) v2 ?_
     refine xz [] [(20, .bool (decide ((((i + 1) : Nat) : Int) < (((List.length l) : Nat) : Int))))] ?_
     refine xsf z2 ?_
     refine SW_skip ?_
     refine SW_region ?_
     refine xn 2 [] [(30, .int .u64 (x : Int)), (29, sl0)] ?_
     refine xbl 31 [.int .u64 (x : Int)] 36 1 (fun g0 => ?_)
     refine xow 32 8 (g0) (1) [(x : Int)] hO0 (by first | omega | (simp <;> omega)) (fun sl1 bs1 hO1 => ?_)
     refine xz [] [(3, sl1)] ?_
     refine SW_region ?_
     refine xn 1 [] [(10, .int .i64 (i : Int))] ?_
     refine xve 11 IntKind.i64 (IntKind.wrap IntKind.i64 ((i : Int) + 2)) ((((i + 2) : Nat) : Int)) v3 ?_
     refine xz [] [(4, .int .i64 (((i + 2) : Nat) : Int))] ?_
     refine ⟨0, by omega, sl1, bs1, _, i + 2, by omega, hO1, by rw [List.length_append]; simp; omega, ?_, ?_⟩
     ·rw [List.drop_eq_nil_of_le (by omega), outL, List.append_nil, ← k4]
     ·exact xw (zsS zi0 zs0)
   ·have z : decide ((i : Int) < (l.length : Int)) = false := decide_eq_false (by omega)
    rw [List.drop_eq_nil_of_le (by omega), outL, List.append_nil] at k4
    subst k4
    refine SW_seq ?_
    refine xr [] [(9, .bool (decide ((i : Int) < (((List.length l) : Nat) : Int))))] ?_
    refine xsf z ?_
    refine SW_exit ?_
    refine ⟨sl0, bs0, hO0, ?_⟩
    exact xw zs0
 ·rintro s' ⟨sl, bs, hO, hw⟩
  refine SW_weak hw ?_
  clear hw
  refine xr [] [(2, sl)] ?_
  refine SW_ret ?_
  exact ⟨sl, [], [], by kernel_rfl, hO⟩
theorem ct_spec_l1Out_rows (l : List Int) (A : Option Addr) (c : Nat) (dl : Dig B32 l) (nl : Norm l) (hl : l.length ≤ 1000000000) : ∀ r, Dig B64 r → Norm r → val B64 r = val B32 l → CtR Try.prog 54 [.slice A l.length c] [Row .u64 A c l] .u64 r := fun r dr nr vr => ctR_of_W (by
 have er : outL l = r := norm_inj B64_pos (outL_dig dl) dr (outL_norm dl nl) nr (by rw [outL_val dl, vr])
 have := outL_length l
 rw [← er]
 omega) (ct_spec_l1Out_own l A c dl nl hl r dr nr vr)
end Go.Proofs.Ytlggnljibebfeaa.M
end
section
namespace Go.Proofs.Ytlggnljibebfeaa.M
open Go.RowKit Go.Proofs.Ytlggnljibebfeaa.G Go.Proofs.YtlggnljibebfeaaV.PrintWords Go.Proofs.YtlggnljibebfeaaV.PrintLast Go.Proofs.Ytlggnljibebfeaa.X
set_option linter.unusedVariables false
set_option linter.unusedSimpArgs false
theorem ct_spec_l1Mul_rows (a b : List Int) (A A' : Option Addr) (c c' : Nat) (da : Dig B32 a) (db : Dig B32 b) (hla : a.length ≤ 1000000000) (hlb : b.length ≤ 1000000000) : ∀ r, Dig B32 r → Norm r → val B32 r = val B32 a * val B32 b → CtR Try.prog 58 [.slice A a.length c, .slice A' b.length c'] [Row .u64 A c a, Row .u64 A' c' b] .u64 r := by
 intro r dr nr vr
 refine ct_of Try.func58 rfl (by kernel_rfl) (fun B w0 => ?_)
 refine xr [] [(4, .slice none 0 0)] ?_
 refine xg ?_
 refine xn 6 [] [(15, .int .i64 (IntKind.wrap IntKind.i64 (IntKind.wrap IntKind.i64 ((((List.length a) : Nat) : Int) + (((List.length b) : Nat) : Int)) + 1)))] ?_
 refine xma 16 36 (((List.length a) + (List.length b)) + 1) IntKind.u64 8 (IntKind.wrap IntKind.i64 (IntKind.wrap IntKind.i64 ((((List.length a) : Nat) : Int) + (((List.length b) : Nat) : Int)) + 1)) (Nn.w (Nn.add (Nn.w (Nn.add ⟨rfl⟩ ⟨rfl⟩) (by omega)) ⟨rfl⟩) (by omega)) (by omega) (fun g0 => ?_)
 refine xz [] [(5, .slice (some ⟨g0, 0, none⟩) (List.length a + List.length b + 1) (List.length a + List.length b + 1))] ?_
 refine SW_seq ?_
 refine xr [] [(6, .int .i64 0)] ?_
 refine SW_block ?_
 refine SW_loopn (fun m s => ∃ (i : Nat) (O : List Int), m + i = a.length ∧ O.length = a.length + b.length + 1 ∧ Dig B32 O ∧ Clear O (i + b.length) ∧ val B32 O = val B32 (a.take i) * val B32 b ∧ Weak s ⟨[(0, .slice A a.length c), (1, .slice A' b.length c'), (5, .slice (some ⟨g0, 0, none⟩) (a.length + b.length + 1) (a.length + b.length + 1)), (6, .int .i64 (i : Int))], [⟨g0, cl .u64 O [], 36⟩], [Row .u64 A c a, Row .u64 A' c' b]⟩) a.length ⟨0, List.replicate (a.length + b.length + 1) 0, rfl, by simp, Dig.zeros B32_pos _, Clear.zeros _ _, by rw [val_zeros]; simp [val], ?_⟩ (fun m s hI => ?_)
 ·exact xw (zsS zi0 (zsS (ziS zi0) zs0))
 ·obtain ⟨i, O, h1, h2, h3, h4, h5, hw⟩ := hI
  refine SW_weak hw ?_
  clear hw
  by_cases hi : i < a.length
  ·have z1 : decide ((i : Int) < (a.length : Int)) = true := decide_eq_true (by omega)
   refine SW_know zi0 (fun w h => row_at h (by omega)) (fun ⟨ad, e⟩ => ?_)
   subst e
   obtain ⟨m, rfl⟩ : ∃ m', m = m' + 1 := ⟨m - 1, by omega⟩
   obtain ⟨x, hx, hxB⟩ := nat_rd32 da i
   have v1 : Ve (rd a (i : Int)) (x : Int) := ⟨hx⟩
   have vi : Ve (IntKind.i64.wrap ((i : Int) + 1)) ((i + 1 : Nat) : Int) := veI (by omega) (by omega)
   have vn : Ve (IntKind.i64.wrap ((i : Int) + (b.length : Int))) ((i + b.length : Nat) : Int) := veI (by omega) (by omega)
   refine SW_seq ?_
   refine xr [] [(20, .bool (decide ((i : Int) < (((List.length a) : Nat) : Int))))] ?_
   refine xst z1 ?_
   refine SW_skip ?_
   refine SW_seq ?_
   refine SW_block ?_
   refine xr [] [(7, .int .u64 0)] ?_
   refine SW_seq ?_
   refine xr [] [(8, .int .i64 0)] ?_
   refine SW_then (fun s' => ∃ (O : List Int) (cy : Nat), O.length = a.length + b.length + 1 ∧ Dig B32 O ∧ Clear O (i + b.length) ∧ cy < 4294967296 ∧ val B32 O + B32 ^ (i + b.length) * ((cy : Nat) : Int).toNat = val B32 (a.take i) * val B32 b + B32 ^ i * ((x : Int).toNat * val B32 (b.take b.length)) ∧ Weak s' ⟨[(0, .slice (some ad) a.length c), (1, .slice A' b.length c'), (5, .slice (some ⟨g0, 0, none⟩) (a.length + b.length + 1) (a.length + b.length + 1)), (6, .int .i64 (i : Int)), (7, .int .u64 (cy : Int))], [⟨g0, cl .u64 O [], 36⟩], [Row .u64 (some ad) c a, Row .u64 A' c' b]⟩) ?_ ?_
   ·refine SW_block ?_
    refine SW_loopn (fun k s => ∃ (j : Nat) (O : List Int) (cy : Nat), k + j = b.length ∧ O.length = a.length + b.length + 1 ∧ Dig B32 O ∧ Clear O (i + b.length) ∧ cy < 4294967296 ∧ val B32 O + B32 ^ (i + j) * ((cy : Nat) : Int).toNat = val B32 (a.take i) * val B32 b + B32 ^ i * ((x : Int).toNat * val B32 (b.take j)) ∧ Weak s ⟨[(0, .slice (some ad) a.length c), (1, .slice A' b.length c'), (5, .slice (some ⟨g0, 0, none⟩) (a.length + b.length + 1) (a.length + b.length + 1)), (6, .int .i64 (i : Int)), (7, .int .u64 (cy : Int)), (8, .int .i64 (j : Int))], [⟨g0, cl .u64 O [], 36⟩], [Row .u64 (some ad) c a, Row .u64 A' c' b]⟩) b.length ⟨0, O, 0, rfl, h2, h3, h4, by decide, by simp [val, h5], ?_⟩ (fun k s hI => ?_)
    ·exact xw (zsS zi0 (zsS (ziS zi0) zs0))
    ·clear h2 h3 h4 h5
     obtain ⟨j, O, cy, k1, k2, k3, k4, k5, k6, hw⟩ := hI
     refine SW_weak hw ?_
     clear hw
     by_cases hj : j < b.length
     ·have z2 : decide ((j : Int) < (b.length : Int)) = true := decide_eq_true (by omega)
      refine SW_know (ziS zi0) (fun w h => row_at h (by omega)) (fun ⟨ad', e⟩ => ?_)
      subst e
      obtain ⟨k, rfl⟩ : ∃ k', k = k' + 1 := ⟨k - 1, by omega⟩
      obtain ⟨y, hy, hyB⟩ := nat_rd32 db j
      obtain ⟨o, ho, hoB⟩ := nat_rd32 k3 (i + j)
      have v2 : Ve (rd b (j : Int)) (y : Int) := ⟨hy⟩
      have v3 : Ve (rd O ((i + j : Nat) : Int)) (o : Int) := ⟨ho⟩
      have vj : Ve (IntKind.i64.wrap ((j : Int) + 1)) ((j + 1 : Nat) : Int) := veI (by omega) (by omega)
      have vij : Ve (IntKind.i64.wrap ((i : Int) + (j : Int))) ((i + j : Nat) : Int) := veI (by omega) (by omega)
      have hP : x * y ≤ 4294967295 * 4294967295 := Nat.mul_le_mul (by omega) (by omega)
      obtain ⟨p, hp⟩ : ∃ p, x * y = p := ⟨_, rfl⟩
      rw [hp] at hP
      have v4 : Ve (IntKind.u64.wrap ((x : Int) * (y : Int))) (p : Int) := veU (by rw [← Int.natCast_mul, hp]) (by omega)
      have v5 : Ve (IntKind.u64.wrap ((p : Int) + (o : Int))) ((p + o : Nat) : Int) := veU (by omega) (by omega)
      have v6 : Ve (IntKind.u64.wrap (((p + o : Nat) : Int) + (cy : Int))) ((p + o + cy : Nat) : Int) := veU (by omega) (by omega)
      have v7 := low_ve (p + o + cy) (by omega)
      have v8 := high_ve (p + o + cy)
      have hst := mul_step (B := B32) (a := a) (b := b) (out := O) (i := i) (j := j) (ai := (x : Int)) (c := (cy : Int)) (x := (((p + o + cy) % 4294967296 : Nat) : Int)) (c' := (((p + o + cy) / 4294967296 : Nat) : Int)) (by omega) k6 (by
       rw [hy, ho]
       simp only [Int.toNat_natCast]
       rw [hp]
       unfold B32
       omega)
      refine SW_seq ?_
      refine xr [] [(26, .bool (decide ((j : Int) < (((List.length b) : Nat) : Int))))] ?_
      refine xst z2 ?_
      refine SW_skip ?_
      refine SW_seq ?_
      refine SW_block ?_
      refine xd (fun hB => ?_)
      refine xdk [(0, []), (1, []), (4, []), (5, []), (9, []), (10, []), (11, []), (16, [])] [(45, .int .u64 (cy : Int)), (40, .int .i64 (j : Int)), (39, .int .i64 (i : Int)), (38, .slice (some ⟨g0, 0, none⟩) (List.length a + List.length b + 1) (List.length a + List.length b + 1)), (34, .int .i64 (j : Int)), (33, .slice (some ad') (List.length b) c'), (30, .int .i64 (i : Int)), (29, .slice (some ad) (List.length a) c)] hB ?_
      refine xdve 12 hB 41 IntKind.i64 (IntKind.wrap IntKind.i64 ((i : Int) + (j : Int))) ((((i + j) : Nat) : Int)) vij ?_
      refine xdfi 2 hB 31 36 (ad) (List.length a) (c) (i) IntKind.i64 ((i : Int)) ⟨rfl⟩ (by omega) ?_
      refine xdfle 3 hB 32 zi0 (i) ((x : Int)) v1 (by omega) ?_
      refine xdfi 6 hB 35 36 (ad') (List.length b) (c') (j) IntKind.i64 ((j : Int)) ⟨rfl⟩ (by omega) ?_
      refine xdfle 7 hB 36 (ziS zi0) (j) ((y : Int)) v2 (by omega) ?_
      refine xdve 8 hB 37 IntKind.u64 (IntKind.wrap IntKind.u64 ((x : Int) * (y : Int))) ((p : Int)) v4 ?_
      refine xdoi 13 hB 42 36 (g0) (List.length a + List.length b + 1) (List.length a + List.length b + 1) (i + j) IntKind.i64 ((((i + j) : Nat) : Int)) ⟨rfl⟩ (by omega) ?_
      refine xdole 14 hB 43 0 (g0) (i + j) IntKind.u64 (O) ([]) 36 ((o : Int)) v3 (by first | omega | (simp <;> omega)) ?_
      refine xdve 15 hB 44 IntKind.u64 (IntKind.wrap IntKind.u64 ((p : Int) + (o : Int))) ((((p + o) : Nat) : Int)) v5 ?_
      refine xdve 17 hB 46 IntKind.u64 (IntKind.wrap IntKind.u64 ((((p + o) : Nat) : Int) + (cy : Int))) ((((p + o + cy) : Nat) : Int)) v6 ?_
      refine xdk [(18, [])] [(9, .int .u64 (((p + o + cy) : Nat) : Int))] hB ?_
      refine xdz ?_
      refine xg ?_
      refine xn 3 [] [(49, .int .i64 (j : Int)), (48, .int .i64 (i : Int)), (47, .slice (some ⟨g0, 0, none⟩) (List.length a + List.length b + 1) (List.length a + List.length b + 1))] ?_
      refine xve 50 IntKind.i64 (IntKind.wrap IntKind.i64 ((i : Int) + (j : Int))) ((((i + j) : Nat) : Int)) vij ?_
      refine xn 5 [] [(51, .int .u64 (((p + o + cy) : Nat) : Int))] ?_
      refine xve 52 IntKind.u64 (bits BinOp.and IntKind.u64 (((p + o + cy) : Nat) : Int) 4294967295) (((((p + o + cy) % 4294967296) : Nat) : Int)) v7 ?_
      refine xoi 53 36 (g0) (List.length a + List.length b + 1) (List.length a + List.length b + 1) (i + j) IntKind.i64 ((((i + j) : Nat) : Int)) ⟨rfl⟩ (by omega) ?_
      refine xos 0 (g0) (i + j) IntKind.u64 (O) ([]) 36 (((((p + o + cy) % 4294967296) : Nat) : Int)) (by first | omega | (simp <;> omega)) ?_
      refine xz [] [] ?_
      refine SW_region ?_
      refine xn 1 [] [(54, .int .u64 (((p + o + cy) : Nat) : Int))] ?_
      refine xve 55 IntKind.u64 (shf IntKind.u64 (((p + o + cy) : Nat) : Int) 32) (((((p + o + cy) / 4294967296) : Nat) : Int)) v8 ?_
      refine xz [] [(7, .int .u64 ((((p + o + cy) / 4294967296) : Nat) : Int))] ?_
      refine SW_region ?_
      refine xn 1 [] [(27, .int .i64 (j : Int))] ?_
      refine xve 28 IntKind.i64 (IntKind.wrap IntKind.i64 ((j : Int) + 1)) ((((j + 1) : Nat) : Int)) vj ?_
      refine xz [] [(8, .int .i64 (((j + 1) : Nat) : Int))] ?_
      refine ⟨k, by omega, j + 1, _, _, by omega, by rw [List.length_set]; exact k2, k3.set _ (cast_dig32 (Nat.mod_lt _ (by decide))), k4.set (by omega), by omega, hst, ?_⟩
      exact xw (zsS zi0 (zsS (ziS zi0) zs0))
     ·have z2 : decide ((j : Int) < (b.length : Int)) = false := decide_eq_false (by omega)
      obtain rfl : j = b.length := by omega
      refine SW_seq ?_
      refine xr [] [(26, .bool (decide ((((List.length b) : Nat) : Int) < (((List.length b) : Nat) : Int))))] ?_
      refine xsf z2 ?_
      refine SW_exit ?_
      refine ⟨O, cy, k2, k3, k4, k5, k6, ?_⟩
      exact xw (zsS zi0 (zsS (ziS zi0) zs0))
   ·clear h2 h3 h4 h5
    rintro s' ⟨O, cy, k2, k3, k4, k5, k6, hw⟩
    refine SW_weak hw ?_
    clear hw
    have hend := mul_end (B := B32) (a := a) (b := b) (out := O) (i := i) (c := (cy : Int)) (by omega) (k4 _ (Nat.le_refl _)) (by rw [hx]; exact k6)
    refine SW_region ?_
    refine xn 4 [] [(59, .int .i64 (((List.length b) : Nat) : Int)), (57, .int .i64 (i : Int)), (56, .slice (some ⟨g0, 0, none⟩) (List.length a + List.length b + 1) (List.length a + List.length b + 1))] ?_
    refine xve 60 IntKind.i64 (IntKind.wrap IntKind.i64 ((i : Int) + (((List.length b) : Nat) : Int))) ((((i + List.length b) : Nat) : Int)) vn ?_
    refine xn 6 [] [(61, .int .u64 (cy : Int))] ?_
    refine xoi 62 36 (g0) (List.length a + List.length b + 1) (List.length a + List.length b + 1) (i + List.length b) IntKind.i64 ((((i + List.length b) : Nat) : Int)) ⟨rfl⟩ (by omega) ?_
    refine xos 0 (g0) (i + List.length b) IntKind.u64 (O) ([]) 36 ((cy : Int)) (by first | omega | (simp <;> omega)) ?_
    refine xz [] [] ?_
    refine SW_region ?_
    refine xn 1 [] [(21, .int .i64 (i : Int))] ?_
    refine xve 22 IntKind.i64 (IntKind.wrap IntKind.i64 ((i : Int) + 1)) ((((i + 1) : Nat) : Int)) vi ?_
    refine xz [] [(6, .int .i64 (((i + 1) : Nat) : Int))] ?_
    refine ⟨m, by omega, i + 1, _, by omega, by rw [List.length_set]; exact k2, k3.set _ (cast_dig32 k5), ?_, hend, ?_⟩
    ·have := k4.more (cy : Int)
     rwa [show i + b.length + 1 = i + 1 + b.length by omega] at this
    ·exact xw (zsS zi0 (zsS (ziS zi0) zs0))
  ·have z1 : decide ((i : Int) < (a.length : Int)) = false := decide_eq_false (by omega)
   obtain rfl : i = a.length := by omega
   rw [List.take_length] at h5
   have er : trimL O = r := norm_inj B32_pos h3.trim dr (norm_trim _) nr (by rw [val_trim, h5, vr])
   have ct := ct_spec_l1Trim O (some ⟨g0, 0, none⟩) O.length (by omega)
   rw [er] at ct
   refine SW_seq ?_
   refine xr [] [(20, .bool (decide ((((List.length a) : Nat) : Int) < (((List.length a) : Nat) : Int))))] ?_
   refine xsf z1 ?_
   refine SW_exit ?_
   refine xg ?_
   refine xn 1 [] [(63, .slice (some ⟨g0, 0, none⟩) (List.length a + List.length b + 1) (List.length a + List.length b + 1))] ?_
   refine NW_fz 0 (a.length + b.length + 1) g0 .u64 O [] 36 (by omega) (by omega) ?_
   rw [← h2]
   refine xcr 64 ct (zsS zi0 zs0) (fun A0 k0 => ?_)
   refine xz [] [(4, .slice A0 (List.length r) k0)] ?_
   refine SW_ret ?_
   refine xe (A0, k0) (.slice A0 (List.length r) k0) [] ?_ (zsS zi0 zs0)
   rfl
end Go.Proofs.Ytlggnljibebfeaa.M
end
section
namespace Go.Proofs.Ytlggnljibebfeaa.M
open Go.RowKit Go.Proofs.Ytlggnljibebfeaa.G Go.Proofs.YtlggnljibebfeaaV.PrintWords Go.Proofs.YtlggnljibebfeaaV.PrintLast Go.Proofs.Ytlggnljibebfeaa.X
set_option linter.unusedVariables false
set_option linter.unusedSimpArgs false
theorem quo32 (n : Nat) (h : n ≤ 9223372036854775807) : Ve (IntKind.i64.wrap (Int.tdiv (n : Int) 32)) ((n / 32 : Nat) : Int) := ⟨(Nn.w (Nn.div ⟨rfl⟩ ⟨rfl⟩ : Nn (Int.tdiv (n : Int) 32) (n / 32)) (by omega)).out⟩
theorem rem32 (n : Nat) : Ve (Int.tmod (n : Int) 32) ((n % 32 : Nat) : Int) := ⟨(Nn.mod ⟨rfl⟩ ⟨rfl⟩ : Nn (Int.tmod (n : Int) 32) (n % 32)).out⟩
theorem conv32 (n : Nat) : Ve (IntKind.u64.wrap ((n % 32 : Nat) : Int)) ((n % 32 : Nat) : Int) := veU rfl (by omega)
theorem left32 {a O : List Int} {i x p cy : Nat} (hx : rd a (i : Int) = (x : Int)) (hl : O.length = i) (hv : val B32 O + B32 ^ i * cy = val B32 (a.take i) * 2 ^ p) :
  val B32 (O ++ [(((x * 2 ^ p + cy) % 4294967296 : Nat) : Int)]) + B32 ^ (i + 1) * ((x * 2 ^ p + cy) / 4294967296) = val B32 (a.take (i + 1)) * 2 ^ p := by
 rw [val_snoc, val_take_succ, hl, hx, Nat.pow_succ, Nat.mul_assoc, Nat.add_mul, ← hv, Nat.mul_assoc]
 simp only [Int.toNat_natCast]
 rw [show B32 * ((x * 2 ^ p + cy) / 4294967296) = 4294967296 * ((x * 2 ^ p + cy) / 4294967296) from rfl]
 have h := congrArg (B32 ^ i * ·) (Nat.mod_add_div (x * 2 ^ p + cy) 4294967296)
 generalize (x * 2 ^ p + cy) % 4294967296 = m at *
 generalize 4294967296 * ((x * 2 ^ p + cy) / 4294967296) = q at *
 generalize B32 ^ i = P at *
 simp only [Nat.mul_add] at h ⊢
 omega
theorem ct_spec_l1Left_rows (a : List Int) (A : Option Addr) (c : Nat) (da : Dig B32 a) (hla : a.length ≤ 1000000000) (N : Int) (n : Nat) (hN : Nn N n) (hn : n ≤ 100000000000) : ∀ r, Dig B32 r → Norm r → val B32 r = val B32 a * 2 ^ n → CtR Try.prog 55 [.slice A a.length c, .int .i64 N] [Row .u64 A c a] .u64 r := by
 intro r dr nr vr
 obtain ⟨rfl⟩ := hN
 refine ct_of Try.func55 rfl (by kernel_rfl) (fun B w0 => ?_)
 have v2 := quo32 n (by omega)
 have v3 := rem32 n
 have v3' := conv32 n
 obtain ⟨q, hq⟩ : ∃ q, n / 32 = q := ⟨_, rfl⟩
 have hp : n % 32 < 32 := Nat.mod_lt _ (by decide)
 obtain ⟨p, hpe⟩ : ∃ p, n % 32 = p := ⟨_, rfl⟩
 have hsp : val B32 a * 2 ^ n = B32 ^ q * (val B32 a * 2 ^ p) := by rw [pow_mul_mod _ 32 n, hq, hpe, ← B32_pow]
 have hq1 : q ≤ 10000000000 := by omega
 rw [hq] at v2
 rw [hpe] at v3 v3' hp
 clear hq hpe
 have hP : 0 < 2 ^ p := Nat.pow_pos (by decide)
 have hP1 : 2 ^ p ≤ 2147483648 := by
  have : 2 ^ p ≤ 2 ^ 31 := Nat.pow_le_pow_right (by decide) (by omega)
  exact this
 refine xr [] [(4, .slice none 0 0)] ?_
 refine xg ?_
 refine xn 1 [] [(9, .int .i64 (n : Int))] ?_
 refine xve 10 IntKind.i64 (IntKind.wrap IntKind.i64 (Int.tdiv (n : Int) 32)) ((q : Int)) v2 ?_
 refine xma 11 36 (q) IntKind.u64 8 ((q : Int)) ⟨rfl⟩ (by omega) (fun g0 => ?_)
 refine xz [] [(5, .slice (some ⟨g0, 0, none⟩) q q)] ?_
 refine xr [] [(6, .int .u64 0)] ?_
 refine SW_seq ?_
 refine xr [] [(7, .int .i64 0)] ?_
 refine SW_then (fun s' => ∃ (sl : Value) (bs : List Box) (O : List Int), Own 36 .u64 sl bs (List.replicate q 0 ++ O) ∧ Dig B32 O ∧ O.length = a.length + 1 ∧ val B32 O = val B32 a * 2 ^ p ∧ Weak s' ⟨[(5, sl)], bs, []⟩) ?_ ?_
 ·refine SW_block ?_
  refine SW_loopn (fun m s' => ∃ (sl : Value) (bs : List Box) (O : List Int) (i cy : Nat), m + i = a.length + 1 ∧ Own 36 .u64 sl bs (List.replicate q 0 ++ O) ∧ Dig B32 O ∧ O.length = i ∧ cy < 2 ^ p ∧ val B32 O + B32 ^ i * cy = val B32 (a.take i) * 2 ^ p ∧ Weak s' ⟨[(0, .slice A a.length c), (1, .int .i64 (n : Int)), (5, sl), (6, .int .u64 (cy : Int)), (7, .int .i64 (i : Int))], bs, [Row .u64 A c a]⟩) (a.length + 1) ⟨.slice (some ⟨g0, 0, none⟩) q q, [⟨g0, cl .u64 (List.replicate q 0) [], 36⟩], [], 0, 0, rfl, .inr ⟨g0, [], q, by simp, by simp, by rw [List.append_nil]; rfl⟩, Dig.nil _, rfl, hP, by simp [val], ?_⟩ (fun m s' hI => ?_)
  ·exact xw (zsS zi0 zs0)
  ·obtain ⟨sl0, bs0, O, i, cy, k1, hO0, k3, k4, k5, k6, hw⟩ := hI
   refine SW_weak hw ?_
   clear hw
   by_cases hi : i ≤ a.length
   ·have z : decide ((i : Int) ≤ (a.length : Int)) = true := decide_eq_true (by omega)
    obtain ⟨m, rfl⟩ : ∃ m', m = m' + 1 := ⟨m - 1, by omega⟩
    obtain ⟨x, hx, hxB⟩ := nat_rd32 da i
    have v1 : Ve (rd a (i : Int)) (x : Int) := ⟨hx⟩
    have hmx : x * 2 ^ p ≤ 4294967295 * 2 ^ p := Nat.mul_le_mul_right _ (by omega)
    have v4 : Ve (shl .u64 (x : Int) (p : Int)) ((x * 2 ^ p : Nat) : Int) := ⟨by rw [shl_nat x p (by omega), Nat.mod_eq_of_lt (by omega)]⟩
    have v5 : Ve (bits .or .u64 ((x * 2 ^ p : Nat) : Int) (cy : Int)) ((x * 2 ^ p + cy : Nat) : Int) := ⟨or_nat p (x * 2 ^ p) cy (by omega) (by omega) (Nat.dvd_mul_left _ _) k5⟩
    have v6 := low_ve (x * 2 ^ p + cy) (by omega)
    have v7 := high_ve (x * 2 ^ p + cy)
    have v8 : Ve (IntKind.i64.wrap ((i : Int) + 1)) ((i + 1 : Nat) : Int) := veI (by omega) (by omega)
    have hst := left32 hx k4 k6
    refine SW_seq ?_
    refine xr [] [(15, .bool (decide ((i : Int) ≤ (((List.length a) : Nat) : Int))))] ?_
    refine xst z ?_
    refine SW_skip ?_
    refine SW_seq ?_
    refine SW_block ?_
    refine xg ?_
    refine xn 2 [] [(19, .int .i64 (i : Int)), (18, .slice A (List.length a) c)] ?_
    refine xcv 20 (ct_spec_l1At (a) (A) (c) ((i : Int)) (i) ⟨rfl⟩ ((x : Int)) v1 (by omega)) (zsS zi0 zs0) ?_
    refine xn 4 [] [(21, .int .i64 (n : Int))] ?_
    refine xve 22 IntKind.i64 (Int.tmod (n : Int) 32) ((p : Int)) v3 ?_
    refine xve 23 IntKind.u64 (IntKind.wrap IntKind.u64 (p : Int)) ((p : Int)) v3' ?_
    refine xve 24 IntKind.u64 (shl IntKind.u64 (x : Int) (p : Int)) ((((x * 2 ^ p) : Nat) : Int)) v4 ?_
    refine xn 8 [] [(25, .int .u64 (cy : Int))] ?_
    refine xve 26 IntKind.u64 (bits BinOp.or IntKind.u64 (((x * 2 ^ p) : Nat) : Int) (cy : Int)) ((((x * 2 ^ p + cy) : Nat) : Int)) v5 ?_
    refine xz [] [(8, .int .u64 (((x * 2 ^ p + cy) : Nat) : Int))] ?_
    refine xg ?_
    refine xn 2 [] [(28, .int .u64 (((x * 2 ^ p + cy) : Nat) : Int)), (27, sl0)] ?_
    refine xve 29 IntKind.u64 (bits BinOp.and IntKind.u64 (((x * 2 ^ p + cy) : Nat) : Int) 4294967295) (((((x * 2 ^ p + cy) % 4294967296) : Nat) : Int)) v6 ?_
    refine xbl 30 [.int .u64 ((((x * 2 ^ p + cy) % 4294967296) : Nat) : Int)] 36 1 (fun g1 => ?_)
    refine xow 31 8 (g1) (1) [((((x * 2 ^ p + cy) % 4294967296) : Nat) : Int)] hO0 (by first | omega | (simp <;> omega)) (fun sl1 bs1 hO1 => ?_)
    refine xz [] [(5, sl1)] ?_
    refine SW_region ?_
    refine xn 1 [] [(32, .int .u64 (((x * 2 ^ p + cy) : Nat) : Int))] ?_
    refine xve 33 IntKind.u64 (shf IntKind.u64 (((x * 2 ^ p + cy) : Nat) : Int) 32) (((((x * 2 ^ p + cy) / 4294967296) : Nat) : Int)) v7 ?_
    refine xz [] [(6, .int .u64 ((((x * 2 ^ p + cy) / 4294967296) : Nat) : Int))] ?_
    refine SW_region ?_
    refine xn 1 [] [(16, .int .i64 (i : Int))] ?_
    refine xve 17 IntKind.i64 (IntKind.wrap IntKind.i64 ((i : Int) + 1)) ((((i + 1) : Nat) : Int)) v8 ?_
    refine xz [] [(7, .int .i64 (((i + 1) : Nat) : Int))] ?_
    refine ⟨m, by omega, sl1, bs1, O ++ [(((x * 2 ^ p + cy) % 4294967296 : Nat) : Int)], i + 1, (x * 2 ^ p + cy) / 4294967296, by omega, by rw [← List.append_assoc]; exact hO1, k3.snoc (cast_dig32 (Nat.mod_lt _ (by decide))), by rw [List.length_append, k4]; rfl, by omega, hst, ?_⟩
    exact xw (zsS zi0 zs0)
   ·have z : decide ((i : Int) ≤ (a.length : Int)) = false := decide_eq_false (by omega)
    obtain rfl : i = a.length + 1 := by omega
    rw [List.take_of_length_le (by omega)] at k6
    have hcy : cy = 0 := by
     rcases Nat.eq_zero_or_pos cy with h | h
     ·exact h
     ·have h1 := val_lt da
      have h2 := Nat.mul_le_mul (Nat.le_of_lt h1) hP1
      have h3 := Nat.mul_le_mul_left (B32 ^ (a.length + 1)) h
      rw [Nat.pow_succ] at h3 k6
      have h4 : B32 ^ a.length * 2147483648 < B32 ^ a.length * B32 := Nat.mul_lt_mul_of_pos_left (by unfold B32; decide) (Nat.pow_pos B32_pos)
      omega
    rw [hcy, Nat.mul_zero, Nat.add_zero] at k6
    refine SW_seq ?_
    refine xr [] [(15, .bool (decide ((((List.length a + 1) : Nat) : Int) ≤ (((List.length a) : Nat) : Int))))] ?_
    refine xsf z ?_
    refine SW_exit ?_
    refine ⟨sl0, bs0, O, hO0, k3, k4, k6, ?_⟩
    exact xw zs0
 ·rintro s' ⟨sl, bs, O, hO, dO, lO, vO, hw⟩
  refine SW_weak hw ?_
  clear hw
  have lQ : (List.replicate q 0 ++ O).length = q + a.length + 1 := by rw [List.length_append, List.length_replicate, lO]; omega
  have dQ : Dig B32 (List.replicate q 0 ++ O) := (Dig.zeros B32_pos q).append dO
  have vQ : val B32 (List.replicate q 0 ++ O) = val B32 r := by rw [val_append, val_zeros, List.length_replicate, Nat.zero_add, vO, vr, hsp]
  obtain ⟨Q, hQ⟩ : ∃ Q, List.replicate q 0 ++ O = Q := ⟨_, rfl⟩
  rw [hQ] at hO lQ dQ vQ
  refine SW_own hO (by omega) (fun Ao co e => ?_)
  subst e
  have er : trimL Q = r := norm_inj B32_pos dQ.trim dr (norm_trim _) nr (by rw [val_trim, vQ])
  have ct := ct_spec_l1Trim Q Ao co (by omega)
  rw [er] at ct
  refine xg ?_
  refine xn 1 [] [(34, .slice Ao (List.length Q) co)] ?_
  refine xcr 35 ct (zsS zi0 zs0) (fun A0 k0 => ?_)
  refine xz [] [(4, .slice A0 (List.length r) k0)] ?_
  refine SW_ret ?_
  refine xe (A0, k0) (.slice A0 (List.length r) k0) [] ?_ (zsS zi0 zs0)
  rfl
end Go.Proofs.Ytlggnljibebfeaa.M
end
section
namespace Go.Proofs.Ytlggnljibebfeaa.M
open Go.RowKit Go.Proofs.Ytlggnljibebfeaa.G Go.Proofs.YtlggnljibebfeaaV.PrintWords Go.Proofs.YtlggnljibebfeaaV.PrintLast Go.Proofs.Ytlggnljibebfeaa.X
set_option linter.unusedVariables false
set_option linter.unusedSimpArgs false
theorem digits_exist {B : Nat} (hB : 2 ≤ B) (n : Nat) : ∃ l, Dig B l ∧ Norm l ∧ val B l = n := by
  induction n using Nat.strongRecOn with
  | _ n ih =>
    by_cases h0 : n = 0
    · exact ⟨[], Dig.nil _, norm_nil, by rw [h0]; rfl⟩
    · obtain ⟨l, h1, h2, h3⟩ := ih (n / B) (Nat.div_lt_self (by omega) hB)
      have hm : n % B < B := Nat.mod_lt _ (by omega)
      have hv : val B (((n % B : Nat) : Int) :: l) = n := by
        rw [val_cons, h3, Int.toNat_natCast]
        exact Nat.mod_add_div n B
      refine ⟨((n % B : Nat) : Int) :: l, Dig.cons ⟨by omega, by omega⟩ h1, ?_, hv⟩
      rcases Nat.eq_zero_or_pos l.length with hl | hl
      · have : l = [] := List.eq_nil_of_length_eq_zero hl
        subst this
        have h4 : n / B = 0 := by rw [← h3]; rfl
        have h5 : n % B = n := Nat.mod_eq_of_lt (by
          rcases Nat.lt_or_ge n B with h | h
          · exact h
          · have := Nat.div_pos h (by omega); omega)
        have : ((((n % B : Nat) : Int)) :: ([] : List Int)) = [] ++ [((n % B : Nat) : Int)] := rfl
        rw [this, norm_snoc, h5]
        omega
      · obtain ⟨a, y, rfl⟩ := snoc_of hl
        have : (((n % B : Nat) : Int)) :: (a ++ [y]) = (((n % B : Nat) : Int) :: a) ++ [y] := rfl
        rw [this, norm_snoc]
        exact norm_snoc.1 h2
noncomputable def ofN (B n : Nat) : List Int := @dite _ (∃ l, Dig B l ∧ Norm l ∧ val B l = n) (Classical.propDecidable _) (fun h => Classical.choose h) (fun _ => [])
theorem ofN_spec {B : Nat} (hB : 2 ≤ B) (n : Nat) : Dig B (ofN B n) ∧ Norm (ofN B n) ∧ val B (ofN B n) = n := by
  unfold ofN
  rw [dif_pos (digits_exist hB n)]
  exact Classical.choose_spec (digits_exist hB n)
theorem B32_2 : 2 ≤ B32 := by unfold B32; omega
theorem B64_2 : 2 ≤ B64 := by unfold B64; omega
theorem ofN_of {B : Nat} (hB : 2 ≤ B) {l : List Int} (h1 : Dig B l) (h2 : Norm l) {n : Nat} (h3 : val B l = n) : l = ofN B n := by
  obtain ⟨k1, k2, k3⟩ := ofN_spec hB n
  exact norm_inj (by omega) h1 k1 h2 k2 (h3.trans k3.symm)
theorem ofN_zero {B : Nat} (hB : 2 ≤ B) (n : Nat) : (ofN B n).length = 0 ↔ n = 0 := by
  obtain ⟨k1, k2, k3⟩ := ofN_spec hB n
  have := norm_zero (by omega) k1 k2
  rw [k3] at this
  rw [← this]
  exact ⟨fun h => List.eq_nil_of_length_eq_zero h, fun h => by rw [h]; rfl⟩
theorem ofN_nil {B : Nat} (hB : 2 ≤ B) : ofN B 0 = [] := List.eq_nil_of_length_eq_zero ((ofN_zero hB 0).2 rfl)
theorem ofN_len {B : Nat} (hB : 2 ≤ B) {n k : Nat} (h : n < B ^ k) : (ofN B n).length ≤ k := by
  obtain ⟨k1, k2, k3⟩ := ofN_spec hB n
  rcases Nat.lt_or_ge k (ofN B n).length with hk | hk
  · have h1 := val_ge k1 k2 (by omega)
    rw [k3] at h1
    have h2 := Nat.pow_le_pow_right (n := B) (by omega) (show k ≤ (ofN B n).length - 1 by omega)
    omega
  · exact hk
def capL : Nat := 100000
def Sm (n : Nat) : Prop := n < B32 ^ capL
theorem capL_le : capL ≤ 100000 := Nat.le_refl _
theorem Sm.len {n : Nat} (h : Sm n) : (ofN B32 n).length ≤ 100000 := by
  unfold Sm at h
  exact Nat.le_trans (ofN_len B32_2 h) capL_le
theorem pow_base {n : Nat} : B32 ^ n = 2 ^ (32 * n) := by rw [show B32 = 2 ^ 32 from rfl, ← Nat.pow_mul]
theorem Sm.of {n k : Nat} (h : n < 2 ^ k) (hk : k ≤ 3200000) : Sm n := by
  unfold Sm
  rw [pow_base]
  exact Nat.lt_of_lt_of_le h (Nat.pow_le_pow_right (by decide) (by unfold capL; omega))
theorem Sm.mono {n m : Nat} (h : Sm m) (hn : n ≤ m) : Sm n := Nat.lt_of_le_of_lt hn h
theorem B64_sq : B64 = B32 ^ 2 := by decide
def capH : Nat := 50000
theorem capL_half : capL = 2 * capH := by unfold capL capH; rfl
theorem capH_le : capH ≤ 50000 := Nat.le_refl _
theorem Sm.len64 {n : Nat} (h : Sm n) : (ofN B64 n).length ≤ 50000 := by
  unfold Sm at h
  rw [capL_half, Nat.pow_mul, ← B64_sq] at h
  exact Nat.le_trans (ofN_len B64_2 h) capH_le
section
theorem ct_spec_l1Left (x : Nat) (A : Option Addr) (c : Nat) (a : Int) (i : Nat) (ha : Nn a i) (hi : i ≤ 100000000000) (hx : Sm x) : CtR Try.prog 55 [.slice A (ofN B32 x).length c, .int .i64 a] [Row .u64 A c (ofN B32 x)] .u64 (ofN B32 (x * 2 ^ i)) := by
  obtain ⟨d, n, v⟩ := ofN_spec B32_2 x
  obtain ⟨d2, n2, v2⟩ := ofN_spec B32_2 (x * 2 ^ i)
  have hl := hx.len
  exact ct_spec_l1Left_rows _ A c d (by omega) a i ha hi _ d2 n2 (by rw [v2, v])
theorem ct_spec_l1Add (x y : Nat) (A A' : Option Addr) (c c' : Nat) (hx : Sm x) (hy : Sm y) : CtR Try.prog 57 [.slice A (ofN B32 x).length c, .slice A' (ofN B32 y).length c'] [Row .u64 A c (ofN B32 x), Row .u64 A' c' (ofN B32 y)] .u64 (ofN B32 (x + y)) := by
  obtain ⟨d, n, v⟩ := ofN_spec B32_2 x
  obtain ⟨d', n', v'⟩ := ofN_spec B32_2 y
  obtain ⟨d2, n2, v2⟩ := ofN_spec B32_2 (x + y)
  have hl := hx.len
  have hl' := hy.len
  exact ct_spec_l1Add_rows _ _ A A' c c' d d' (by omega) (by omega) _ d2 n2 (by rw [v2, v, v'])
theorem ct_spec_l1Mul (x y : Nat) (A A' : Option Addr) (c c' : Nat) (hx : Sm x) (hy : Sm y) : CtR Try.prog 58 [.slice A (ofN B32 x).length c, .slice A' (ofN B32 y).length c'] [Row .u64 A c (ofN B32 x), Row .u64 A' c' (ofN B32 y)] .u64 (ofN B32 (x * y)) := by
  obtain ⟨d, n, v⟩ := ofN_spec B32_2 x
  obtain ⟨d', n', v'⟩ := ofN_spec B32_2 y
  obtain ⟨d2, n2, v2⟩ := ofN_spec B32_2 (x * y)
  have hl := hx.len
  have hl' := hy.len
  exact ct_spec_l1Mul_rows _ _ A A' c c' d d' (by omega) (by omega) _ d2 n2 (by rw [v2, v, v'])
theorem ct_spec_l1Out (x : Nat) (A : Option Addr) (c : Nat) (hx : Sm x) : CtR Try.prog 54 [.slice A (ofN B32 x).length c] [Row .u64 A c (ofN B32 x)] .u64 (ofN B64 x) := by
  obtain ⟨d, n, v⟩ := ofN_spec B32_2 x
  obtain ⟨d2, n2, v2⟩ := ofN_spec B64_2 x
  have hl := hx.len
  exact ct_spec_l1Out_rows _ A c d n (by omega) _ d2 n2 (by rw [v2, v])
theorem ct_impl_word (a : Int) (n : Nat) (ha : Nn a n) (hn : n < 18446744073709551616) : CtR Try.prog 100 [.int .u64 a] [] .u64 (ofN B64 n) := by
  obtain ⟨d, m, v⟩ := ofN_spec B64_2 n
  exact ct_impl_word_rows a n ha hn _ d m v
theorem ct_impl_nat_add (x y : Nat) (A A' : Option Addr) (c c' : Nat) (hx : Sm x) (hy : Sm y) : CtR Try.prog 99 [.slice A (ofN B64 x).length c, .slice A' (ofN B64 y).length c'] [Row .u64 A c (ofN B64 x), Row .u64 A' c' (ofN B64 y)] .u64 (ofN B64 (x + y)) := by
  obtain ⟨d, n, v⟩ := ofN_spec B64_2 x
  obtain ⟨d', n', v'⟩ := ofN_spec B64_2 y
  obtain ⟨d2, n2, v2⟩ := ofN_spec B64_2 (x + y)
  have hl := hx.len64
  have hl' := hy.len64
  exact ct_impl_nat_add_rows _ _ A A' c c' d d' (by omega) (by omega) _ d2 n2 (by rw [v2, v, v'])
theorem ct_impl_nat_mul (x y : Nat) (A A' : Option Addr) (c c' : Nat) (hx : Sm x) (hy : Sm y) : CtR Try.prog 97 [.slice A (ofN B64 x).length c, .slice A' (ofN B64 y).length c'] [Row .u64 A c (ofN B64 x), Row .u64 A' c' (ofN B64 y)] .u64 (ofN B64 (x * y)) := by
  obtain ⟨d, n, v⟩ := ofN_spec B64_2 x
  obtain ⟨d', n', v'⟩ := ofN_spec B64_2 y
  obtain ⟨d2, n2, v2⟩ := ofN_spec B64_2 (x * y)
  have hl := hx.len64
  have hl' := hy.len64
  exact ct_impl_nat_mul_rows _ _ A A' c c' d d' (by omega) (by omega) _ d2 n2 (by rw [v2, v, v'])
end
end Go.Proofs.Ytlggnljibebfeaa.M
end
section
namespace Go.Proofs.Ytlggnljibebfeaa.M
open Go.RowKit Go.Proofs.Ytlggnljibebfeaa.G Go.Proofs.YtlggnljibebfeaaV.PrintWords Go.Proofs.YtlggnljibebfeaaV.PrintLast Go.Proofs.Ytlggnljibebfeaa.X
set_option linter.unusedVariables false
set_option linter.unusedSimpArgs false
theorem ct_impl_ten (E : Int) (e : Nat) (hE : Nn E e) (he : e ≤ 20000) : CtR Try.prog 98 [.int .i64 E] [] .u64 (ofN B64 (10 ^ e)) := by
 obtain ⟨d, n, v⟩ := ofN_spec B64_2 (10 ^ e)
 exact ct_impl_ten_rows E e hE he _ d n v
end Go.Proofs.Ytlggnljibebfeaa.M
end
section
namespace Go.Proofs.Ytlggnljibebfeaa.X
open Go.RowKit Go.Proofs.YtlggnljibebfeaaV.PrintWords Go.Proofs.YtlggnljibebfeaaV.PrintLast
set_option linter.unusedVariables false
set_option linter.unusedSimpArgs false
abbrev Post := Exit → Act → World → Prop
def SQ (X : Cx) (c : Code) (s : St) (Q : Post) : Prop := ∀ a w, Agree X.fr s a → Holds X s w → c.wpIn X.F 0 X.P Q a w
def Cx.push (X : Cx) (d : Deferred) : Cx := ⟨X.P, X.n, X.B, ⟨X.w0.w, X.w0.M, d :: X.w0.df⟩, X.rd⟩
theorem Holds.push {X : Cx} {s : St} {w : World} (h : Holds X s w) (d : Deferred) : Holds (X.push d) s w :=
  ⟨⟨h.below.os, h.below.tape, h.below.output, h.below.size, h.below.block⟩, h.box, h.new, h.nodup, h.fact, h.old⟩
section
variable {X : Cx} {s : St} {Q : Post} {ops : Array Oper}
theorem SQ_of {c : Code} {K : Exit → St → Prop} (h : SW X c s K) (hq : ∀ e a w, Lift X K e a w → Q e a w) : SQ X c s Q := fun a w ha hw => wpIn_mono (h a w ha hw) hq
theorem SQ_seq {x y : Code} (h : SQ X x s (Exit.then (y.wpIn X.F 0 X.P Q) Q)) : SQ X (.seq x y) s Q := fun a w ha hw => wpIn_seq (h a w ha hw)
theorem SQ_cut {x y : Code} {K : Exit → St → Prop} (M : St → Prop) (h : SW X x s (thenK M K)) (hq : ∀ e s' a w, Agree X.fr s' a → Holds X s' w → K e s' → Q e a w) (h2 : ∀ s', M s' → SQ X y s' Q) : SQ X (.seq x y) s Q := by
  refine SQ_seq (SQ_of h (fun e a w hl => ?_))
  obtain ⟨s', ha, hw, hk⟩ := hl
  cases e with
  | normal => exact h2 s' hk a w ha hw
  | _ => exact hq _ s' a w ha hw hk
theorem SQ_weak {c : Code} {t : St} (h : Weak s t) (k : SQ X c t Q) : SQ X c s Q := by
  intro a w ha hw
  refine k a w ⟨ha.size, ha.defers, fun i v hv => ha.env i v (h.env i v hv)⟩ ⟨hw.below, h.bs ▸ hw.box, h.bs ▸ hw.new, h.bs ▸ hw.nodup, fun F hF => ?_, hw.old⟩
  have := hw.fact F (h.fs.mem F hF)
  rw [h.bs] at this
  exact this
end
abbrev LvD (P : Program) (fn : Func) (R : Ending → World → Prop) (a : Act) (w : World) : Prop := Leaves P fn a.tmps R a.defers .returning w
theorem RetL.post {X : Cx} {fn : Func} {R : Ending → World → Prop} : ∀ e a w, Lift X (RetL X fn (LvD X.P fn R)) e a w → bodyPostD X.P fn R e a w := by
  rintro e a w ⟨s, ha, hw, hk⟩
  cases e with
  | normal => exact hk a w ha hw
  | ret => exact hk a w ha hw
  | _ => exact hk.elim
def LeftM (P : Program) (B : List Nat) (w0 : Base) {γ : Type} (val : γ → Value) (bs' : γ → List Box) (post : γ → List Fact) (e : Ending) (w' : World) : Prop := ∃ g : γ, e = .returned (val g) ∧ Holds ⟨P, 0, B, w0, none⟩ ⟨[], bs' g, post g⟩ w'
theorem left_end {P : Program} {n : Nat} {B : List Nat} {w0 : Base} {df : List Deferred} {fn : Func} {γ : Type} {val : γ → Value} {bs' : γ → List Box} {post : γ → List Fact} {s : St} {tmps : Array Value} {w : World} {fr : Nat × List Deferred} (ha : Agree fr s ⟨tmps, df⟩) (hw : Holds ⟨P, n, B, w0, none⟩ s w)
    (g : γ) (m : List Bool) (hs gs : List Nat) (ho : outN P fn s hs = some (val g, dup gs)) (hm : bs' g = pick s.bs m) (hsub : Sub (post g) s.fs) : Leaves P fn tmps (LeftM P B w0 val bs' post) [] .returning w := by
  have hx : Holds ⟨P, n, B, w0, none⟩ ⟨[], bs' g, s.fs⟩ w := hw.sub (fun b hb => (pick_sub s.bs m).subset (hm ▸ hb)) (by rw [hm]; exact ((pick_sub s.bs m).map Box.id).nodup hw.nodup) []
  exact ⟨val g, outN_spec ho ha hw.box, g, rfl, ⟨hx.below, hx.box, hx.new, hx.nodup, fun F hF => hx.fact F (hsub.mem F hF), hx.old⟩⟩
end Go.Proofs.Ytlggnljibebfeaa.X
end
