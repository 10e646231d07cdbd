import Derived.IntWalk
import Derived.Laws.Externs
import Derived.Test.YtlggnljibebfeaaQFnExactNatToTextg
section
namespace Go.Proofs.Ytlggnljibebfeaa.M
open Go.RowKit Go.Proofs.Ytlggnljibebfeaa.G Go.Proofs.YtlggnljibebfeaaV.PrintWords Go.Proofs.YtlggnljibebfeaaV.PrintLast
set_option linter.unusedVariables false
set_option linter.unusedSimpArgs false
def val (B : Nat) : List Int → Nat
  | [] => 0
  | x :: xs => x.toNat + B * val B xs
def Dig (B : Nat) (l : List Int) : Prop := ∀ x ∈ l, 0 ≤ x ∧ x < (B : Int)
def Norm (l : List Int) : Prop := trimL l = l
theorem val_cons (B : Nat) (x : Int) (l : List Int) : val B (x :: l) = x.toNat + B * val B l := rfl
theorem val_append (B : Nat) (a b : List Int) : val B (a ++ b) = val B a + B ^ a.length * val B b := by
  induction a with
  | nil => simp [val]
  | cons x a ih =>
    rw [List.cons_append, val_cons, val_cons, ih, List.length_cons, Nat.pow_succ, Nat.mul_add, Nat.add_assoc]
    congr 2
    rw [← Nat.mul_assoc, Nat.mul_comm B (B ^ a.length)]
theorem val_one (B : Nat) (x : Int) : val B [x] = x.toNat := by simp [val]
theorem val_snoc (B : Nat) (a : List Int) (x : Int) : val B (a ++ [x]) = val B a + B ^ a.length * x.toNat := by rw [val_append, val_one]
theorem Dig.nil (B : Nat) : Dig B [] := fun x h => by cases h
theorem Dig.cons {B : Nat} {x : Int} {l : List Int} (hx : 0 ≤ x ∧ x < (B : Int)) (h : Dig B l) : Dig B (x :: l) := by
  intro y hy
  rcases List.mem_cons.1 hy with rfl | hy
  · exact hx
  · exact h y hy
theorem Dig.append {B : Nat} {a b : List Int} (ha : Dig B a) (hb : Dig B b) : Dig B (a ++ b) := by
  intro y hy
  rcases List.mem_append.1 hy with hy | hy
  · exact ha y hy
  · exact hb y hy
theorem Dig.snoc {B : Nat} {a : List Int} {x : Int} (ha : Dig B a) (hx : 0 ≤ x ∧ x < (B : Int)) : Dig B (a ++ [x]) := ha.append (Dig.cons hx (Dig.nil B))
theorem Dig.take {B : Nat} {l : List Int} (h : Dig B l) (k : Nat) : Dig B (l.take k) := fun x hx => h x (List.mem_of_mem_take hx)
theorem Dig.drop {B : Nat} {l : List Int} (h : Dig B l) (k : Nat) : Dig B (l.drop k) := fun x hx => h x (List.mem_of_mem_drop hx)
theorem Dig.trim {B : Nat} {l : List Int} (h : Dig B l) : Dig B (trimL l) := by rw [trimL_eq_take]; exact h.take _
theorem Dig.zeros {B : Nat} (hB : 0 < B) (n : Nat) : Dig B (List.replicate n 0) := fun x hx => by rw [List.eq_of_mem_replicate hx]; omega
theorem Dig.set {B : Nat} {l : List Int} (h : Dig B l) (p : Nat) {x : Int} (hx : 0 ≤ x ∧ x < (B : Int)) : Dig B (l.set p x) := by
  intro y hy
  rcases List.mem_or_eq_of_mem_set hy with hy | rfl
  · exact h y hy
  · exact hx
theorem Dig.rd {B : Nat} {l : List Int} (h : Dig B l) (hB : 0 < B) (i : Int) : 0 ≤ rd l i ∧ rd l i < (B : Int) := by
  show 0 ≤ l.getD i.toNat 0 ∧ l.getD i.toNat 0 < (B : Int)
  rw [List.getD_eq_getElem?_getD]
  cases hg : l[i.toNat]? with
  | none => simp; omega
  | some x => exact h x (List.mem_of_getElem? hg)
theorem val_lt {B : Nat} {l : List Int} (h : Dig B l) : val B l < B ^ l.length := by
  induction l with
  | nil => simp [val]
  | cons x l ih =>
    have h1 := ih (fun y hy => h y (List.mem_cons_of_mem _ hy))
    have hx := h x (List.mem_cons_self)
    rw [val_cons, List.length_cons, Nat.pow_succ]
    have h2 : val B l + 1 ≤ B ^ l.length := h1
    have h3 : B * (val B l + 1) ≤ B * B ^ l.length := Nat.mul_le_mul_left B h2
    rw [Nat.mul_comm B (B ^ l.length), Nat.mul_add] at h3
    omega
theorem snoc_of {l : List Int} (h : 0 < l.length) : ∃ a x, l = a ++ [x] := by
  refine ⟨l.dropLast, l.getLast (by intro hn; rw [hn] at h; simp at h), ?_⟩
  exact (List.dropLast_concat_getLast _).symm
theorem val_snoc_zero (B : Nat) (a : List Int) : val B (a ++ [0]) = val B a := by rw [val_snoc]; simp
theorem val_trim (B : Nat) (l : List Int) : val B (trimL l) = val B l := by
  induction h : l.length generalizing l with
  | zero => rw [List.eq_nil_of_length_eq_zero h]; rfl
  | succ n ih =>
    obtain ⟨a, x, rfl⟩ : ∃ a x, l = a ++ [x] := snoc_of (by omega)
    by_cases hx : x = 0
    · subst hx
      rw [trimL_snoc_zero, val_snoc_zero]
      exact ih a (by simpa using h)
    · rw [trimL_snoc_ne _ _ hx]
theorem norm_trim (l : List Int) : Norm (trimL l) := trimL_idem l
theorem norm_nil : Norm [] := rfl
theorem norm_snoc {a : List Int} {x : Int} : Norm (a ++ [x]) ↔ x ≠ 0 := by
  constructor
  · intro h hx
    subst hx
    unfold Norm at h
    rw [trimL_snoc_zero] at h
    have h1 := trimL_length a
    rw [h] at h1
    simp at h1
    omega
  · exact fun h => trimL_snoc_ne _ _ h
theorem val_ge {B : Nat} {l : List Int} (hd : Dig B l) (h : Norm l) (hl : 0 < l.length) : B ^ (l.length - 1) ≤ val B l := by
  obtain ⟨a, x, rfl⟩ : ∃ a x, l = a ++ [x] := snoc_of hl
  have hx := norm_snoc.1 h
  have hx0 := hd x (by simp)
  rw [val_snoc, List.length_append, List.length_singleton, Nat.add_sub_cancel]
  have : B ^ a.length * 1 ≤ B ^ a.length * x.toNat := Nat.mul_le_mul_left _ (by omega)
  omega
theorem val_inj {B : Nat} : ∀ {a b : List Int}, Dig B a → Dig B b → a.length = b.length → val B a = val B b → a = b
  | [], [], _, _, _, _ => rfl
  | [], y :: b, _, _, h, _ => by simp at h
  | x :: a, [], _, _, h, _ => by simp at h
  | x :: a, y :: b, ha, hb, hl, hv => by
    have hx := ha x (by simp)
    have hy := hb y (by simp)
    rw [val_cons, val_cons] at hv
    have hm : (x.toNat + B * val B a) % B = (y.toNat + B * val B b) % B := by rw [hv]
    rw [Nat.add_mul_mod_self_left, Nat.add_mul_mod_self_left, Nat.mod_eq_of_lt (by omega), Nat.mod_eq_of_lt (by omega)] at hm
    have hB : 0 < B := by omega
    have hv2 : val B a = val B b := by
      have h2 : B * val B a = B * val B b := by omega
      exact Nat.eq_of_mul_eq_mul_left hB h2
    rw [val_inj (fun z hz => ha z (List.mem_cons_of_mem _ hz)) (fun z hz => hb z (List.mem_cons_of_mem _ hz)) (by simpa using hl) hv2, show x = y by omega]
theorem val_lt_of_length {B : Nat} (hB : 0 < B) {a b : List Int} (ha : Dig B a) (hb : Dig B b) (hn : Norm b) (hl : a.length < b.length) : val B a < val B b := by
  have h1 := val_lt ha
  have h2 := val_ge hb hn (by omega)
  have h3 : B ^ a.length ≤ B ^ (b.length - 1) := Nat.pow_le_pow_right hB (by omega)
  omega
theorem norm_inj {B : Nat} (hB : 0 < B) {a b : List Int} (ha : Dig B a) (hb : Dig B b) (na : Norm a) (nb : Norm b) (hv : val B a = val B b) : a = b := by
  rcases Nat.lt_trichotomy a.length b.length with h | h | h
  · have := val_lt_of_length hB ha hb nb h; omega
  · exact val_inj ha hb h hv
  · have := val_lt_of_length hB hb ha na h; omega
theorem norm_zero {B : Nat} (hB : 0 < B) {a : List Int} (ha : Dig B a) (na : Norm a) : a = [] ↔ val B a = 0 := by
  constructor
  · rintro rfl; rfl
  · intro h; exact norm_inj hB ha (Dig.nil B) na norm_nil h
theorem rd_nat (l : List Int) (k : Nat) : rd l (k : Int) = l.getD k 0 := rfl
theorem rd_of_ge (l : List Int) (i : Int) (h : l.length ≤ i.toNat) : rd l i = 0 := by simp [rd, List.getD_eq_getElem?_getD, List.getElem?_eq_none h]
theorem rd_append_left (a b : List Int) (i : Int) (h : i.toNat < a.length) : rd (a ++ b) i = rd a i := by simp [rd, List.getElem?_append_left h]
theorem val_take_succ (B : Nat) (l : List Int) (k : Nat) : val B (l.take (k + 1)) = val B (l.take k) + B ^ k * (rd l (k : Int)).toNat := by
  rcases Nat.lt_or_ge k l.length with h | h
  · rw [take_snoc_rd l k h, val_snoc, List.length_take, Nat.min_eq_left (Nat.le_of_lt h)]
  · rw [rd_of_ge l k (by simpa using h), List.take_of_length_le (by omega), List.take_of_length_le h]
    simp
theorem rd_set_self (l : List Int) (p : Nat) (x : Int) (h : p < l.length) : rd (l.set p x) (p : Int) = x := by simp [rd_nat, h]
theorem rd_set_ne (l : List Int) (p q : Nat) (x : Int) (h : p ≠ q) : rd (l.set p x) (q : Int) = rd l (q : Int) := by simp [rd_nat, List.getD_eq_getElem?_getD, List.getElem?_set_ne h]
theorem wrap_u64 (n : Int) : IntKind.u64.wrap n = n % 18446744073709551616 := by simp [IntKind.wrap, IntKind.bits, IntKind.signed]
theorem wrap_u64_id {n : Int} (h : 0 ≤ n ∧ n < 18446744073709551616) : IntKind.u64.wrap n = n := by rw [wrap_u64]; omega
theorem wraps_u64 (n : Int) (h₀ : 0 ≤ n) (h₁ : n < 2 ^ 64) : IntKind.u64.wrap n = n := wrap_u64_id ⟨h₀, by simpa using h₁⟩
theorem and_mask (i : Nat) (hi : i ≤ 64) (x : Int) (h₀ : 0 ≤ x) (h₁ : x < 18446744073709551616) : bits .and .u64 x (2 ^ i - 1) = x % 2 ^ i :=
  bits_mask .u64 64 (by decide) wraps_u64 i hi x h₀ (by simpa using h₁)
theorem and_low32 (x : Int) (h₀ : 0 ≤ x) (h₁ : x < 18446744073709551616) : bits .and .u64 x 4294967295 = x % 4294967296 := by
  simpa using and_mask 32 (by decide) x h₀ h₁
theorem or_join (i : Nat) (x y : Int) (hx₀ : 0 ≤ x) (hx : x % 2 ^ i = 0) (hx₁ : x < 18446744073709551616) (hy₀ : 0 ≤ y) (hy : y < 2 ^ i) (hy₁ : y < 18446744073709551616) : bits .or .u64 x y = x + y :=
  bits_join .u64 64 (by decide) wraps_u64 i x y hx₀ hx (by simpa using hx₁) hy₀ hy (by simpa using hy₁)
end Go.Proofs.Ytlggnljibebfeaa.M
end
section
namespace Go.Proofs.Ytlggnljibebfeaa.M
open Go.RowKit Go.Proofs.Ytlggnljibebfeaa.G Go.Proofs.YtlggnljibebfeaaV.PrintWords Go.Proofs.YtlggnljibebfeaaV.PrintLast
set_option linter.unusedVariables false
set_option linter.unusedSimpArgs false
section
def B32 : Nat := 4294967296
def B64 : Nat := 18446744073709551616
theorem B32_pos : 0 < B32 := by unfold B32; omega
theorem B64_pos : 0 < B64 := by unfold B64; omega
def outL : List Int → List Int
  | [] => []
  | [x] => [x]
  | x :: y :: l => (x + y * 4294967296) :: outL l
theorem outL_dig : ∀ {l : List Int}, Dig B32 l → Dig B64 (outL l)
  | [], _ => Dig.nil _
  | [x], h => by
    have hx := h x (by simp)
    unfold B32 at hx
    exact Dig.cons (by unfold B64; omega) (Dig.nil _)
  | x :: y :: l, h => by
    have hx := h x (by simp)
    have hy := h y (by simp)
    unfold B32 at hx hy
    exact Dig.cons (by unfold B64; omega) (outL_dig (fun z hz => h z (List.mem_cons_of_mem _ (List.mem_cons_of_mem _ hz))))
theorem outL_val : ∀ {l : List Int}, Dig B32 l → val B64 (outL l) = val B32 l
  | [], _ => rfl
  | [x], h => by simp [outL, val]
  | x :: y :: l, h => by
    have hx := h x (by simp)
    have hy := h y (by simp)
    have ih := outL_val (l := l) (fun z hz => h z (List.mem_cons_of_mem _ (List.mem_cons_of_mem _ hz)))
    simp only [outL, val_cons, ih]
    unfold B32 at hx hy
    unfold B32 B64
    omega
theorem norm_iff (l : List Int) : Norm l ↔ ∀ h : l ≠ [], l.getLast h ≠ 0 := by
  rcases Nat.eq_zero_or_pos l.length with h | h
  · have := List.eq_nil_of_length_eq_zero h
    subst this
    exact ⟨fun _ h => absurd rfl h, fun _ => rfl⟩
  · obtain ⟨a, x, rfl⟩ := snoc_of h
    rw [norm_snoc]
    simp
theorem outL_norm : ∀ {l : List Int}, Dig B32 l → Norm l → Norm (outL l)
  | [], _, _ => norm_nil
  | [x], _, h => h
  | [x, y], hd, h => by
    have hx := hd x (by simp)
    have h2 := (norm_iff _).1 h (by simp)
    simp at h2
    have hy := hd y (by simp)
    refine (norm_iff _).2 (fun _ => ?_)
    simp [outL]
    omega
  | x :: y :: z :: l, hd, h => by
    have h2 : Norm (z :: l) := by
      rw [norm_iff] at h ⊢
      intro hn
      have := h (by simp)
      simpa using this
    have ih := outL_norm (l := z :: l) (fun w hw => hd w (List.mem_cons_of_mem _ (List.mem_cons_of_mem _ hw))) h2
    rw [norm_iff] at ih ⊢
    intro hn
    have hne : outL (z :: l) ≠ [] := by cases l <;> simp [outL]
    have := ih hne
    simp only [outL]
    rw [List.getLast_cons hne]
    exact this
end
section
def IsNat (l : List Int) (v : Nat) : Prop := Dig B64 l ∧ Norm l ∧ val B64 l = v
theorem IsNat.uniq {a b : List Int} {v : Nat} (h : IsNat a v) (k : IsNat b v) : a = b := norm_inj B64_pos h.1 k.1 h.2.1 k.2.1 (h.2.2.trans k.2.2.symm)
theorem IsNat.nil : IsNat [] 0 := ⟨Dig.nil _, norm_nil, rfl⟩
theorem IsNat.out {l : List Int} {v : Nat} (hd : Dig B32 l) (hn : Norm l) (hv : val B32 l = v) : IsNat (outL l) v := ⟨outL_dig hd, outL_norm hd hn, by rw [outL_val hd, hv]⟩
end
section
def Clear (l : List Int) (n : Nat) : Prop := ∀ m : Nat, n ≤ m → rd l (m : Int) = 0
theorem Clear.set {l : List Int} {n p : Nat} {x : Int} (h : Clear l n) (hp : p < n) : Clear (l.set p x) n := fun m hm => by rw [rd_set_ne _ _ _ _ (by omega)]; exact h m hm
theorem Clear.zeros (n m : Nat) : Clear (List.replicate n 0) m := fun k hk => by
  rw [rd_nat, List.getD_eq_getElem?_getD, List.getElem?_replicate]
  split <;> rfl
end
section
theorem cast_dig {B n : Nat} (h : n < B) : 0 ≤ (n : Int) ∧ (n : Int) < (B : Int) := by omega
theorem low32_nat (n : Nat) (h : n < 18446744073709551616) : bits .and .u64 (n : Int) 4294967295 = ((n % 4294967296 : Nat) : Int) := by
  rw [and_low32 _ (by omega) (by omega)]
  omega
def sl (B P : Nat) : Nat → List Int → List Int
  | c, [] => [(c : Int)]
  | c, x :: l => (((x.toNat * P + c) % B : Nat) : Int) :: sl B P ((x.toNat * P + c) / B) l
theorem shl_nat (x p : Nat) (hp : p ≤ 64) : shl .u64 (x : Int) (p : Int) = ((x * 2 ^ p % 18446744073709551616 : Nat) : Int) := by
  unfold shl
  rw [wrap_u64, Int.toNat_natCast, show IntKind.u64.bits = 64 from rfl, Nat.min_eq_left hp, show ((x : Int) * 2 ^ p) = ((x * 2 ^ p : Nat) : Int) by simp]
  exact (Int.natCast_emod _ 18446744073709551616).symm
theorem or_nat (p x y : Nat) (hp : p ≤ 64) (hx : x < 18446744073709551616) (h : 2 ^ p ∣ x) (hy : y < 2 ^ p) : bits .or .u64 (x : Int) (y : Int) = ((x + y : Nat) : Int) := by
  have h64 : 2 ^ p ≤ 2 ^ 64 := Nat.pow_le_pow_right (by omega) hp
  have hc : ((2 : Int) ^ p) = ((2 ^ p : Nat) : Int) := by simp
  rw [or_join p x y (by omega) (by rw [hc]; have := Nat.mod_eq_zero_of_dvd h; omega) (by omega) (by omega) (by rw [hc]; omega) (by omega)]
  omega
end
section
theorem rd_mid (acc r : List Int) (c : Int) (p : Nat) (h : p = acc.length) : rd (acc ++ c :: r) (p : Int) = c := by
  subst h
  simp [rd_nat, List.getD_eq_getElem?_getD]
def shOk (a : List Int) (n : Int) : Prop := a.length ≤ 1200 ∧ ¬ (n > 80000) ∧ ¬ (n < -80000)
instance (a : List Int) (n : Int) : Decidable (shOk a n) := by unfold shOk; infer_instance
end
section
def IsBits (v n : Nat) : Prop := v < 2 ^ n ∧ (n = 0 ∨ 2 ^ (n - 1) ≤ v)
instance (v n : Nat) : Decidable (IsBits v n) := by unfold IsBits; infer_instance
theorem IsBits.uniq {v n m : Nat} (h : IsBits v n) (k : IsBits v m) : n = m := by
  have one : ∀ a b : Nat, IsBits v a → IsBits v b → a ≤ b := by
    intro a b h k
    rcases h.2 with h2 | h2
    · omega
    · rcases Nat.lt_or_ge b a with h3 | h3
      · have := Nat.pow_le_pow_right (n := 2) (by omega) (show b ≤ a - 1 by omega)
        have := k.1
        omega
      · exact h3
  exact Nat.le_antisymm (one n m h k) (one m n k h)
theorem IsBits.zero : IsBits 0 0 := ⟨by decide, Or.inl rfl⟩
theorem IsBits.pos {v n : Nat} (h : IsBits v n) (hv : 0 < v) : 0 < n := by
  rcases Nat.eq_zero_or_pos n with h2 | h2
  · subst h2
    have := h.1
    simp at this
    omega
  · exact h2
theorem IsBits.up {v m s : Nat} (h : IsBits (v / 2 ^ s) m) (hv : 0 < v / 2 ^ s) : IsBits v (s + m) := by
  have hp : 0 < 2 ^ s := Nat.pow_pos (by omega)
  have hm := h.pos hv
  refine ⟨?_, Or.inr ?_⟩
  · rw [Nat.pow_add, Nat.mul_comm]
    exact (Nat.div_lt_iff_lt_mul hp).1 h.1
  · rcases h.2 with h2 | h2
    · omega
    · rw [show s + m - 1 = s + (m - 1) by omega, Nat.pow_add, Nat.mul_comm]
      exact (Nat.le_div_iff_mul_le hp).1 h2
theorem IsBits.le {v n w : Nat} (h : IsBits v n) (hv : v < 2 ^ w) : n ≤ w := by
  rcases h.2 with h2 | h2
  · omega
  · rcases Nat.lt_or_ge w n with h3 | h3
    · have := Nat.pow_le_pow_right (n := 2) (by omega) (show w ≤ n - 1 by omega)
      omega
    · exact h3
theorem lenT : ∀ i : Nat, i < 256 → IsBits i (bt (⟨#[0, 1, 2, 2, 3, 3, 3, 3, 4, 4, 4, 4, 4, 4, 4, 4, 5, 5, 5, 5, 5, 5, 5, 5, 5, 5, 5, 5, 5, 5, 5, 5, 6, 6, 6, 6, 6, 6, 6, 6, 6, 6, 6, 6, 6, 6, 6, 6, 6, 6, 6, 6, 6, 6, 6, 6, 6, 6, 6, 6, 6, 6, 6, 6, 7, 7, 7, 7, 7, 7, 7, 7, 7, 7, 7, 7, 7, 7, 7, 7, 7, 7, 7, 7, 7, 7, 7, 7, 7, 7, 7, 7, 7, 7, 7, 7, 7, 7, 7, 7, 7, 7, 7, 7, 7, 7, 7, 7, 7, 7, 7, 7, 7, 7, 7, 7, 7, 7, 7, 7, 7, 7, 7, 7, 7, 7, 7, 7, 8, 8, 8, 8, 8, 8, 8, 8, 8, 8, 8, 8, 8, 8, 8, 8, 8, 8, 8, 8, 8, 8, 8, 8, 8, 8, 8, 8, 8, 8, 8, 8, 8, 8, 8, 8, 8, 8, 8, 8, 8, 8, 8, 8, 8, 8, 8, 8, 8, 8, 8, 8, 8, 8, 8, 8, 8, 8, 8, 8, 8, 8, 8, 8, 8, 8, 8, 8, 8, 8, 8, 8, 8, 8, 8, 8, 8, 8, 8, 8, 8, 8, 8, 8, 8, 8, 8, 8, 8, 8, 8, 8, 8, 8, 8, 8, 8, 8, 8, 8, 8, 8, 8, 8, 8, 8, 8, 8, 8, 8, 8, 8, 8, 8, 8, 8, 8, 8, 8, 8, 8, 8, 8, 8, 8, 8, 8, 8]⟩ : ByteArray) (i : Int)).toNat ∧ 0 ≤ bt (⟨#[0, 1, 2, 2, 3, 3, 3, 3, 4, 4, 4, 4, 4, 4, 4, 4, 5, 5, 5, 5, 5, 5, 5, 5, 5, 5, 5, 5, 5, 5, 5, 5, 6, 6, 6, 6, 6, 6, 6, 6, 6, 6, 6, 6, 6, 6, 6, 6, 6, 6, 6, 6, 6, 6, 6, 6, 6, 6, 6, 6, 6, 6, 6, 6, 7, 7, 7, 7, 7, 7, 7, 7, 7, 7, 7, 7, 7, 7, 7, 7, 7, 7, 7, 7, 7, 7, 7, 7, 7, 7, 7, 7, 7, 7, 7, 7, 7, 7, 7, 7, 7, 7, 7, 7, 7, 7, 7, 7, 7, 7, 7, 7, 7, 7, 7, 7, 7, 7, 7, 7, 7, 7, 7, 7, 7, 7, 7, 7, 8, 8, 8, 8, 8, 8, 8, 8, 8, 8, 8, 8, 8, 8, 8, 8, 8, 8, 8, 8, 8, 8, 8, 8, 8, 8, 8, 8, 8, 8, 8, 8, 8, 8, 8, 8, 8, 8, 8, 8, 8, 8, 8, 8, 8, 8, 8, 8, 8, 8, 8, 8, 8, 8, 8, 8, 8, 8, 8, 8, 8, 8, 8, 8, 8, 8, 8, 8, 8, 8, 8, 8, 8, 8, 8, 8, 8, 8, 8, 8, 8, 8, 8, 8, 8, 8, 8, 8, 8, 8, 8, 8, 8, 8, 8, 8, 8, 8, 8, 8, 8, 8, 8, 8, 8, 8, 8, 8, 8, 8, 8, 8, 8, 8, 8, 8, 8, 8, 8, 8, 8, 8, 8, 8, 8, 8, 8, 8]⟩ : ByteArray) (i : Int) := by decide +kernel
end
section
def powOk (m : Nat) (e : Int) : Prop := ¬ (e < 0) ∧ ¬ (e > 20000) ∧ ¬ (wrap64 ((m : Int) * e) > 76800)
instance (m : Nat) (e : Int) : Decidable (powOk m e) := by unfold powOk; infer_instance
end
section
theorem est_le {B d1 d0 n u q r : Nat} (hq : q * d1 + r = n) (hx : q * d0 ≤ B * r + u) : q * (d1 * B + d0) ≤ n * B + u := by
  subst hq
  have e1 : q * (d1 * B + d0) = q * d1 * B + q * d0 := by rw [Nat.mul_add, Nat.mul_assoc]
  have e2 : (q * d1 + r) * B = q * d1 * B + B * r := by rw [Nat.add_mul, Nat.mul_comm r B]
  omega
theorem est_gt {B d1 d0 n u q r : Nat} (hq : q * d1 + r = n) (hx : B * r + u < q * d0) : n * B + u < q * (d1 * B + d0) := by
  subst hq
  have e1 : q * (d1 * B + d0) = q * d1 * B + q * d0 := by rw [Nat.mul_add, Nat.mul_assoc]
  have e2 : (q * d1 + r) * B = q * d1 * B + B * r := by rw [Nat.add_mul, Nat.mul_comm r B]
  omega
theorem est_over {B d0 q r u : Nat} (hq : q ≤ B) (hd : d0 < B) (hr : B ≤ r) : q * d0 ≤ B * r + u := by
  have h1 := Nat.mul_le_mul hq (Nat.le_of_lt hd)
  have h2 := Nat.mul_le_mul_left B hr
  omega
theorem div_is {T D q : Nat} (hD : 0 < D) (h1 : q * D ≤ T) (h2 : T / D ≤ q) : q = T / D := by
  have := (Nat.le_div_iff_mul_le hD).2 h1
  omega
theorem div_less {T D q : Nat} (hD : 0 < D) (h : T < q * D) : T / D + 1 ≤ q := (Nat.div_lt_iff_lt_mul hD).2 h
theorem div_lt_base {B D n u : Nat} (hn : n < D) (hu : u < B) : (n * B + u) / D < B := by
  have hD : 0 < D := by omega
  rw [Nat.div_lt_iff_lt_mul hD]
  have h1 := Nat.mul_le_mul_right B (show n + 1 ≤ D from hn)
  rw [Nat.add_mul, Nat.mul_comm D B] at h1
  omega
theorem est_start {B d1 d0 n : Nat} (hd1 : B ≤ 2 * d1) (hd0 : d0 < B) (hn : n < d1 * B + d0) : n / d1 ≤ B + 1 := by
  have h1 : 0 < d1 := by omega
  have h2 : n < (B + 2) * d1 := by
    have : (B + 2) * d1 = d1 * B + 2 * d1 := by rw [Nat.add_mul, Nat.mul_comm B d1]
    omega
  have := (Nat.div_lt_iff_lt_mul h1).2 h2
  omega
theorem est_floor {B d1 d0 n u : Nat} (h1 : 0 < d1) (hu : u < B) : (n * B + u) / (d1 * B + d0) ≤ n / d1 := by
  have hD : 0 < d1 * B + d0 := by
    have := Nat.mul_pos h1 (show 0 < B by omega)
    omega
  rw [Nat.le_div_iff_mul_le h1]
  have h3 := Nat.div_mul_le_self (n * B + u) (d1 * B + d0)
  generalize (n * B + u) / (d1 * B + d0) = Q at *
  have e1 : Q * (d1 * B + d0) = Q * d1 * B + Q * d0 := by rw [Nat.mul_add, Nat.mul_assoc]
  have h4 : Q * d1 * B < (n + 1) * B := by
    rw [Nat.add_mul]
    omega
  have := Nat.lt_of_mul_lt_mul_right h4
  omega
theorem quot_of {W V Q R : Nat} (h : R + Q * V = W) (hR : R < V) : Q = W / V ∧ R = W % V := by
  subst h
  constructor
  · rw [Nat.add_mul_div_right _ _ (by omega), Nat.div_eq_of_lt hR]; omega
  · rw [Nat.add_mul_mod_self_right, Nat.mod_eq_of_lt hR]
end
section
theorem bits_of (v : Nat) (hv : v < 18446744073709551616) : ∃ m : Nat, IsBits v m ∧ m ≤ 64 := by
  by_cases h0 : v = 0
  · subst h0
    exact ⟨0, IsBits.zero, by decide⟩
  · have h1 : v < 2 ^ (v.log2 + 1) := Nat.lt_log2_self
    have h2 : 2 ^ v.log2 ≤ v := Nat.log2_self_le h0
    have h : IsBits v (v.log2 + 1) := ⟨h1, .inr (by rw [Nat.add_sub_cancel]; exact h2)⟩
    exact ⟨v.log2 + 1, h, h.le (w := 64) hv⟩
end
section
theorem u64_nat {n : Nat} (h : n < 18446744073709551616) : IntKind.u64.wrap (n : Int) = (n : Int) := wrap_u64_id (by omega)
theorem d64_rest (n u q D : Nat) (h : q * D ≤ n * 4294967296 + u) (hr : n * 4294967296 + u - q * D < 18446744073709551616) :
    IntKind.u64.wrap ((IntKind.u64.wrap ((IntKind.u64.wrap ((n : Int) * 4294967296)) + (u : Int))) - (IntKind.u64.wrap ((q : Int) * (D : Int)))) = ((n * 4294967296 + u - q * D : Nat) : Int) := by
  rw [← Int.natCast_mul]
  generalize q * D = z at *
  rw [wrap_u64, wrap_u64, wrap_u64, wrap_u64]
  omega
theorem d64_cond (q d0 r u : Nat) (hq : q < 4294967296) (h0 : d0 < 4294967296) (hr : r < 4294967296) (hu : u < 4294967296) :
    (decide ((IntKind.u64.wrap ((q : Int) * (d0 : Int))) > (IntKind.u64.wrap ((IntKind.u64.wrap (4294967296 * (r : Int))) + (u : Int))))) = decide (4294967296 * r + u < q * d0) := by
  have h1 : q * d0 < 18446744073709551616 := Nat.lt_of_lt_of_le (Nat.mul_lt_mul'' hq h0) (by decide)
  rw [← Int.natCast_mul, u64_nat h1, show (4294967296 : Int) * (r : Int) = ((4294967296 * r : Nat) : Int) by omega, u64_nat (by omega), ← Int.natCast_add, u64_nat (by omega)]
  generalize q * d0 = z
  by_cases h : 4294967296 * r + u < z
  · rw [decide_eq_true h, decide_eq_true (by omega)]
  · rw [decide_eq_false h, decide_eq_false (by omega)]
theorem d64_num {D d1 d0 n u : Nat} (e : D = d1 * 4294967296 + d0) (h1 : 2147483648 ≤ d1 ∧ d1 < 4294967296) (h0 : d0 < 4294967296) (hu : u < 4294967296) (hn : n < D) {q r : Nat} (hq : q * d1 + r = n) (hQ : (n * 4294967296 + u) / D ≤ q) (hq1 : q ≤ 4294967297) (hr : r < 4294967296) (hc : 4294967296 ≤ q ∨ 4294967296 * r + u < q * d0) :
    ∃ p, q = p + 1 ∧ p * d1 + (r + d1) = n ∧ (n * 4294967296 + u) / D ≤ p ∧ p ≤ 4294967296 ∧ (4294967296 ≤ r + d1 → p = (n * 4294967296 + u) / D) := by
  have hD : 0 < D := by omega
  have hlt : (n * 4294967296 + u) / D < q := by
    rcases hc with h | h
    · exact Nat.lt_of_lt_of_le (div_lt_base hn hu) h
    · have := est_gt hq h
      rw [← e] at this
      exact div_less hD this
  have hq0 : 0 < q := Nat.lt_of_le_of_lt (Nat.zero_le _) hlt
  obtain ⟨p, rfl⟩ : ∃ p, q = p + 1 := ⟨q - 1, by omega⟩
  have h3 : p * d1 + (r + d1) = n := by rw [← hq, Nat.add_mul]; omega
  refine ⟨p, rfl, h3, by omega, by omega, fun ho => ?_⟩
  have h4 := est_le h3 (est_over (u := u) (show p ≤ 4294967296 by omega) h0 ho)
  rw [← e] at h4
  exact div_is hD h4 (by omega)
theorem d64_sure {D d1 d0 n u : Nat} (e : D = d1 * 4294967296 + d0) (h1 : 2147483648 ≤ d1 ∧ d1 < 4294967296) (h0 : d0 < 4294967296) (hu : u < 4294967296) (hn : n < D) {q r : Nat} (hq : q * d1 + r = n) (hQ : (n * 4294967296 + u) / D ≤ q) (hc : ¬ 4294967296 * r + u < q * d0) : q = (n * 4294967296 + u) / D := by
  have hD : 0 < D := by omega
  have h4 := est_le (B := 4294967296) (u := u) hq (Nat.le_of_not_lt hc)
  rw [← e] at h4
  exact div_is hD h4 hQ
theorem two_steps {n u u0 D B : Nat} (hD : 0 < D) : ((n * B + u) * B + u0) / D = (n * B + u) / D * B + ((n * B + u) % D * B + u0) / D ∧ ((n * B + u) * B + u0) % D = ((n * B + u) % D * B + u0) % D := by
  generalize n * B + u = a
  have h := Nat.div_add_mod a D
  have e : a * B + u0 = (a % D * B + u0) + D * (a / D * B) := by
    conv => lhs; rw [← h]
    rw [Nat.add_mul, Nat.mul_assoc]; omega
  constructor
  · rw [e, Nat.add_mul_div_left _ _ hD]; omega
  · rw [e, Nat.add_mul_mod_self_left]
theorem norm_num64 {hi lo y s : Nat} (hs : s ≤ 63) (hlo : lo < 18446744073709551616) (hh : hi < y) (hy : y * 2 ^ s < 18446744073709551616) :
    hi * 2 ^ s < 18446744073709551616 ∧ lo / 2 ^ (64 - s) < 2 ^ s ∧ (hi * 18446744073709551616 + lo) * 2 ^ s = (hi * 2 ^ s + lo / 2 ^ (64 - s)) * 18446744073709551616 + lo * 2 ^ s % 18446744073709551616 ∧ hi * 2 ^ s + lo / 2 ^ (64 - s) < y * 2 ^ s := by
  have hp : 0 < 2 ^ s := Nat.pow_pos (by decide)
  have e64 : (18446744073709551616 : Nat) = 2 ^ (64 - s) * 2 ^ s := by rw [← Nat.pow_add, show 64 - s + s = 64 by omega]
  have h1 : hi * 2 ^ s < y * 2 ^ s := Nat.mul_lt_mul_of_pos_right hh hp
  have h2 : lo / 2 ^ (64 - s) < 2 ^ s := by
    rw [Nat.div_lt_iff_lt_mul (Nat.pow_pos (by decide)), Nat.mul_comm, ← e64]; exact hlo
  have h3 : lo * 2 ^ s / 18446744073709551616 = lo / 2 ^ (64 - s) := by
    rw [e64, Nat.mul_div_mul_right _ _ hp]
  have h4 := Nat.div_add_mod (lo * 2 ^ s) 18446744073709551616
  have h5 : (hi + 1) * 2 ^ s ≤ y * 2 ^ s := Nat.mul_le_mul_right _ hh
  rw [Nat.add_mul] at h5
  refine ⟨by omega, h2, ?_, by omega⟩
  rw [Nat.add_mul, Nat.add_mul, ← h3, Nat.mul_right_comm]
  omega
end
section
theorem val_drop_rd (B : Nat) {l : List Int} {p : Nat} (h : p < l.length) : val B (l.drop p) = (rd l (p : Int)).toNat + B * val B (l.drop (p + 1)) := by
  rw [List.drop_eq_getElem_cons h, val_cons]
  congr 2
  simp [rd_nat, h]
end
section
theorem dw_num {q r vo d x rest B : Nat} (h : d * q + r = rest * B + x) : (q + B * vo) * d + r = x + B * (vo * d + rest) := by
  rw [Nat.add_mul, Nat.mul_add, Nat.mul_assoc, Nat.mul_comm q d, Nat.mul_comm B rest]
  omega
end
section
def dv (v : Nat) : List Int → Nat
  | [] => v
  | c :: l => dv (v * 10 + (c - 48).toNat) l
def IsDig (l : List Int) : Prop := ∀ c ∈ l, 48 ≤ c ∧ c ≤ 57
theorem IsDig.take {l : List Int} (h : IsDig l) (k : Nat) : IsDig (l.take k) := fun x hx => h x (List.mem_of_mem_take hx)
theorem IsDig.drop {l : List Int} (h : IsDig l) (k : Nat) : IsDig (l.drop k) := fun x hx => h x (List.mem_of_mem_drop hx)
theorem IsDig.rd {l : List Int} (h : IsDig l) (i : Nat) (hi : i < l.length) : 48 ≤ rd l (i : Int) ∧ rd l (i : Int) ≤ 57 := by
  rw [rd_nat, List.getD_eq_getElem?_getD, List.getElem?_eq_getElem hi]
  exact h _ (List.getElem_mem hi)
end
section
instance (l : List Int) : Decidable (IsDig l) := by unfold IsDig; infer_instance
end
end Go.Proofs.Ytlggnljibebfeaa.M
end
section
namespace Go.Proofs.Ytlggnljibebfeaa.M
open Go.RowKit Go.Proofs.Ytlggnljibebfeaa.G Go.Proofs.YtlggnljibebfeaaV.PrintWords Go.Proofs.YtlggnljibebfeaaV.PrintLast Go.Proofs.Ytlggnljibebfeaa.X
set_option linter.unusedVariables false
set_option linter.unusedSimpArgs false
def shf (k : IntKind) (x y : Int) : Int := Int.fdiv x (2 ^ min y.toNat k.bits)
theorem shf_nat (x p : Nat) (hp : p ≤ 64) : shf .u64 (x : Int) (p : Int) = ((x / 2 ^ p : Nat) : Int) := by
 unfold shf
 rw [Int.toNat_natCast, show IntKind.u64.bits = 64 from rfl, Nat.min_eq_left hp, Int.fdiv_eq_ediv_of_nonneg _ (Int.pow_nonneg (by decide))]
 have : (2 : Int) ^ p = ((2 ^ p : Nat) : Int) := by rw [Int.natCast_pow]; rfl
 rw [this]
 rfl
theorem set_rep (O : List Int) (k : Nat) (v : Int) : (O ++ List.replicate (k + 1) 0).set O.length v = (O ++ [v]) ++ List.replicate k 0 := by
 rw [List.set_append_right _ _ (Nat.le_refl _), Nat.sub_self, List.replicate_succ, List.set_cons_zero, List.append_assoc]
 rfl
theorem trimL_take (n : Nat) : ∀ {l : List Int} {m : Nat}, l.length = n → m ≤ l.length → (∀ i : Nat, m ≤ i → rd l i = 0) → (0 < m → rd l ((m - 1 : Nat) : Int) ≠ 0) → trimL l = l.take m := by
 induction n with
 | zero =>
  intro l m hl hm _ _
  have : l = [] := List.eq_nil_of_length_eq_zero hl
  subst this
  simp
  rfl
 | succ n ih =>
  intro l m hl hm hz hn
  obtain ⟨a, x, rfl⟩ := snoc_of (l := l) (by omega)
  have ha : a.length = n := by simp at hl; exact hl
  have hx : rd (a ++ [x]) (a.length : Int) = x := by simp [rd_nat]
  by_cases he : m = a.length + 1
  ·subst he
   have h1 := hn (by omega)
   rw [show a.length + 1 - 1 = a.length by omega, hx] at h1
   rw [List.take_of_length_le (by simp)]
   exact norm_snoc.2 h1
  ·have hm' : m ≤ a.length := by simp at hm; omega
   have h0 := hz a.length hm'
   rw [hx] at h0
   subst h0
   rw [trimL_snoc_zero, List.take_append_of_le_length hm']
   refine ih ha hm' (fun i hi => ?_) (fun hp => ?_)
   ·rcases Nat.lt_or_ge i a.length with h | h
    ·have := hz i hi
     rwa [rd_append_left _ _ _ (by simpa using h)] at this
    ·exact rd_of_ge a i (by simpa using h)
   ·have := hn hp
    rwa [rd_append_left _ _ _ (by simp; omega)] at this
theorem ct_impl_trimmed (l : List Int) (A : Option Addr) (c : Nat) (hl : l.length ≤ 1000000000) : CtR Try.prog 49 [.slice A l.length c] [Row .u64 A c l] .u64 (trimL l) := by
 refine ct_of Try.func49 rfl (by kernel_rfl) (fun B w0 => ?_)
 refine SW_know zi0 (fun w h => h.2) (fun hc => ?_)
 refine xr [] [(2, .slice none 0 0)] ?_
 refine xr [] [(3, .int .i64 (((List.length l) : Nat) : Int))] ?_
 refine SW_seq ?_
 refine SW_block ?_
 refine SW_loopn (fun m s => m ≤ l.length ∧ (∀ i : Nat, m ≤ i → rd l i = 0) ∧ Weak s ⟨[(0, .slice A l.length c), (3, .int .i64 (m : Int))], [], [Row .u64 A c l]⟩) l.length ⟨Nat.le_refl _, fun i hi => rd_of_ge l i (by simpa using hi), ?_⟩ (fun m s ⟨h1, h2, hw⟩ => ?_)
 ·exact xw (zsS zi0 zs0)
 ·refine SW_weak hw ?_
  clear hw
  have fin : ∀ {A}, trimL l = l.take m → ∀ w, Row .u64 A c l w → Row .u64 A m (trimL l) w := fun e w h => e ▸ row_take m m (Nat.le_refl m) h
  have len : trimL l = l.take m → (trimL l).length = m := fun e => by rw [e, List.length_take]; omega
  by_cases h0 : m = 0
  ·have z0 : decide ((m : Int) > 0) = false := decide_eq_false (by omega)
   have e := trimL_take _ rfl h1 h2 (fun z => absurd h0 (by omega))
   refine SW_fact zi0 (fin e) ?_
   refine SW_seq ?_
   refine xg ?_
   refine xn 3 [] [(8, .bool (decide ((m : Int) > 0)))] ?_
   refine xkf 8 z0 ?_
   refine xz [] [(15, .bool false)] ?_
   refine xs0 ?_
   refine SW_exit ?_
   refine xg ?_
   refine xn 3 [] [(20, .int .i64 (m : Int)), (19, .int .i64 (m : Int)), (18, .slice A (List.length l) c)] ?_
   refine xsx 21 36 (A) (List.length l) (c) (m) IntKind.i64 IntKind.i64 ((m : Int)) ⟨rfl⟩ (by omega) ?_
   refine xz [] [(2, .slice A m m)] ?_
   refine SW_ret ?_
   refine xe (A, m) (.slice A m m) [] ?_ (zsS zi0 zs0)
   rw [len e]
  ·have z0 : decide ((m : Int) > 0) = true := decide_eq_true (by omega)
   refine SW_know zi0 (fun w h => row_at h (by omega)) (fun ⟨ad, e⟩ => ?_)
   subst e
   have wi : IntKind.i64.wrap ((m : Int) - 1) = ((m - 1 : Nat) : Int) := by rw [wrap_i64 (by omega)]; omega
   refine SW_seq ?_
   refine xg ?_
   refine xn 3 [] [(8, .bool (decide ((m : Int) > 0)))] ?_
   refine xkt 8 z0 ?_
   refine xn 6 [] [(11, .int .i64 (IntKind.wrap IntKind.i64 ((m : Int) - 1))), (9, .slice (some ad) (List.length l) c)] ?_
   refine xfi 12 36 (ad) (List.length l) (c) ((m) - 1) IntKind.i64 (IntKind.wrap IntKind.i64 ((m : Int) - 1)) (Nn.w (Nn.sub ⟨rfl⟩ ⟨rfl⟩ (by omega)) (by omega)) (by omega) ?_
   refine xfl 13 zi0 (m - 1) (by omega) ?_
   refine xz [] [(15, .bool (rd l (((m - 1) : Nat) : Int) == 0))] ?_
   refine xs (rd l (((m - 1) : Nat) : Int) == 0) (fun q0 => ?_) (fun q0 => ?_)
   ·refine SW_skip ?_
    refine SW_block ?_
    refine xrl [] [(3, .int .i64 (IntKind.wrap IntKind.i64 ((m : Int) - 1)))] ?_
    rw [wi]
    refine ⟨m - 1, by omega, by omega, fun i hi => ?_, ?_⟩
    ·rcases Nat.eq_or_lt_of_le hi with h | h
     ·rw [← h]; simpa using q0
     ·exact h2 i (by omega)
    ·exact xw (zsS zi0 zs0)
   ·have e := trimL_take _ rfl h1 h2 (fun _ => by simpa using q0)
    refine SW_fact zi0 (fin e) ?_
    refine SW_exit ?_
    refine xg ?_
    refine xn 3 [] [(20, .int .i64 (m : Int)), (19, .int .i64 (m : Int)), (18, .slice (some ad) (List.length l) c)] ?_
    refine xsx 21 36 (some ad) (List.length l) (c) (m) IntKind.i64 IntKind.i64 ((m : Int)) ⟨rfl⟩ (by omega) ?_
    refine xz [] [(2, .slice (some ad) m m)] ?_
    refine SW_ret ?_
    refine xe (some ad, m) (.slice (some ad) m m) [] ?_ (zsS zi0 zs0)
    rw [len e]
end Go.Proofs.Ytlggnljibebfeaa.M
end
section
namespace Go.Proofs.Ytlggnljibebfeaa.M
open Go.RowKit Go.Proofs.Ytlggnljibebfeaa.G Go.Proofs.YtlggnljibebfeaaV.PrintWords Go.Proofs.YtlggnljibebfeaaV.PrintLast Go.Proofs.Ytlggnljibebfeaa.X
set_option linter.unusedVariables false
set_option linter.unusedSimpArgs false
def len8tab : ByteArray := (⟨#[0, 1, 2, 2, 3, 3, 3, 3, 4, 4, 4, 4, 4, 4, 4, 4, 5, 5, 5, 5, 5, 5, 5, 5, 5, 5, 5, 5, 5, 5, 5, 5, 6, 6, 6, 6, 6, 6, 6, 6, 6, 6, 6, 6, 6, 6, 6, 6, 6, 6, 6, 6, 6, 6, 6, 6, 6, 6, 6, 6, 6, 6, 6, 6, 7, 7, 7, 7, 7, 7, 7, 7, 7, 7, 7, 7, 7, 7, 7, 7, 7, 7, 7, 7, 7, 7, 7, 7, 7, 7, 7, 7, 7, 7, 7, 7, 7, 7, 7, 7, 7, 7, 7, 7, 7, 7, 7, 7, 7, 7, 7, 7, 7, 7, 7, 7, 7, 7, 7, 7, 7, 7, 7, 7, 7, 7, 7, 7, 8, 8, 8, 8, 8, 8, 8, 8, 8, 8, 8, 8, 8, 8, 8, 8, 8, 8, 8, 8, 8, 8, 8, 8, 8, 8, 8, 8, 8, 8, 8, 8, 8, 8, 8, 8, 8, 8, 8, 8, 8, 8, 8, 8, 8, 8, 8, 8, 8, 8, 8, 8, 8, 8, 8, 8, 8, 8, 8, 8, 8, 8, 8, 8, 8, 8, 8, 8, 8, 8, 8, 8, 8, 8, 8, 8, 8, 8, 8, 8, 8, 8, 8, 8, 8, 8, 8, 8, 8, 8, 8, 8, 8, 8, 8, 8, 8, 8, 8, 8, 8, 8, 8, 8, 8, 8, 8, 8, 8, 8, 8, 8, 8, 8, 8, 8, 8, 8, 8, 8, 8, 8, 8, 8, 8, 8, 8, 8]⟩ : ByteArray)
theorem len8 : ∀ i : Nat, i < 256 → IsBits i (bt len8tab i).toNat ∧ 0 ≤ bt len8tab i := fun i hi => lenT i hi
theorem run_sidx {P : Program} {t : TypeId} {ρ : Operand → Value} {o : Oper} {x ix : Operand} {s : ByteArray} {k : IntKind} {i : Nat} (ho : o.op = .index t x ix) (hx : ρ x = .string s) (hi : ρ ix = .int k (i : Int)) (ht : ∀ w, (underlying t).run P w = .ok .string w) (h1 : i < s.size) (w : World) : (execOp ρ o).run P w = .ok (.value (.int .u8 (bt s i))) w := by
 have e : bt s (i : Int) = ((s[i]'h1).toNat : Int) := by
  have := bt_at s (i : Int) (by simpa using h1)
  simp only [Int.toNat_natCast] at this
  exact this.symm
 unfold execOp
 simp only [ho, hx, hi]
 simp [Instr.index, Sem.run_bind, Result.andThen, asIntOf, ht, h1, e]
section
variable {X : Cx} {env : List (Nat × Value)} {bs : List Box} {fs : List Fact} {K : Exit → St → Prop} {ops : Array Oper} {j : Nat}
theorem xsi (d : Nat) (s : ByteArray) (k : IntKind) (y : Nat) (v : Int) (hv : bt s (y : Int) = v) (h1 : y < s.size) {o : Oper} {t : TypeId} {x ix : Operand} (h : NW X ops (Nat.succ j) ⟨(d, .int .u8 v) :: env, bs, fs⟩ K)
  (ho : ops[j]? = some o := by rfl) (hop : o.op = .index t x ix := by rfl) (hg : guardD ops env o = some true := by kernel_rfl) (hf : fitO X.n env o = true := by kernel_rfl) (hd : o.dst = some d := by rfl)
  (hx : evD env x = .string s := by kernel_rfl) (hi : evD env ix = .int k (y : Int) := by kernel_rfl) (ht : ∀ w, (underlying t).run X.P w = .ok .string w := by intro w; kernel_rfl) : NW X ops j ⟨env, bs, fs⟩ K := by
 subst hv
 exact nv _ d _ ho hg hf hd (fun w _ _ => run_sidx hop hx hi ht h1 w) rfl h
end
theorem bits_down {x m s : Nat} (h : IsBits x m) (hx : x < 18446744073709551616) (hs : 2 ^ s ≤ x) : ∃ m', IsBits (x / 2 ^ s) m' ∧ m = s + m' := by
 obtain ⟨m', h1, _⟩ := bits_of (x / 2 ^ s) (Nat.lt_of_le_of_lt (Nat.div_le_self _ _) hx)
 exact ⟨m', h1, h.uniq (h1.up (Nat.div_pos hs (Nat.pow_pos (by decide))))⟩
theorem ct_bits_Len64 (x : Nat) (hx : x < 18446744073709551616) (m : Nat) (hm : IsBits x m) : CtV Try.prog 128 [.int .u64 (x : Int)] [] (.int .i64 (m : Int)) := by
 refine ct_of Try.func128 rfl (by kernel_rfl) (fun B w0 => ?_)
 refine xr [] [(2, .int .i64 0)] ?_
 have hm64 : m ≤ 64 := hm.le (w := 64) hx
 have stage : ∀ (S : Nat) (y s m' : Nat), y < 18446744073709551616 → IsBits y m' → m = s + m' → 2 ^ S ≤ y → ∃ m2, IsBits (y / 2 ^ S) m2 ∧ m = s + S + m2 := fun S y s m' hy h1 h2 h3 => by
  obtain ⟨m2, h4, h5⟩ := bits_down h1 hy h3
  exact ⟨m2, h4, by omega⟩
 refine SW_cut (fun s' => ∃ y s m', y < 4294967296 ∧ IsBits y m' ∧ m = s + m' ∧ Weak s' ⟨[(0, .int .u64 (y : Int)), (2, .int .i64 (s : Int))], [], []⟩) ?_ ?_
 ·by_cases h : 4294967296 ≤ x
  ·have z : decide ((x : Int) ≥ 4294967296) = true := decide_eq_true (by omega)
   have v : Ve (shf .u64 (x : Int) 32) ((x / 2 ^ 32 : Nat) : Int) := ⟨shf_nat x 32 (by decide)⟩
   obtain ⟨m2, h4, h5⟩ := stage 32 x 0 m hx hm (by omega) h
   refine xr [] [(4, .bool (decide ((x : Int) ≥ 4294967296)))] ?_
   refine xst z ?_
   refine xg ?_
   refine xn 1 [] [(5, .int .u64 (x : Int))] ?_
   refine xve 6 IntKind.u64 (shf IntKind.u64 (x : Int) 32) ((((x / 2 ^ 32) : Nat) : Int)) v ?_
   refine xz [] [(0, .int .u64 (((x / 2 ^ 32) : Nat) : Int))] ?_
   refine xrl [] [(2, .int .i64 32)] ?_
   refine ⟨x / 2 ^ 32, 32, m2, by omega, h4, by omega, ?_⟩
   exact xw zs0
  ·have z : decide ((x : Int) ≥ 4294967296) = false := decide_eq_false (by omega)
   refine xr [] [(4, .bool (decide ((x : Int) ≥ 4294967296)))] ?_
   refine xsf z ?_
   refine SW_skip ?_
   refine ⟨x, 0, m, by omega, hm, by omega, ?_⟩
   exact xw zs0
 ·rintro s' ⟨y, s, m', hy, h1, h2, hw⟩
  refine SW_weak hw ?_
  clear hw
  refine SW_cut (fun s' => ∃ y s m', y < 65536 ∧ IsBits y m' ∧ m = s + m' ∧ Weak s' ⟨[(0, .int .u64 (y : Int)), (2, .int .i64 (s : Int))], [], []⟩) ?_ ?_
  ·by_cases h : 65536 ≤ y
   ·have z : decide ((y : Int) ≥ 65536) = true := decide_eq_true (by omega)
    have v : Ve (shf .u64 (y : Int) 16) ((y / 2 ^ 16 : Nat) : Int) := ⟨shf_nat y 16 (by decide)⟩
    have v2 : Ve (IntKind.i64.wrap ((s : Int) + 16)) ((s + 16 : Nat) : Int) := ⟨(Nn.w (Nn.add ⟨rfl⟩ ⟨rfl⟩ : Nn ((s : Int) + 16) (s + 16)) (by omega)).out⟩
    obtain ⟨m2, h4, h5⟩ := stage 16 y s m' (by omega) h1 h2 h
    refine xr [] [(8, .bool (decide ((y : Int) ≥ 65536)))] ?_
    refine xst z ?_
    refine xg ?_
    refine xn 1 [] [(9, .int .u64 (y : Int))] ?_
    refine xve 10 IntKind.u64 (shf IntKind.u64 (y : Int) 16) ((((y / 2 ^ 16) : Nat) : Int)) v ?_
    refine xz [] [(0, .int .u64 (((y / 2 ^ 16) : Nat) : Int))] ?_
    refine SW_region ?_
    refine xn 1 [] [(11, .int .i64 (s : Int))] ?_
    refine xve 12 IntKind.i64 (IntKind.wrap IntKind.i64 ((s : Int) + 16)) ((((s + 16) : Nat) : Int)) v2 ?_
    refine xz [] [(2, .int .i64 (((s + 16) : Nat) : Int))] ?_
    refine ⟨y / 2 ^ 16, s + 16, m2, by omega, h4, by omega, ?_⟩
    exact xw zs0
   ·have z : decide ((y : Int) ≥ 65536) = false := decide_eq_false (by omega)
    refine xr [] [(8, .bool (decide ((y : Int) ≥ 65536)))] ?_
    refine xsf z ?_
    refine SW_skip ?_
    refine ⟨y, s, m', by omega, h1, h2, ?_⟩
    exact xw zs0
  ·rintro s' ⟨y, s, m', hy, h1, h2, hw⟩
   refine SW_weak hw ?_
   clear hw
   refine SW_cut (fun s' => ∃ y s m', y < 256 ∧ IsBits y m' ∧ m = s + m' ∧ Weak s' ⟨[(0, .int .u64 (y : Int)), (2, .int .i64 (s : Int))], [], []⟩) ?_ ?_
   ·by_cases h : 256 ≤ y
    ·have z : decide ((y : Int) ≥ 256) = true := decide_eq_true (by omega)
     have v : Ve (shf .u64 (y : Int) 8) ((y / 2 ^ 8 : Nat) : Int) := ⟨shf_nat y 8 (by decide)⟩
     have v2 : Ve (IntKind.i64.wrap ((s : Int) + 8)) ((s + 8 : Nat) : Int) := ⟨(Nn.w (Nn.add ⟨rfl⟩ ⟨rfl⟩ : Nn ((s : Int) + 8) (s + 8)) (by omega)).out⟩
     obtain ⟨m2, h4, h5⟩ := stage 8 y s m' (by omega) h1 h2 h
     refine xr [] [(14, .bool (decide ((y : Int) ≥ 256)))] ?_
     refine xst z ?_
     refine xg ?_
     refine xn 1 [] [(15, .int .u64 (y : Int))] ?_
     refine xve 16 IntKind.u64 (shf IntKind.u64 (y : Int) 8) ((((y / 2 ^ 8) : Nat) : Int)) v ?_
     refine xz [] [(0, .int .u64 (((y / 2 ^ 8) : Nat) : Int))] ?_
     refine SW_region ?_
     refine xn 1 [] [(17, .int .i64 (s : Int))] ?_
     refine xve 18 IntKind.i64 (IntKind.wrap IntKind.i64 ((s : Int) + 8)) ((((s + 8) : Nat) : Int)) v2 ?_
     refine xz [] [(2, .int .i64 (((s + 8) : Nat) : Int))] ?_
     refine ⟨y / 2 ^ 8, s + 8, m2, by omega, h4, by omega, ?_⟩
     exact xw zs0
    ·have z : decide ((y : Int) ≥ 256) = false := decide_eq_false (by omega)
     refine xr [] [(14, .bool (decide ((y : Int) ≥ 256)))] ?_
     refine xsf z ?_
     refine SW_skip ?_
     refine ⟨y, s, m', by omega, h1, h2, ?_⟩
     exact xw zs0
   ·rintro s' ⟨y, s, m', hy, h1, h2, hw⟩
    refine SW_weak hw ?_
    clear hw
    obtain ⟨k1, k2⟩ := len8 y hy
    have hu := k1.uniq h1
    have hv : bt len8tab y = (m' : Int) := by omega
    have hsz : len8tab.size = 256 := by kernel_rfl
    have v3 : Ve (IntKind.u8.wrap (y : Int)) (y : Int) := ⟨by simp [IntKind.wrap, IntKind.bits, IntKind.signed]; omega⟩
    have v4 : Ve (IntKind.i64.wrap (m' : Int)) (m' : Int) := ⟨wrap_i64 (by omega)⟩
    have v5 : Ve (IntKind.i64.wrap ((s : Int) + (m' : Int))) (m : Int) := ⟨by rw [wrap_i64 (by omega)]; omega⟩
    refine xg ?_
    refine xn 2 [] [(20, .int .u64 (y : Int)), (19, .int .i64 (s : Int))] ?_
    refine xve 21 IntKind.u8 (IntKind.wrap IntKind.u8 (y : Int)) ((y : Int)) v3 ?_
    refine xsi 22 len8tab .u8 y (m' : Int) hv (by omega) ?_
    refine xve 23 IntKind.i64 (IntKind.wrap IntKind.i64 ((m' : Nat) : Int)) (((m' : Nat) : Int)) v4 ?_
    refine xve 24 IntKind.i64 (IntKind.wrap IntKind.i64 ((s : Int) + ((m' : Nat) : Int))) ((m : Int)) v5 ?_
    refine xz [] [(2, .int .i64 (m : Int))] ?_
    refine SW_ret ?_
    refine xe () (.int .i64 (m : Int)) [] ?_ trivial
    rfl
theorem ct_bits_LeadingZeros64 (x : Nat) (hx : x < 18446744073709551616) (m : Nat) (hm : IsBits x m) : CtV Try.prog 127 [.int .u64 (x : Int)] [] (.int .i64 ((64 - m : Nat) : Int)) := by
 have hm64 : m ≤ 64 := hm.le (w := 64) hx
 refine ct_of Try.func127 rfl (by kernel_rfl) (fun B w0 => ?_)
 have v : Ve (IntKind.i64.wrap (64 - (m : Int))) ((64 - m : Nat) : Int) := ⟨(Nn.w (Nn.sub ⟨rfl⟩ ⟨rfl⟩ hm64 : Nn (64 - (m : Int)) (64 - m)) (by omega)).out⟩
 refine xr [] [(2, .int .i64 0)] ?_
 refine xg ?_
 refine xn 1 [] [(3, .int .u64 (x : Int))] ?_
 refine xcv 4 (ct_bits_Len64 (x) hx (m) hm) zs0 ?_
 refine xve 5 IntKind.i64 (IntKind.wrap IntKind.i64 (64 - (m : Int))) ((((64 - m) : Nat) : Int)) v ?_
 refine xz [] [(2, .int .i64 (((64 - m) : Nat) : Int))] ?_
 refine SW_ret ?_
 refine xe () (.int .i64 (((64 - m) : Nat) : Int)) [] ?_ trivial
 rfl
end Go.Proofs.Ytlggnljibebfeaa.M
end
section
namespace Go.Proofs.Ytlggnljibebfeaa.M
open Go.RowKit Go.Proofs.Ytlggnljibebfeaa.G Go.Proofs.YtlggnljibebfeaaV.PrintWords Go.Proofs.YtlggnljibebfeaaV.PrintLast Go.Proofs.Ytlggnljibebfeaa.X
set_option linter.unusedVariables false
set_option linter.unusedSimpArgs false
theorem veU {z : Int} {n : Nat} (h : z = (n : Int)) (hn : n < 18446744073709551616) : Ve (IntKind.u64.wrap z) (n : Int) := ⟨by rw [h]; exact wrap_u64_id (by omega)⟩
theorem veI {z : Int} {n : Nat} (h : z = (n : Int)) (hn : n ≤ 9223372036854775807) : Ve (IntKind.i64.wrap z) (n : Int) := ⟨by rw [h]; exact wrap_i64 (by omega)⟩
theorem low_ve (x : Nat) (h : x < 18446744073709551616) : Ve (bits .and .u64 (x : Int) 4294967295) ((x % 4294967296 : Nat) : Int) := ⟨low32_nat x h⟩
theorem high_ve (x : Nat) : Ve (shf .u64 (x : Int) 32) ((x / 4294967296 : Nat) : Int) := ⟨shf_nat x 32 (by decide)⟩
theorem nat_rd {l : List Int} (d : Dig B64 l) (i : Nat) : ∃ x : Nat, rd l (i : Int) = (x : Int) ∧ x < 18446744073709551616 := ⟨(rd l i).toNat, by have := (d.rd B64_pos i).1; omega, by have := d.rd B64_pos i; unfold B64 at this; omega⟩
end Go.Proofs.Ytlggnljibebfeaa.M
end
section
namespace Go.Proofs.Ytlggnljibebfeaa.M
open Go.RowKit Go.Proofs.Ytlggnljibebfeaa.G Go.Proofs.YtlggnljibebfeaaV.PrintWords Go.Proofs.YtlggnljibebfeaaV.PrintLast Go.Proofs.Ytlggnljibebfeaa.X
set_option linter.unusedVariables false
set_option linter.unusedSimpArgs false
theorem quo_parts {D d1 : Nat} (hd : 0 < d1) (hdl : d1 < 4294967296) (hD1 : D < 18446744073709551616) : D / d1 < 18446744073709551616 ∧ D / d1 * d1 < 18446744073709551616 ∧ D / d1 * d1 + D % d1 = D ∧ D % d1 < 4294967296 := by
 have h1 := Nat.div_le_self D d1
 have h2 := Nat.div_add_mod D d1
 have h3 := Nat.mod_lt D hd
 rw [Nat.mul_comm] at h2
 exact ⟨by omega, by omega, h2, by omega⟩
theorem wrap_nat (x : Int) : ∃ z : Nat, Ve (IntKind.u64.wrap x) (z : Int) := ⟨(IntKind.u64.wrap x).toNat, ⟨by rw [wrap_u64]; omega⟩⟩
theorem ct_bits_Div64 (hi lo y : Nat) (hlo : lo < 18446744073709551616) (hy : y < 18446744073709551616) (hh : hi < y) : CtV Try.prog 126 [.int .u64 (hi : Int), .int .u64 (lo : Int), .int .u64 (y : Int)] [] (.tuple #[.int .u64 (((hi * 18446744073709551616 + lo) / y : Nat) : Int), .int .u64 (((hi * 18446744073709551616 + lo) % y : Nat) : Int)]) := by
 refine ct_of Try.func126 rfl (by kernel_rfl) (fun B w0 => ?_)
 have c1 : ((y : Int) == 0) = false := by rw [beq_eq_false_iff_ne]; omega
 have c2 : decide ((y : Int) ≤ (hi : Int)) = false := decide_eq_false (by omega)
 by_cases hz : hi = 0
 ·subst hz
  have c3 : (((0 : Nat) : Int) == 0) = true := rfl
  refine xr [] [(7, .int .u64 0), (6, .int .u64 0)] ?_
  refine SW_seq ?_
  refine xr [] [(20, .bool ((y : Int) == 0))] ?_
  refine xsf c1 ?_
  refine SW_skip ?_
  refine SW_seq ?_
  refine xr [] [(24, .bool (decide ((y : Int) ≤ 0)))] ?_
  refine xsf c2 ?_
  refine SW_skip ?_
  refine SW_seq ?_
  refine xr [] [(27, .bool true)] ?_
  refine xs1 ?_
  refine xd (fun hB => ?_)
  refine xdk [(0, []), (1, []), (3, []), (4, [])] [(32, .int .u64 (y : Int)), (31, .int .u64 (lo : Int)), (29, .int .u64 (y : Int)), (28, .int .u64 (lo : Int))] hB ?_
  refine xdqo 2 hB 30 ((lo)) ((y)) (by omega) (by omega) ?_
  refine xdk [(6, [])] [(6, .int .u64 (((lo / y) : Nat) : Int))] hB ?_
  refine xdqr 5 hB 33 ((lo)) ((y)) (by omega) (by omega) ?_
  refine xdk [(7, [])] [(7, .int .u64 (((lo % y) : Nat) : Int))] hB ?_
  refine xdz ?_
  refine SW_ret ?_
  refine xe () (.tuple #[.int .u64 (((lo / y) : Nat) : Int), .int .u64 (((lo % y) : Nat) : Int)]) [] ?_ trivial
  rw [Nat.zero_mul, Nat.zero_add]
 ·have c3 : ((hi : Int) == 0) = false := by rw [beq_eq_false_iff_ne]; omega
  obtain ⟨m, hm, hm64⟩ := bits_of y hy
  have hm0 : 0 < m := hm.pos (by omega)
  obtain ⟨s, hs⟩ : ∃ s, s = 64 - m := ⟨_, rfl⟩
  have lz := ct_bits_LeadingZeros64 y hy m hm
  rw [← hs] at lz
  have hs63 : s ≤ 63 := by omega
  have hD1 : y * 2 ^ s < 18446744073709551616 := by
   have := Nat.mul_lt_mul_of_pos_right hm.1 (show 0 < 2 ^ s from Nat.pow_pos (by decide))
   rwa [← Nat.pow_add, show m + s = 64 by omega] at this
  have hD0 : 9223372036854775808 ≤ y * 2 ^ s := by
   have h0 : 2 ^ (m - 1) ≤ y := by rcases hm.2 with h | h <;> omega
   have := Nat.mul_le_mul_right (2 ^ s) h0
   rwa [← Nat.pow_add, show m - 1 + s = 63 by omega] at this
  obtain ⟨n1, n2, n3, n4⟩ := norm_num64 hs63 hlo hh hD1
  have v1 : Ve (IntKind.u64.wrap (s : Int)) (s : Int) := veU rfl (by omega)
  have v2 : Ve (shl .u64 (y : Int) (s : Int)) ((y * 2 ^ s : Nat) : Int) := ⟨by rw [shl_nat _ _ (by omega), Nat.mod_eq_of_lt hD1]⟩
  have v5 : Ve (shl .u64 (hi : Int) (s : Int)) ((hi * 2 ^ s : Nat) : Int) := ⟨by rw [shl_nat _ _ (by omega), Nat.mod_eq_of_lt n1]⟩
  have v6 : Ve (IntKind.u64.wrap (64 - (s : Int))) ((64 - s : Nat) : Int) := veU (by omega) (by omega)
  have v7 : Ve (shf .u64 (lo : Int) ((64 - s : Nat) : Int)) ((lo / 2 ^ (64 - s) : Nat) : Int) := ⟨shf_nat _ _ (by omega)⟩
  have v8 : Ve (bits .or .u64 ((hi * 2 ^ s : Nat) : Int) ((lo / 2 ^ (64 - s) : Nat) : Int)) ((hi * 2 ^ s + lo / 2 ^ (64 - s) : Nat) : Int) := ⟨or_nat s _ _ (by omega) n1 (Nat.dvd_mul_left _ _) n2⟩
  have v9 : Ve (shl .u64 (lo : Int) (s : Int)) ((lo * 2 ^ s % 18446744073709551616 : Nat) : Int) := ⟨shl_nat _ _ (by omega)⟩
  have hX : (hi * 18446744073709551616 + lo) / y = (hi * 18446744073709551616 + lo) * 2 ^ s / (y * 2 ^ s) := (Nat.mul_div_mul_right _ _ (Nat.pow_pos (by decide))).symm
  have hX2 : (hi * 18446744073709551616 + lo) % y = (hi * 18446744073709551616 + lo) * 2 ^ s % (y * 2 ^ s) / 2 ^ s := by rw [Nat.mul_mod_mul_right, Nat.mul_div_cancel _ (Nat.pow_pos (by decide))]
  rw [hX, hX2, n3]
  have hL : lo * 2 ^ s % 18446744073709551616 < 18446744073709551616 := Nat.mod_lt _ (by decide)
  generalize hi * 2 ^ s + lo / 2 ^ (64 - s) = n at v8 n4
  generalize lo * 2 ^ s % 18446744073709551616 = L at v9 hL
  generalize y * 2 ^ s = D at v2 hD0 hD1 n4
  clear hX hX2 n3
  have v3 := high_ve D
  have v4 := low_ve D hD1
  have v10 := high_ve L
  have v11 := low_ve L hL
  have hd1 : 2147483648 ≤ D / 4294967296 ∧ D / 4294967296 < 4294967296 := by omega
  have hd0 : D % 4294967296 < 4294967296 := by omega
  have hDe : D = D / 4294967296 * 4294967296 + D % 4294967296 := by omega
  have hu : L / 4294967296 < 4294967296 := by omega
  have hu0 : L % 4294967296 < 4294967296 := by omega
  have hLe : n * 18446744073709551616 + L = (n * 4294967296 + L / 4294967296) * 4294967296 + L % 4294967296 := by omega
  rw [hLe]
  clear hLe
  generalize D / 4294967296 = d1 at *
  generalize D % 4294967296 = d0 at *
  generalize L / 4294967296 = u at *
  generalize L % 4294967296 = u0 at *
  have hD : 0 < D := by omega
  have hn64 : n < 18446744073709551616 := by omega
  obtain ⟨t1, t2⟩ := two_steps (n := n) (u := u) (u0 := u0) (B := 4294967296) hD
  rw [t1, t2]
  clear t1 t2
  obtain ⟨p1, p2, p3, p4⟩ := quo_parts (D := n) (d1 := d1) (by omega) hd1.2 hn64
  have v12 : Ve (IntKind.u64.wrap (((n / d1 : Nat) : Int) * (d1 : Int))) ((n / d1 * d1 : Nat) : Int) := veU (by rw [← Int.natCast_mul]) p2
  have v13 : Ve (IntKind.u64.wrap ((n : Int) - ((n / d1 * d1 : Nat) : Int))) ((n % d1 : Nat) : Int) := veU (by omega) (by omega)
  have hr1 := Nat.mod_lt (n * 4294967296 + u) hD
  have hr2 := Nat.div_add_mod (n * 4294967296 + u) D
  rw [Nat.mul_comm] at hr2
  have hr3 := d64_rest n u ((n * 4294967296 + u) / D) D (by omega) (by omega)
  rw [show n * 4294967296 + u - (n * 4294967296 + u) / D * D = (n * 4294967296 + u) % D by omega] at hr3
  have hq1 : (n * 4294967296 + u) / D < 4294967296 := div_lt_base n4 hu
  obtain ⟨q1, eq1⟩ : ∃ q1, (n * 4294967296 + u) / D = q1 := ⟨_, rfl⟩
  obtain ⟨m2, em2⟩ : ∃ m2, (n * 4294967296 + u) % D = m2 := ⟨_, rfl⟩
  have f1 : (n * 4294967296 + u) / D ≤ n / d1 := by rw [hDe]; exact est_floor (by omega) hu
  have f2 : n / d1 ≤ 4294967297 := est_start (B := 4294967296) (d0 := d0) (by omega) hd0 (by omega)
  rw [eq1, em2]
  rw [em2] at hr1
  rw [eq1, em2] at hr3
  rw [eq1] at hq1
  refine xr [] [(7, .int .u64 0), (6, .int .u64 0)] ?_
  refine SW_seq ?_
  refine xr [] [(20, .bool ((y : Int) == 0))] ?_
  refine xsf c1 ?_
  refine SW_skip ?_
  refine SW_seq ?_
  refine xr [] [(24, .bool (decide ((y : Int) ≤ (hi : Int))))] ?_
  refine xsf c2 ?_
  refine SW_skip ?_
  refine SW_seq ?_
  refine xr [] [(27, .bool ((hi : Int) == 0))] ?_
  refine xsf c3 ?_
  refine SW_skip ?_
  refine xg ?_
  refine xn 1 [] [(34, .int .u64 (y : Int))] ?_
  refine xcv 35 lz zs0 ?_
  refine xve 36 IntKind.u64 (IntKind.wrap IntKind.u64 (s : Int)) ((s : Int)) v1 ?_
  refine xz [] [(8, .int .u64 (s : Int))] ?_
  refine xg ?_
  refine xn 2 [] [(38, .int .u64 (s : Int)), (37, .int .u64 (y : Int))] ?_
  refine xve 39 IntKind.u64 (shl IntKind.u64 (y : Int) (s : Int)) ((D : Int)) v2 ?_
  refine xz [] [(2, .int .u64 (D : Int))] ?_
  refine xg ?_
  refine xn 1 [] [(40, .int .u64 (D : Int))] ?_
  refine xve 41 IntKind.u64 (shf IntKind.u64 (D : Int) 32) ((d1 : Int)) v3 ?_
  refine xz [] [(9, .int .u64 (d1 : Int))] ?_
  refine xg ?_
  refine xn 1 [] [(42, .int .u64 (D : Int))] ?_
  refine xve 43 IntKind.u64 (bits BinOp.and IntKind.u64 (D : Int) 4294967295) ((d0 : Int)) v4 ?_
  refine xz [] [(10, .int .u64 (d0 : Int))] ?_
  refine xg ?_
  refine xn 2 [] [(45, .int .u64 (s : Int)), (44, .int .u64 (hi : Int))] ?_
  refine xve 46 IntKind.u64 (shl IntKind.u64 (hi : Int) (s : Int)) ((((hi * 2 ^ s) : Nat) : Int)) v5 ?_
  refine xn 5 [] [(48, .int .u64 (s : Int)), (47, .int .u64 (lo : Int))] ?_
  refine xve 49 IntKind.u64 (IntKind.wrap IntKind.u64 (64 - (s : Int))) ((((64 - s) : Nat) : Int)) v6 ?_
  refine xve 50 IntKind.u64 (shf IntKind.u64 (lo : Int) (((64 - s) : Nat) : Int)) ((((lo / 2 ^ (64 - s)) : Nat) : Int)) v7 ?_
  refine xve 51 IntKind.u64 (bits BinOp.or IntKind.u64 (((hi * 2 ^ s) : Nat) : Int) (((lo / 2 ^ (64 - s)) : Nat) : Int)) ((n : Int)) v8 ?_
  refine xz [] [(11, .int .u64 (n : Int))] ?_
  refine xg ?_
  refine xn 2 [] [(53, .int .u64 (s : Int)), (52, .int .u64 (lo : Int))] ?_
  refine xve 54 IntKind.u64 (shl IntKind.u64 (lo : Int) (s : Int)) ((L : Int)) v9 ?_
  refine xz [] [(12, .int .u64 (L : Int))] ?_
  refine xg ?_
  refine xn 1 [] [(55, .int .u64 (L : Int))] ?_
  refine xve 56 IntKind.u64 (shf IntKind.u64 (L : Int) 32) ((u : Int)) v10 ?_
  refine xz [] [(13, .int .u64 (u : Int))] ?_
  refine xg ?_
  refine xn 1 [] [(57, .int .u64 (L : Int))] ?_
  refine xve 58 IntKind.u64 (bits BinOp.and IntKind.u64 (L : Int) 4294967295) ((u0 : Int)) v11 ?_
  refine xz [] [(14, .int .u64 (u0 : Int))] ?_
  refine xg ?_
  refine xn 2 [] [(60, .int .u64 (d1 : Int)), (59, .int .u64 (n : Int))] ?_
  refine xqo 61 ((n)) ((d1)) (by omega) (by omega) ?_
  refine xz [] [(15, .int .u64 (((n / d1) : Nat) : Int))] ?_
  refine xg ?_
  refine xn 3 [] [(64, .int .u64 (d1 : Int)), (63, .int .u64 (((n / d1) : Nat) : Int)), (62, .int .u64 (n : Int))] ?_
  refine xve 65 IntKind.u64 (IntKind.wrap IntKind.u64 ((((n / d1) : Nat) : Int) * (d1 : Int))) ((((n / d1 * d1) : Nat) : Int)) v12 ?_
  refine xve 66 IntKind.u64 (IntKind.wrap IntKind.u64 ((n : Int) - (((n / d1 * d1) : Nat) : Int))) ((((n % d1) : Nat) : Int)) v13 ?_
  refine xz [] [(16, .int .u64 (((n % d1) : Nat) : Int))] ?_
  refine SW_cut (fun s' => Weak s' ⟨[(2, .int .u64 (D : Int)), (8, .int .u64 (s : Int)), (9, .int .u64 (d1 : Int)), (10, .int .u64 (d0 : Int)), (11, .int .u64 (n : Int)), (13, .int .u64 (u : Int)), (14, .int .u64 (u0 : Int)), (15, .int .u64 (q1 : Int))], [], []⟩) ?_ ?_
  ·refine SW_block ?_
   refine SW_loopn (fun M s' => ∃ q r : Nat, q = M ∧ q * d1 + r = n ∧ r < 4294967296 ∧ (n * 4294967296 + u) / D ≤ q ∧ q ≤ 4294967297 ∧ Weak s' ⟨[(2, .int .u64 (D : Int)), (8, .int .u64 (s : Int)), (9, .int .u64 (d1 : Int)), (10, .int .u64 (d0 : Int)), (11, .int .u64 (n : Int)), (13, .int .u64 (u : Int)), (14, .int .u64 (u0 : Int)), (15, .int .u64 (q : Int)), (16, .int .u64 (r : Int))], [], []⟩) (n / d1) ⟨n / d1, n % d1, rfl, p3, p4, f1, f2, ?_⟩ (fun M s' ⟨q, r, k1, k2, k3, k4, k5, hw⟩ => ?_)
   ·exact xw zs0
   ·refine SW_weak hw ?_
    clear hw
    have back : (4294967296 ≤ q ∨ 4294967296 * r + u < q * d0) → ∃ p, q = p + 1 ∧ p * d1 + (r + d1) = n ∧ (n * 4294967296 + u) / D ≤ p ∧ p ≤ 4294967296 ∧ (4294967296 ≤ r + d1 → p = (n * 4294967296 + u) / D) := fun hc => d64_num hDe hd1 hd0 hu n4 k2 k4 k5 k3 hc
    have w1 : Ve (IntKind.u64.wrap ((r : Int) + (d1 : Int))) ((r + d1 : Nat) : Int) := veU (by omega) (by omega)
    refine SW_seq ?_
    refine SW_cut (fun s' => Weak s' ⟨[(2, .int .u64 (D : Int)), (8, .int .u64 (s : Int)), (9, .int .u64 (d1 : Int)), (10, .int .u64 (d0 : Int)), (11, .int .u64 (n : Int)), (13, .int .u64 (u : Int)), (14, .int .u64 (u0 : Int)), (15, .int .u64 (q : Int)), (16, .int .u64 (r : Int)), (78, .bool (decide (4294967296 ≤ q ∨ 4294967296 * r + u < q * d0)))], [], []⟩) ?_ ?_
    ·by_cases hb : 4294967296 ≤ q
     ·have z : decide ((q : Int) ≥ 4294967296) = true := decide_eq_true (by omega)
      rw [decide_eq_true (show 4294967296 ≤ q ∨ 4294967296 * r + u < q * d0 from .inl hb)]
      refine SW_region ?_
      refine xn 3 [] [(69, .bool (decide ((q : Int) ≥ 4294967296)))] ?_
      refine xkt 69 z ?_
      refine xz [] [(78, .bool true)] ?_
      exact xw zs0
     ·have z : decide ((q : Int) ≥ 4294967296) = false := decide_eq_false (by omega)
      have z2 := d64_cond q d0 r u (by omega) hd0 k3 hu
      refine SW_region ?_
      refine xn 3 [] [(69, .bool (decide ((q : Int) ≥ 4294967296)))] ?_
      refine xkf 69 z ?_
      refine xz [] [(78, .bool (decide (IntKind.wrap IntKind.u64 ((q : Int) * (d0 : Int)) > IntKind.wrap IntKind.u64 (IntKind.wrap IntKind.u64 (4294967296 * (r : Int)) + (u : Int)))))] ?_
      rw [z2, show decide (4294967296 ≤ q ∨ 4294967296 * r + u < q * d0) = decide (4294967296 * r + u < q * d0) from decide_eq_decide.2 ⟨fun h => h.elim (fun h => absurd h hb) id, .inr⟩]
      exact xw zs0
    ·rintro s' hw
     refine SW_weak hw ?_
     clear hw
     by_cases hc : 4294967296 ≤ q ∨ 4294967296 * r + u < q * d0
     ·rw [decide_eq_true hc]
      obtain ⟨p, rfl, hp1, hp2, hp3, hp4⟩ := back hc
      have w2 : Ve (IntKind.u64.wrap (((p + 1 : Nat) : Int) - 1)) (p : Int) := veU (by omega) (by omega)
      by_cases ho : 4294967296 ≤ r + d1
      ·have z : decide (((r + d1 : Nat) : Int) ≥ 4294967296) = true := decide_eq_true (by omega)
       refine xs1 ?_
       refine SW_skip ?_
       refine SW_block ?_
       refine xg ?_
       refine xn 1 [] [(79, .int .u64 (((p + 1) : Nat) : Int))] ?_
       refine xve 80 IntKind.u64 (IntKind.wrap IntKind.u64 ((((p + 1) : Nat) : Int) - 1)) ((p : Int)) w2 ?_
       refine xz [] [(15, .int .u64 (p : Int))] ?_
       refine xg ?_
       refine xn 2 [] [(82, .int .u64 (d1 : Int)), (81, .int .u64 (r : Int))] ?_
       refine xve 83 IntKind.u64 (IntKind.wrap IntKind.u64 ((r : Int) + (d1 : Int))) ((((r + d1) : Nat) : Int)) w1 ?_
       refine xz [] [(16, .int .u64 (((r + d1) : Nat) : Int))] ?_
       refine xr [] [(85, .bool (decide ((((r + d1) : Nat) : Int) ≥ 4294967296)))] ?_
       refine xst z ?_
       refine SW_exit ?_
       rw [← eq1, ← hp4 ho]
       exact xw zs0
      ·have z : decide (((r + d1 : Nat) : Int) ≥ 4294967296) = false := decide_eq_false (by omega)
       refine xs1 ?_
       refine SW_skip ?_
       refine SW_block ?_
       refine xg ?_
       refine xn 1 [] [(79, .int .u64 (((p + 1) : Nat) : Int))] ?_
       refine xve 80 IntKind.u64 (IntKind.wrap IntKind.u64 ((((p + 1) : Nat) : Int) - 1)) ((p : Int)) w2 ?_
       refine xz [] [(15, .int .u64 (p : Int))] ?_
       refine xg ?_
       refine xn 2 [] [(82, .int .u64 (d1 : Int)), (81, .int .u64 (r : Int))] ?_
       refine xve 83 IntKind.u64 (IntKind.wrap IntKind.u64 ((r : Int) + (d1 : Int))) ((((r + d1) : Nat) : Int)) w1 ?_
       refine xz [] [(16, .int .u64 (((r + d1) : Nat) : Int))] ?_
       refine xr [] [(85, .bool (decide ((((r + d1) : Nat) : Int) ≥ 4294967296)))] ?_
       refine xsf z ?_
       refine SW_skip ?_
       refine ⟨p, by omega, p, r + d1, rfl, hp1, by omega, hp2, by omega, ?_⟩
       exact xw zs0
     ·rw [decide_eq_false hc]
      have he := d64_sure hDe hd1 hd0 hu n4 k2 k4 (fun h => hc (.inr h))
      refine xs0 ?_
      refine SW_exit ?_
      rw [← eq1, ← he]
      exact xw zs0
  ·rintro s' hw
   refine SW_weak hw ?_
   clear hw
   obtain ⟨z1, ⟨e1⟩⟩ := wrap_nat ((n : Int) * 4294967296)
   rw [e1] at hr3
   have y1 : Ve (IntKind.u64.wrap ((n : Int) * 4294967296)) (z1 : Int) := ⟨e1⟩
   clear e1
   obtain ⟨z2, ⟨e2⟩⟩ := wrap_nat ((z1 : Int) + (u : Int))
   rw [e2] at hr3
   have y2 : Ve (IntKind.u64.wrap ((z1 : Int) + (u : Int))) (z2 : Int) := ⟨e2⟩
   clear e2
   obtain ⟨z3, ⟨e3⟩⟩ := wrap_nat ((q1 : Int) * (D : Int))
   rw [e3] at hr3
   have y3 : Ve (IntKind.u64.wrap ((q1 : Int) * (D : Int))) (z3 : Int) := ⟨e3⟩
   clear e3
   have v14 : Ve (IntKind.u64.wrap ((z2 : Int) - (z3 : Int))) (m2 : Int) := ⟨hr3⟩
   clear hr3
   obtain ⟨j1, j2, j3, j4⟩ := quo_parts (D := m2) (d1 := d1) (by omega) hd1.2 (by omega)
   have v15 : Ve (IntKind.u64.wrap (((m2 / d1 : Nat) : Int) * (d1 : Int))) ((m2 / d1 * d1 : Nat) : Int) := veU (by rw [← Int.natCast_mul]) j2
   have v16 : Ve (IntKind.u64.wrap ((m2 : Int) - ((m2 / d1 * d1 : Nat) : Int))) ((m2 % d1 : Nat) : Int) := veU (by omega) (by omega)
   have g1 := Nat.mod_lt (m2 * 4294967296 + u0) hD
   have g2 := Nat.div_add_mod (m2 * 4294967296 + u0) D
   rw [Nat.mul_comm] at g2
   have g3 := d64_rest m2 u0 ((m2 * 4294967296 + u0) / D) D (by omega) (by omega)
   rw [show m2 * 4294967296 + u0 - (m2 * 4294967296 + u0) / D * D = (m2 * 4294967296 + u0) % D by omega] at g3
   have g4 : (m2 * 4294967296 + u0) / D < 4294967296 := div_lt_base hr1 hu0
   have f3 : (m2 * 4294967296 + u0) / D ≤ m2 / d1 := by rw [hDe]; exact est_floor (by omega) hu0
   have f4 : m2 / d1 ≤ 4294967297 := est_start (B := 4294967296) (d0 := d0) (by omega) hd0 (by omega)
   obtain ⟨q0, eq0⟩ : ∃ q0, (m2 * 4294967296 + u0) / D = q0 := ⟨_, rfl⟩
   obtain ⟨r0, er0⟩ : ∃ r0, (m2 * 4294967296 + u0) % D = r0 := ⟨_, rfl⟩
   rw [eq0, er0]
   rw [eq0, er0] at g3
   rw [eq0] at g4
   refine xg ?_
   refine xn 1 [] [(86, .int .u64 (n : Int))] ?_
   refine xve 87 IntKind.u64 (IntKind.wrap IntKind.u64 ((n : Int) * 4294967296)) ((z1 : Int)) y1 ?_
   refine xn 3 [] [(88, .int .u64 (u : Int))] ?_
   refine xve 89 IntKind.u64 (IntKind.wrap IntKind.u64 ((z1 : Int) + (u : Int))) ((z2 : Int)) y2 ?_
   refine xn 6 [] [(91, .int .u64 (D : Int)), (90, .int .u64 (q1 : Int))] ?_
   refine xve 92 IntKind.u64 (IntKind.wrap IntKind.u64 ((q1 : Int) * (D : Int))) ((z3 : Int)) y3 ?_
   refine xve 93 IntKind.u64 (IntKind.wrap IntKind.u64 ((z2 : Int) - (z3 : Int))) ((m2 : Int)) v14 ?_
   refine xz [] [(17, .int .u64 (m2 : Int))] ?_
   refine xg ?_
   refine xn 2 [] [(95, .int .u64 (d1 : Int)), (94, .int .u64 (m2 : Int))] ?_
   refine xqo 96 ((m2)) ((d1)) (by omega) (by omega) ?_
   refine xz [] [(18, .int .u64 (((m2 / d1) : Nat) : Int))] ?_
   refine xg ?_
   refine xn 3 [] [(99, .int .u64 (d1 : Int)), (98, .int .u64 (((m2 / d1) : Nat) : Int)), (97, .int .u64 (m2 : Int))] ?_
   refine xve 100 IntKind.u64 (IntKind.wrap IntKind.u64 ((((m2 / d1) : Nat) : Int) * (d1 : Int))) ((((m2 / d1 * d1) : Nat) : Int)) v15 ?_
   refine xve 101 IntKind.u64 (IntKind.wrap IntKind.u64 ((m2 : Int) - (((m2 / d1 * d1) : Nat) : Int))) ((((m2 % d1) : Nat) : Int)) v16 ?_
   refine xz [] [(16, .int .u64 (((m2 % d1) : Nat) : Int))] ?_
   refine SW_cut (fun s' => Weak s' ⟨[(2, .int .u64 (D : Int)), (8, .int .u64 (s : Int)), (14, .int .u64 (u0 : Int)), (15, .int .u64 (q1 : Int)), (17, .int .u64 (m2 : Int)), (18, .int .u64 (q0 : Int))], [], []⟩) ?_ ?_
   ·refine SW_block ?_
    refine SW_loopn (fun M s' => ∃ q r : Nat, q = M ∧ q * d1 + r = m2 ∧ r < 4294967296 ∧ (m2 * 4294967296 + u0) / D ≤ q ∧ q ≤ 4294967297 ∧ Weak s' ⟨[(2, .int .u64 (D : Int)), (8, .int .u64 (s : Int)), (9, .int .u64 (d1 : Int)), (10, .int .u64 (d0 : Int)), (14, .int .u64 (u0 : Int)), (15, .int .u64 (q1 : Int)), (17, .int .u64 (m2 : Int)), (18, .int .u64 (q : Int)), (16, .int .u64 (r : Int))], [], []⟩) (m2 / d1) ⟨m2 / d1, m2 % d1, rfl, j3, j4, f3, f4, ?_⟩ (fun M s' ⟨q, r, k1, k2, k3, k4, k5, hw⟩ => ?_)
    ·exact xw zs0
    ·refine SW_weak hw ?_
     clear hw
     have back : (4294967296 ≤ q ∨ 4294967296 * r + u0 < q * d0) → ∃ p, q = p + 1 ∧ p * d1 + (r + d1) = m2 ∧ (m2 * 4294967296 + u0) / D ≤ p ∧ p ≤ 4294967296 ∧ (4294967296 ≤ r + d1 → p = (m2 * 4294967296 + u0) / D) := fun hc => d64_num hDe hd1 hd0 hu0 hr1 k2 k4 k5 k3 hc
     have w1 : Ve (IntKind.u64.wrap ((r : Int) + (d1 : Int))) ((r + d1 : Nat) : Int) := veU (by omega) (by omega)
     refine SW_seq ?_
     refine SW_cut (fun s' => Weak s' ⟨[(2, .int .u64 (D : Int)), (8, .int .u64 (s : Int)), (9, .int .u64 (d1 : Int)), (10, .int .u64 (d0 : Int)), (14, .int .u64 (u0 : Int)), (15, .int .u64 (q1 : Int)), (17, .int .u64 (m2 : Int)), (18, .int .u64 (q : Int)), (16, .int .u64 (r : Int)), (113, .bool (decide (4294967296 ≤ q ∨ 4294967296 * r + u0 < q * d0)))], [], []⟩) ?_ ?_
     ·by_cases hb : 4294967296 ≤ q
      ·have z : decide ((q : Int) ≥ 4294967296) = true := decide_eq_true (by omega)
       rw [decide_eq_true (show 4294967296 ≤ q ∨ 4294967296 * r + u0 < q * d0 from .inl hb)]
       refine SW_region ?_
       refine xn 3 [] [(104, .bool (decide ((q : Int) ≥ 4294967296)))] ?_
       refine xkt 104 z ?_
       refine xz [] [(113, .bool true)] ?_
       exact xw zs0
      ·have z : decide ((q : Int) ≥ 4294967296) = false := decide_eq_false (by omega)
       have z2 := d64_cond q d0 r u0 (by omega) hd0 k3 hu0
       refine SW_region ?_
       refine xn 3 [] [(104, .bool (decide ((q : Int) ≥ 4294967296)))] ?_
       refine xkf 104 z ?_
       refine xz [] [(113, .bool (decide (IntKind.wrap IntKind.u64 ((q : Int) * (d0 : Int)) > IntKind.wrap IntKind.u64 (IntKind.wrap IntKind.u64 (4294967296 * (r : Int)) + (u0 : Int)))))] ?_
       rw [z2, show decide (4294967296 ≤ q ∨ 4294967296 * r + u0 < q * d0) = decide (4294967296 * r + u0 < q * d0) from decide_eq_decide.2 ⟨fun h => h.elim (fun h => absurd h hb) id, .inr⟩]
       exact xw zs0
     ·rintro s' hw
      refine SW_weak hw ?_
      clear hw
      by_cases hc : 4294967296 ≤ q ∨ 4294967296 * r + u0 < q * d0
      ·rw [decide_eq_true hc]
       obtain ⟨p, rfl, hp1, hp2, hp3, hp4⟩ := back hc
       have w2 : Ve (IntKind.u64.wrap (((p + 1 : Nat) : Int) - 1)) (p : Int) := veU (by omega) (by omega)
       by_cases ho : 4294967296 ≤ r + d1
       ·have z : decide (((r + d1 : Nat) : Int) ≥ 4294967296) = true := decide_eq_true (by omega)
        refine xs1 ?_
        refine SW_skip ?_
        refine SW_block ?_
        refine xg ?_
        refine xn 1 [] [(114, .int .u64 (((p + 1) : Nat) : Int))] ?_
        refine xve 115 IntKind.u64 (IntKind.wrap IntKind.u64 ((((p + 1) : Nat) : Int) - 1)) ((p : Int)) w2 ?_
        refine xz [] [(18, .int .u64 (p : Int))] ?_
        refine xg ?_
        refine xn 2 [] [(117, .int .u64 (d1 : Int)), (116, .int .u64 (r : Int))] ?_
        refine xve 118 IntKind.u64 (IntKind.wrap IntKind.u64 ((r : Int) + (d1 : Int))) ((((r + d1) : Nat) : Int)) w1 ?_
        refine xz [] [(16, .int .u64 (((r + d1) : Nat) : Int))] ?_
        refine xr [] [(120, .bool (decide ((((r + d1) : Nat) : Int) ≥ 4294967296)))] ?_
        refine xst z ?_
        refine SW_exit ?_
        rw [← eq0, ← hp4 ho]
        exact xw zs0
       ·have z : decide (((r + d1 : Nat) : Int) ≥ 4294967296) = false := decide_eq_false (by omega)
        refine xs1 ?_
        refine SW_skip ?_
        refine SW_block ?_
        refine xg ?_
        refine xn 1 [] [(114, .int .u64 (((p + 1) : Nat) : Int))] ?_
        refine xve 115 IntKind.u64 (IntKind.wrap IntKind.u64 ((((p + 1) : Nat) : Int) - 1)) ((p : Int)) w2 ?_
        refine xz [] [(18, .int .u64 (p : Int))] ?_
        refine xg ?_
        refine xn 2 [] [(117, .int .u64 (d1 : Int)), (116, .int .u64 (r : Int))] ?_
        refine xve 118 IntKind.u64 (IntKind.wrap IntKind.u64 ((r : Int) + (d1 : Int))) ((((r + d1) : Nat) : Int)) w1 ?_
        refine xz [] [(16, .int .u64 (((r + d1) : Nat) : Int))] ?_
        refine xr [] [(120, .bool (decide ((((r + d1) : Nat) : Int) ≥ 4294967296)))] ?_
        refine xsf z ?_
        refine SW_skip ?_
        refine ⟨p, by omega, p, r + d1, rfl, hp1, by omega, hp2, by omega, ?_⟩
        exact xw zs0
      ·rw [decide_eq_false hc]
       have he := d64_sure hDe hd1 hd0 hu0 hr1 k2 k4 (fun h => hc (.inr h))
       refine xs0 ?_
       refine SW_exit ?_
       rw [← eq0, ← he]
       exact xw zs0
   ·rintro s' hw
    refine SW_weak hw ?_
    clear hw
    obtain ⟨x1, ⟨e1⟩⟩ := wrap_nat ((m2 : Int) * 4294967296)
    rw [e1] at g3
    have w1 : Ve (IntKind.u64.wrap ((m2 : Int) * 4294967296)) (x1 : Int) := ⟨e1⟩
    clear e1
    obtain ⟨x2, ⟨e2⟩⟩ := wrap_nat ((x1 : Int) + (u0 : Int))
    rw [e2] at g3
    have w2 : Ve (IntKind.u64.wrap ((x1 : Int) + (u0 : Int))) (x2 : Int) := ⟨e2⟩
    clear e2
    obtain ⟨x3, ⟨e3⟩⟩ := wrap_nat ((q0 : Int) * (D : Int))
    rw [e3] at g3
    have w3 : Ve (IntKind.u64.wrap ((q0 : Int) * (D : Int))) (x3 : Int) := ⟨e3⟩
    clear e3
    have v17 : Ve (IntKind.u64.wrap ((x2 : Int) - (x3 : Int))) (r0 : Int) := ⟨g3⟩
    clear g3
    have v18 : Ve (IntKind.u64.wrap ((q1 : Int) * 4294967296)) ((q1 * 4294967296 : Nat) : Int) := veU (by omega) (by omega)
    have v19 : Ve (IntKind.u64.wrap (((q1 * 4294967296 : Nat) : Int) + (q0 : Int))) ((q1 * 4294967296 + q0 : Nat) : Int) := veU (by omega) (by omega)
    have v20 : Ve (shf .u64 (r0 : Int) (s : Int)) ((r0 / 2 ^ s : Nat) : Int) := ⟨shf_nat _ _ (by omega)⟩
    refine xg ?_
    refine xn 1 [] [(121, .int .u64 (q1 : Int))] ?_
    refine xve 122 IntKind.u64 (IntKind.wrap IntKind.u64 ((q1 : Int) * 4294967296)) ((((q1 * 4294967296) : Nat) : Int)) v18 ?_
    refine xn 3 [] [(123, .int .u64 (q0 : Int))] ?_
    refine xve 124 IntKind.u64 (IntKind.wrap IntKind.u64 ((((q1 * 4294967296) : Nat) : Int) + (q0 : Int))) ((((q1 * 4294967296 + q0) : Nat) : Int)) v19 ?_
    refine xn 5 [] [(125, .int .u64 (m2 : Int))] ?_
    refine xve 126 IntKind.u64 (IntKind.wrap IntKind.u64 ((m2 : Int) * 4294967296)) ((x1 : Int)) w1 ?_
    refine xn 7 [] [(127, .int .u64 (u0 : Int))] ?_
    refine xve 128 IntKind.u64 (IntKind.wrap IntKind.u64 ((x1 : Int) + (u0 : Int))) ((x2 : Int)) w2 ?_
    refine xn 10 [] [(130, .int .u64 (D : Int)), (129, .int .u64 (q0 : Int))] ?_
    refine xve 131 IntKind.u64 (IntKind.wrap IntKind.u64 ((q0 : Int) * (D : Int))) ((x3 : Int)) w3 ?_
    refine xve 132 IntKind.u64 (IntKind.wrap IntKind.u64 ((x2 : Int) - (x3 : Int))) ((r0 : Int)) v17 ?_
    refine xn 13 [] [(133, .int .u64 (s : Int))] ?_
    refine xve 134 IntKind.u64 (shf IntKind.u64 (r0 : Int) (s : Int)) ((((r0 / 2 ^ s) : Nat) : Int)) v20 ?_
    refine xz [] [(7, .int .u64 (((r0 / 2 ^ s) : Nat) : Int)), (6, .int .u64 (((q1 * 4294967296 + q0) : Nat) : Int))] ?_
    refine SW_ret ?_
    refine xe () (.tuple #[.int .u64 (((q1 * 4294967296 + q0) : Nat) : Int), .int .u64 (((r0 / 2 ^ s) : Nat) : Int)]) [] ?_ trivial
    rfl
end Go.Proofs.Ytlggnljibebfeaa.M
end
section
namespace Go.Proofs.Ytlggnljibebfeaa.M
open Go.RowKit Go.Proofs.Ytlggnljibebfeaa.G Go.Proofs.YtlggnljibebfeaaV.PrintWords Go.Proofs.YtlggnljibebfeaaV.PrintLast Go.Proofs.Ytlggnljibebfeaa.X
set_option linter.unusedVariables false
set_option linter.unusedSimpArgs false
theorem ct_impl_nat_divWord_rows (a : List Int) (A : Option Addr) (c d : Nat) (da : Dig B64 a) (hla : a.length ≤ 1000000) (hd : 0 < d) (hdB : d < 18446744073709551616) : ∀ r, Dig B64 r → Norm r → val B64 r = val B64 a / d → CtRV Try.prog 122 [.slice A a.length c, .int .u64 (d : Int)] [Row .u64 A c a] .u64 r (.int .u64 ((val B64 a % d : Nat) : Int)) := by
 intro r dr nr vr
 refine ct_of Try.func122 rfl (by kernel_rfl) (fun B w0 => ?_)
 have v0 : Ve (IntKind.i64.wrap ((a.length : Int) - 1)) ((a.length : Int) - 1) := ⟨wrap_i64 (by omega)⟩
 refine xr [] [(5, .int .u64 0), (4, .slice none 0 0)] ?_
 refine xg ?_
 refine xn 2 [] [(10, .int .i64 (((List.length a) : Nat) : Int))] ?_
 refine xma 11 36 (List.length a) IntKind.u64 8 ((((List.length a) : Nat) : Int)) ⟨rfl⟩ (by omega) (fun g0 => ?_)
 refine xz [] [(6, .slice (some ⟨g0, 0, none⟩) (List.length a) (List.length a))] ?_
 refine xr [] [(7, .int .u64 0)] ?_
 refine SW_seq ?_
 refine xg ?_
 refine xn 2 [] [(13, .int .i64 (((List.length a) : Nat) : Int))] ?_
 refine xve 14 IntKind.i64 (IntKind.wrap IntKind.i64 ((((List.length a) : Nat) : Int) - 1)) ((((List.length a) : Nat) : Int) - 1) v0 ?_
 refine xz [] [(8, .int .i64 ((((List.length a) : Nat) : Int) - 1))] ?_
 refine SW_then (fun s' => ∃ O : List Int, O.length = a.length ∧ Dig B64 O ∧ val B64 O * d + val B64 a % d = val B64 a ∧ Weak s' ⟨[(6, .slice (some ⟨g0, 0, none⟩) O.length a.length), (7, .int .u64 ((val B64 a % d : Nat) : Int))], [⟨g0, cl .u64 O [], 36⟩], [Row .u64 A c a]⟩) ?_ ?_
 ·refine SW_block ?_
  refine SW_loopn (fun m s => ∃ (O : List Int) (rest : Nat), m ≤ a.length ∧ O.length = a.length ∧ Dig B64 O ∧ rest < d ∧ val B64 (O.drop m) * d + rest = val B64 (a.drop m) ∧ Weak s ⟨[(0, .slice A a.length c), (1, .int .u64 (d : Int)), (6, .slice (some ⟨g0, 0, none⟩) a.length a.length), (7, .int .u64 (rest : Int)), (8, .int .i64 ((m : Int) - 1))], [⟨g0, cl .u64 O [], 36⟩], [Row .u64 A c a]⟩) a.length ⟨List.replicate a.length 0, 0, Nat.le_refl _, by simp, Dig.zeros B64_pos _, hd, by simp [val], ?_⟩ (fun m s ⟨O, rest, h1, h2, h3, h4, h5, hw⟩ => ?_)
  ·exact xw (zsS zi0 zs0)
  ·refine SW_weak hw ?_
   clear hw
   match m, h1, h5 with
   | 0, h1, h5 =>
    have z : decide (((0 : Nat) : Int) - 1 ≥ 0) = false := rfl
    rw [List.drop_zero, List.drop_zero] at h5
    obtain ⟨e1, e2⟩ := quot_of (show rest + val B64 O * d = val B64 a by omega) h4
    subst e2
    refine SW_seq ?_
    refine xr [] [(16, .bool false)] ?_
    refine xs0 ?_
    refine SW_exit ?_
    refine ⟨O, h2, h3, h5, ?_⟩
    rw [h2]
    exact xw (zsS zi0 zs0)
   | m + 1, h1, h5 =>
    have e0 : ((m + 1 : Nat) : Int) - 1 = (m : Int) := by omega
    rw [e0]
    have z : decide ((m : Int) ≥ 0) = true := decide_eq_true (by omega)
    refine SW_know zi0 (fun w h => row_at h (by omega)) (fun ⟨ad, e⟩ => ?_)
    subst e
    obtain ⟨x, hx, hxB⟩ := nat_rd da m
    have v1 : Ve (rd a (m : Int)) (x : Int) := ⟨hx⟩
    have v2 : Ve (IntKind.i64.wrap ((m : Int) - 1)) ((m : Int) - 1) := ⟨wrap_i64 (by omega)⟩
    have hq : (rest * 18446744073709551616 + x) / d < 18446744073709551616 := div_lt_base h4 hxB
    have hda := val_drop_rd B64 (l := a) (p := m) (by omega)
    rw [hx, Int.toNat_natCast] at hda
    have hdo := val_drop_rd B64 (l := O.set m (((rest * 18446744073709551616 + x) / d : Nat) : Int)) (p := m) (by rw [List.length_set]; omega)
    rw [rd_set_self O m _ (by omega), List.drop_set_of_lt (Nat.lt_succ_self m), Int.toNat_natCast] at hdo
    have hdm := Nat.div_add_mod (rest * 18446744073709551616 + x) d
    have hmod := Nat.mod_lt (rest * 18446744073709551616 + x) hd
    have hs2 : val B64 ((O.set m (((rest * 18446744073709551616 + x) / d : Nat) : Int)).drop m) * d + (rest * 18446744073709551616 + x) % d = val B64 (a.drop m) := by
     rw [hdo, hda, ← h5]
     exact dw_num hdm
    refine SW_seq ?_
    refine xr [] [(16, .bool (decide ((m : Int) ≥ 0)))] ?_
    refine xst z ?_
    refine SW_skip ?_
    refine SW_seq ?_
    refine SW_block ?_
    refine SW_region ?_
    refine xn 5 [] [(24, .int .i64 (m : Int)), (23, .slice (some ad) (List.length a) c), (22, .int .u64 (rest : Int)), (21, .int .i64 (m : Int)), (20, .slice (some ⟨g0, 0, none⟩) (List.length a) (List.length a))] ?_
    refine xfi 25 36 (ad) (List.length a) (c) (m) IntKind.i64 ((m : Int)) ⟨rfl⟩ (by omega) ?_
    refine xfle 26 zi0 (m) ((x : Int)) v1 (by omega) ?_
    refine xn 8 [] [(27, .int .u64 (d : Int))] ?_
    refine xcv 28 (ct_bits_Div64 (rest) (x) (d) hxB hdB h4) zs0 ?_
    refine xn 12 [] [(30, .int .u64 ((((rest * 18446744073709551616 + x) % d) : Nat) : Int)), (29, .int .u64 ((((rest * 18446744073709551616 + x) / d) : Nat) : Int))] ?_
    refine xoi 31 36 (g0) (List.length a) (List.length a) (m) IntKind.i64 ((m : Int)) ⟨rfl⟩ (by omega) ?_
    refine xos 0 (g0) (m) IntKind.u64 (O) ([]) 36 (((((rest * 18446744073709551616 + x) / d) : Nat) : Int)) (by first | omega | (simp <;> omega)) ?_
    refine xz [] [(7, .int .u64 ((((rest * 18446744073709551616 + x) % d) : Nat) : Int))] ?_
    refine SW_region ?_
    refine xn 1 [] [(17, .int .i64 (m : Int))] ?_
    refine xve 18 IntKind.i64 (IntKind.wrap IntKind.i64 ((m : Int) - 1)) ((m : Int) - 1) v2 ?_
    refine xz [] [(8, .int .i64 ((m : Int) - 1))] ?_
    refine ⟨m, by omega, _, _, by omega, by rw [List.length_set]; exact h2, h3.set _ (cast_dig hq), hmod, hs2, ?_⟩
    exact xw (zsS zi0 zs0)
 ·rintro s' ⟨O, h2, h3, h5, hw⟩
  refine SW_weak hw ?_
  clear hw
  have er : trimL O = r := norm_inj B64_pos h3.trim dr (norm_trim _) nr (by rw [val_trim, vr]; exact (quot_of (R := val B64 a % d) (by omega) (Nat.mod_lt _ hd)).1)
  have ct := ct_impl_trimmed O (some ⟨g0, 0, none⟩) O.length (by omega)
  rw [er] at ct
  rw [← h2]
  generalize val B64 a % d = w
  refine xg ?_
  refine xn 1 [] [(32, .slice (some ⟨g0, 0, none⟩) (List.length O) (List.length O))] ?_
  refine NW_fz 0 a.length g0 .u64 O [] 36 (by omega) (by omega) ?_
  rw [← h2]
  refine xcr 33 ct (zsS zi0 zs0) (fun A0 k0 => ?_)
  refine xz [] [(5, .int .u64 (w : Int)), (4, .slice A0 (List.length r) k0)] ?_
  refine SW_ret ?_
  refine xe (A0, k0) (.tuple #[.slice A0 (List.length r) k0, .int .u64 (w : Int)]) [] ?_ (zsS zi0 zs0)
  rfl
end Go.Proofs.Ytlggnljibebfeaa.M
end
section
namespace Go.Proofs.Ytlggnljibebfeaa.M
open Go.RowKit Go.Proofs.Ytlggnljibebfeaa.G Go.Proofs.YtlggnljibebfeaaV.PrintWords Go.Proofs.YtlggnljibebfeaaV.PrintLast Go.Proofs.Ytlggnljibebfeaa.X
set_option linter.unusedVariables false
set_option linter.unusedSimpArgs false
theorem ct_spec_l1Trim (l : List Int) (A : Option Addr) (c : Nat) (hl : l.length ≤ 1000000000000) : CtR Try.prog 94 [.slice A l.length c] [Row .u64 A c l] .u64 (trimL l) := by
 refine ct_of Try.func94 rfl (by kernel_rfl) (fun B w0 => ?_)
 refine SW_know zi0 (fun w h => h.2) (fun hc => ?_)
 refine xr [] [(2, .slice none 0 0)] ?_
 refine xr [] [(3, .int .i64 (((List.length l) : Nat) : Int))] ?_
 refine SW_cut (fun s' => ∃ m : Nat, m ≤ l.length ∧ trimL l = l.take m ∧ Weak s' ⟨[(0, .slice A l.length c), (3, .int .i64 (m : Int))], [], [Row .u64 A c l]⟩) ?_ ?_
 ·refine SW_block ?_
  refine SW_loopn (fun m s => m ≤ l.length ∧ (∀ i : Nat, m ≤ i → rd l i = 0) ∧ Weak s ⟨[(0, .slice A l.length c), (3, .int .i64 (m : Int))], [], [Row .u64 A c l]⟩) l.length ⟨Nat.le_refl _, fun i hi => rd_of_ge l i (by simpa using hi), ?_⟩ (fun m s hI => ?_)
  ·exact xw (zsS zi0 zs0)
  ·obtain ⟨h1, h2, hw⟩ := hI
   refine SW_weak hw ?_
   clear hw
   by_cases h0 : m = 0
   ·have z0 : decide ((m : Int) > 0) = false := decide_eq_false (by omega)
    have e := trimL_take _ rfl h1 h2 (fun z => absurd h0 (by omega))
    refine SW_seq ?_
    refine xg ?_
    refine xn 3 [] [(9, .bool (decide ((m : Int) > 0)))] ?_
    refine xkf 9 z0 ?_
    refine xz [] [(16, .bool false)] ?_
    refine xs0 ?_
    refine SW_exit ?_
    refine ⟨m, h1, e, ?_⟩
    exact xw (zsS zi0 zs0)
   ·have z0 : decide ((m : Int) > 0) = true := decide_eq_true (by omega)
    refine SW_know zi0 (fun w h => row_at h (by omega)) (fun ⟨ad, e⟩ => ?_)
    subst e
    have wi : Ve (IntKind.i64.wrap ((m : Int) - 1)) ((m - 1 : Nat) : Int) := veI (by omega) (by omega)
    by_cases hz : rd l ((m - 1 : Nat) : Int) = 0
    ·have z1 : (rd l ((m - 1 : Nat) : Int) == 0) = true := beq_iff_eq.2 hz
     refine SW_seq ?_
     refine xg ?_
     refine xn 3 [] [(9, .bool (decide ((m : Int) > 0)))] ?_
     refine xkt 9 z0 ?_
     refine xn 5 [] [(11, .int .i64 (m : Int)), (10, .slice (some ad) (List.length l) c)] ?_
     refine xve 12 IntKind.i64 (IntKind.wrap IntKind.i64 ((m : Int) - 1)) ((((m - 1) : Nat) : Int)) wi ?_
     refine xfi 13 36 (ad) (List.length l) (c) (m - 1) IntKind.i64 ((((m - 1) : Nat) : Int)) ⟨rfl⟩ (by omega) ?_
     refine xfl 14 zi0 (m - 1) (by omega) ?_
     refine xz [] [(16, .bool (rd l (((m - 1) : Nat) : Int) == 0))] ?_
     refine xst z1 ?_
     refine SW_skip ?_
     refine SW_block ?_
     refine SW_region ?_
     refine xn 1 [] [(17, .int .i64 (m : Int))] ?_
     refine xve 18 IntKind.i64 (IntKind.wrap IntKind.i64 ((m : Int) - 1)) ((((m - 1) : Nat) : Int)) wi ?_
     refine xz [] [(3, .int .i64 (((m - 1) : Nat) : Int))] ?_
     refine ⟨m - 1, by omega, by omega, fun i hi => ?_, ?_⟩
     ·rcases Nat.eq_or_lt_of_le hi with h | h
      ·rw [← h]; exact hz
      ·exact h2 i (by omega)
     ·exact xw (zsS zi0 zs0)
    ·have z1 : (rd l ((m - 1 : Nat) : Int) == 0) = false := by rw [beq_eq_false_iff_ne]; exact hz
     have e := trimL_take _ rfl h1 h2 (fun _ => hz)
     refine SW_seq ?_
     refine xg ?_
     refine xn 3 [] [(9, .bool (decide ((m : Int) > 0)))] ?_
     refine xkt 9 z0 ?_
     refine xn 5 [] [(11, .int .i64 (m : Int)), (10, .slice (some ad) (List.length l) c)] ?_
     refine xve 12 IntKind.i64 (IntKind.wrap IntKind.i64 ((m : Int) - 1)) ((((m - 1) : Nat) : Int)) wi ?_
     refine xfi 13 36 (ad) (List.length l) (c) (m - 1) IntKind.i64 ((((m - 1) : Nat) : Int)) ⟨rfl⟩ (by omega) ?_
     refine xfl 14 zi0 (m - 1) (by omega) ?_
     refine xz [] [(16, .bool (rd l (((m - 1) : Nat) : Int) == 0))] ?_
     refine xsf z1 ?_
     refine SW_exit ?_
     refine ⟨m, h1, e, ?_⟩
     exact xw (zsS zi0 zs0)
 ·rintro s' ⟨m, h1, e, hw⟩
  refine SW_weak hw ?_
  clear hw
  rw [e]
  obtain ⟨y, hy⟩ : ∃ y, l.take m = y := ⟨_, rfl⟩
  obtain rfl : m = y.length := by rw [← hy, List.length_take]; omega
  have hz : y ++ (List.replicate y.length 0).drop y.length = y := by simp
  refine SW_fact (G := Row .u64 A c y) zi0 (fun w h => by have := row_take y.length c (by omega) h; rwa [hy] at this) ?_
  rw [hy]
  clear e
  refine xg ?_
  refine xn 1 [] [(19, .int .i64 (((List.length y) : Nat) : Int))] ?_
  refine xma 20 36 (List.length y) IntKind.u64 8 ((((List.length y) : Nat) : Int)) ⟨rfl⟩ (by omega) (fun g0 => ?_)
  refine xz [] [(4, .slice (some ⟨g0, 0, none⟩) (List.length y) (List.length y))] ?_
  refine xg ?_
  refine xn 3 [] [(23, .int .i64 (((List.length y) : Nat) : Int)), (22, .slice A (List.length l) c), (21, .slice (some ⟨g0, 0, none⟩) (List.length y) (List.length y))] ?_
  refine xsh 24 36 (A) (List.length l) (c) (List.length y) IntKind.i64 ((((List.length y) : Nat) : Int)) ⟨rfl⟩ (by omega) ?_
  refine xcq 25 0 36 (g0) (List.length y) (List.length y) (c) (List.replicate (List.length y) 0) ([]) zi0 (by first | rfl | (simp <;> omega)) (by first | omega | (simp <;> omega)) hz ?_
  refine xz [] [] ?_
  refine xr [] [(2, .slice (some ⟨g0, 0, none⟩) (List.length y) (List.length y))] ?_
  refine SW_fz 0 (List.length y) (g0) IntKind.u64 (y) ([]) 36 (by first | omega | (simp <;> omega)) (by first | omega | (simp <;> omega)) ?_
  refine SW_ret ?_
  refine xe (some ⟨g0, 0, none⟩, List.length y) (.slice (some ⟨g0, 0, none⟩) (List.length y) (List.length y)) [] ?_ (zsS zi0 zs0)
  rfl
theorem nat_rd32 {l : List Int} (d : Dig B32 l) (i : Nat) : ∃ x : Nat, rd l (i : Int) = (x : Int) ∧ x < 4294967296 := ⟨(rd l i).toNat, by have := (d.rd B32_pos i).1; omega, by have := d.rd B32_pos i; unfold B32 at this; omega⟩
theorem cast_dig32 {n : Nat} (h : n < 4294967296) : 0 ≤ (n : Int) ∧ (n : Int) < (B32 : Int) := by unfold B32; omega
end Go.Proofs.Ytlggnljibebfeaa.M
end
section
namespace Go.Proofs.Ytlggnljibebfeaa.M
open Go.RowKit Go.Proofs.Ytlggnljibebfeaa.G Go.Proofs.YtlggnljibebfeaaV.PrintWords Go.Proofs.YtlggnljibebfeaaV.PrintLast Go.Proofs.Ytlggnljibebfeaa.X
set_option linter.unusedVariables false
set_option linter.unusedSimpArgs false
theorem in_step {l O : List Int} {i x : Nat} (hx : rd l (i : Int) = (x : Int)) (hl : O.length = 2 * i) (hv : val B32 O = val B64 (l.take i)) : val B32 (O ++ [((x % 4294967296 : Nat) : Int), ((x / 4294967296 : Nat) : Int)]) = val B64 (l.take (i + 1)) := by
 rw [val_append, val_take_succ, hx, hv, hl, Nat.pow_mul, show B32 ^ 2 = B64 from rfl]
 congr 2
 simp only [val_cons, Int.toNat_natCast]
 unfold B32
 simp only [val]
 omega
theorem ct_spec_l1In_rows (l : List Int) (A : Option Addr) (c : Nat) (dl : Dig B64 l) (hl : l.length ≤ 1000000000) : ∀ r, Dig B32 r → Norm r → val B32 r = val B64 l → CtR Try.prog 47 [.slice A l.length c] [Row .u64 A c l] .u64 r := by
 intro r dr nr vr
 refine ct_of Try.func47 rfl (by kernel_rfl) (fun B w0 => ?_)
 refine xr [] [(2, .slice none 0 0)] ?_
 refine xr [] [(3, .slice none 0 0)] ?_
 refine SW_seq ?_
 refine xr [] [(8, .int .i64 0), (7, .int .i64 (((List.length l) : Nat) : Int)), (6, .slice A (List.length l) c)] ?_
 refine SW_then (fun s' => ∃ (sl : Value) (bs : List Box) (O : List Int), Own 36 .u64 sl bs O ∧ Dig B32 O ∧ O.length = 2 * l.length ∧ val B32 O = val B64 l ∧ Weak s' ⟨[(3, sl)], bs, []⟩) ?_ ?_
 ·refine SW_block ?_
  refine SW_loopn (fun m s' => ∃ (sl : Value) (bs : List Box) (O : List Int) (i : Nat), m + i = l.length ∧ Own 36 .u64 sl bs O ∧ Dig B32 O ∧ O.length = 2 * i ∧ val B32 O = val B64 (l.take i) ∧ Weak s' ⟨[(3, sl), (6, .slice A l.length c), (7, .int .i64 (l.length : Int)), (8, .int .i64 (i : Int))], bs, [Row .u64 A c l]⟩) l.length ⟨_, _, [], 0, rfl, Own.nil 36 .u64, Dig.nil _, rfl, rfl, ?_⟩ (fun m s' hI => ?_)
  ·exact xw (zsS zi0 zs0)
  ·obtain ⟨sl0, bs0, O, i, k1, hO0, k3, k4, k6, hw⟩ := hI
   refine SW_weak hw ?_
   clear hw
   by_cases hi : i < l.length
   ·have z : decide ((i : Int) < (l.length : Int)) = true := decide_eq_true (by omega)
    obtain ⟨m, rfl⟩ : ∃ m', m = m' + 1 := ⟨m - 1, by omega⟩
    refine SW_know zi0 (fun w h => row_at h (by omega)) (fun ⟨ad, e⟩ => ?_)
    subst e
    obtain ⟨x, hx, hxB⟩ := nat_rd dl i
    have v1 : Ve (rd l (i : Int)) (x : Int) := ⟨hx⟩
    have v5 := low_ve x hxB
    have v6 := high_ve x
    have v7 : Ve (IntKind.i64.wrap ((i : Int) + 1)) ((i + 1 : Nat) : Int) := veI (by omega) (by omega)
    have hst := in_step hx k4 k6
    refine xr [] [(9, .bool (decide ((i : Int) < (((List.length l) : Nat) : Int))))] ?_
    refine SW_seq ?_
    refine xst z ?_
    refine SW_skip ?_
    refine SW_seq ?_
    refine SW_block ?_
    refine xg ?_
    refine xfi 10 36 (ad) (List.length l) (c) (i) IntKind.i64 ((i : Int)) ⟨rfl⟩ (by omega) ?_
    refine xfle 11 zi0 (i) ((x : Int)) v1 (by omega) ?_
    refine xz [] [(5, .int .u64 (x : Int))] ?_
    refine SW_region ?_
    refine xn 2 [] [(13, .int .u64 (x : Int)), (12, sl0)] ?_
    refine xve 14 IntKind.u64 (bits BinOp.and IntKind.u64 (x : Int) 4294967295) ((((x % 4294967296) : Nat) : Int)) v5 ?_
    refine xn 4 [] [(15, .int .u64 (x : Int))] ?_
    refine xve 16 IntKind.u64 (shf IntKind.u64 (x : Int) 32) ((((x / 4294967296) : Nat) : Int)) v6 ?_
    refine xbl 17 [.int .u64 (((x % 4294967296) : Nat) : Int), .int .u64 (((x / 4294967296) : Nat) : Int)] 36 2 (fun g0 => ?_)
    refine xow 18 8 (g0) (2) [(((x % 4294967296) : Nat) : Int), (((x / 4294967296) : Nat) : Int)] hO0 (by first | omega | (simp <;> omega)) (fun sl1 bs1 hO1 => ?_)
    refine xz [] [(3, sl1)] ?_
    refine SW_region ?_
    refine xve 19 IntKind.i64 (IntKind.wrap IntKind.i64 ((i : Int) + 1)) ((((i + 1) : Nat) : Int)) v7 ?_
    refine xz [] [(8, .int .i64 (((i + 1) : Nat) : Int))] ?_
    refine ⟨m, by omega, sl1, bs1, _, i + 1, by omega, hO1, k3.append (Dig.cons (cast_dig32 (Nat.mod_lt _ (by decide))) (Dig.cons (cast_dig32 (by omega)) (Dig.nil _))), by rw [List.length_append, k4]; simp; omega, hst, ?_⟩
    exact xw (zsS zi0 zs0)
   ·have z : decide ((i : Int) < (l.length : Int)) = false := decide_eq_false (by omega)
    obtain rfl : i = l.length := by omega
    rw [List.take_length] at k6
    refine xr [] [(9, .bool (decide ((((List.length l) : Nat) : Int) < (((List.length l) : Nat) : Int))))] ?_
    refine SW_seq ?_
    refine xsf z ?_
    refine SW_exit ?_
    refine ⟨sl0, bs0, O, hO0, k3, k4, k6, ?_⟩
    exact xw zs0
 ·rintro s' ⟨sl, bs, O, hO, dO, lO, vO, hw⟩
  refine SW_weak hw ?_
  clear hw
  refine SW_own hO (by omega) (fun Ao co e => ?_)
  subst e
  have er : trimL O = r := norm_inj B32_pos dO.trim dr (norm_trim _) nr (by rw [val_trim, vO, vr])
  have ct := ct_spec_l1Trim O Ao co (by omega)
  rw [er] at ct
  refine xg ?_
  refine xn 1 [] [(20, .slice Ao (List.length O) co)] ?_
  refine xcr 21 ct (zsS zi0 zs0) (fun A0 k0 => ?_)
  refine xz [] [(2, .slice A0 (List.length r) k0)] ?_
  refine SW_ret ?_
  refine xe (A0, k0) (.slice A0 (List.length r) k0) [] ?_ (zsS zi0 zs0)
  rfl
end Go.Proofs.Ytlggnljibebfeaa.M
end
section
namespace Go.Proofs.Ytlggnljibebfeaa.M
open Go.RowKit Go.Proofs.Ytlggnljibebfeaa.G Go.Proofs.YtlggnljibebfeaaV.PrintWords Go.Proofs.YtlggnljibebfeaaV.PrintLast Go.Proofs.Ytlggnljibebfeaa.X
set_option linter.unusedVariables false
set_option linter.unusedSimpArgs false
theorem digits_exist {B : Nat} (hB : 2 ≤ B) (n : Nat) : ∃ l, Dig B l ∧ Norm l ∧ val B l = n := by
  induction n using Nat.strongRecOn with
  | _ n ih =>
    by_cases h0 : n = 0
    · exact ⟨[], Dig.nil _, norm_nil, by rw [h0]; rfl⟩
    · obtain ⟨l, h1, h2, h3⟩ := ih (n / B) (Nat.div_lt_self (by omega) hB)
      have hm : n % B < B := Nat.mod_lt _ (by omega)
      have hv : val B (((n % B : Nat) : Int) :: l) = n := by
        rw [val_cons, h3, Int.toNat_natCast]
        exact Nat.mod_add_div n B
      refine ⟨((n % B : Nat) : Int) :: l, Dig.cons ⟨by omega, by omega⟩ h1, ?_, hv⟩
      rcases Nat.eq_zero_or_pos l.length with hl | hl
      · have : l = [] := List.eq_nil_of_length_eq_zero hl
        subst this
        have h4 : n / B = 0 := by rw [← h3]; rfl
        have h5 : n % B = n := Nat.mod_eq_of_lt (by
          rcases Nat.lt_or_ge n B with h | h
          · exact h
          · have := Nat.div_pos h (by omega); omega)
        have : ((((n % B : Nat) : Int)) :: ([] : List Int)) = [] ++ [((n % B : Nat) : Int)] := rfl
        rw [this, norm_snoc, h5]
        omega
      · obtain ⟨a, y, rfl⟩ := snoc_of hl
        have : (((n % B : Nat) : Int)) :: (a ++ [y]) = (((n % B : Nat) : Int) :: a) ++ [y] := rfl
        rw [this, norm_snoc]
        exact norm_snoc.1 h2
noncomputable def ofN (B n : Nat) : List Int := @dite _ (∃ l, Dig B l ∧ Norm l ∧ val B l = n) (Classical.propDecidable _) (fun h => Classical.choose h) (fun _ => [])
theorem ofN_spec {B : Nat} (hB : 2 ≤ B) (n : Nat) : Dig B (ofN B n) ∧ Norm (ofN B n) ∧ val B (ofN B n) = n := by
  unfold ofN
  rw [dif_pos (digits_exist hB n)]
  exact Classical.choose_spec (digits_exist hB n)
theorem B32_2 : 2 ≤ B32 := by unfold B32; omega
theorem B64_2 : 2 ≤ B64 := by unfold B64; omega
theorem ofN_of {B : Nat} (hB : 2 ≤ B) {l : List Int} (h1 : Dig B l) (h2 : Norm l) {n : Nat} (h3 : val B l = n) : l = ofN B n := by
  obtain ⟨k1, k2, k3⟩ := ofN_spec hB n
  exact norm_inj (by omega) h1 k1 h2 k2 (h3.trans k3.symm)
theorem ofN_zero {B : Nat} (hB : 2 ≤ B) (n : Nat) : (ofN B n).length = 0 ↔ n = 0 := by
  obtain ⟨k1, k2, k3⟩ := ofN_spec hB n
  have := norm_zero (by omega) k1 k2
  rw [k3] at this
  rw [← this]
  exact ⟨fun h => List.eq_nil_of_length_eq_zero h, fun h => by rw [h]; rfl⟩
theorem ofN_nil {B : Nat} (hB : 2 ≤ B) : ofN B 0 = [] := List.eq_nil_of_length_eq_zero ((ofN_zero hB 0).2 rfl)
theorem ofN_len {B : Nat} (hB : 2 ≤ B) {n k : Nat} (h : n < B ^ k) : (ofN B n).length ≤ k := by
  obtain ⟨k1, k2, k3⟩ := ofN_spec hB n
  rcases Nat.lt_or_ge k (ofN B n).length with hk | hk
  · have h1 := val_ge k1 k2 (by omega)
    rw [k3] at h1
    have h2 := Nat.pow_le_pow_right (n := B) (by omega) (show k ≤ (ofN B n).length - 1 by omega)
    omega
  · exact hk
def capL : Nat := 100000
def Sm (n : Nat) : Prop := n < B32 ^ capL
theorem capL_le : capL ≤ 100000 := Nat.le_refl _
theorem Sm.len {n : Nat} (h : Sm n) : (ofN B32 n).length ≤ 100000 := by
  unfold Sm at h
  exact Nat.le_trans (ofN_len B32_2 h) capL_le
theorem pow_base {n : Nat} : B32 ^ n = 2 ^ (32 * n) := by rw [show B32 = 2 ^ 32 from rfl, ← Nat.pow_mul]
theorem Sm.of {n k : Nat} (h : n < 2 ^ k) (hk : k ≤ 3200000) : Sm n := by
  unfold Sm
  rw [pow_base]
  exact Nat.lt_of_lt_of_le h (Nat.pow_le_pow_right (by decide) (by unfold capL; omega))
theorem Sm.mono {n m : Nat} (h : Sm m) (hn : n ≤ m) : Sm n := Nat.lt_of_le_of_lt hn h
theorem B64_sq : B64 = B32 ^ 2 := by decide
def capH : Nat := 50000
theorem capL_half : capL = 2 * capH := by unfold capL capH; rfl
theorem capH_le : capH ≤ 50000 := Nat.le_refl _
theorem Sm.len64 {n : Nat} (h : Sm n) : (ofN B64 n).length ≤ 50000 := by
  unfold Sm at h
  rw [capL_half, Nat.pow_mul, ← B64_sq] at h
  exact Nat.le_trans (ofN_len B64_2 h) capH_le
end Go.Proofs.Ytlggnljibebfeaa.M
end
section
namespace Go.Proofs.Ytlggnljibebfeaa.X
open Go.RowKit Go.Proofs.YtlggnljibebfeaaV.PrintWords Go.Proofs.YtlggnljibebfeaaV.PrintLast
set_option linter.unusedVariables false
set_option linter.unusedSimpArgs false
abbrev Post := Exit → Act → World → Prop
def SQ (X : Cx) (c : Code) (s : St) (Q : Post) : Prop := ∀ a w, Agree X.fr s a → Holds X s w → c.wpIn X.F 0 X.P Q a w
def Cx.push (X : Cx) (d : Deferred) : Cx := ⟨X.P, X.n, X.B, ⟨X.w0.w, X.w0.M, d :: X.w0.df⟩, X.rd⟩
theorem Holds.push {X : Cx} {s : St} {w : World} (h : Holds X s w) (d : Deferred) : Holds (X.push d) s w :=
  ⟨⟨h.below.os, h.below.tape, h.below.output, h.below.size, h.below.block⟩, h.box, h.new, h.nodup, h.fact, h.old⟩
section
variable {X : Cx} {s : St} {Q : Post} {ops : Array Oper}
theorem SQ_of {c : Code} {K : Exit → St → Prop} (h : SW X c s K) (hq : ∀ e a w, Lift X K e a w → Q e a w) : SQ X c s Q := fun a w ha hw => wpIn_mono (h a w ha hw) hq
theorem SQ_seq {x y : Code} (h : SQ X x s (Exit.then (y.wpIn X.F 0 X.P Q) Q)) : SQ X (.seq x y) s Q := fun a w ha hw => wpIn_seq (h a w ha hw)
theorem SQ_cut {x y : Code} {K : Exit → St → Prop} (M : St → Prop) (h : SW X x s (thenK M K)) (hq : ∀ e s' a w, Agree X.fr s' a → Holds X s' w → K e s' → Q e a w) (h2 : ∀ s', M s' → SQ X y s' Q) : SQ X (.seq x y) s Q := by
  refine SQ_seq (SQ_of h (fun e a w hl => ?_))
  obtain ⟨s', ha, hw, hk⟩ := hl
  cases e with
  | normal => exact h2 s' hk a w ha hw
  | _ => exact hq _ s' a w ha hw hk
theorem SQ_weak {c : Code} {t : St} (h : Weak s t) (k : SQ X c t Q) : SQ X c s Q := by
  intro a w ha hw
  refine k a w ⟨ha.size, ha.defers, fun i v hv => ha.env i v (h.env i v hv)⟩ ⟨hw.below, h.bs ▸ hw.box, h.bs ▸ hw.new, h.bs ▸ hw.nodup, fun F hF => ?_, hw.old⟩
  have := hw.fact F (h.fs.mem F hF)
  rw [h.bs] at this
  exact this
end
abbrev LvD (P : Program) (fn : Func) (R : Ending → World → Prop) (a : Act) (w : World) : Prop := Leaves P fn a.tmps R a.defers .returning w
theorem RetL.post {X : Cx} {fn : Func} {R : Ending → World → Prop} : ∀ e a w, Lift X (RetL X fn (LvD X.P fn R)) e a w → bodyPostD X.P fn R e a w := by
  rintro e a w ⟨s, ha, hw, hk⟩
  cases e with
  | normal => exact hk a w ha hw
  | ret => exact hk a w ha hw
  | _ => exact hk.elim
def LeftM (P : Program) (B : List Nat) (w0 : Base) {γ : Type} (val : γ → Value) (bs' : γ → List Box) (post : γ → List Fact) (e : Ending) (w' : World) : Prop := ∃ g : γ, e = .returned (val g) ∧ Holds ⟨P, 0, B, w0, none⟩ ⟨[], bs' g, post g⟩ w'
theorem left_end {P : Program} {n : Nat} {B : List Nat} {w0 : Base} {df : List Deferred} {fn : Func} {γ : Type} {val : γ → Value} {bs' : γ → List Box} {post : γ → List Fact} {s : St} {tmps : Array Value} {w : World} {fr : Nat × List Deferred} (ha : Agree fr s ⟨tmps, df⟩) (hw : Holds ⟨P, n, B, w0, none⟩ s w)
    (g : γ) (m : List Bool) (hs gs : List Nat) (ho : outN P fn s hs = some (val g, dup gs)) (hm : bs' g = pick s.bs m) (hsub : Sub (post g) s.fs) : Leaves P fn tmps (LeftM P B w0 val bs' post) [] .returning w := by
  have hx : Holds ⟨P, n, B, w0, none⟩ ⟨[], bs' g, s.fs⟩ w := hw.sub (fun b hb => (pick_sub s.bs m).subset (hm ▸ hb)) (by rw [hm]; exact ((pick_sub s.bs m).map Box.id).nodup hw.nodup) []
  exact ⟨val g, outN_spec ho ha hw.box, g, rfl, ⟨hx.below, hx.box, hx.new, hx.nodup, fun F hF => hx.fact F (hsub.mem F hF), hx.old⟩⟩
end Go.Proofs.Ytlggnljibebfeaa.X
end
