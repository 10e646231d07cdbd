import Derived.IntWalk
import Derived.Laws.Externs
import Derived.Test.YtodhmbbiifhiaaaDoorQFnPacki
section
namespace Go.Proofs.YtodhmbbiifhiaaaDoor.M
open Go.RowKit Go.Proofs.YtodhmbbiifhiaaaDoor.G Go.Proofs.YtodhmbbiifhiaaaDoorV.PrintWords Go.Proofs.YtodhmbbiifhiaaaDoorV.PrintLast
set_option linter.unusedVariables false
set_option linter.unusedSimpArgs false
def val (B : Nat) : List Int → Nat
  | [] => 0
  | x :: xs => x.toNat + B * val B xs
def Dig (B : Nat) (l : List Int) : Prop := ∀ x ∈ l, 0 ≤ x ∧ x < (B : Int)
def Norm (l : List Int) : Prop := trimL l = l
theorem val_cons (B : Nat) (x : Int) (l : List Int) : val B (x :: l) = x.toNat + B * val B l := rfl
theorem val_append (B : Nat) (a b : List Int) : val B (a ++ b) = val B a + B ^ a.length * val B b := by
  induction a with
  | nil => simp [val]
  | cons x a ih =>
    rw [List.cons_append, val_cons, val_cons, ih, List.length_cons, Nat.pow_succ, Nat.mul_add, Nat.add_assoc]
    congr 2
    rw [← Nat.mul_assoc, Nat.mul_comm B (B ^ a.length)]
theorem val_one (B : Nat) (x : Int) : val B [x] = x.toNat := by simp [val]
theorem val_snoc (B : Nat) (a : List Int) (x : Int) : val B (a ++ [x]) = val B a + B ^ a.length * x.toNat := by rw [val_append, val_one]
theorem val_zeros (B n : Nat) : val B (List.replicate n 0) = 0 := by
  induction n with
  | zero => rfl
  | succ n ih => rw [List.replicate_succ, val_cons, ih]; simp
theorem Dig.nil (B : Nat) : Dig B [] := fun x h => by cases h
theorem Dig.cons {B : Nat} {x : Int} {l : List Int} (hx : 0 ≤ x ∧ x < (B : Int)) (h : Dig B l) : Dig B (x :: l) := by
  intro y hy
  rcases List.mem_cons.1 hy with rfl | hy
  · exact hx
  · exact h y hy
theorem Dig.append {B : Nat} {a b : List Int} (ha : Dig B a) (hb : Dig B b) : Dig B (a ++ b) := by
  intro y hy
  rcases List.mem_append.1 hy with hy | hy
  · exact ha y hy
  · exact hb y hy
theorem Dig.snoc {B : Nat} {a : List Int} {x : Int} (ha : Dig B a) (hx : 0 ≤ x ∧ x < (B : Int)) : Dig B (a ++ [x]) := ha.append (Dig.cons hx (Dig.nil B))
theorem Dig.take {B : Nat} {l : List Int} (h : Dig B l) (k : Nat) : Dig B (l.take k) := fun x hx => h x (List.mem_of_mem_take hx)
theorem Dig.drop {B : Nat} {l : List Int} (h : Dig B l) (k : Nat) : Dig B (l.drop k) := fun x hx => h x (List.mem_of_mem_drop hx)
theorem Dig.trim {B : Nat} {l : List Int} (h : Dig B l) : Dig B (trimL l) := by rw [trimL_eq_take]; exact h.take _
theorem Dig.zeros {B : Nat} (hB : 0 < B) (n : Nat) : Dig B (List.replicate n 0) := fun x hx => by rw [List.eq_of_mem_replicate hx]; omega
theorem Dig.set {B : Nat} {l : List Int} (h : Dig B l) (p : Nat) {x : Int} (hx : 0 ≤ x ∧ x < (B : Int)) : Dig B (l.set p x) := by
  intro y hy
  rcases List.mem_or_eq_of_mem_set hy with hy | rfl
  · exact h y hy
  · exact hx
theorem Dig.rd {B : Nat} {l : List Int} (h : Dig B l) (hB : 0 < B) (i : Int) : 0 ≤ rd l i ∧ rd l i < (B : Int) := by
  show 0 ≤ l.getD i.toNat 0 ∧ l.getD i.toNat 0 < (B : Int)
  rw [List.getD_eq_getElem?_getD]
  cases hg : l[i.toNat]? with
  | none => simp; omega
  | some x => exact h x (List.mem_of_getElem? hg)
theorem val_lt {B : Nat} {l : List Int} (h : Dig B l) : val B l < B ^ l.length := by
  induction l with
  | nil => simp [val]
  | cons x l ih =>
    have h1 := ih (fun y hy => h y (List.mem_cons_of_mem _ hy))
    have hx := h x (List.mem_cons_self)
    rw [val_cons, List.length_cons, Nat.pow_succ]
    have h2 : val B l + 1 ≤ B ^ l.length := h1
    have h3 : B * (val B l + 1) ≤ B * B ^ l.length := Nat.mul_le_mul_left B h2
    rw [Nat.mul_comm B (B ^ l.length), Nat.mul_add] at h3
    omega
theorem snoc_of {l : List Int} (h : 0 < l.length) : ∃ a x, l = a ++ [x] := by
  refine ⟨l.dropLast, l.getLast (by intro hn; rw [hn] at h; simp at h), ?_⟩
  exact (List.dropLast_concat_getLast _).symm
theorem val_snoc_zero (B : Nat) (a : List Int) : val B (a ++ [0]) = val B a := by rw [val_snoc]; simp
theorem val_trim (B : Nat) (l : List Int) : val B (trimL l) = val B l := by
  induction h : l.length generalizing l with
  | zero => rw [List.eq_nil_of_length_eq_zero h]; rfl
  | succ n ih =>
    obtain ⟨a, x, rfl⟩ : ∃ a x, l = a ++ [x] := snoc_of (by omega)
    by_cases hx : x = 0
    · subst hx
      rw [trimL_snoc_zero, val_snoc_zero]
      exact ih a (by simpa using h)
    · rw [trimL_snoc_ne _ _ hx]
theorem norm_trim (l : List Int) : Norm (trimL l) := trimL_idem l
theorem norm_nil : Norm [] := rfl
theorem norm_snoc {a : List Int} {x : Int} : Norm (a ++ [x]) ↔ x ≠ 0 := by
  constructor
  · intro h hx
    subst hx
    unfold Norm at h
    rw [trimL_snoc_zero] at h
    have h1 := trimL_length a
    rw [h] at h1
    simp at h1
    omega
  · exact fun h => trimL_snoc_ne _ _ h
theorem norm_last {l : List Int} (h : Norm l) (hl : 0 < l.length) : rd l ((l.length : Int) - 1) ≠ 0 := by
  obtain ⟨a, x, rfl⟩ : ∃ a x, l = a ++ [x] := snoc_of hl
  have hx := norm_snoc.1 h
  rw [show (((a ++ [x]).length : Int) - 1) = (a.length : Int) by simp]
  simpa [rd] using hx
theorem val_ge {B : Nat} {l : List Int} (hd : Dig B l) (h : Norm l) (hl : 0 < l.length) : B ^ (l.length - 1) ≤ val B l := by
  obtain ⟨a, x, rfl⟩ : ∃ a x, l = a ++ [x] := snoc_of hl
  have hx := norm_snoc.1 h
  have hx0 := hd x (by simp)
  rw [val_snoc, List.length_append, List.length_singleton, Nat.add_sub_cancel]
  have : B ^ a.length * 1 ≤ B ^ a.length * x.toNat := Nat.mul_le_mul_left _ (by omega)
  omega
theorem val_inj {B : Nat} : ∀ {a b : List Int}, Dig B a → Dig B b → a.length = b.length → val B a = val B b → a = b
  | [], [], _, _, _, _ => rfl
  | [], y :: b, _, _, h, _ => by simp at h
  | x :: a, [], _, _, h, _ => by simp at h
  | x :: a, y :: b, ha, hb, hl, hv => by
    have hx := ha x (by simp)
    have hy := hb y (by simp)
    rw [val_cons, val_cons] at hv
    have hm : (x.toNat + B * val B a) % B = (y.toNat + B * val B b) % B := by rw [hv]
    rw [Nat.add_mul_mod_self_left, Nat.add_mul_mod_self_left, Nat.mod_eq_of_lt (by omega), Nat.mod_eq_of_lt (by omega)] at hm
    have hB : 0 < B := by omega
    have hv2 : val B a = val B b := by
      have h2 : B * val B a = B * val B b := by omega
      exact Nat.eq_of_mul_eq_mul_left hB h2
    rw [val_inj (fun z hz => ha z (List.mem_cons_of_mem _ hz)) (fun z hz => hb z (List.mem_cons_of_mem _ hz)) (by simpa using hl) hv2, show x = y by omega]
theorem val_lt_of_length {B : Nat} (hB : 0 < B) {a b : List Int} (ha : Dig B a) (hb : Dig B b) (hn : Norm b) (hl : a.length < b.length) : val B a < val B b := by
  have h1 := val_lt ha
  have h2 := val_ge hb hn (by omega)
  have h3 : B ^ a.length ≤ B ^ (b.length - 1) := Nat.pow_le_pow_right hB (by omega)
  omega
theorem norm_inj {B : Nat} (hB : 0 < B) {a b : List Int} (ha : Dig B a) (hb : Dig B b) (na : Norm a) (nb : Norm b) (hv : val B a = val B b) : a = b := by
  rcases Nat.lt_trichotomy a.length b.length with h | h | h
  · have := val_lt_of_length hB ha hb nb h; omega
  · exact val_inj ha hb h hv
  · have := val_lt_of_length hB hb ha na h; omega
theorem norm_zero {B : Nat} (hB : 0 < B) {a : List Int} (ha : Dig B a) (na : Norm a) : a = [] ↔ val B a = 0 := by
  constructor
  · rintro rfl; rfl
  · intro h; exact norm_inj hB ha (Dig.nil B) na norm_nil h
theorem rd_nat (l : List Int) (k : Nat) : rd l (k : Int) = l.getD k 0 := rfl
theorem rd_of_ge (l : List Int) (i : Int) (h : l.length ≤ i.toNat) : rd l i = 0 := by simp [rd, List.getD_eq_getElem?_getD, List.getElem?_eq_none h]
theorem rd_append_left (a b : List Int) (i : Int) (h : i.toNat < a.length) : rd (a ++ b) i = rd a i := by simp [rd, List.getElem?_append_left h]
theorem val_take_succ (B : Nat) (l : List Int) (k : Nat) : val B (l.take (k + 1)) = val B (l.take k) + B ^ k * (rd l (k : Int)).toNat := by
  rcases Nat.lt_or_ge k l.length with h | h
  · rw [take_snoc_rd l k h, val_snoc, List.length_take, Nat.min_eq_left (Nat.le_of_lt h)]
  · rw [rd_of_ge l k (by simpa using h), List.take_of_length_le (by omega), List.take_of_length_le h]
    simp
theorem val_split (B : Nat) (l : List Int) (k : Nat) (h : k ≤ l.length) : val B l = val B (l.take k) + B ^ k * val B (l.drop k) := by
  have := val_append B (l.take k) (l.drop k)
  rw [List.take_append_drop, List.length_take, Nat.min_eq_left h] at this
  exact this
theorem rd_set_ne (l : List Int) (p q : Nat) (x : Int) (h : p ≠ q) : rd (l.set p x) (q : Int) = rd l (q : Int) := by simp [rd_nat, List.getD_eq_getElem?_getD, List.getElem?_set_ne h]
theorem wrap64_id {n : Int} (h : -9223372036854775808 ≤ n ∧ n ≤ 9223372036854775807) : wrap64 n = n := by unfold wrap64; omega
theorem wrap_u64 (n : Int) : IntKind.u64.wrap n = n % 18446744073709551616 := by simp [IntKind.wrap, IntKind.bits, IntKind.signed]
theorem wrap_u64_id {n : Int} (h : 0 ≤ n ∧ n < 18446744073709551616) : IntKind.u64.wrap n = n := by rw [wrap_u64]; omega
theorem wraps_u64 (n : Int) (h₀ : 0 ≤ n) (h₁ : n < 2 ^ 64) : IntKind.u64.wrap n = n := wrap_u64_id ⟨h₀, by simpa using h₁⟩
theorem and_mask (i : Nat) (hi : i ≤ 64) (x : Int) (h₀ : 0 ≤ x) (h₁ : x < 18446744073709551616) : bits .and .u64 x (2 ^ i - 1) = x % 2 ^ i :=
  bits_mask .u64 64 (by decide) wraps_u64 i hi x h₀ (by simpa using h₁)
theorem and_low32 (x : Int) (h₀ : 0 ≤ x) (h₁ : x < 18446744073709551616) : bits .and .u64 x 4294967295 = x % 4294967296 := by
  simpa using and_mask 32 (by decide) x h₀ h₁
theorem or_join (i : Nat) (x y : Int) (hx₀ : 0 ≤ x) (hx : x % 2 ^ i = 0) (hx₁ : x < 18446744073709551616) (hy₀ : 0 ≤ y) (hy : y < 2 ^ i) (hy₁ : y < 18446744073709551616) : bits .or .u64 x y = x + y :=
  bits_join .u64 64 (by decide) wraps_u64 i x y hx₀ hx (by simpa using hx₁) hy₀ hy (by simpa using hy₁)
theorem bits_or_comm (x y : Int) : bits .or .u64 x y = bits .or .u64 y x := by simp [bits, BitVec.or_comm]
end Go.Proofs.YtodhmbbiifhiaaaDoor.M
end
section
namespace Go.Proofs.YtodhmbbiifhiaaaDoor.M
open Go.RowKit Go.Proofs.YtodhmbbiifhiaaaDoor.G Go.Proofs.YtodhmbbiifhiaaaDoorV.PrintWords Go.Proofs.YtodhmbbiifhiaaaDoorV.PrintLast
set_option linter.unusedVariables false
set_option linter.unusedSimpArgs false
section
def B32 : Nat := 4294967296
def B64 : Nat := 18446744073709551616
theorem B32_pos : 0 < B32 := by unfold B32; omega
theorem B64_pos : 0 < B64 := by unfold B64; omega
def outL : List Int → List Int
  | [] => []
  | [x] => [x]
  | x :: y :: l => (x + y * 4294967296) :: outL l
theorem outL_dig : ∀ {l : List Int}, Dig B32 l → Dig B64 (outL l)
  | [], _ => Dig.nil _
  | [x], h => by
    have hx := h x (by simp)
    unfold B32 at hx
    exact Dig.cons (by unfold B64; omega) (Dig.nil _)
  | x :: y :: l, h => by
    have hx := h x (by simp)
    have hy := h y (by simp)
    unfold B32 at hx hy
    exact Dig.cons (by unfold B64; omega) (outL_dig (fun z hz => h z (List.mem_cons_of_mem _ (List.mem_cons_of_mem _ hz))))
theorem outL_val : ∀ {l : List Int}, Dig B32 l → val B64 (outL l) = val B32 l
  | [], _ => rfl
  | [x], h => by simp [outL, val]
  | x :: y :: l, h => by
    have hx := h x (by simp)
    have hy := h y (by simp)
    have ih := outL_val (l := l) (fun z hz => h z (List.mem_cons_of_mem _ (List.mem_cons_of_mem _ hz)))
    simp only [outL, val_cons, ih]
    unfold B32 at hx hy
    unfold B32 B64
    omega
theorem norm_iff (l : List Int) : Norm l ↔ ∀ h : l ≠ [], l.getLast h ≠ 0 := by
  rcases Nat.eq_zero_or_pos l.length with h | h
  · have := List.eq_nil_of_length_eq_zero h
    subst this
    exact ⟨fun _ h => absurd rfl h, fun _ => rfl⟩
  · obtain ⟨a, x, rfl⟩ := snoc_of h
    rw [norm_snoc]
    simp
theorem outL_norm : ∀ {l : List Int}, Dig B32 l → Norm l → Norm (outL l)
  | [], _, _ => norm_nil
  | [x], _, h => h
  | [x, y], hd, h => by
    have hx := hd x (by simp)
    have h2 := (norm_iff _).1 h (by simp)
    simp at h2
    have hy := hd y (by simp)
    refine (norm_iff _).2 (fun _ => ?_)
    simp [outL]
    omega
  | x :: y :: z :: l, hd, h => by
    have h2 : Norm (z :: l) := by
      rw [norm_iff] at h ⊢
      intro hn
      have := h (by simp)
      simpa using this
    have ih := outL_norm (l := z :: l) (fun w hw => hd w (List.mem_cons_of_mem _ (List.mem_cons_of_mem _ hw))) h2
    rw [norm_iff] at ih ⊢
    intro hn
    have hne : outL (z :: l) ≠ [] := by cases l <;> simp [outL]
    have := ih hne
    simp only [outL]
    rw [List.getLast_cons hne]
    exact this
end
section
def IsNat (l : List Int) (v : Nat) : Prop := Dig B64 l ∧ Norm l ∧ val B64 l = v
theorem IsNat.uniq {a b : List Int} {v : Nat} (h : IsNat a v) (k : IsNat b v) : a = b := norm_inj B64_pos h.1 k.1 h.2.1 k.2.1 (h.2.2.trans k.2.2.symm)
theorem IsNat.nil : IsNat [] 0 := ⟨Dig.nil _, norm_nil, rfl⟩
theorem IsNat.out {l : List Int} {v : Nat} (hd : Dig B32 l) (hn : Norm l) (hv : val B32 l = v) : IsNat (outL l) v := ⟨outL_dig hd, outL_norm hd hn, by rw [outL_val hd, hv]⟩
end
section
def Clear (l : List Int) (n : Nat) : Prop := ∀ m : Nat, n ≤ m → rd l (m : Int) = 0
theorem Clear.set {l : List Int} {n p : Nat} {x : Int} (h : Clear l n) (hp : p < n) : Clear (l.set p x) n := fun m hm => by rw [rd_set_ne _ _ _ _ (by omega)]; exact h m hm
theorem Clear.zeros (n m : Nat) : Clear (List.replicate n 0) m := fun k hk => by
  rw [rd_nat, List.getD_eq_getElem?_getD, List.getElem?_replicate]
  split <;> rfl
end
section
theorem cast_dig {B n : Nat} (h : n < B) : 0 ≤ (n : Int) ∧ (n : Int) < (B : Int) := by omega
theorem low32_nat (n : Nat) (h : n < 18446744073709551616) : bits .and .u64 (n : Int) 4294967295 = ((n % 4294967296 : Nat) : Int) := by
  rw [and_low32 _ (by omega) (by omega)]
  omega
def sl (B P : Nat) : Nat → List Int → List Int
  | c, [] => [(c : Int)]
  | c, x :: l => (((x.toNat * P + c) % B : Nat) : Int) :: sl B P ((x.toNat * P + c) / B) l
def sr (B P : Nat) : List Int → List Int
  | [] => []
  | x :: l => (((x.toNat + B * ((rd l 0).toNat % P)) / P : Nat) : Int) :: sr B P l
theorem val_mod (B P : Nat) (h : P ∣ B) (l : List Int) : val B l % P = (rd l 0).toNat % P := by
  cases l with
  | nil => rfl
  | cons x l =>
    obtain ⟨K, rfl⟩ := h
    rw [val_cons, Nat.mul_assoc, Nat.add_mul_mod_self_left]
    rfl
theorem sr_val {B P : Nat} (hP : 0 < P) (h : P ∣ B) : ∀ l : List Int, val B (sr B P l) = val B l / P
  | [] => by simp [sr, val]
  | x :: l => by
    simp only [sr, val_cons, Int.toNat_natCast]
    rw [sr_val hP h l, ← val_mod B P h l]
    have h1 := Nat.mod_add_div (val B l) P
    have h2 : x.toNat + B * val B l = x.toNat + B * (val B l % P) + P * (B * (val B l / P)) := by
      have h3 := congrArg (B * ·) h1
      simp only [Nat.mul_add] at h3
      rw [Nat.mul_left_comm] at h3
      omega
    rw [h2, Nat.add_mul_div_left _ _ hP]
theorem quot_lt {B P x y : Nat} (hP : 0 < P) (hx : x < B) : (x + B * (y % P)) / P < B := by
  have h1 := Nat.mod_lt y hP
  refine Nat.div_lt_of_lt_mul ?_
  have h := Nat.mul_le_mul_left B (show y % P + 1 ≤ P from h1)
  rw [Nat.mul_add, Nat.mul_one, Nat.mul_comm B P] at h
  omega
theorem sr_dig {B P : Nat} (hP : 0 < P) : ∀ l : List Int, Dig B l → Dig B (sr B P l)
  | [], _ => Dig.nil _
  | x :: l, h => by
    have hx := h x (by simp)
    have h1 : (x.toNat + B * ((rd l 0).toNat % P)) / P < B := quot_lt hP (by omega)
    exact Dig.cons (cast_dig h1) (sr_dig hP l (fun y hy => h y (List.mem_cons_of_mem _ hy)))
theorem sr_length (B P : Nat) : ∀ l : List Int, (sr B P l).length = l.length
  | [] => rfl
  | x :: l => by simp only [sr, List.length_cons, sr_length B P l]
theorem div_split {B P x y : Nat} (hP : 0 < P) (hx : x < B) : (x + B * y) / P % B = (x + B * (y % P)) / P := by
  have h1 := Nat.mod_add_div y P
  have h2 : x + B * y = x + B * (y % P) + P * (B * (y / P)) := by
    have h3 := congrArg (B * ·) h1
    simp only [Nat.mul_add] at h3
    rw [Nat.mul_left_comm] at h3
    omega
  rw [h2, Nat.add_mul_div_left _ _ hP, Nat.add_mul_mod_self_left, Nat.mod_eq_of_lt (quot_lt hP hx)]
theorem shl_nat (x p : Nat) (hp : p ≤ 64) : shl .u64 (x : Int) (p : Int) = ((x * 2 ^ p % 18446744073709551616 : Nat) : Int) := by
  unfold shl
  rw [wrap_u64, Int.toNat_natCast, show IntKind.u64.bits = 64 from rfl, Nat.min_eq_left hp, show ((x : Int) * 2 ^ p) = ((x * 2 ^ p : Nat) : Int) by simp]
  exact (Int.natCast_emod _ 18446744073709551616).symm
theorem or_nat (p x y : Nat) (hp : p ≤ 64) (hx : x < 18446744073709551616) (h : 2 ^ p ∣ x) (hy : y < 2 ^ p) : bits .or .u64 (x : Int) (y : Int) = ((x + y : Nat) : Int) := by
  have h64 : 2 ^ p ≤ 2 ^ 64 := Nat.pow_le_pow_right (by omega) hp
  have hc : ((2 : Int) ^ p) = ((2 ^ p : Nat) : Int) := by simp
  rw [or_join p x y (by omega) (by rw [hc]; have := Nat.mod_eq_zero_of_dvd h; omega) (by omega) (by omega) (by rw [hc]; omega) (by omega)]
  omega
theorem or_nat' (p x y : Nat) (hp : p ≤ 64) (hx : x < 18446744073709551616) (h : 2 ^ p ∣ x) (hy : y < 2 ^ p) : bits .or .u64 (y : Int) (x : Int) = ((y + x : Nat) : Int) := by
  rw [bits_or_comm, or_nat p x y hp hx h hy, Nat.add_comm]
theorem pow_split (w p : Nat) (h : p ≤ w) : 2 ^ w = 2 ^ (w - p) * 2 ^ p := by rw [← Nat.pow_add]; congr 1; omega
theorem pow_div_mod (v w n : Nat) : v / 2 ^ n = v / (2 ^ w) ^ (n / w) / 2 ^ (n % w) := by
  rw [Nat.div_div_eq_div_mul, ← Nat.pow_mul, ← Nat.pow_add]
  congr 2
  exact (Nat.div_add_mod n w).symm
theorem pow_mul_mod (v w n : Nat) : v * 2 ^ n = (2 ^ w) ^ (n / w) * (v * 2 ^ (n % w)) := by
  rw [Nat.mul_left_comm, ← Nat.pow_mul, ← Nat.pow_add, Nat.div_add_mod]
theorem B32_pow : B32 = 2 ^ 32 := by unfold B32; rfl
theorem val_drop (B : Nat) (hB : 0 < B) {l : List Int} (h : Dig B l) (d : Nat) : val B (l.drop d) = val B l / B ^ d := by
  rcases Nat.lt_or_ge l.length d with hl | hl
  · rw [List.drop_eq_nil_of_le (by omega), Nat.div_eq_of_lt]
    · rfl
    · have h1 := val_lt h
      have h2 : B ^ l.length ≤ B ^ d := Nat.pow_le_pow_right hB (by omega)
      omega
  · have h1 := val_split B l d hl
    have h2 := val_lt (h.take d)
    rw [List.length_take, Nat.min_eq_left hl] at h2
    rw [h1, Nat.add_mul_div_left _ _ (Nat.pow_pos hB), Nat.div_eq_of_lt h2]
    omega
end
section
def shOk (a : List Int) (n : Int) : Prop := a.length ≤ 1200 ∧ ¬ (n > 80000) ∧ ¬ (n < -80000)
instance (a : List Int) (n : Int) : Decidable (shOk a n) := by unfold shOk; infer_instance
end
section
def IsBits (v n : Nat) : Prop := v < 2 ^ n ∧ (n = 0 ∨ 2 ^ (n - 1) ≤ v)
instance (v n : Nat) : Decidable (IsBits v n) := by unfold IsBits; infer_instance
theorem IsBits.uniq {v n m : Nat} (h : IsBits v n) (k : IsBits v m) : n = m := by
  have one : ∀ a b : Nat, IsBits v a → IsBits v b → a ≤ b := by
    intro a b h k
    rcases h.2 with h2 | h2
    · omega
    · rcases Nat.lt_or_ge b a with h3 | h3
      · have := Nat.pow_le_pow_right (n := 2) (by omega) (show b ≤ a - 1 by omega)
        have := k.1
        omega
      · exact h3
  exact Nat.le_antisymm (one n m h k) (one m n k h)
theorem IsBits.zero : IsBits 0 0 := ⟨by decide, Or.inl rfl⟩
theorem IsBits.pos {v n : Nat} (h : IsBits v n) (hv : 0 < v) : 0 < n := by
  rcases Nat.eq_zero_or_pos n with h2 | h2
  · subst h2
    have := h.1
    simp at this
    omega
  · exact h2
theorem IsBits.up {v m s : Nat} (h : IsBits (v / 2 ^ s) m) (hv : 0 < v / 2 ^ s) : IsBits v (s + m) := by
  have hp : 0 < 2 ^ s := Nat.pow_pos (by omega)
  have hm := h.pos hv
  refine ⟨?_, Or.inr ?_⟩
  · rw [Nat.pow_add, Nat.mul_comm]
    exact (Nat.div_lt_iff_lt_mul hp).1 h.1
  · rcases h.2 with h2 | h2
    · omega
    · rw [show s + m - 1 = s + (m - 1) by omega, Nat.pow_add, Nat.mul_comm]
      exact (Nat.le_div_iff_mul_le hp).1 h2
theorem IsBits.le {v n w : Nat} (h : IsBits v n) (hv : v < 2 ^ w) : n ≤ w := by
  rcases h.2 with h2 | h2
  · omega
  · rcases Nat.lt_or_ge w n with h3 | h3
    · have := Nat.pow_le_pow_right (n := 2) (by omega) (show w ≤ n - 1 by omega)
      omega
    · exact h3
end
section
def powOk (m : Nat) (e : Int) : Prop := ¬ (e < 0) ∧ ¬ (e > 20000) ∧ ¬ (wrap64 ((m : Int) * e) > 76800)
instance (m : Nat) (e : Int) : Decidable (powOk m e) := by unfold powOk; infer_instance
end
section
theorem bits_of (v : Nat) (hv : v < 18446744073709551616) : ∃ m : Nat, IsBits v m ∧ m ≤ 64 := by
  by_cases h0 : v = 0
  · subst h0
    exact ⟨0, IsBits.zero, by decide⟩
  · have h1 : v < 2 ^ (v.log2 + 1) := Nat.lt_log2_self
    have h2 : 2 ^ v.log2 ≤ v := Nat.log2_self_le h0
    have h : IsBits v (v.log2 + 1) := ⟨h1, .inr (by rw [Nat.add_sub_cancel]; exact h2)⟩
    exact ⟨v.log2 + 1, h, h.le (w := 64) hv⟩
theorem val_mid (B : Nat) {l : List Int} {p : Nat} (h : p < l.length) : val B l = val B (l.take p) + B ^ p * ((rd l (p : Int)).toNat + B * val B (l.drop (p + 1))) := by
  have h1 := val_split B l p (by omega)
  have h2 : l.drop p = rd l (p : Int) :: l.drop (p + 1) := by
    rw [List.drop_eq_getElem_cons h]
    congr 1
    simp [rd_nat, h]
  rw [h2, val_cons] at h1
  exact h1
end
section
theorem val_drop_rd (B : Nat) {l : List Int} {p : Nat} (h : p < l.length) : val B (l.drop p) = (rd l (p : Int)).toNat + B * val B (l.drop (p + 1)) := by
  rw [List.drop_eq_getElem_cons h, val_cons]
  congr 2
  simp [rd_nat, h]
end
section
def dv (v : Nat) : List Int → Nat
  | [] => v
  | c :: l => dv (v * 10 + (c - 48).toNat) l
def IsDig (l : List Int) : Prop := ∀ c ∈ l, 48 ≤ c ∧ c ≤ 57
theorem IsDig.take {l : List Int} (h : IsDig l) (k : Nat) : IsDig (l.take k) := fun x hx => h x (List.mem_of_mem_take hx)
theorem IsDig.drop {l : List Int} (h : IsDig l) (k : Nat) : IsDig (l.drop k) := fun x hx => h x (List.mem_of_mem_drop hx)
theorem IsDig.rd {l : List Int} (h : IsDig l) (i : Nat) (hi : i < l.length) : 48 ≤ rd l (i : Int) ∧ rd l (i : Int) ≤ 57 := by
  rw [rd_nat, List.getD_eq_getElem?_getD, List.getElem?_eq_getElem hi]
  exact h _ (List.getElem_mem hi)
end
section
instance (l : List Int) : Decidable (IsDig l) := by unfold IsDig; infer_instance
end
section
def hiI (w : Nat) : Int := ((w / 18446744073709551616 : Nat) : Int)
def loI (w : Nat) : Int := ((w % 18446744073709551616 : Nat) : Int)
abbrev B128 : Nat := 340282366920938463463374607431768211456
theorem hi_lt {w : Nat} (h : w < B128) : w / 18446744073709551616 < 18446744073709551616 := by unfold B128 at h; omega
theorem lo_lt (w : Nat) : w % 18446744073709551616 < 18446744073709551616 := by omega
theorem pow64 : (18446744073709551616 : Nat) = 2 ^ 64 := rfl
theorem split_div (w n : Nat) (hn : n < 64) : w / 2 ^ n / 18446744073709551616 = w / 18446744073709551616 / 2 ^ n ∧ w / 2 ^ n % 18446744073709551616 = w % 18446744073709551616 / 2 ^ n + w / 18446744073709551616 * 2 ^ (64 - n) % 18446744073709551616 := by
  have hp : 0 < 2 ^ n := Nat.pow_pos (by decide)
  have e64 : (18446744073709551616 : Nat) = 2 ^ (64 - n) * 2 ^ n := by rw [← Nat.pow_add, show 64 - n + n = 64 by omega]
  have h1 : w / 2 ^ n / 18446744073709551616 = w / 18446744073709551616 / 2 ^ n := by rw [Nat.div_div_eq_div_mul, Nat.div_div_eq_div_mul, Nat.mul_comm]
  refine ⟨h1, ?_⟩
  have hdm := Nat.div_add_mod w 18446744073709551616
  generalize hH : w / 18446744073709551616 = H at *
  generalize hL : w % 18446744073709551616 = L at *
  have hLl : L < 18446744073709551616 := by rw [← hL]; exact Nat.mod_lt _ (by decide)
  have h2 : w / 2 ^ n = L / 2 ^ n + H * 2 ^ (64 - n) := by
    rw [← hdm, e64, show 2 ^ (64 - n) * 2 ^ n * H + L = L + 2 ^ n * (H * 2 ^ (64 - n)) by rw [Nat.mul_comm (2 ^ (64 - n)), Nat.mul_assoc, Nat.mul_comm (2 ^ (64 - n)) H]; omega, Nat.add_mul_div_left _ _ hp]
  rw [h2]
  have h3 : L / 2 ^ n < 2 ^ (64 - n) := by rw [Nat.div_lt_iff_lt_mul hp, ← e64]; exact hLl
  have h4 : H * 2 ^ (64 - n) % 18446744073709551616 = H % 2 ^ n * 2 ^ (64 - n) := by
    rw [show (18446744073709551616 : Nat) = 2 ^ n * 2 ^ (64 - n) by rw [Nat.mul_comm]; exact e64, Nat.mul_mod_mul_right]
  have h5 : H % 2 ^ n * 2 ^ (64 - n) + 2 ^ (64 - n) ≤ 18446744073709551616 := by
    have := Nat.mul_le_mul_right (2 ^ (64 - n)) (show H % 2 ^ n + 1 ≤ 2 ^ n from Nat.mod_lt _ hp)
    rw [Nat.add_mul, Nat.one_mul, Nat.mul_comm (2 ^ n)] at this
    rwa [← e64] at this
  rw [Nat.add_mod, h4, Nat.mod_eq_of_lt (show L / 2 ^ n < 18446744073709551616 by omega), Nat.mod_eq_of_lt (by omega)]
theorem mul_split (w n : Nat) (hn : n < 64) : (w * 2 ^ n) % B128 / 18446744073709551616 = w / 18446744073709551616 * 2 ^ n % 18446744073709551616 + w % 18446744073709551616 / 2 ^ (64 - n) ∧ (w * 2 ^ n) % B128 % 18446744073709551616 = w % 18446744073709551616 * 2 ^ n % 18446744073709551616 := by
  have hp : 0 < 2 ^ n := Nat.pow_pos (by decide)
  have e64 : (18446744073709551616 : Nat) = 2 ^ (64 - n) * 2 ^ n := by rw [← Nat.pow_add, show 64 - n + n = 64 by omega]
  have hdm := Nat.div_add_mod w 18446744073709551616
  generalize hH : w / 18446744073709551616 = H at *
  generalize hL : w % 18446744073709551616 = L at *
  have hLl : L < 18446744073709551616 := by rw [← hL]; exact Nat.mod_lt _ (by decide)
  have hB : B128 = 18446744073709551616 * 18446744073709551616 := rfl
  have h1 : w * 2 ^ n = 18446744073709551616 * (H * 2 ^ n) + L * 2 ^ n := by rw [← hdm, Nat.add_mul, Nat.mul_assoc]
  have h2 : L * 2 ^ n / 18446744073709551616 = L / 2 ^ (64 - n) := by
    rw [e64, Nat.mul_div_mul_right _ _ hp]
  have h3 : L / 2 ^ (64 - n) < 2 ^ n := by rw [Nat.div_lt_iff_lt_mul (Nat.pow_pos (by decide)), Nat.mul_comm, ← e64]; exact hLl
  have h4 : w * 2 ^ n / 18446744073709551616 = H * 2 ^ n + L / 2 ^ (64 - n) := by
    rw [h1, Nat.mul_add_div (by decide), h2]
  have h5 : H * 2 ^ n % 18446744073709551616 + 2 ^ n ≤ 18446744073709551616 := by
    have e : H * 2 ^ n % 18446744073709551616 = H % 2 ^ (64 - n) * 2 ^ n := by rw [show (18446744073709551616 : Nat) = 2 ^ (64 - n) * 2 ^ n from e64, Nat.mul_mod_mul_right]
    rw [e]
    have := Nat.mul_le_mul_right (2 ^ n) (show H % 2 ^ (64 - n) + 1 ≤ 2 ^ (64 - n) from Nat.mod_lt _ (Nat.pow_pos (by decide)))
    rw [Nat.add_mul, Nat.one_mul] at this
    rwa [← e64] at this
  constructor
  · rw [hB, Nat.mod_mul_right_div_self, h4, Nat.add_mod, Nat.mod_eq_of_lt (show L / 2 ^ (64 - n) < 18446744073709551616 by omega), Nat.mod_eq_of_lt (by omega)]
  · rw [hB, Nat.mod_mul_right_mod, h1, Nat.mul_add_mod]
end
section
theorem and1 (x : Nat) (h : x < 18446744073709551616) : bits .and .u64 (x : Int) 1 = ((x % 2 : Nat) : Int) := by
  have := and_mask 1 (by decide) (x : Int) (by omega) (by omega)
  simpa using this
theorem two_digits (l : List Int) (hl : Dig B64 l) (h2 : l.length ≤ 2) : rd (l ++ [0, 0]) 0 = loI (val B64 l) ∧ rd (l ++ [0, 0]) 1 = hiI (val B64 l) ∧ 2 ≤ (l ++ [0, 0]).length := by
  have hB : B64 = 18446744073709551616 := rfl
  match l, hl, h2 with
  | [], _, _ => exact ⟨rfl, rfl, by simp⟩
  | [x], hl, _ =>
    have hx := hl x (by simp)
    refine ⟨?_, ?_, by simp⟩
    · show x = loI (val B64 [x])
      rw [val_one]
      unfold loI
      omega
    · show (0 : Int) = hiI (val B64 [x])
      rw [val_one]
      unfold hiI
      omega
  | [x, y], hl, _ =>
    have hx := hl x (by simp)
    have hy := hl y (by simp)
    refine ⟨?_, ?_, by simp⟩
    · show x = loI (val B64 [x, y])
      rw [val_cons, val_one, hB]
      unfold B64 at hx hy
      unfold loI
      omega
    · show y = hiI (val B64 [x, y])
      rw [val_cons, val_one, hB]
      unfold B64 at hx hy
      unfold hiI
      omega
  | x :: y :: z :: l, _, h2 => simp at h2
end
section
theorem or_nn (a b : Nat) (ha : a < 18446744073709551616) (hb : b < 18446744073709551616) : Go.bits .or .u64 (a : Int) (b : Int) = ((a ||| b : Nat) : Int) :=
  (bits_nat .u64 64 (by decide) wraps_u64 a b ha hb).2
theorem andNot_nn (a b : Nat) (ha : a < 18446744073709551616) (hb : b < 18446744073709551616) : Go.bits .andNot .u64 (a : Int) (b : Int) = (((BitVec.ofNat 64 a &&& ~~~ BitVec.ofNat 64 b).toNat : Nat) : Int) := by
  have h : ∀ x : BitVec 64, IntKind.u64.wrap (x.toNat : Int) = (x.toNat : Int) := fun x => wrap_u64_id (by have := x.isLt; omega)
  exact h _
theorem andNot_high (a m : Nat) (ha : a < 18446744073709551616) (hm : m ≤ 64) : Go.bits .andNot .u64 (a : Int) ((a / 2 ^ m * 2 ^ m : Nat) : Int) = ((a % 2 ^ m : Nat) : Int) := by
  have hle : a / 2 ^ m * 2 ^ m ≤ a := Nat.div_mul_le_self _ _
  rw [andNot_nn _ _ ha (by omega)]
  congr 1
  have hmod : a % 2 ^ m < 2 ^ 64 := Nat.lt_of_le_of_lt (Nat.mod_le _ _) ha
  have : (BitVec.ofNat 64 a &&& ~~~ BitVec.ofNat 64 (a / 2 ^ m * 2 ^ m)) = BitVec.ofNat 64 (a % 2 ^ m) := by
    apply BitVec.eq_of_getLsbD_eq
    intro i hi
    simp only [BitVec.getLsbD_and, BitVec.getLsbD_not, BitVec.getLsbD_ofNat, hi, decide_true, Bool.true_and, Nat.testBit_mul_two_pow, Nat.testBit_div_two_pow, Nat.testBit_mod_two_pow]
    by_cases h : m ≤ i
    · have h2 : ¬ i < m := by omega
      have e : m + (i - m) = i := by omega
      have e' : i - m + m = i := by omega
      simp [h, h2, e, e']
    · have h2 : i < m := by omega
      simp [h, h2]
  rw [this, BitVec.toNat_ofNat, Nat.mod_eq_of_lt hmod]
theorem andNot_self (a : Nat) (ha : a < 18446744073709551616) : Go.bits .andNot .u64 (a : Int) (a : Int) = 0 := by
  have h := andNot_high a 0 ha (by decide)
  rw [Nat.pow_zero, Nat.div_one, Nat.mul_one, Nat.mod_one] at h
  exact h
theorem andNot_zero (a : Nat) (ha : a < 18446744073709551616) : Go.bits .andNot .u64 (a : Int) ((0 : Nat) : Int) = (a : Int) := by
  have h := andNot_high a 64 ha (by decide)
  rw [Nat.div_eq_of_lt (show a < 2 ^ 64 from ha), Nat.zero_mul, Nat.mod_eq_of_lt (show a < 2 ^ 64 from ha)] at h
  exact h
theorem or_zero (a : Nat) (ha : a < 18446744073709551616) : Go.bits .or .u64 (a : Int) 0 = (a : Int) := by
  have h := or_nn a 0 ha (by decide)
  rw [Nat.or_zero] at h
  exact h
theorem high_cells (w n : Nat) : (n < 64 → w / 2 ^ n * 2 ^ n / 18446744073709551616 = w / 18446744073709551616 ∧ w / 2 ^ n * 2 ^ n % 18446744073709551616 = w % 18446744073709551616 / 2 ^ n * 2 ^ n ∧ w % 2 ^ n / 18446744073709551616 = 0 ∧ w % 2 ^ n % 18446744073709551616 = w % 18446744073709551616 % 2 ^ n) ∧
    (64 ≤ n → w / 2 ^ n * 2 ^ n / 18446744073709551616 = w / 18446744073709551616 / 2 ^ (n - 64) * 2 ^ (n - 64) ∧ w / 2 ^ n * 2 ^ n % 18446744073709551616 = 0 ∧ w % 2 ^ n / 18446744073709551616 = w / 18446744073709551616 % 2 ^ (n - 64) ∧ w % 2 ^ n % 18446744073709551616 = w % 18446744073709551616) := by
  constructor
  · intro hn
    have hp : 0 < 2 ^ n := Nat.pow_pos (by decide)
    have e64 : (18446744073709551616 : Nat) = 2 ^ n * 2 ^ (64 - n) := by rw [← Nat.pow_add, show n + (64 - n) = 64 by omega]
    have hlt : 2 ^ n < 18446744073709551616 := by rw [pow64]; exact Nat.pow_lt_pow_right (by decide) hn
    have h1 := Nat.div_add_mod w (2 ^ n)
    have h2 := Nat.mod_lt w hp
    have hdm := Nat.div_add_mod w 18446744073709551616
    have hm : w % 18446744073709551616 % 2 ^ n = w % 2 ^ n := by rw [e64, Nat.mod_mul_right_mod]
    have hd := Nat.div_add_mod (w % 18446744073709551616) (2 ^ n)
    rw [hm] at hd
    have e1 : w / 2 ^ n * 2 ^ n = 18446744073709551616 * (w / 18446744073709551616) + w % 18446744073709551616 / 2 ^ n * 2 ^ n := by
      rw [Nat.mul_comm (w / 2 ^ n), Nat.mul_comm (w % 18446744073709551616 / 2 ^ n)]
      omega
    have hL : w % 18446744073709551616 / 2 ^ n * 2 ^ n < 18446744073709551616 := Nat.lt_of_le_of_lt (Nat.div_mul_le_self _ _) (Nat.mod_lt _ (by decide))
    refine ⟨?_, ?_, Nat.div_eq_of_lt (by omega), ?_⟩
    · rw [e1, Nat.mul_add_div (by decide), Nat.div_eq_of_lt hL, Nat.add_zero]
    · rw [e1, Nat.mul_add_mod, Nat.mod_eq_of_lt hL]
    · rw [hm, Nat.mod_eq_of_lt (by omega)]
  · intro hn
    have e : 2 ^ n = 18446744073709551616 * 2 ^ (n - 64) := by rw [pow64, ← Nat.pow_add, show 64 + (n - 64) = n by omega]
    have e1 : w / 2 ^ n * 2 ^ n = 18446744073709551616 * (w / 18446744073709551616 / 2 ^ (n - 64) * 2 ^ (n - 64)) := by
      rw [e, ← Nat.div_div_eq_div_mul, Nat.mul_left_comm]
    refine ⟨?_, ?_, ?_, ?_⟩
    · rw [e1, Nat.mul_div_cancel_left _ (by decide)]
    · rw [e1, Nat.mul_mod_right]
    · rw [e, Nat.mod_mul_right_div_self]
    · rw [e, Nat.mod_mul_right_mod]
end
section
abbrev Prt : Type := Int × Bool × Int × Int × Int
def badP : Prt := (0, false, 0, 0, 0)
def partsOf (P : Nat) (emin emax : Int) (E : Nat) (e : Nat) (neg : Bool) (rest : Nat) : Prt :=
  if e = 2 ^ E - 1 then (if rest = 0 then (4, neg, 0, 0, 0) else (5, false, 0, 0, 0))
  else if e = 0 then (if rest = 0 then (1, neg, 0, 0, 0) else (2, neg, hiI rest, loI rest, emin - P + 1))
  else (3, neg, hiI (rest + 2 ^ (P - 1)), loI (rest + 2 ^ (P - 1)), e - emax - P + 1)
def fracN (P : Nat) (ex : Bool) : Nat := if ex = true then P else P - 1
def unpN (P : Nat) (emin emax : Int) (W E : Nat) (ex : Bool) (w : Nat) : Prt :=
  if 2 ^ W ≤ w then badP
  else if ex = true then
    (if (2 ^ (P - 1) ≤ w % 2 ^ P ↔ w / 2 ^ P % 2 ^ E ≠ 0) then partsOf P emin emax E (w / 2 ^ P % 2 ^ E) (decide (w / 2 ^ (W - 1) % 2 = 1)) (w % 2 ^ P % 2 ^ (P - 1)) else badP)
  else partsOf P emin emax E (w / 2 ^ (P - 1) % 2 ^ E) (decide (w / 2 ^ (W - 1) % 2 = 1)) (w % 2 ^ (P - 1))
structure Fmt (P : Nat) (emin emax : Int) (W E : Nat) (ex : Bool) : Prop where
  p0 : 2 ≤ P
  p1 : P ≤ 113
  e0 : 1 ≤ E
  e1 : E ≤ 15
  w1 : fracN P ex + E + 1 = W
  w2 : W ≤ 128
  m0 : -20000 ≤ emin ∧ emin ≤ 20000
  m1 : -20000 ≤ emax ∧ emax ≤ 20000
section
variable {P : Nat} {emin emax : Int} {W E : Nat} {ex : Bool}
theorem Fmt.plt (h : Fmt P emin emax W E ex) : 2 ^ E ≤ 32768 := by
  have := Nat.pow_le_pow_right (n := 2) (by decide) h.e1
  exact this
end
end
section
theorem bit_top {v m : Nat} (h : v < 2 ^ (m + 1)) : v / 2 ^ m % 2 = if 2 ^ m ≤ v then 1 else 0 := by
  have hp : 0 < 2 ^ m := Nat.pow_pos (by decide)
  rw [Nat.pow_succ] at h
  have h2 : v / 2 ^ m < 2 := by rw [Nat.div_lt_iff_lt_mul hp, Nat.mul_comm]; exact h
  by_cases hv : 2 ^ m ≤ v
  · rw [if_pos hv]
    have := (Nat.le_div_iff_mul_le hp).2 (show 1 * 2 ^ m ≤ v by omega)
    omega
  · rw [if_neg hv, Nat.div_eq_of_lt (by omega)]
end
section
theorem word_ne (x : Nat) : (!(hiI x == 0) || (!(loI x == 0))) = decide (x ≠ 0) := by
  unfold hiI loI
  by_cases h : x = 0
  · subst h; rfl
  · rw [decide_eq_true h]
    by_cases h1 : x / 18446744073709551616 = 0
    · have h2 : x % 18446744073709551616 ≠ 0 := by omega
      have : (((x % 18446744073709551616 : Nat) : Int) == 0) = false := by rw [beq_eq_false_iff_ne]; omega
      rw [this]; simp
    · have : (((x / 18446744073709551616 : Nat) : Int) == 0) = false := by rw [beq_eq_false_iff_ne]; omega
      rw [this]; rfl
theorem word_eq0 (x : Nat) : (hiI x == 0 && (loI x == 0)) = decide (x = 0) := by
  have h := word_ne x
  have h2 : (hiI x == 0 && (loI x == 0)) = !(!(hiI x == 0) || (!(loI x == 0))) := by cases (hiI x == 0) <;> cases (loI x == 0) <;> rfl
  rw [h2, h]
  by_cases h0 : x = 0
  · rw [decide_eq_true h0, decide_eq_false (by simpa using h0)]; rfl
  · rw [decide_eq_false h0, decide_eq_true h0]; rfl
section
variable {P : Nat} {emin emax : Int} {W E : Nat} {ex : Bool}
theorem small2 (q : Nat) (h : q < 2) : q ≠ 0 ↔ q % 2 = 1 := by omega
end
end
section
theorem fmt0 : Fmt 24 (-126) 127 32 8 false := ⟨by decide, by decide, by decide, by decide, by decide, by decide, by decide, by decide⟩
theorem fmt1 : Fmt 53 (-1022) 1023 64 11 false := ⟨by decide, by decide, by decide, by decide, by decide, by decide, by decide, by decide⟩
theorem fmt2 : Fmt 64 (-16382) 16383 80 15 true := ⟨by decide, by decide, by decide, by decide, by decide, by decide, by decide, by decide⟩
theorem fmt3 : Fmt 113 (-16382) 16383 128 15 false := ⟨by decide, by decide, by decide, by decide, by decide, by decide, by decide, by decide⟩
end
end Go.Proofs.YtodhmbbiifhiaaaDoor.M
end
section
namespace Go.Proofs.YtodhmbbiifhiaaaDoor.M
open Go.RowKit Go.Proofs.YtodhmbbiifhiaaaDoor.G Go.Proofs.YtodhmbbiifhiaaaDoorV.PrintWords Go.Proofs.YtodhmbbiifhiaaaDoorV.PrintLast Go.Proofs.YtodhmbbiifhiaaaDoor.X
set_option linter.unusedVariables false
set_option linter.unusedSimpArgs false
theorem ct_impl_scanner_ended (g n c i : Nat) (A : Option Addr) (v1 v2 v3 v4 : Value) (b : Bool) (hb : ((i : Int) == (n : Int)) = b) :
  CtM Tryd.prog 131 [.pointer (some ⟨g, 0, none⟩)] [⟨g, [.slice A n c, .int .i64 (i : Int), v1, v2, v3, v4], 134⟩] [] (γ := Unit) (fun _ => .bool b) (fun _ => [⟨g, [.slice A n c, .int .i64 (i : Int), v1, v2, v3, v4], 134⟩]) (fun _ => []) := by
 refine cm_of Tryd.func131 rfl (by kernel_rfl) (fun B w0 => ?_)
 refine xr [] [(2, .bool false)] ?_
 refine xd (fun hB => ?_)
 refine xdk [(0, []), (1, []), (2, []), (3, [0]), (4, []), (5, []), (6, []), (7, [0]), (8, []), (9, []), (10, [])] [(2, .bool ((i : Int) == (n : Int)))] hB ?_
 refine xdz ?_
 refine SW_ret ?_
 refine xmeg (.bool ((i : Int) == (n : Int))) [] ?_
 exact ⟨(), [true], by rw [hb], rfl, zs0⟩
theorem ct_impl_scanner_peek (g c i : Nat) (A : Option Addr) (l : List Int) (v1 v2 v3 v4 : Value) (hi : i ≤ l.length) (hl : l.length ≤ 1000000) (y : Int) (hy : (if i < l.length then rd l (i : Int) else 0) = y) :
  CtM Tryd.prog 130 [.pointer (some ⟨g, 0, none⟩)] [⟨g, [.slice A l.length c, .int .i64 (i : Int), v1, v2, v3, v4], 134⟩] [Row .u8 A c l] (γ := Unit) (fun _ => .int .u8 y) (fun _ => [⟨g, [.slice A l.length c, .int .i64 (i : Int), v1, v2, v3, v4], 134⟩]) (fun _ => []) := by
 refine cm_of Tryd.func130 rfl (by kernel_rfl) (fun B w0 => ?_)
 by_cases h : i < l.length
 ·rw [if_pos h] at hy
  have z : ((i : Int) == (l.length : Int)) = false := by rw [beq_eq_false_iff_ne]; omega
  refine SW_know zi0 (fun w h => row_at h (by omega)) (fun ⟨ad, e⟩ => ?_)
  subst e
  have v : Ve (rd l (i : Int)) y := ⟨hy⟩
  refine xr [] [(2, .int .u8 0)] ?_
  refine SW_seq ?_
  refine xd (fun hB => ?_)
  refine xdk [(0, []), (1, []), (2, []), (3, [0]), (4, []), (5, []), (6, []), (7, [0]), (8, []), (9, [])] [(12, .bool ((i : Int) == (((List.length l) : Nat) : Int)))] hB ?_
  refine xdz ?_
  refine xsf z ?_
  refine SW_skip ?_
  refine xd (fun hB => ?_)
  refine xdk [(0, []), (1, []), (2, []), (3, [0]), (4, []), (5, []), (6, []), (7, [0])] [(20, .int .i64 (i : Int)), (16, .slice (some ad) (List.length l) c)] hB ?_
  refine xdfi 8 hB 21 5 (ad) (List.length l) (c) (i) IntKind.i64 ((i : Int)) ⟨rfl⟩ (by omega) ?_
  refine xdfle 9 hB 22 zi0 (i) (y) v (by omega) ?_
  refine xdk [(10, [])] [(2, .int .u8 y)] hB ?_
  refine xdz ?_
  refine SW_ret ?_
  refine xmeg (.int .u8 y) [] ?_
  exact ⟨(), [true], rfl, rfl, zs0⟩
 ·rw [if_neg h] at hy
  subst hy
  have z : ((i : Int) == (l.length : Int)) = true := by rw [beq_iff_eq]; omega
  refine xr [] [(2, .int .u8 0)] ?_
  refine SW_seq ?_
  refine xd (fun hB => ?_)
  refine xdk [(0, []), (1, []), (2, []), (3, [0]), (4, []), (5, []), (6, []), (7, [0]), (8, []), (9, [])] [(12, .bool ((i : Int) == (((List.length l) : Nat) : Int)))] hB ?_
  refine xdz ?_
  refine xst z ?_
  refine xr [] [(2, .int .u8 0)] ?_
  refine SW_ret ?_
  refine xmeg (.int .u8 0) [] ?_
  exact ⟨(), [true], rfl, rfl, zs0⟩
theorem scanner_word_nan (g c : Nat) (A : Option Addr) (v1 v2 v3 v4 : Value) :
  CtM Tryd.prog 132 [.pointer (some ⟨g, 0, none⟩), .string ⟨#[110, 97, 110]⟩] [⟨g, [.slice A 3 c, .int .i64 0, v1, v2, v3, v4], 134⟩] [Row .u8 A c [110, 97, 110]] (γ := Unit) (fun _ => .tuple #[]) (fun _ => [⟨g, [.slice A 3 c, .int .i64 3, v1, v2, v3, v4], 134⟩]) (fun _ => []) := by
 refine cm_of Tryd.func132 rfl (by kernel_rfl) (fun B w0 => ?_)
 have nolw : True := trivial
 have en0 : CtM Tryd.prog 131 [.pointer (some ⟨g, 0, none⟩)] [⟨g, [.slice A 3 c, .int .i64 0, v1, v2, v3, v4], 134⟩] [] (γ := Unit) (fun _ => .bool false) (fun _ => [⟨g, [.slice A 3 c, .int .i64 0, v1, v2, v3, v4], 134⟩]) (fun _ => []) := ct_impl_scanner_ended g 3 c 0 A v1 v2 v3 v4 false rfl
 have pk0 : CtM Tryd.prog 130 [.pointer (some ⟨g, 0, none⟩)] [⟨g, [.slice A 3 c, .int .i64 0, v1, v2, v3, v4], 134⟩] [Row .u8 A c [110, 97, 110]] (γ := Unit) (fun _ => .int .u8 110) (fun _ => [⟨g, [.slice A 3 c, .int .i64 0, v1, v2, v3, v4], 134⟩]) (fun _ => []) := ct_impl_scanner_peek g c 0 A [110, 97, 110] v1 v2 v3 v4 (by decide) (by decide) 110 rfl
 have en1 : CtM Tryd.prog 131 [.pointer (some ⟨g, 0, none⟩)] [⟨g, [.slice A 3 c, .int .i64 1, v1, v2, v3, v4], 134⟩] [] (γ := Unit) (fun _ => .bool false) (fun _ => [⟨g, [.slice A 3 c, .int .i64 1, v1, v2, v3, v4], 134⟩]) (fun _ => []) := ct_impl_scanner_ended g 3 c 1 A v1 v2 v3 v4 false rfl
 have pk1 : CtM Tryd.prog 130 [.pointer (some ⟨g, 0, none⟩)] [⟨g, [.slice A 3 c, .int .i64 1, v1, v2, v3, v4], 134⟩] [Row .u8 A c [110, 97, 110]] (γ := Unit) (fun _ => .int .u8 97) (fun _ => [⟨g, [.slice A 3 c, .int .i64 1, v1, v2, v3, v4], 134⟩]) (fun _ => []) := ct_impl_scanner_peek g c 1 A [110, 97, 110] v1 v2 v3 v4 (by decide) (by decide) 97 rfl
 have en2 : CtM Tryd.prog 131 [.pointer (some ⟨g, 0, none⟩)] [⟨g, [.slice A 3 c, .int .i64 2, v1, v2, v3, v4], 134⟩] [] (γ := Unit) (fun _ => .bool false) (fun _ => [⟨g, [.slice A 3 c, .int .i64 2, v1, v2, v3, v4], 134⟩]) (fun _ => []) := ct_impl_scanner_ended g 3 c 2 A v1 v2 v3 v4 false rfl
 have pk2 : CtM Tryd.prog 130 [.pointer (some ⟨g, 0, none⟩)] [⟨g, [.slice A 3 c, .int .i64 2, v1, v2, v3, v4], 134⟩] [Row .u8 A c [110, 97, 110]] (γ := Unit) (fun _ => .int .u8 110) (fun _ => [⟨g, [.slice A 3 c, .int .i64 2, v1, v2, v3, v4], 134⟩]) (fun _ => []) := ct_impl_scanner_peek g c 2 A [110, 97, 110] v1 v2 v3 v4 (by decide) (by decide) 110 rfl
 refine xg ?_
 refine xn 1 [] [(6, Value.string { data := #[110, 97, 110] })] ?_
 refine xbo 7 (fun g0 => .pointer (some ⟨g0, 0, none⟩)) (fun g0 => ⟨g0, [], Ty.ob (Obj.stringIter { data := #[110, 97, 110] } 0)⟩) (fun g0 => ?_)
 refine xz [] [] ?_
 refine SW_block ?_
 refine SW_unroll ?_
 refine LW_step ?_
 refine SW_seq ?_
 refine SW_region ?_
 refine xnx 8 (.tuple #[.bool true, .int .i64 0, .int .i32 110]) [1] [⟨g, [.slice A 3 c, .int .i64 0, v1, v2, v3, v4], 134⟩, ⟨g0, [], .ob (.stringIter ⟨#[110, 97, 110]⟩ 1)⟩] ?_
 refine xz [] [(9, .bool true)] ?_
 refine SW_seq ?_
 refine xs1 ?_
 refine SW_skip ?_
 refine SW_block ?_
 refine xr [] [(5, .int .i32 110)] ?_
 refine SW_seq ?_
 refine xg ?_
 refine xn 1 [] [(11, .pointer (some ⟨g, 0, none⟩))] ?_
 refine xcm 12 [true] en0 zs0 (fun z0 => ?_)
 refine xn 4 [] [(14, .pointer (some ⟨g, 0, none⟩)), (13, .bool false)] ?_
 refine xcm 15 [true] pk0 (zsS zi0 zs0) (fun z1 => ?_)
 refine xz [] [(20, .bool false)] ?_
 refine xs0 ?_
 refine SW_skip ?_
 refine xql [(3, [0]), (7, [0])] [] [(0, [.slice A 3 c, .int .i64 1, v1, v2, v3, v4])] ?_
 refine LW_step ?_
 refine SW_seq ?_
 refine SW_region ?_
 refine xnx 8 (.tuple #[.bool true, .int .i64 1, .int .i32 97]) [1] [⟨g, [.slice A 3 c, .int .i64 1, v1, v2, v3, v4], 134⟩, ⟨g0, [], .ob (.stringIter ⟨#[110, 97, 110]⟩ 2)⟩] ?_
 refine xz [] [(9, .bool true)] ?_
 refine SW_seq ?_
 refine xs1 ?_
 refine SW_skip ?_
 refine SW_block ?_
 refine xr [] [(5, .int .i32 97)] ?_
 refine SW_seq ?_
 refine xg ?_
 refine xn 1 [] [(11, .pointer (some ⟨g, 0, none⟩))] ?_
 refine xcm 12 [true] en1 zs0 (fun z2 => ?_)
 refine xn 4 [] [(14, .pointer (some ⟨g, 0, none⟩)), (13, .bool false)] ?_
 refine xcm 15 [true] pk1 (zsS zi0 zs0) (fun z3 => ?_)
 refine xz [] [(20, .bool false)] ?_
 refine xs0 ?_
 refine SW_skip ?_
 refine xql [(3, [0]), (7, [0])] [] [(0, [.slice A 3 c, .int .i64 2, v1, v2, v3, v4])] ?_
 refine LW_step ?_
 refine SW_seq ?_
 refine SW_region ?_
 refine xnx 8 (.tuple #[.bool true, .int .i64 2, .int .i32 110]) [1] [⟨g, [.slice A 3 c, .int .i64 2, v1, v2, v3, v4], 134⟩, ⟨g0, [], .ob (.stringIter ⟨#[110, 97, 110]⟩ 3)⟩] ?_
 refine xz [] [(9, .bool true)] ?_
 refine SW_seq ?_
 refine xs1 ?_
 refine SW_skip ?_
 refine SW_block ?_
 refine xr [] [(5, .int .i32 110)] ?_
 refine SW_seq ?_
 refine xg ?_
 refine xn 1 [] [(11, .pointer (some ⟨g, 0, none⟩))] ?_
 refine xcm 12 [true] en2 zs0 (fun z4 => ?_)
 refine xn 4 [] [(14, .pointer (some ⟨g, 0, none⟩)), (13, .bool false)] ?_
 refine xcm 15 [true] pk2 (zsS zi0 zs0) (fun z5 => ?_)
 refine xz [] [(20, .bool false)] ?_
 refine xs0 ?_
 refine SW_skip ?_
 refine xql [(3, [0]), (7, [0])] [] [(0, [.slice A 3 c, .int .i64 3, v1, v2, v3, v4])] ?_
 refine LW_step ?_
 refine SW_seq ?_
 refine SW_region ?_
 refine xnx 8 (.tuple #[.bool false]) [1] [⟨g, [.slice A 3 c, .int .i64 3, v1, v2, v3, v4], 134⟩, ⟨g0, [], .ob (.stringIter ⟨#[110, 97, 110]⟩ 3)⟩] ?_
 refine xz [] [(9, .bool false)] ?_
 refine SW_seq ?_
 refine xs0 ?_
 refine SW_exit ?_
 refine xmfg (.tuple #[]) [] ?_
 exact ⟨(), [true, false], rfl, rfl, zs0⟩
theorem scanner_run_nan (g c : Nat) (A : Option Addr) (v3 v4 : Value) :
  CtM Tryd.prog 104 [.pointer (some ⟨g, 0, none⟩)] [⟨g, [.slice A 3 c, .int .i64 0, .int .i64 0, .bool false, v3, v4], 134⟩] [Row .u8 A c [110, 97, 110]] (γ := Unit) (fun _ => .tuple #[]) (fun _ => [⟨g, [.slice A 3 c, .int .i64 3, .int .i64 3, .bool false, v3, v4], 134⟩]) (fun _ => []) := by
 have en0 : CtM Tryd.prog 131 [.pointer (some ⟨g, 0, none⟩)] [⟨g, [.slice A 3 c, .int .i64 0, .int .i64 0, .bool false, v3, v4], 134⟩] [] (γ := Unit) (fun _ => .bool false) (fun _ => [⟨g, [.slice A 3 c, .int .i64 0, .int .i64 0, .bool false, v3, v4], 134⟩]) (fun _ => []) := ct_impl_scanner_ended g 3 c 0 A _ _ v3 v4 false rfl
 have pk0 : CtM Tryd.prog 130 [.pointer (some ⟨g, 0, none⟩)] [⟨g, [.slice A 3 c, .int .i64 0, .int .i64 0, .bool false, v3, v4], 134⟩] [Row .u8 A c [110, 97, 110]] (γ := Unit) (fun _ => .int .u8 110) (fun _ => [⟨g, [.slice A 3 c, .int .i64 0, .int .i64 0, .bool false, v3, v4], 134⟩]) (fun _ => []) := ct_impl_scanner_peek g c 0 A [110, 97, 110] _ _ v3 v4 (by decide) (by decide) 110 rfl
 have en3 : CtM Tryd.prog 131 [.pointer (some ⟨g, 0, none⟩)] [⟨g, [.slice A 3 c, .int .i64 3, .int .i64 3, .bool false, v3, v4], 134⟩] [] (γ := Unit) (fun _ => .bool true) (fun _ => [⟨g, [.slice A 3 c, .int .i64 3, .int .i64 3, .bool false, v3, v4], 134⟩]) (fun _ => []) := ct_impl_scanner_ended g 3 c 3 A _ _ v3 v4 true rfl
 have pk3 : CtM Tryd.prog 130 [.pointer (some ⟨g, 0, none⟩)] [⟨g, [.slice A 3 c, .int .i64 3, .int .i64 3, .bool false, v3, v4], 134⟩] [Row .u8 A c [110, 97, 110]] (γ := Unit) (fun _ => .int .u8 0) (fun _ => [⟨g, [.slice A 3 c, .int .i64 3, .int .i64 3, .bool false, v3, v4], 134⟩]) (fun _ => []) := ct_impl_scanner_peek g c 3 A [110, 97, 110] _ _ v3 v4 (by decide) (by decide) 0 rfl
 have wn := scanner_word_nan g c A (.int .i64 0) (.bool false) v3 v4
 refine cm_of Tryd.func104 rfl (by kernel_rfl) (fun B w0 => ?_)
 refine SW_scope' ?_ (fun _ _ h => h)
 refine xr [] [(3, .slice none 0 0), (2, .slice none 0 0)] ?_
 refine xr [] [(4, .int .i64 0)] ?_
 refine xr [] [(5, .int .i64 0)] ?_
 refine SW_seq ?_
 refine SW_label ?_
 refine SW_seq ?_
 refine SW_block ?_
 refine SW_unroll ?_
 refine LW_step ?_
 refine SW_block ?_
 refine xg ?_
 refine xn 1 [] [(9, .pointer (some ⟨g, 0, none⟩))] ?_
 refine xcm 10 [true] pk0 (zsS zi0 zs0) (fun z0 => ?_)
 refine xz [] [(6, .int .u8 110)] ?_
 refine xr [] [(11, .int .i64 0)] ?_
 refine SW_block ?_
 refine xr [] [(12, .bool true)] ?_
 refine xs1 ?_
 refine SW_seq ?_
 refine xg ?_
 refine xn 1 [] [(14, .pointer (some ⟨g, 0, none⟩))] ?_
 refine xcm 15 [true] en0 zs0 (fun z1 => ?_)
 refine xz [] [(24, .bool false)] ?_
 refine xs0 ?_
 refine SW_skip ?_
 refine xrl [] [(5, .int .i64 1)] ?_
 refine LW_step ?_
 refine SW_block ?_
 refine xg ?_
 refine xn 1 [] [(9, .pointer (some ⟨g, 0, none⟩))] ?_
 refine xcm 10 [true] pk0 (zsS zi0 zs0) (fun z2 => ?_)
 refine xz [] [(6, .int .u8 110)] ?_
 refine xr [] [(11, .int .i64 1)] ?_
 refine SW_block ?_
 refine xr [] [(12, .bool false)] ?_
 refine xs0 ?_
 refine xr [] [(38, .bool true)] ?_
 refine xs1 ?_
 refine SW_seq ?_
 refine SW_block ?_
 refine xr [] [(40, .bool false)] ?_
 refine xs0 ?_
 refine xr [] [(58, .bool true)] ?_
 refine xs1 ?_
 refine xg ?_
 refine xn 1 [] [(65, .pointer (some ⟨g, 0, none⟩))] ?_
 refine xcm 66 [true] wn (zsS zi0 zs0) (fun z3 => ?_)
 refine xz [] [] ?_
 refine xq [(5, [0]), (9, [0])] [] [(0, [.slice A 3 c, .int .i64 3, .int .i64 3, .bool false, v3, v4])] ?_
 refine xr [] [(5, .int .i64 4)] ?_
 refine SW_exit ?_
 refine LW_step ?_
 refine SW_block ?_
 refine xg ?_
 refine xn 1 [] [(9, .pointer (some ⟨g, 0, none⟩))] ?_
 refine xcm 10 [true] pk3 (zsS zi0 zs0) (fun z4 => ?_)
 refine xz [] [(6, .int .u8 0)] ?_
 refine xr [] [(11, .int .i64 4)] ?_
 refine SW_block ?_
 refine xr [] [(12, .bool false)] ?_
 refine xs0 ?_
 refine xr [] [(38, .bool false)] ?_
 refine xs0 ?_
 refine xr [] [(93, .bool false)] ?_
 refine xs0 ?_
 refine xr [] [(121, .bool false)] ?_
 refine xs0 ?_
 refine xr [] [(133, .bool true)] ?_
 refine xs1 ?_
 refine SW_seq ?_
 refine xg ?_
 refine xn 1 [] [(135, .pointer (some ⟨g, 0, none⟩))] ?_
 refine xcm 136 [true] en3 zs0 (fun z5 => ?_)
 refine xz [] [(137, .bool false)] ?_
 refine xs0 ?_
 refine SW_skip ?_
 refine SW_exit ?_
 refine SW_seq ?_
 refine xr [(4, [0])] [(145, .bool true)] ?_
 refine xs1 ?_
 refine SW_ret ?_
 refine xmeg (.tuple #[]) [] ?_
 exact ⟨(), [true], rfl, rfl, zs0⟩
end Go.Proofs.YtodhmbbiifhiaaaDoor.M
end
section
namespace Go.Proofs.YtodhmbbiifhiaaaDoor.X
open Go.RowKit Go.Proofs.YtodhmbbiifhiaaaDoorV.PrintWords Go.Proofs.YtodhmbbiifhiaaaDoorV.PrintLast
set_option linter.unusedVariables false
set_option linter.unusedSimpArgs false
def QuietD (P : Program) (f : FuncId) (args : Array Value) : Prop := ∀ (w : World) (R : Ending → FrameMode → World → Prop), (∀ v w', Below w.heap.size w w' → R (.returned v) .returning w') → CallsD P f args .returning w R
theorem quiet_of {P : Program} {f : FuncId} {fn : Func} {args : List Value} {id : Nat} {o0 o1 : Oper} {rest : Code} (hf : P.funcs[f]? = some fn) (hb : fn.body = some (.seq (.region id #[o0, o1] false) rest)) (hn : Nat.ble args.length fn.ntmps = true) (d0 d1 : Nat)
    (h0 : ∀ (a : Act) w, (execOp a.eval o0).run P w = .ok .recover w) (hg0 : o0.guard = none) (hg1 : o1.guard = none) (hd0 : o0.dst = some d0) (hd1 : o1.dst = some d1) (hl0 : Nat.blt d0 fn.ntmps = true)
    (hf1 : fitO fn.ntmps ((d0, .nilIface) :: argEnv args 0) o1 = true) (h1 : ∀ w, (execOp (evD ((d0, .nilIface) :: argEnv args 0)) o1).run P w = .ok (.value .nilIface) w)
    (hs : ∀ B w0, SW ⟨P, fn.ntmps, B, w0, none⟩ rest ⟨(d1, .nilIface) :: (d0, .nilIface) :: argEnv args 0, [], []⟩ (fun e _ => e = .normal)) (hres : ∀ a w, (results fn a).run P w = .ok (.tuple #[]) w) : QuietD P f args.toArray := by
  intro w R hR
  have hn' := Nat.le_of_ble_eq_true hn
  refine callsD_of_wpS hf hb (fun c₀ cs hc₀ => wpS_seq (wpS_region ?_))
  obtain ⟨a, ha⟩ : ∃ a : Act, { tmps := args.toArray ++ Array.replicate (fn.ntmps - args.toArray.size) undef, defers := [] } = a := ⟨_, rfl⟩
  rw [ha]
  have hag : Agree (fn.ntmps, []) ⟨argEnv args 0, [], []⟩ a := by
    subst ha
    refine ⟨by simp; omega, rfl, fun t v hl => ?_⟩
    obtain ⟨_, h2⟩ := look_arg args 0 t v hl
    have hlt : t < args.length := (List.getElem?_eq_some_iff.1 (by simpa using h2)).1
    rw [Array.getElem?_append_left (by simpa using hlt)]
    simpa using h2
  have hlt0 : d0 < fn.ntmps := by simpa using hl0
  have hag1 := hag.put (some d0) (fun k hk => by cases hk; exact hlt0) .nilIface
  obtain ⟨k1, k2, k3⟩ := fitO_spec hf1
  have hag2 := hag1.put o1.dst (dstOk_lt k1) .nilIface
  have hrec : recoverD (c₀ :: cs) = none := by simp [recoverD, hc₀]
  have hw0 : Region.wanted o0 (yielded #[o0, o1] a.tmps) = true := by simp [Region.wanted, hg0]
  have hw1 : Region.wanted o1 (yielded #[o0, o1] (a.put o0.dst .nilIface).tmps) = true := by simp [Region.wanted, hg1]
  show wpOpsS P #[o0, o1] _ [0, 1] a (c₀ :: cs) w
  simp only [wpOpsS, List.getElem?_toArray, List.getElem?_cons_zero, List.getElem?_cons_succ, hw0, if_true, h0, hrec]
  rw [if_pos hw1]
  have he1 : (execOp (a.put o0.dst .nilIface).eval o1).run P w = .ok (.value .nilIface) w := by
    rw [hd0]
    rw [hag1.exec k2 k3]
    exact h1 w
  simp only [he1, Oper.upon_value]
  refine wpS_of_wp ?_
  have h5 := hs [] ⟨w, [], []⟩ ((a.put o0.dst .nilIface).put o1.dst .nilIface) w (by rw [hd0]; rw [hd1] at hag2 ⊢; exact hag2) ⟨Kept.of (Below.refl _ _), (fun b hb => by cases hb), (fun b hb => by cases hb), List.nodup_nil, (fun F hF => by cases hF), (fun k hk => by cases hk)⟩
  refine wpIn_wide.1 (wpIn_mono h5 ?_)
  rintro e a' w' ⟨s', hs1, hs2, rfl⟩
  exact ⟨hs1.defers, c₀.mode, rfl, _, hres _ _, by rw [hc₀]; exact hR _ _ hs2.below.out⟩
theorem leave_quiet {P : Program} {n : Nat} {B M : List Nat} {w0 : World} {fn : Func} {γ : Type} {val : γ → Value} {bs' : γ → List Box} {post : γ → List Fact} {env : List (Nat × Value)} {bs : List Box} {fs : List Fact} {fv : Fn} {cap dargs : Array Value} {f : FuncId} {args : Array Value} (hq : QuietD P f args) (hi : ∀ w, (invoke (.fn fv cap) dargs).run P w = .ok (.enter f args) w)
    (g0 : γ) (m : List Bool) (hs : List Nat) (v : Value) (hv : v = val g0) (hm : bs' g0 = pick bs m) (hsub : Sub (post g0) fs)
    (ho : outN P fn ⟨env, bs, fs⟩ hs = some (v, fsts (psO (outN P fn ⟨env, bs, fs⟩ hs))) := by kernel_rfl) :
    RetL (Cx.push ⟨P, n, B, ⟨w0, M, []⟩, none⟩ ⟨.fn fv cap, dargs⟩) fn (LvD P fn (LeftM P B ⟨w0, M, []⟩ val bs' post)) .ret ⟨env, bs, fs⟩ := by
  intro a w ha hw
  show Leaves P fn a.tmps _ a.defers .returning w
  have hd : a.defers = [⟨.fn fv cap, dargs⟩] := ha.defers
  rw [hd]
  refine leaves_cons (by intro h; cases h) (hi w) (hq w _ (fun v' w' hb => ?_))
  show Leaves P fn a.tmps _ [] .returning w'
  have hx : Holds ⟨P, n, B, ⟨w0, M, []⟩, none⟩ ⟨env, bs, fs⟩ w' := by
    have h3 := hw.call hb
    exact ⟨⟨h3.below.os, h3.below.tape, h3.below.output, h3.below.size, h3.below.block⟩, h3.box, h3.new, h3.nodup, h3.fact, h3.old⟩
  have ha2 : Agree (n, []) ⟨env, bs, fs⟩ ⟨a.tmps, []⟩ := ⟨ha.size, rfl, ha.env⟩
  exact left_end (P := P) ha2 hx g0 m hs _ (by rw [← fsts_dup, ← hv]; exact ho) hm hsub
end Go.Proofs.YtodhmbbiifhiaaaDoor.X
end
section
namespace Go.Proofs.YtodhmbbiifhiaaaDoor.M
open Go.RowKit Go.Proofs.YtodhmbbiifhiaaaDoor.G Go.Proofs.YtodhmbbiifhiaaaDoorV.PrintWords Go.Proofs.YtodhmbbiifhiaaaDoorV.PrintLast Go.Proofs.YtodhmbbiifhiaaaDoor.X
set_option linter.unusedVariables false
set_option linter.unusedSimpArgs false
theorem scan_closure (v : Value) : QuietD Tryd.prog 103 #[v] := by
 refine quiet_of (args := [v]) Tryd.func103 rfl (by kernel_rfl) 4 1 (fun a w => by kernel_rfl) (by rfl) (by rfl) (by rfl) (by rfl) (by kernel_rfl) (by kernel_rfl) (fun w => by kernel_rfl) (fun B w0 => ?_) (fun a w => by kernel_rfl)
 refine xg ?_
 refine xn 5 [] [(9, .bool false), (8, .agg #[.int .i64 0]), (5, .tuple #[.agg #[.int .i64 0], .bool false]), (7, .tuple #[.agg #[.int .i64 0], .bool false]), (6, Value.nilIface)] ?_
 refine xb 2 [.int .i64 0] 130 (fun g0 => ?_)
 refine xy [(6, [0])] [(3, .bool false)] [] ?_
 refine xr [] [(10, .bool false)] ?_
 refine xs0 ?_
 refine xr [] [(15, .bool false), (14, Value.nilIface)] ?_
 refine xs0 ?_
 refine SW_skip ?_
 rfl
theorem ct_impl_ScanDecimal_nan (A : Option Addr) (c : Nat) : CtV Tryd.prog 59 [.slice A 3 c] [Row .u8 A c [110, 97, 110]] (.agg #[.int .i64 3, .bool false, .slice none 0 0, .int .i64 0, .int .i64 0, .int .i64 0]) := by
 have h : CtM Tryd.prog 59 [.slice A 3 c] [] [Row .u8 A c [110, 97, 110]] (γ := Unit) (fun _ => .agg #[.int .i64 3, .bool false, .slice none 0 0, .int .i64 0, .int .i64 0, .int .i64 0]) (fun _ => []) (fun _ => []) := by
  refine cm_ofD Tryd.func59 rfl (by kernel_rfl) (fun B w0 M => ?_)
  have cr := fun g => scanner_run_nan g c A (.slice none 0 0) (.int .i64 0)
  refine SQ_cut (K := fun _ _ => False) (fun s => ∃ g0, Weak s ⟨[(0, .slice A 3 c), (2, .pointer (some ⟨g0, 0, none⟩))], [⟨g0, [.int .i64 0, .bool false, .slice none 0 0, .int .i64 0, .int .i64 0, .int .i64 0], 96⟩], [Row .u8 A c [110, 97, 110]]⟩) ?_ (fun _ _ _ _ _ _ z => z.elim) (fun s hw => ?_)
  ·refine SW_region ?_
   refine xb 2 [.int .i64 0, .bool false, .slice none 0 0, .int .i64 0, .int .i64 0, .int .i64 0] 96 (fun g0 => ?_)
   refine xz [] [] ?_
   refine ⟨(g0), xw (zsS zi0 zs0)⟩
  obtain ⟨g0, hw⟩ := hw
  refine SQ_weak hw ?_
  clear hw
  refine SQ_cut (K := fun _ _ => False) (fun s => Weak s ⟨[(0, .slice A 3 c), (2, .pointer (some ⟨g0, 0, none⟩))], [⟨g0, [.int .i64 0, .bool false, .slice none 0 0, .int .i64 0, .int .i64 0, .int .i64 0], 96⟩], [Row .u8 A c [110, 97, 110]]⟩) ?_ (fun _ _ _ _ _ _ z => z.elim) (fun s hw => ?_)
  ·refine xr [] [(6, .bool false), (5, .int .i64 3), (4, .slice A 3 c)] ?_
   refine xs0 ?_
   refine SW_skip ?_
   exact xw (zsS zi0 zs0)
  refine SQ_weak hw ?_
  clear hw
  refine SQ_seq (SQ_region (NQ_v 8 (.func (.func 103) #[] #[.pointer (some ⟨g0, 0, none⟩)]) (NQ_defer ⟨.fn (.func 103) #[.pointer (some ⟨g0, 0, none⟩)], #[]⟩ (NQ_end rfl (SQ_of (K := RetL _ Tryd.f59 _) ?_ RetL.post)))))
  refine xg ?_
  refine xn 2 [] [(10, .agg #[.slice A 3 c, .int .i64 0, .int .i64 0, .bool false, .slice none 0 0, .int .i64 0])] ?_
  refine xb 11 [.slice A 3 c, .int .i64 0, .int .i64 0, .bool false, .slice none 0 0, .int .i64 0] 134 (fun g1 => ?_)
  refine xz [] [(3, .pointer (some ⟨g1, 0, none⟩))] ?_
  refine xg ?_
  refine xn 1 [] [(12, .pointer (some ⟨g1, 0, none⟩))] ?_
  refine xcm 13 [false, true] (cr (g1)) (zsS zi0 zs0) (fun z0 => ?_)
  refine xz [] [] ?_
  refine xq [(3, [1]), (5, [0])] [] [(0, [.int .i64 3, .bool false, .slice none 0 0, .int .i64 0, .int .i64 0, .int .i64 0])] ?_
  refine SW_ret ?_
  exact leave_quiet (scan_closure (.pointer (some ⟨g0, 0, none⟩))) (fun w => by kernel_rfl) () [false, false] [0, 0, 0, 0, 0, 0] _ rfl rfl zs0
 intro B w hB hp
 refine (h B w (fun b hb => ⟨hB b hb, by simp⟩) (fun b hb => by cases hb) List.nodup_nil (fun F hF => (hp F hF).mono (fun k hk => ⟨hk, fun b hb => by cases hb⟩))).mono ?_
 rintro en w' ⟨u, h1, h3⟩
 exact ⟨u, h1, fun F hF => (by cases hF), h3.below.out⟩
end Go.Proofs.YtodhmbbiifhiaaaDoor.M
end
section
namespace Go.Proofs.YtodhmbbiifhiaaaDoor.M
open Go.RowKit Go.Proofs.YtodhmbbiifhiaaaDoor.G Go.Proofs.YtodhmbbiifhiaaaDoorV.PrintWords Go.Proofs.YtodhmbbiifhiaaaDoorV.PrintLast Go.Proofs.YtodhmbbiifhiaaaDoor.X
set_option linter.unusedVariables false
set_option linter.unusedSimpArgs false
def shf (k : IntKind) (x y : Int) : Int := Int.fdiv x (2 ^ min y.toNat k.bits)
theorem shf_nat (x p : Nat) (hp : p ≤ 64) : shf .u64 (x : Int) (p : Int) = ((x / 2 ^ p : Nat) : Int) := by
 unfold shf
 rw [Int.toNat_natCast, show IntKind.u64.bits = 64 from rfl, Nat.min_eq_left hp, Int.fdiv_eq_ediv_of_nonneg _ (Int.pow_nonneg (by decide))]
 have : (2 : Int) ^ p = ((2 ^ p : Nat) : Int) := by rw [Int.natCast_pow]; rfl
 rw [this]
 rfl
theorem trimL_take (n : Nat) : ∀ {l : List Int} {m : Nat}, l.length = n → m ≤ l.length → (∀ i : Nat, m ≤ i → rd l i = 0) → (0 < m → rd l ((m - 1 : Nat) : Int) ≠ 0) → trimL l = l.take m := by
 induction n with
 | zero =>
  intro l m hl hm _ _
  have : l = [] := List.eq_nil_of_length_eq_zero hl
  subst this
  simp
  rfl
 | succ n ih =>
  intro l m hl hm hz hn
  obtain ⟨a, x, rfl⟩ := snoc_of (l := l) (by omega)
  have ha : a.length = n := by simp at hl; exact hl
  have hx : rd (a ++ [x]) (a.length : Int) = x := by simp [rd_nat]
  by_cases he : m = a.length + 1
  ·subst he
   have h1 := hn (by omega)
   rw [show a.length + 1 - 1 = a.length by omega, hx] at h1
   rw [List.take_of_length_le (by simp)]
   exact norm_snoc.2 h1
  ·have hm' : m ≤ a.length := by simp at hm; omega
   have h0 := hz a.length hm'
   rw [hx] at h0
   subst h0
   rw [trimL_snoc_zero, List.take_append_of_le_length hm']
   refine ih ha hm' (fun i hi => ?_) (fun hp => ?_)
   ·rcases Nat.lt_or_ge i a.length with h | h
    ·have := hz i hi
     rwa [rd_append_left _ _ _ (by simpa using h)] at this
    ·exact rd_of_ge a i (by simpa using h)
   ·have := hn hp
    rwa [rd_append_left _ _ _ (by simp; omega)] at this
end Go.Proofs.YtodhmbbiifhiaaaDoor.M
end
section
namespace Go.Proofs.YtodhmbbiifhiaaaDoor.M
open Go.RowKit Go.Proofs.YtodhmbbiifhiaaaDoor.G Go.Proofs.YtodhmbbiifhiaaaDoorV.PrintWords Go.Proofs.YtodhmbbiifhiaaaDoorV.PrintLast Go.Proofs.YtodhmbbiifhiaaaDoor.X
set_option linter.unusedVariables false
set_option linter.unusedSimpArgs false
theorem sr_get {B P : Nat} : ∀ (l : List Int) (i : Nat), i < l.length → (sr B P l)[i]? = some (((((rd l (i : Int)).toNat + B * ((rd l ((i + 1 : Nat) : Int)).toNat % P)) / P : Nat) : Int))
 | [], i, h => by simp at h
 | x :: l, 0, h => by
  simp only [sr, List.getElem?_cons_zero]
  rfl
 | x :: l, i + 1, h => by
  simp only [sr, List.getElem?_cons_succ]
  rw [sr_get l i (by simpa using h)]
  rfl
theorem sr_take {B P : Nat} {l : List Int} {i : Nat} (h : i < l.length) {y : Int} (hy : y = ((((rd l (i : Int)).toNat + B * ((rd l ((i + 1 : Nat) : Int)).toNat % P)) / P : Nat) : Int)) : (sr B P l).take i ++ [y] = (sr B P l).take (i + 1) := by
 rw [List.take_add_one, sr_get l i h, hy]
 rfl
end Go.Proofs.YtodhmbbiifhiaaaDoor.M
end
section
namespace Go.Proofs.YtodhmbbiifhiaaaDoor.M
open Go.RowKit Go.Proofs.YtodhmbbiifhiaaaDoor.G Go.Proofs.YtodhmbbiifhiaaaDoorV.PrintWords Go.Proofs.YtodhmbbiifhiaaaDoorV.PrintLast Go.Proofs.YtodhmbbiifhiaaaDoor.X
set_option linter.unusedVariables false
set_option linter.unusedSimpArgs false
theorem veU {z : Int} {n : Nat} (h : z = (n : Int)) (hn : n < 18446744073709551616) : Ve (IntKind.u64.wrap z) (n : Int) := ⟨by rw [h]; exact wrap_u64_id (by omega)⟩
theorem veI {z : Int} {n : Nat} (h : z = (n : Int)) (hn : n ≤ 9223372036854775807) : Ve (IntKind.i64.wrap z) (n : Int) := ⟨by rw [h]; exact wrap_i64 (by omega)⟩
theorem low_ve (x : Nat) (h : x < 18446744073709551616) : Ve (bits .and .u64 (x : Int) 4294967295) ((x % 4294967296 : Nat) : Int) := ⟨low32_nat x h⟩
theorem high_ve (x : Nat) : Ve (shf .u64 (x : Int) 32) ((x / 4294967296 : Nat) : Int) := ⟨shf_nat x 32 (by decide)⟩
theorem nat_rd {l : List Int} (d : Dig B64 l) (i : Nat) : ∃ x : Nat, rd l (i : Int) = (x : Int) ∧ x < 18446744073709551616 := ⟨(rd l i).toNat, by have := (d.rd B64_pos i).1; omega, by have := d.rd B64_pos i; unfold B64 at this; omega⟩
end Go.Proofs.YtodhmbbiifhiaaaDoor.M
end
section
namespace Go.Proofs.YtodhmbbiifhiaaaDoor.M
open Go.RowKit Go.Proofs.YtodhmbbiifhiaaaDoor.G Go.Proofs.YtodhmbbiifhiaaaDoorV.PrintWords Go.Proofs.YtodhmbbiifhiaaaDoorV.PrintLast Go.Proofs.YtodhmbbiifhiaaaDoor.X
set_option linter.unusedVariables false
set_option linter.unusedSimpArgs false
theorem ct_spec_l1Trim (l : List Int) (A : Option Addr) (c : Nat) (hl : l.length ≤ 1000000000000) : CtR Tryd.prog 102 [.slice A l.length c] [Row .u64 A c l] .u64 (trimL l) := by
 refine ct_of Tryd.func102 rfl (by kernel_rfl) (fun B w0 => ?_)
 refine SW_know zi0 (fun w h => h.2) (fun hc => ?_)
 refine xr [] [(2, .slice none 0 0)] ?_
 refine xr [] [(3, .int .i64 (((List.length l) : Nat) : Int))] ?_
 refine SW_cut (fun s' => ∃ m : Nat, m ≤ l.length ∧ trimL l = l.take m ∧ Weak s' ⟨[(0, .slice A l.length c), (3, .int .i64 (m : Int))], [], [Row .u64 A c l]⟩) ?_ ?_
 ·refine SW_block ?_
  refine SW_loopn (fun m s => m ≤ l.length ∧ (∀ i : Nat, m ≤ i → rd l i = 0) ∧ Weak s ⟨[(0, .slice A l.length c), (3, .int .i64 (m : Int))], [], [Row .u64 A c l]⟩) l.length ⟨Nat.le_refl _, fun i hi => rd_of_ge l i (by simpa using hi), ?_⟩ (fun m s hI => ?_)
  ·exact xw (zsS zi0 zs0)
  ·obtain ⟨h1, h2, hw⟩ := hI
   refine SW_weak hw ?_
   clear hw
   by_cases h0 : m = 0
   ·have z0 : decide ((m : Int) > 0) = false := decide_eq_false (by omega)
    have e := trimL_take _ rfl h1 h2 (fun z => absurd h0 (by omega))
    refine SW_seq ?_
    refine xg ?_
    refine xn 3 [] [(9, .bool (decide ((m : Int) > 0)))] ?_
    refine xkf 9 z0 ?_
    refine xz [] [(16, .bool false)] ?_
    refine xs0 ?_
    refine SW_exit ?_
    refine ⟨m, h1, e, ?_⟩
    exact xw (zsS zi0 zs0)
   ·have z0 : decide ((m : Int) > 0) = true := decide_eq_true (by omega)
    refine SW_know zi0 (fun w h => row_at h (by omega)) (fun ⟨ad, e⟩ => ?_)
    subst e
    have wi : Ve (IntKind.i64.wrap ((m : Int) - 1)) ((m - 1 : Nat) : Int) := veI (by omega) (by omega)
    by_cases hz : rd l ((m - 1 : Nat) : Int) = 0
    ·have z1 : (rd l ((m - 1 : Nat) : Int) == 0) = true := beq_iff_eq.2 hz
     refine SW_seq ?_
     refine xg ?_
     refine xn 3 [] [(9, .bool (decide ((m : Int) > 0)))] ?_
     refine xkt 9 z0 ?_
     refine xn 5 [] [(11, .int .i64 (m : Int)), (10, .slice (some ad) (List.length l) c)] ?_
     refine xve 12 IntKind.i64 (IntKind.wrap IntKind.i64 ((m : Int) - 1)) ((((m - 1) : Nat) : Int)) wi ?_
     refine xfi 13 23 (ad) (List.length l) (c) (m - 1) IntKind.i64 ((((m - 1) : Nat) : Int)) ⟨rfl⟩ (by omega) ?_
     refine xfl 14 zi0 (m - 1) (by omega) ?_
     refine xz [] [(16, .bool (rd l (((m - 1) : Nat) : Int) == 0))] ?_
     refine xst z1 ?_
     refine SW_skip ?_
     refine SW_block ?_
     refine SW_region ?_
     refine xn 1 [] [(17, .int .i64 (m : Int))] ?_
     refine xve 18 IntKind.i64 (IntKind.wrap IntKind.i64 ((m : Int) - 1)) ((((m - 1) : Nat) : Int)) wi ?_
     refine xz [] [(3, .int .i64 (((m - 1) : Nat) : Int))] ?_
     refine ⟨m - 1, by omega, by omega, fun i hi => ?_, ?_⟩
     ·rcases Nat.eq_or_lt_of_le hi with h | h
      ·rw [← h]; exact hz
      ·exact h2 i (by omega)
     ·exact xw (zsS zi0 zs0)
    ·have z1 : (rd l ((m - 1 : Nat) : Int) == 0) = false := by rw [beq_eq_false_iff_ne]; exact hz
     have e := trimL_take _ rfl h1 h2 (fun _ => hz)
     refine SW_seq ?_
     refine xg ?_
     refine xn 3 [] [(9, .bool (decide ((m : Int) > 0)))] ?_
     refine xkt 9 z0 ?_
     refine xn 5 [] [(11, .int .i64 (m : Int)), (10, .slice (some ad) (List.length l) c)] ?_
     refine xve 12 IntKind.i64 (IntKind.wrap IntKind.i64 ((m : Int) - 1)) ((((m - 1) : Nat) : Int)) wi ?_
     refine xfi 13 23 (ad) (List.length l) (c) (m - 1) IntKind.i64 ((((m - 1) : Nat) : Int)) ⟨rfl⟩ (by omega) ?_
     refine xfl 14 zi0 (m - 1) (by omega) ?_
     refine xz [] [(16, .bool (rd l (((m - 1) : Nat) : Int) == 0))] ?_
     refine xsf z1 ?_
     refine SW_exit ?_
     refine ⟨m, h1, e, ?_⟩
     exact xw (zsS zi0 zs0)
 ·rintro s' ⟨m, h1, e, hw⟩
  refine SW_weak hw ?_
  clear hw
  rw [e]
  obtain ⟨y, hy⟩ : ∃ y, l.take m = y := ⟨_, rfl⟩
  obtain rfl : m = y.length := by rw [← hy, List.length_take]; omega
  have hz : y ++ (List.replicate y.length 0).drop y.length = y := by simp
  refine SW_fact (G := Row .u64 A c y) zi0 (fun w h => by have := row_take y.length c (by omega) h; rwa [hy] at this) ?_
  rw [hy]
  clear e
  refine xg ?_
  refine xn 1 [] [(19, .int .i64 (((List.length y) : Nat) : Int))] ?_
  refine xma 20 23 (List.length y) IntKind.u64 8 ((((List.length y) : Nat) : Int)) ⟨rfl⟩ (by omega) (fun g0 => ?_)
  refine xz [] [(4, .slice (some ⟨g0, 0, none⟩) (List.length y) (List.length y))] ?_
  refine xg ?_
  refine xn 3 [] [(23, .int .i64 (((List.length y) : Nat) : Int)), (22, .slice A (List.length l) c), (21, .slice (some ⟨g0, 0, none⟩) (List.length y) (List.length y))] ?_
  refine xsh 24 23 (A) (List.length l) (c) (List.length y) IntKind.i64 ((((List.length y) : Nat) : Int)) ⟨rfl⟩ (by omega) ?_
  refine xcq 25 0 23 (g0) (List.length y) (List.length y) (c) (List.replicate (List.length y) 0) ([]) zi0 (by first | rfl | (simp <;> omega)) (by first | omega | (simp <;> omega)) hz ?_
  refine xz [] [] ?_
  refine xr [] [(2, .slice (some ⟨g0, 0, none⟩) (List.length y) (List.length y))] ?_
  refine SW_fz 0 (List.length y) (g0) IntKind.u64 (y) ([]) 23 (by first | omega | (simp <;> omega)) (by first | omega | (simp <;> omega)) ?_
  refine SW_ret ?_
  refine xe (some ⟨g0, 0, none⟩, List.length y) (.slice (some ⟨g0, 0, none⟩) (List.length y) (List.length y)) [] ?_ (zsS zi0 zs0)
  rfl
theorem nat_rd32 {l : List Int} (d : Dig B32 l) (i : Nat) : ∃ x : Nat, rd l (i : Int) = (x : Int) ∧ x < 4294967296 := ⟨(rd l i).toNat, by have := (d.rd B32_pos i).1; omega, by have := d.rd B32_pos i; unfold B32 at this; omega⟩
theorem ct_spec_l1At (l : List Int) (A : Option Addr) (c : Nat) (N : Int) (n : Nat) (hN : Nn N n) (x : Int) (hx : Ve (rd l (n : Int)) x) (hl : l.length ≤ 1000000000000) : CtV Tryd.prog 89 [.slice A l.length c, .int .i64 N] [Row .u64 A c l] (.int .u64 x) := by
 obtain ⟨rfl⟩ := hN
 obtain ⟨rfl⟩ := hx
 refine ct_of Tryd.func89 rfl (by kernel_rfl) (fun B w0 => ?_)
 by_cases h : n < l.length
 ·have z : decide ((n : Int) < (l.length : Int)) = true := decide_eq_true (by omega)
  refine SW_know zi0 (fun w h => row_at h (by omega)) (fun ⟨ad, e⟩ => ?_)
  subst e
  refine xr [] [(4, .int .u64 0)] ?_
  refine SW_seq ?_
  refine xr [] [(8, .bool (decide ((n : Int) < (((List.length l) : Nat) : Int))))] ?_
  refine xst z ?_
  refine xg ?_
  refine xn 2 [] [(10, .int .i64 (n : Int)), (9, .slice (some ad) (List.length l) c)] ?_
  refine xfi 11 23 (ad) (List.length l) (c) (n) IntKind.i64 ((n : Int)) ⟨rfl⟩ (by omega) ?_
  refine xfl 12 zi0 (n) (by omega) ?_
  refine xz [] [(4, .int .u64 (rd l (n : Int)))] ?_
  refine SW_ret ?_
  refine xe () (.int .u64 (rd l (n : Int))) [] ?_ trivial
  rfl
 ·have z : decide ((n : Int) < (l.length : Int)) = false := decide_eq_false (by omega)
  rw [rd_of_ge l n (by simpa using h)]
  refine xr [] [(4, .int .u64 0)] ?_
  refine SW_seq ?_
  refine xr [] [(8, .bool (decide ((n : Int) < (((List.length l) : Nat) : Int))))] ?_
  refine xsf z ?_
  refine SW_skip ?_
  refine xr [] [(4, .int .u64 0)] ?_
  refine SW_ret ?_
  refine xe () (.int .u64 0) [] ?_ trivial
  rfl
theorem add32_step {a b O : List Int} {i x y cy : Nat} (hx : rd a (i : Int) = (x : Int)) (hy : rd b (i : Int) = (y : Int)) (hl : O.length = i) (hv : val B32 O + B32 ^ i * cy = val B32 (a.take i) + val B32 (b.take i)) :
  val B32 (O ++ [(((x + y + cy) % 4294967296 : Nat) : Int)]) + B32 ^ (i + 1) * ((x + y + cy) / 4294967296) = val B32 (a.take (i + 1)) + val B32 (b.take (i + 1)) := by
 rw [val_snoc, val_take_succ, val_take_succ, hl, hx, hy, Nat.pow_succ, Nat.mul_assoc]
 simp only [Int.toNat_natCast]
 have h := congrArg (B32 ^ i * ·) (Nat.mod_add_div (x + y + cy) 4294967296)
 rw [show B32 * ((x + y + cy) / 4294967296) = 4294967296 * ((x + y + cy) / 4294967296) from rfl]
 generalize (x + y + cy) % 4294967296 = m at *
 generalize 4294967296 * ((x + y + cy) / 4294967296) = q at *
 generalize B32 ^ i = P at *
 simp only [Nat.mul_add] at h ⊢
 omega
theorem cast_dig32 {n : Nat} (h : n < 4294967296) : 0 ≤ (n : Int) ∧ (n : Int) < (B32 : Int) := by unfold B32; omega
theorem val_lt_len {B : Nat} (hB : 0 < B) {l : List Int} (h : Dig B l) {n : Nat} (hn : l.length ≤ n) : val B l < B ^ n := Nat.lt_of_lt_of_le (val_lt h) (Nat.pow_le_pow_right hB hn)
theorem ct_spec_l1Add_rows (a b : List Int) (A A' : Option Addr) (c c' : Nat) (da : Dig B32 a) (db : Dig B32 b) (hla : a.length ≤ 1000000000) (hlb : b.length ≤ 1000000000) : ∀ r, Dig B32 r → Norm r → val B32 r = val B32 a + val B32 b → CtR Tryd.prog 55 [.slice A a.length c, .slice A' b.length c'] [Row .u64 A c a, Row .u64 A' c' b] .u64 r := by
 intro r dr nr vr
 refine ct_of Tryd.func55 rfl (by kernel_rfl) (fun B w0 => ?_)
 obtain ⟨n, hn, hn1, hn2, hn3⟩ : ∃ n, n = max a.length b.length ∧ a.length ≤ n ∧ b.length ≤ n ∧ n ≤ 1000000000 := ⟨_, rfl, by omega, by omega, by omega⟩
 refine xr [] [(4, .slice none 0 0)] ?_
 refine xr [] [(5, .int .i64 (((List.length a) : Nat) : Int))] ?_
 refine SW_cut (fun s' => Weak s' ⟨[(0, .slice A a.length c), (1, .slice A' b.length c'), (5, .int .i64 (n : Int))], [], [Row .u64 A c a, Row .u64 A' c' b]⟩) ?_ ?_
 ·by_cases h : b.length > a.length
  ·have z : decide ((b.length : Int) > (a.length : Int)) = true := decide_eq_true (by omega)
   obtain rfl : n = b.length := by omega
   refine xr [] [(15, .bool (decide ((((List.length b) : Nat) : Int) > (((List.length a) : Nat) : Int))))] ?_
   refine xst z ?_
   refine xrl [] [(5, .int .i64 (((List.length b) : Nat) : Int))] ?_
   exact xw (zsS zi0 (zsS (ziS zi0) zs0))
  ·have z : decide ((b.length : Int) > (a.length : Int)) = false := decide_eq_false (by omega)
   obtain rfl : n = a.length := by omega
   refine xr [] [(15, .bool (decide ((((List.length b) : Nat) : Int) > (((List.length a) : Nat) : Int))))] ?_
   refine xsf z ?_
   refine SW_skip ?_
   exact xw (zsS zi0 (zsS (ziS zi0) zs0))
 ·rintro s' hw
  refine SW_weak hw ?_
  clear hw
  refine xr [] [(6, .slice none 0 0)] ?_
  refine xr [] [(7, .int .u64 0)] ?_
  refine SW_seq ?_
  refine xr [] [(8, .int .i64 0)] ?_
  refine SW_then (fun s' => ∃ (sl : Value) (bs : List Box) (O : List Int), Own 23 .u64 sl bs O ∧ Dig B32 O ∧ O.length = n + 1 ∧ val B32 O = val B32 a + val B32 b ∧ Weak s' ⟨[(6, sl)], bs, []⟩) ?_ ?_
  ·refine SW_block ?_
   refine SW_loopn (fun m s' => ∃ (sl : Value) (bs : List Box) (O : List Int) (i cy : Nat), m + i = n + 1 ∧ Own 23 .u64 sl bs O ∧ Dig B32 O ∧ O.length = i ∧ cy ≤ 1 ∧ val B32 O + B32 ^ i * cy = val B32 (a.take i) + val B32 (b.take i) ∧ Weak s' ⟨[(0, .slice A a.length c), (1, .slice A' b.length c'), (5, .int .i64 (n : Int)), (6, sl), (7, .int .u64 (cy : Int)), (8, .int .i64 (i : Int))], bs, [Row .u64 A c a, Row .u64 A' c' b]⟩) (n + 1) ⟨_, _, [], 0, 0, rfl, Own.nil 23 .u64, Dig.nil _, rfl, by decide, rfl, ?_⟩ (fun m s' hI => ?_)
   ·exact xw (zsS zi0 (zsS (ziS zi0) zs0))
   ·obtain ⟨sl0, bs0, O, i, cy, k1, hO0, k3, k4, k5, k6, hw⟩ := hI
    refine SW_weak hw ?_
    clear hw
    by_cases hi : i ≤ n
    ·have z : decide ((i : Int) ≤ (n : Int)) = true := decide_eq_true (by omega)
     obtain ⟨m, rfl⟩ : ∃ m', m = m' + 1 := ⟨m - 1, by omega⟩
     obtain ⟨x, hx, hxB⟩ := nat_rd32 da i
     obtain ⟨y, hy, hyB⟩ := nat_rd32 db i
     have v1 : Ve (rd a (i : Int)) (x : Int) := ⟨hx⟩
     have v2 : Ve (rd b (i : Int)) (y : Int) := ⟨hy⟩
     have v3 : Ve (IntKind.u64.wrap ((x : Int) + (y : Int))) ((x + y : Nat) : Int) := veU (by omega) (by omega)
     have v4 : Ve (IntKind.u64.wrap (((x + y : Nat) : Int) + (cy : Int))) ((x + y + cy : Nat) : Int) := veU (by omega) (by omega)
     have v5 := low_ve (x + y + cy) (by omega)
     have v6 := high_ve (x + y + cy)
     have v7 : Ve (IntKind.i64.wrap ((i : Int) + 1)) ((i + 1 : Nat) : Int) := veI (by omega) (by omega)
     have hst := add32_step hx hy k4 k6
     refine SW_seq ?_
     refine xr [] [(20, .bool (decide ((i : Int) ≤ (n : Int))))] ?_
     refine xst z ?_
     refine SW_skip ?_
     refine SW_seq ?_
     refine SW_block ?_
     refine xg ?_
     refine xn 2 [] [(24, .int .i64 (i : Int)), (23, .slice A (List.length a) c)] ?_
     refine xcv 25 (ct_spec_l1At (a) (A) (c) ((i : Int)) (i) ⟨rfl⟩ ((x : Int)) v1 (by omega)) (zsS zi0 zs0) ?_
     refine xn 5 [] [(27, .int .i64 (i : Int)), (26, .slice A' (List.length b) c')] ?_
     refine xcv 28 (ct_spec_l1At (b) (A') (c') ((i : Int)) (i) ⟨rfl⟩ ((y : Int)) v2 (by omega)) (zsS (ziS zi0) zs0) ?_
     refine xve 29 IntKind.u64 (IntKind.wrap IntKind.u64 ((x : Int) + (y : Int))) ((((x + y) : Nat) : Int)) v3 ?_
     refine xn 8 [] [(30, .int .u64 (cy : Int))] ?_
     refine xve 31 IntKind.u64 (IntKind.wrap IntKind.u64 ((((x + y) : Nat) : Int) + (cy : Int))) ((((x + y + cy) : Nat) : Int)) v4 ?_
     refine xz [] [(9, .int .u64 (((x + y + cy) : Nat) : Int))] ?_
     refine xg ?_
     refine xn 2 [] [(33, .int .u64 (((x + y + cy) : Nat) : Int)), (32, sl0)] ?_
     refine xve 34 IntKind.u64 (bits BinOp.and IntKind.u64 (((x + y + cy) : Nat) : Int) 4294967295) (((((x + y + cy) % 4294967296) : Nat) : Int)) v5 ?_
     refine xbl 35 [.int .u64 ((((x + y + cy) % 4294967296) : Nat) : Int)] 23 1 (fun g0 => ?_)
     refine xow 36 8 (g0) (1) [((((x + y + cy) % 4294967296) : Nat) : Int)] hO0 (by first | omega | (simp <;> omega)) (fun sl1 bs1 hO1 => ?_)
     refine xz [] [(6, sl1)] ?_
     refine SW_region ?_
     refine xn 1 [] [(37, .int .u64 (((x + y + cy) : Nat) : Int))] ?_
     refine xve 38 IntKind.u64 (shf IntKind.u64 (((x + y + cy) : Nat) : Int) 32) (((((x + y + cy) / 4294967296) : Nat) : Int)) v6 ?_
     refine xz [] [(7, .int .u64 ((((x + y + cy) / 4294967296) : Nat) : Int))] ?_
     refine SW_region ?_
     refine xn 1 [] [(21, .int .i64 (i : Int))] ?_
     refine xve 22 IntKind.i64 (IntKind.wrap IntKind.i64 ((i : Int) + 1)) ((((i + 1) : Nat) : Int)) v7 ?_
     refine xz [] [(8, .int .i64 (((i + 1) : Nat) : Int))] ?_
     refine ⟨m, by omega, sl1, bs1, _, i + 1, (x + y + cy) / 4294967296, by omega, hO1, k3.snoc (cast_dig32 (Nat.mod_lt _ (by decide))), by rw [List.length_append, k4]; rfl, by omega, hst, ?_⟩
     exact xw (zsS zi0 (zsS (ziS zi0) zs0))
    ·have z : decide ((i : Int) ≤ (n : Int)) = false := decide_eq_false (by omega)
     obtain rfl : i = n + 1 := by omega
     rw [List.take_of_length_le (by omega), List.take_of_length_le (by omega)] at k6
     have hcy : cy = 0 := by
      have h1 := val_lt_len B32_pos da hn1
      have h2 := val_lt_len B32_pos db hn2
      rcases Nat.lt_or_ge cy 1 with h | h
      ·omega
      ·obtain rfl : cy = 1 := by omega
       rw [Nat.pow_succ, Nat.mul_one] at k6
       have h3 : B32 ^ n * 2 ≤ B32 ^ n * B32 := Nat.mul_le_mul_left _ (by unfold B32; decide)
       omega
     rw [hcy, Nat.mul_zero, Nat.add_zero] at k6
     refine SW_seq ?_
     refine xr [] [(20, .bool (decide ((((n + 1) : Nat) : Int) ≤ (n : Int))))] ?_
     refine xsf z ?_
     refine SW_exit ?_
     refine ⟨sl0, bs0, O, hO0, k3, k4, k6, ?_⟩
     exact xw zs0
  ·rintro s' ⟨sl, bs, O, hO, dO, lO, vO, hw⟩
   refine SW_weak hw ?_
   clear hw
   refine SW_own hO (by omega) (fun Ao co e => ?_)
   subst e
   have er : trimL O = r := norm_inj B32_pos dO.trim dr (norm_trim _) nr (by rw [val_trim, vO, vr])
   have ct := ct_spec_l1Trim O Ao co (by omega)
   rw [er] at ct
   refine xg ?_
   refine xn 1 [] [(39, .slice Ao (List.length O) co)] ?_
   refine xcr 40 ct (zsS zi0 zs0) (fun A0 k0 => ?_)
   refine xz [] [(4, .slice A0 (List.length r) k0)] ?_
   refine SW_ret ?_
   refine xe (A0, k0) (.slice A0 (List.length r) k0) [] ?_ (zsS zi0 zs0)
   rfl
end Go.Proofs.YtodhmbbiifhiaaaDoor.M
end
section
namespace Go.Proofs.YtodhmbbiifhiaaaDoor.M
open Go.RowKit Go.Proofs.YtodhmbbiifhiaaaDoor.G Go.Proofs.YtodhmbbiifhiaaaDoorV.PrintWords Go.Proofs.YtodhmbbiifhiaaaDoorV.PrintLast Go.Proofs.YtodhmbbiifhiaaaDoor.X
set_option linter.unusedVariables false
set_option linter.unusedSimpArgs false
theorem rd_drop (l : List Int) (k i : Nat) : rd (l.drop k) (i : Int) = rd l ((k + i : Nat) : Int) := by rw [rd_nat, rd_nat]; simp [List.getD_eq_getElem?_getD, List.getElem?_drop]
theorem val_cut (B : Nat) (l : List Int) (k : Nat) : val B l = val B (l.take k) + B ^ k * val B (l.drop k) := by
 rcases Nat.le_total k l.length with h | h
 ·exact val_split B l k h
 ·rw [List.take_of_length_le h, List.drop_eq_nil_of_le h]
  simp [val]
theorem ct_spec_l1Of_rows (X : Int) (x : Nat) (hX : Nn X x) (hx : x < 18446744073709551616) : ∀ r, Dig B32 r → Norm r → val B32 r = x → CtR Tryd.prog 65 [.int .u64 X] [] .u64 r := by
 intro r dr nr vr
 obtain ⟨rfl⟩ := hX
 refine ct_of Tryd.func65 rfl (by kernel_rfl) (fun B w0 => ?_)
 have v5 := low_ve x hx
 have v6 := high_ve x
 have e : trimL [((x % 4294967296 : Nat) : Int), ((x / 4294967296 : Nat) : Int)] = r := norm_inj B32_pos (Dig.trim (Dig.cons (cast_dig32 (Nat.mod_lt _ (by decide))) (Dig.cons (cast_dig32 (by omega)) (Dig.nil _)))) dr (norm_trim _) nr (by
  rw [val_trim, vr]
  simp only [val_cons, Int.toNat_natCast]
  unfold B32
  simp only [val]
  omega)
 refine xr [] [(2, .slice none 0 0)] ?_
 refine xg ?_
 refine xn 1 [] [(3, .int .u64 (x : Int))] ?_
 refine xve 4 IntKind.u64 (bits BinOp.and IntKind.u64 (x : Int) 4294967295) ((((x % 4294967296) : Nat) : Int)) v5 ?_
 refine xn 3 [] [(5, .int .u64 (x : Int))] ?_
 refine xve 6 IntKind.u64 (shf IntKind.u64 (x : Int) 32) ((((x / 4294967296) : Nat) : Int)) v6 ?_
 refine xbl 7 [.int .u64 (((x % 4294967296) : Nat) : Int), .int .u64 (((x / 4294967296) : Nat) : Int)] 23 2 (fun g0 => ?_)
 refine NW_fz 0 2 g0 .u64 [((x % 4294967296 : Nat) : Int), ((x / 4294967296 : Nat) : Int)] [] 23 (by simp) (by simp) ?_
 have ct : CtR Tryd.prog 102 [.slice (some ⟨g0, 0, none⟩) 2 2] [Row .u64 (some ⟨g0, 0, none⟩) 2 [((x % 4294967296 : Nat) : Int), ((x / 4294967296 : Nat) : Int)]] .u64 r := by
  rw [← e]
  exact ct_spec_l1Trim _ _ 2 (by simp)
 refine xcr 8 ct (zsS zi0 zs0) (fun A0 k0 => ?_)
 refine xz [] [(2, .slice A0 (List.length r) k0)] ?_
 refine SW_ret ?_
 refine xe (A0, k0) (.slice A0 (List.length r) k0) [] ?_ (zsS zi0 zs0)
 rfl
theorem in_step {l O : List Int} {i x : Nat} (hx : rd l (i : Int) = (x : Int)) (hl : O.length = 2 * i) (hv : val B32 O = val B64 (l.take i)) : val B32 (O ++ [((x % 4294967296 : Nat) : Int), ((x / 4294967296 : Nat) : Int)]) = val B64 (l.take (i + 1)) := by
 rw [val_append, val_take_succ, hx, hv, hl, Nat.pow_mul, show B32 ^ 2 = B64 from rfl]
 congr 2
 simp only [val_cons, Int.toNat_natCast]
 unfold B32
 simp only [val]
 omega
theorem ct_spec_l1In_rows (l : List Int) (A : Option Addr) (c : Nat) (dl : Dig B64 l) (hl : l.length ≤ 1000000000) : ∀ r, Dig B32 r → Norm r → val B32 r = val B64 l → CtR Tryd.prog 70 [.slice A l.length c] [Row .u64 A c l] .u64 r := by
 intro r dr nr vr
 refine ct_of Tryd.func70 rfl (by kernel_rfl) (fun B w0 => ?_)
 refine xr [] [(2, .slice none 0 0)] ?_
 refine xr [] [(3, .slice none 0 0)] ?_
 refine SW_seq ?_
 refine xr [] [(8, .int .i64 0), (7, .int .i64 (((List.length l) : Nat) : Int)), (6, .slice A (List.length l) c)] ?_
 refine SW_then (fun s' => ∃ (sl : Value) (bs : List Box) (O : List Int), Own 23 .u64 sl bs O ∧ Dig B32 O ∧ O.length = 2 * l.length ∧ val B32 O = val B64 l ∧ Weak s' ⟨[(3, sl)], bs, []⟩) ?_ ?_
 ·refine SW_block ?_
  refine SW_loopn (fun m s' => ∃ (sl : Value) (bs : List Box) (O : List Int) (i : Nat), m + i = l.length ∧ Own 23 .u64 sl bs O ∧ Dig B32 O ∧ O.length = 2 * i ∧ val B32 O = val B64 (l.take i) ∧ Weak s' ⟨[(3, sl), (6, .slice A l.length c), (7, .int .i64 (l.length : Int)), (8, .int .i64 (i : Int))], bs, [Row .u64 A c l]⟩) l.length ⟨_, _, [], 0, rfl, Own.nil 23 .u64, Dig.nil _, rfl, rfl, ?_⟩ (fun m s' hI => ?_)
  ·exact xw (zsS zi0 zs0)
  ·obtain ⟨sl0, bs0, O, i, k1, hO0, k3, k4, k6, hw⟩ := hI
   refine SW_weak hw ?_
   clear hw
   by_cases hi : i < l.length
   ·have z : decide ((i : Int) < (l.length : Int)) = true := decide_eq_true (by omega)
    obtain ⟨m, rfl⟩ : ∃ m', m = m' + 1 := ⟨m - 1, by omega⟩
    refine SW_know zi0 (fun w h => row_at h (by omega)) (fun ⟨ad, e⟩ => ?_)
    subst e
    obtain ⟨x, hx, hxB⟩ := nat_rd dl i
    have v1 : Ve (rd l (i : Int)) (x : Int) := ⟨hx⟩
    have v5 := low_ve x hxB
    have v6 := high_ve x
    have v7 : Ve (IntKind.i64.wrap ((i : Int) + 1)) ((i + 1 : Nat) : Int) := veI (by omega) (by omega)
    have hst := in_step hx k4 k6
    refine xr [] [(9, .bool (decide ((i : Int) < (((List.length l) : Nat) : Int))))] ?_
    refine SW_seq ?_
    refine xst z ?_
    refine SW_skip ?_
    refine SW_seq ?_
    refine SW_block ?_
    refine xg ?_
    refine xfi 10 23 (ad) (List.length l) (c) (i) IntKind.i64 ((i : Int)) ⟨rfl⟩ (by omega) ?_
    refine xfle 11 zi0 (i) ((x : Int)) v1 (by omega) ?_
    refine xz [] [(5, .int .u64 (x : Int))] ?_
    refine SW_region ?_
    refine xn 2 [] [(13, .int .u64 (x : Int)), (12, sl0)] ?_
    refine xve 14 IntKind.u64 (bits BinOp.and IntKind.u64 (x : Int) 4294967295) ((((x % 4294967296) : Nat) : Int)) v5 ?_
    refine xn 4 [] [(15, .int .u64 (x : Int))] ?_
    refine xve 16 IntKind.u64 (shf IntKind.u64 (x : Int) 32) ((((x / 4294967296) : Nat) : Int)) v6 ?_
    refine xbl 17 [.int .u64 (((x % 4294967296) : Nat) : Int), .int .u64 (((x / 4294967296) : Nat) : Int)] 23 2 (fun g0 => ?_)
    refine xow 18 8 (g0) (2) [(((x % 4294967296) : Nat) : Int), (((x / 4294967296) : Nat) : Int)] hO0 (by first | omega | (simp <;> omega)) (fun sl1 bs1 hO1 => ?_)
    refine xz [] [(3, sl1)] ?_
    refine SW_region ?_
    refine xve 19 IntKind.i64 (IntKind.wrap IntKind.i64 ((i : Int) + 1)) ((((i + 1) : Nat) : Int)) v7 ?_
    refine xz [] [(8, .int .i64 (((i + 1) : Nat) : Int))] ?_
    refine ⟨m, by omega, sl1, bs1, _, i + 1, by omega, hO1, k3.append (Dig.cons (cast_dig32 (Nat.mod_lt _ (by decide))) (Dig.cons (cast_dig32 (by omega)) (Dig.nil _))), by rw [List.length_append, k4]; simp; omega, hst, ?_⟩
    exact xw (zsS zi0 zs0)
   ·have z : decide ((i : Int) < (l.length : Int)) = false := decide_eq_false (by omega)
    obtain rfl : i = l.length := by omega
    rw [List.take_length] at k6
    refine xr [] [(9, .bool (decide ((((List.length l) : Nat) : Int) < (((List.length l) : Nat) : Int))))] ?_
    refine SW_seq ?_
    refine xsf z ?_
    refine SW_exit ?_
    refine ⟨sl0, bs0, O, hO0, k3, k4, k6, ?_⟩
    exact xw zs0
 ·rintro s' ⟨sl, bs, O, hO, dO, lO, vO, hw⟩
  refine SW_weak hw ?_
  clear hw
  refine SW_own hO (by omega) (fun Ao co e => ?_)
  subst e
  have er : trimL O = r := norm_inj B32_pos dO.trim dr (norm_trim _) nr (by rw [val_trim, vO, vr])
  have ct := ct_spec_l1Trim O Ao co (by omega)
  rw [er] at ct
  refine xg ?_
  refine xn 1 [] [(20, .slice Ao (List.length O) co)] ?_
  refine xcr 21 ct (zsS zi0 zs0) (fun A0 k0 => ?_)
  refine xz [] [(2, .slice A0 (List.length r) k0)] ?_
  refine SW_ret ?_
  refine xe (A0, k0) (.slice A0 (List.length r) k0) [] ?_ (zsS zi0 zs0)
  rfl
end Go.Proofs.YtodhmbbiifhiaaaDoor.M
end
section
namespace Go.Proofs.YtodhmbbiifhiaaaDoor.M
open Go.RowKit Go.Proofs.YtodhmbbiifhiaaaDoor.G Go.Proofs.YtodhmbbiifhiaaaDoorV.PrintWords Go.Proofs.YtodhmbbiifhiaaaDoorV.PrintLast Go.Proofs.YtodhmbbiifhiaaaDoor.X
set_option linter.unusedVariables false
set_option linter.unusedSimpArgs false
theorem drop_two {l : List Int} {i : Nat} (h : i + 1 < l.length) : l.drop i = rd l (i : Int) :: rd l ((i + 1 : Nat) : Int) :: l.drop (i + 2) := by
 have e1 := rd_some (xs := l) (i := i) (by omega)
 have e2 := rd_some (xs := l) (i := i + 1) h
 rw [List.getElem?_eq_getElem (by omega)] at e1 e2
 rw [List.drop_eq_getElem_cons (show i < l.length by omega), List.drop_eq_getElem_cons h, Option.some.inj e1, Option.some.inj e2]
theorem drop_one {l : List Int} {i : Nat} (h : i + 1 = l.length) : l.drop i = [rd l (i : Int)] := by
 have e1 := rd_some (xs := l) (i := i) (by omega)
 rw [List.getElem?_eq_getElem (by omega)] at e1
 rw [List.drop_eq_getElem_cons (show i < l.length by omega), Option.some.inj e1, List.drop_eq_nil_of_le (by omega)]
theorem ct_spec_l1Out_own (l : List Int) (A : Option Addr) (c : Nat) (dl : Dig B32 l) (nl : Norm l) (hl : l.length ≤ 1000000000) : ∀ r, Dig B64 r → Norm r → val B64 r = val B32 l → CtW Tryd.prog 68 [.slice A l.length c] [Row .u64 A c l] 23 .u64 r := by
 intro r dr nr vr
 have er : outL l = r := norm_inj B64_pos (outL_dig dl) dr (outL_norm dl nl) nr (by rw [outL_val dl, vr])
 refine ctW_of Tryd.func68 rfl (by kernel_rfl) (fun B w0 => ?_)
 refine xr [] [(2, .slice none 0 0)] ?_
 refine xr [] [(3, .slice none 0 0)] ?_
 refine SW_seq ?_
 refine xr [] [(4, .int .i64 0)] ?_
 refine SW_then (fun s' => ∃ (sl : Value) (bs : List Box), Own 23 .u64 sl bs r ∧ Weak s' ⟨[(3, sl)], bs, []⟩) ?_ ?_
 ·refine SW_block ?_
  refine SW_loopn (fun m s' => ∃ (sl : Value) (bs : List Box) (O : List Int) (i : Nat), (m + i = l.length ∨ (m = 0 ∧ i = l.length + 1)) ∧ Own 23 .u64 sl bs O ∧ O.length ≤ i ∧ O ++ outL (l.drop i) = r ∧ Weak s' ⟨[(0, .slice A l.length c), (3, sl), (4, .int .i64 (i : Int))], bs, [Row .u64 A c l]⟩) l.length ⟨_, _, [], 0, .inl rfl, Own.nil 23 .u64, Nat.le_refl _, er, ?_⟩ (fun m s' hI => ?_)
  ·exact xw (zsS zi0 zs0)
  ·obtain ⟨sl0, bs0, O, i, k1, hO0, k3, k4, hw⟩ := hI
   refine SW_weak hw ?_
   clear hw
   by_cases hi : i < l.length
   ·have z : decide ((i : Int) < (l.length : Int)) = true := decide_eq_true (by omega)
    refine SW_know zi0 (fun w h => row_at h (by omega)) (fun ⟨ad, e⟩ => ?_)
    subst e
    obtain ⟨x, hx, hxB⟩ := nat_rd32 dl i
    have v1 : Ve (rd l (i : Int)) (x : Int) := ⟨hx⟩
    have v2 : Ve (IntKind.i64.wrap ((i : Int) + 1)) ((i + 1 : Nat) : Int) := veI (by omega) (by omega)
    have v3 : Ve (IntKind.i64.wrap ((i : Int) + 2)) ((i + 2 : Nat) : Int) := veI (by omega) (by omega)
    by_cases h2 : i + 1 < l.length
    ·have z2 : decide (((i + 1 : Nat) : Int) < (l.length : Int)) = true := decide_eq_true (by omega)
     obtain ⟨y, hy, hyB⟩ := nat_rd32 dl (i + 1)
     have v4 : Ve (rd l ((i + 1 : Nat) : Int)) (y : Int) := ⟨hy⟩
     have v5 : Ve (shl .u64 (y : Int) 32) ((y * 4294967296 : Nat) : Int) := ⟨by have := shl_nat y 32 (by omega); rw [show ((32 : Nat) : Int) = 32 from rfl] at this; rw [this]; omega⟩
     have v6 : Ve (bits .or .u64 (x : Int) ((y * 4294967296 : Nat) : Int)) ((x + y * 4294967296 : Nat) : Int) := ⟨or_nat' 32 (y * 4294967296) x (by omega) (by omega) (Nat.dvd_mul_left _ _) hxB⟩
     rw [drop_two h2, outL, hx, hy] at k4
     refine SW_seq ?_
     refine xr [] [(9, .bool (decide ((i : Int) < (((List.length l) : Nat) : Int))))] ?_
     refine xst z ?_
     refine SW_skip ?_
     refine SW_seq ?_
     refine SW_block ?_
     refine xg ?_
     refine xn 2 [] [(13, .int .i64 (i : Int)), (12, .slice (some ad) (List.length l) c)] ?_
     refine xfi 14 23 (ad) (List.length l) (c) (i) IntKind.i64 ((i : Int)) ⟨rfl⟩ (by omega) ?_
     refine xfle 15 zi0 (i) ((x : Int)) v1 (by omega) ?_
     refine xz [] [(5, .int .u64 (x : Int))] ?_
     refine SW_seq ?_
     refine xg ?_
     refine xn 1 [] [(16, .int .i64 (i : Int))] ?_
     refine xve 17 IntKind.i64 (IntKind.wrap IntKind.i64 ((i : Int) + 1)) ((((i + 1) : Nat) : Int)) v2 ?_
     refine xz [] [(20, .bool (decide ((((i + 1) : Nat) : Int) < (((List.length l) : Nat) : Int))))] ?_
     refine xst z2 ?_
     refine SW_region ?_
     refine xn 3 [] [(23, .int .i64 (i : Int)), (22, .slice (some ad) (List.length l) c), (21, .int .u64 (x : Int))] ?_
     refine xve 24 IntKind.i64 (IntKind.wrap IntKind.i64 ((i : Int) + 1)) ((((i + 1) : Nat) : Int)) v2 ?_
     refine xfi 25 23 (ad) (List.length l) (c) (i + 1) IntKind.i64 ((((i + 1) : Nat) : Int)) ⟨rfl⟩ (by omega) ?_
     refine xfle 26 zi0 (i + 1) ((y : Int)) v4 (by omega) ?_
     refine xve 27 IntKind.u64 (shl IntKind.u64 (y : Int) 32) ((((y * 4294967296) : Nat) : Int)) v5 ?_
     refine xve 28 IntKind.u64 (bits BinOp.or IntKind.u64 (x : Int) (((y * 4294967296) : Nat) : Int)) ((((x + y * 4294967296) : Nat) : Int)) v6 ?_
     refine xz [] [(5, .int .u64 (((x + y * 4294967296) : Nat) : Int))] ?_
     refine SW_region ?_
     refine xn 2 [] [(30, .int .u64 (((x + y * 4294967296) : Nat) : Int)), (29, sl0)] ?_
     refine xbl 31 [.int .u64 (((x + y * 4294967296) : Nat) : Int)] 23 1 (fun g0 => ?_)
     refine xow 32 8 (g0) (1) [(((x + y * 4294967296) : Nat) : Int)] hO0 (by first | omega | (simp <;> omega)) (fun sl1 bs1 hO1 => ?_)
     refine xz [] [(3, sl1)] ?_
     refine SW_region ?_
     refine xn 1 [] [(10, .int .i64 (i : Int))] ?_
     refine xve 11 IntKind.i64 (IntKind.wrap IntKind.i64 ((i : Int) + 2)) ((((i + 2) : Nat) : Int)) v3 ?_
     refine xz [] [(4, .int .i64 (((i + 2) : Nat) : Int))] ?_
     refine ⟨m - 2, by omega, sl1, bs1, _, i + 2, by omega, hO1, by rw [List.length_append]; simp; omega, ?_, ?_⟩
     ·rw [List.append_assoc, ← k4]
      congr 1
     ·exact xw (zsS zi0 zs0)
    ·have z2 : decide (((i + 1 : Nat) : Int) < (l.length : Int)) = false := decide_eq_false (by omega)
     rw [drop_one (by omega), outL, hx] at k4
     refine SW_seq ?_
     refine xr [] [(9, .bool (decide ((i : Int) < (((List.length l) : Nat) : Int))))] ?_
     refine xst z ?_
     refine SW_skip ?_
     refine SW_seq ?_
     refine SW_block ?_
     refine xg ?_
     refine xn 2 [] [(13, .int .i64 (i : Int)), (12, .slice (some ad) (List.length l) c)] ?_
     refine xfi 14 23 (ad) (List.length l) (c) (i) IntKind.i64 ((i : Int)) ⟨rfl⟩ (by omega) ?_
     refine xfle 15 zi0 (i) ((x : Int)) v1 (by omega) ?_
     refine xz [] [(5, .int .u64 (x : Int))] ?_
     refine SW_seq ?_
     refine xg ?_
     refine xn 1 [] [(16, .int .i64 (i : Int))] ?_
     refine xve 17 IntKind.i64 (IntKind.wrap IntKind.i64 ((i : Int) + 1)) ((((i + 1) : Nat) : Int)) v2 ?_
     refine xz [] [(20, .bool (decide ((((i + 1) : Nat) : Int) < (((List.length l) : Nat) : Int))))] ?_
     refine xsf z2 ?_
     refine SW_skip ?_
     refine SW_region ?_
     refine xn 2 [] [(30, .int .u64 (x : Int)), (29, sl0)] ?_
     refine xbl 31 [.int .u64 (x : Int)] 23 1 (fun g0 => ?_)
     refine xow 32 8 (g0) (1) [(x : Int)] hO0 (by first | omega | (simp <;> omega)) (fun sl1 bs1 hO1 => ?_)
     refine xz [] [(3, sl1)] ?_
     refine SW_region ?_
     refine xn 1 [] [(10, .int .i64 (i : Int))] ?_
     refine xve 11 IntKind.i64 (IntKind.wrap IntKind.i64 ((i : Int) + 2)) ((((i + 2) : Nat) : Int)) v3 ?_
     refine xz [] [(4, .int .i64 (((i + 2) : Nat) : Int))] ?_
     refine ⟨0, by omega, sl1, bs1, _, i + 2, by omega, hO1, by rw [List.length_append]; simp; omega, ?_, ?_⟩
     ·rw [List.drop_eq_nil_of_le (by omega), outL, List.append_nil, ← k4]
     ·exact xw (zsS zi0 zs0)
   ·have z : decide ((i : Int) < (l.length : Int)) = false := decide_eq_false (by omega)
    rw [List.drop_eq_nil_of_le (by omega), outL, List.append_nil] at k4
    subst k4
    refine SW_seq ?_
    refine xr [] [(9, .bool (decide ((i : Int) < (((List.length l) : Nat) : Int))))] ?_
    refine xsf z ?_
    refine SW_exit ?_
    refine ⟨sl0, bs0, hO0, ?_⟩
    exact xw zs0
 ·rintro s' ⟨sl, bs, hO, hw⟩
  refine SW_weak hw ?_
  clear hw
  refine xr [] [(2, sl)] ?_
  refine SW_ret ?_
  exact ⟨sl, [], [], by kernel_rfl, hO⟩
end Go.Proofs.YtodhmbbiifhiaaaDoor.M
end
section
namespace Go.Proofs.YtodhmbbiifhiaaaDoor.M
open Go.RowKit Go.Proofs.YtodhmbbiifhiaaaDoor.G Go.Proofs.YtodhmbbiifhiaaaDoorV.PrintWords Go.Proofs.YtodhmbbiifhiaaaDoorV.PrintLast Go.Proofs.YtodhmbbiifhiaaaDoor.X
set_option linter.unusedVariables false
set_option linter.unusedSimpArgs false
theorem sub32_step {a b O : List Int} {i x y bo D bo' : Nat} (hx : rd a (i : Int) = (x : Int)) (hy : rd b (i : Int) = (y : Int)) (hl : O.length = i) (hD : D + y + bo = 4294967296 + x) (hb : bo' + D / 4294967296 = 1) (hv : val B32 O + val B32 (b.take i) = val B32 (a.take i) + B32 ^ i * bo) :
  val B32 (O ++ [((D % 4294967296 : Nat) : Int)]) + val B32 (b.take (i + 1)) = val B32 (a.take (i + 1)) + B32 ^ (i + 1) * bo' := by
 rw [val_snoc, val_take_succ, val_take_succ, hl, hx, hy, Nat.pow_succ, Nat.mul_assoc]
 simp only [Int.toNat_natCast]
 rw [show B32 * bo' = 4294967296 * bo' from rfl]
 have h : D % 4294967296 + y + bo = x + 4294967296 * bo' := by omega
 have h2 := congrArg (B32 ^ i * ·) h
 generalize D % 4294967296 = m at *
 generalize 4294967296 * bo' = q at *
 generalize B32 ^ i = P at *
 simp only [Nat.mul_add] at h2 ⊢
 omega
theorem ct_spec_l1Sub_rows (a b : List Int) (A A' : Option Addr) (c c' : Nat) (da : Dig B32 a) (db : Dig B32 b) (hla : a.length ≤ 1000000000) (hlb : b.length ≤ 1000000000) : ∀ r, Dig B32 r → Norm r → val B32 r + val B32 b = val B32 a → CtR Tryd.prog 66 [.slice A a.length c, .slice A' b.length c'] [Row .u64 A c a, Row .u64 A' c' b] .u64 r := by
 intro r dr nr vr
 refine ct_of Tryd.func66 rfl (by kernel_rfl) (fun B w0 => ?_)
 refine xr [] [(4, .slice none 0 0)] ?_
 refine xr [] [(5, .slice none 0 0)] ?_
 refine xr [] [(6, .int .u64 0)] ?_
 refine SW_seq ?_
 refine xr [] [(7, .int .i64 0)] ?_
 refine SW_then (fun s' => ∃ (sl : Value) (bs : List Box) (O : List Int), Own 23 .u64 sl bs O ∧ Dig B32 O ∧ O.length = a.length ∧ val B32 O = val B32 r ∧ Weak s' ⟨[(5, sl)], bs, []⟩) ?_ ?_
 ·refine SW_block ?_
  refine SW_loopn (fun m s' => ∃ (sl : Value) (bs : List Box) (O : List Int) (i bo : Nat), m + i = a.length ∧ Own 23 .u64 sl bs O ∧ Dig B32 O ∧ O.length = i ∧ bo ≤ 1 ∧ val B32 O + val B32 (b.take i) = val B32 (a.take i) + B32 ^ i * bo ∧ Weak s' ⟨[(0, .slice A a.length c), (1, .slice A' b.length c'), (5, sl), (6, .int .u64 (bo : Int)), (7, .int .i64 (i : Int))], bs, [Row .u64 A c a, Row .u64 A' c' b]⟩) a.length ⟨_, _, [], 0, 0, rfl, Own.nil 23 .u64, Dig.nil _, rfl, by decide, rfl, ?_⟩ (fun m s' hI => ?_)
  ·exact xw (zsS zi0 (zsS (ziS zi0) zs0))
  ·obtain ⟨sl0, bs0, O, i, bo, k1, hO0, k3, k4, k5, k6, hw⟩ := hI
   refine SW_weak hw ?_
   clear hw
   by_cases hi : i < a.length
   ·have z : decide ((i : Int) < (a.length : Int)) = true := decide_eq_true (by omega)
    obtain ⟨m, rfl⟩ : ∃ m', m = m' + 1 := ⟨m - 1, by omega⟩
    refine SW_know zi0 (fun w h => row_at h (by omega)) (fun ⟨ad, e⟩ => ?_)
    subst e
    obtain ⟨x, hx, hxB⟩ := nat_rd32 da i
    obtain ⟨y, hy, hyB⟩ := nat_rd32 db i
    obtain ⟨D, hD⟩ : ∃ D, D + y + bo = 4294967296 + x := ⟨4294967296 + x - y - bo, by omega⟩
    have v1 : Ve (rd a (i : Int)) (x : Int) := ⟨hx⟩
    have v2 : Ve (rd b (i : Int)) (y : Int) := ⟨hy⟩
    have v3 : Ve (IntKind.u64.wrap (4294967296 + (x : Int))) ((4294967296 + x : Nat) : Int) := veU (by omega) (by omega)
    have v4 : Ve (IntKind.u64.wrap (((4294967296 + x : Nat) : Int) - (y : Int))) ((4294967296 + x - y : Nat) : Int) := veU (by omega) (by omega)
    have v4' : Ve (IntKind.u64.wrap (((4294967296 + x - y : Nat) : Int) - (bo : Int))) (D : Int) := veU (by omega) (by omega)
    have v5 := low_ve D (by omega)
    have v6 := high_ve D
    obtain ⟨bo', hbo⟩ : ∃ bo', bo' + D / 4294967296 = 1 := ⟨1 - D / 4294967296, by omega⟩
    have v8 : Ve (IntKind.u64.wrap (1 - ((D / 4294967296 : Nat) : Int))) (bo' : Int) := veU (by omega) (by omega)
    have v7 : Ve (IntKind.i64.wrap ((i : Int) + 1)) ((i + 1 : Nat) : Int) := veI (by omega) (by omega)
    have hst := sub32_step hx hy k4 hD hbo k6
    refine SW_seq ?_
    refine xr [] [(12, .bool (decide ((i : Int) < (((List.length a) : Nat) : Int))))] ?_
    refine xst z ?_
    refine SW_skip ?_
    refine SW_seq ?_
    refine SW_block ?_
    refine xd (fun hB => ?_)
    refine xdk [(0, []), (1, []), (5, []), (6, []), (9, [])] [(24, .int .u64 (bo : Int)), (21, .int .i64 (i : Int)), (20, .slice A' (List.length b) c'), (16, .int .i64 (i : Int)), (15, .slice (some ad) (List.length a) c)] hB ?_
    refine xdfi 2 hB 17 23 (ad) (List.length a) (c) (i) IntKind.i64 ((i : Int)) ⟨rfl⟩ (by omega) ?_
    refine xdfle 3 hB 18 zi0 (i) ((x : Int)) v1 (by omega) ?_
    refine xdve 4 hB 19 IntKind.u64 (IntKind.wrap IntKind.u64 (4294967296 + (x : Int))) ((((4294967296 + x) : Nat) : Int)) v3 ?_
    refine xdv 7 22 (ct_spec_l1At (b) (A') (c') ((i : Int)) (i) ⟨rfl⟩ ((y : Int)) v2 (by omega)) (zsS (ziS zi0) zs0) ?_
    refine xdve 8 hB 23 IntKind.u64 (IntKind.wrap IntKind.u64 ((((4294967296 + x) : Nat) : Int) - (y : Int))) ((((4294967296 + x - y) : Nat) : Int)) v4 ?_
    refine xdve 10 hB 25 IntKind.u64 (IntKind.wrap IntKind.u64 ((((4294967296 + x - y) : Nat) : Int) - (bo : Int))) ((D : Int)) v4' ?_
    refine xdk [(11, [])] [(8, .int .u64 (D : Int))] hB ?_
    refine xdz ?_
    refine xg ?_
    refine xn 2 [] [(27, .int .u64 (D : Int)), (26, sl0)] ?_
    refine xve 28 IntKind.u64 (bits BinOp.and IntKind.u64 (D : Int) 4294967295) ((((D % 4294967296) : Nat) : Int)) v5 ?_
    refine xbl 29 [.int .u64 (((D % 4294967296) : Nat) : Int)] 23 1 (fun g0 => ?_)
    refine xow 30 8 (g0) (1) [(((D % 4294967296) : Nat) : Int)] hO0 (by first | omega | (simp <;> omega)) (fun sl1 bs1 hO1 => ?_)
    refine xz [] [(5, sl1)] ?_
    refine SW_region ?_
    refine xn 1 [] [(31, .int .u64 (D : Int))] ?_
    refine xve 32 IntKind.u64 (shf IntKind.u64 (D : Int) 32) ((((D / 4294967296) : Nat) : Int)) v6 ?_
    refine xve 33 IntKind.u64 (IntKind.wrap IntKind.u64 (1 - (((D / 4294967296) : Nat) : Int))) (((bo' : Nat) : Int)) v8 ?_
    refine xz [] [(6, .int .u64 ((bo' : Nat) : Int))] ?_
    refine SW_region ?_
    refine xn 1 [] [(13, .int .i64 (i : Int))] ?_
    refine xve 14 IntKind.i64 (IntKind.wrap IntKind.i64 ((i : Int) + 1)) ((((i + 1) : Nat) : Int)) v7 ?_
    refine xz [] [(7, .int .i64 (((i + 1) : Nat) : Int))] ?_
    refine ⟨m, by omega, sl1, bs1, _, i + 1, bo', by omega, hO1, k3.snoc (cast_dig32 (Nat.mod_lt _ (by decide))), by rw [List.length_append, k4]; rfl, by omega, hst, ?_⟩
    exact xw (zsS zi0 (zsS (ziS zi0) zs0))
   ·have z : decide ((i : Int) < (a.length : Int)) = false := decide_eq_false (by omega)
    obtain rfl : i = a.length := by omega
    rw [List.take_length] at k6
    have hO := val_lt_len B32_pos k3 (Nat.le_of_eq k4)
    have hA := val_lt da
    have hb := val_cut B32 b a.length
    have hd : val B32 (b.drop a.length) = 0 := by
     rcases Nat.eq_zero_or_pos (val B32 (b.drop a.length)) with h | h
     ·exact h
     ·have := Nat.mul_le_mul_left (B32 ^ a.length) h
      omega
    rw [hd, Nat.mul_zero, Nat.add_zero] at hb
    have hbo : bo = 0 := by
     rcases Nat.lt_or_ge bo 1 with h | h
     ·omega
     ·obtain rfl : bo = 1 := by omega
      omega
    rw [hbo, Nat.mul_zero, Nat.add_zero] at k6
    have hval : val B32 O = val B32 r := by omega
    refine SW_seq ?_
    refine xr [] [(12, .bool (decide ((((List.length a) : Nat) : Int) < (((List.length a) : Nat) : Int))))] ?_
    refine xsf z ?_
    refine SW_exit ?_
    refine ⟨sl0, bs0, O, hO0, k3, k4, hval, ?_⟩
    exact xw zs0
 ·rintro s' ⟨sl, bs, O, hO, dO, lO, vO, hw⟩
  refine SW_weak hw ?_
  clear hw
  refine SW_own hO (by omega) (fun Ao co e => ?_)
  subst e
  have er : trimL O = r := norm_inj B32_pos dO.trim dr (norm_trim _) nr (by rw [val_trim, vO])
  have ct := ct_spec_l1Trim O Ao co (by omega)
  rw [er] at ct
  refine xg ?_
  refine xn 1 [] [(34, .slice Ao (List.length O) co)] ?_
  refine xcr 35 ct (zsS zi0 zs0) (fun A0 k0 => ?_)
  refine xz [] [(4, .slice A0 (List.length r) k0)] ?_
  refine SW_ret ?_
  refine xe (A0, k0) (.slice A0 (List.length r) k0) [] ?_ (zsS zi0 zs0)
  rfl
end Go.Proofs.YtodhmbbiifhiaaaDoor.M
end
section
namespace Go.Proofs.YtodhmbbiifhiaaaDoor.M
open Go.RowKit Go.Proofs.YtodhmbbiifhiaaaDoor.G Go.Proofs.YtodhmbbiifhiaaaDoorV.PrintWords Go.Proofs.YtodhmbbiifhiaaaDoorV.PrintLast Go.Proofs.YtodhmbbiifhiaaaDoor.X
set_option linter.unusedVariables false
set_option linter.unusedSimpArgs false
theorem half_veU (x : Nat) : Ve (shf .u64 (x : Int) 1) ((x / 2 : Nat) : Int) := ⟨by have := shf_nat x 1 (by decide); rw [show ((1 : Nat) : Int) = 1 from rfl] at this; rw [this]⟩
theorem IsBits.half {v k : Nat} (h : IsBits v (k + 1)) : IsBits (v / 2) k := by
 obtain ⟨h1, h2⟩ := h
 rw [Nat.pow_succ] at h1
 refine ⟨by omega, ?_⟩
 rcases h2 with h2 | h2
 ·omega
 ·rw [Nat.add_sub_cancel] at h2
  rcases Nat.eq_zero_or_pos k with h | h
  ·exact .inl h
  ·right
   rw [show k = (k - 1) + 1 by omega, Nat.pow_succ] at h2
   omega
theorem bits_top {B w : Nat} (hB : B = 2 ^ w) {l : List Int} (dl : Dig B l) (h : 0 < l.length) {m : Nat} (ht : IsBits (rd l ((l.length - 1 : Nat) : Int)).toNat m) (h0 : 0 < (rd l ((l.length - 1 : Nat) : Int)).toNat) : IsBits (val B l) (w * (l.length - 1) + m) := by
 have hp : 0 < B := by rw [hB]; exact Nat.pow_pos (by decide)
 have hv := val_mid B (l := l) (p := l.length - 1) (by omega)
 rw [show l.length - 1 + 1 = l.length by omega, List.drop_length] at hv
 have hlo := val_lt (dl.take (l.length - 1))
 rw [List.length_take, Nat.min_eq_left (by omega)] at hlo
 refine IsBits.up (s := w * (l.length - 1)) ?_ ?_
 ·rw [Nat.pow_mul, ← hB, hv]
  simp only [val, Nat.mul_zero, Nat.add_zero]
  rw [Nat.add_mul_div_left _ _ (Nat.pow_pos hp), Nat.div_eq_of_lt hlo, Nat.zero_add]
  exact ht
 ·rw [Nat.pow_mul, ← hB, hv]
  simp only [val, Nat.mul_zero, Nat.add_zero]
  rw [Nat.add_mul_div_left _ _ (Nat.pow_pos hp), Nat.div_eq_of_lt hlo, Nat.zero_add]
  exact h0
theorem ct_spec_l1Bits_rows (l : List Int) (A : Option Addr) (c : Nat) (dl : Dig B32 l) (nl : Norm l) (hl : l.length ≤ 1000000000) (m : Nat) (hm : IsBits (val B32 l) m) : CtV Tryd.prog 51 [.slice A l.length c] [Row .u64 A c l] (.int .i64 (m : Int)) := by
 refine ct_of Tryd.func51 rfl (by kernel_rfl) (fun B w0 => ?_)
 by_cases h0 : l.length = 0
 ·have z : ((l.length : Int) == 0) = true := beq_iff_eq.2 (by omega)
  obtain rfl := List.eq_nil_of_length_eq_zero h0
  obtain rfl : m = 0 := hm.uniq IsBits.zero
  refine xr [] [(2, .int .i64 0)] ?_
  refine SW_seq ?_
  refine xr [] [(7, .bool true)] ?_
  refine xs1 ?_
  refine xr [] [(2, .int .i64 0)] ?_
  refine SW_ret ?_
  refine xe () (.int .i64 0) [] ?_ trivial
  rfl
 ·have z : ((l.length : Int) == 0) = false := by rw [beq_eq_false_iff_ne]; omega
  refine SW_know zi0 (fun w h => row_at h (by omega)) (fun ⟨ad, e⟩ => ?_)
  subst e
  obtain ⟨t, ht, htB⟩ := nat_rd32 dl (l.length - 1)
  have ht0 : 0 < t := by
   have h := norm_last nl (by omega)
   rw [show ((l.length : Int) - 1) = ((l.length - 1 : Nat) : Int) by omega, ht] at h
   omega
  obtain ⟨k, hk, hk64⟩ := bits_of t (by omega)
  obtain rfl : m = 32 * (l.length - 1) + k := hm.uniq (bits_top B32_pow dl (by omega) (by rw [ht]; exact hk) (by rw [ht]; exact ht0))
  have v1 : Ve (rd l ((l.length - 1 : Nat) : Int)) (t : Int) := ⟨ht⟩
  have v2 : Ve (IntKind.i64.wrap ((l.length : Int) - 1)) ((l.length - 1 : Nat) : Int) := veI (by omega) (by omega)
  have v3 : Ve (IntKind.i64.wrap (32 * ((l.length - 1 : Nat) : Int))) ((32 * (l.length - 1) : Nat) : Int) := veI (by omega) (by omega)
  obtain ⟨T, hT⟩ : ∃ T, 32 * (l.length - 1) = T := ⟨_, rfl⟩
  have hT1 : T ≤ 32000000000 := by omega
  rw [hT] at v3
  rw [hT]
  refine xr [] [(2, .int .i64 0)] ?_
  refine SW_seq ?_
  refine xr [] [(7, .bool ((((List.length l) : Nat) : Int) == 0))] ?_
  refine xsf z ?_
  refine SW_skip ?_
  refine xg ?_
  refine xn 2 [] [(9, .int .i64 (((List.length l) : Nat) : Int))] ?_
  refine xve 10 IntKind.i64 (IntKind.wrap IntKind.i64 ((((List.length l) : Nat) : Int) - 1)) ((((List.length l - 1) : Nat) : Int)) v2 ?_
  refine xve 11 IntKind.i64 (IntKind.wrap IntKind.i64 (32 * (((List.length l - 1) : Nat) : Int))) ((T : Int)) v3 ?_
  refine xz [] [(3, .int .i64 (T : Int))] ?_
  refine SW_seq ?_
  refine xg ?_
  refine xn 3 [] [(14, .int .i64 (((List.length l) : Nat) : Int)), (12, .slice (some ad) (List.length l) c)] ?_
  refine xve 15 IntKind.i64 (IntKind.wrap IntKind.i64 ((((List.length l) : Nat) : Int) - 1)) ((((List.length l - 1) : Nat) : Int)) v2 ?_
  refine xfi 16 23 (ad) (List.length l) (c) (List.length l - 1) IntKind.i64 ((((List.length l - 1) : Nat) : Int)) ⟨rfl⟩ (by omega) ?_
  refine xfle 17 zi0 (List.length l - 1) ((t : Int)) v1 (by omega) ?_
  refine xz [] [(4, .int .u64 (t : Int))] ?_
  refine SW_then (fun s' => Weak s' ⟨[(3, .int .i64 ((T + k : Nat) : Int))], [], []⟩) ?_ ?_
  ·refine SW_block ?_
   refine SW_loopn (fun n s' => ∃ u i : Nat, IsBits u n ∧ u < 4294967296 ∧ i + n = T + k ∧ n ≤ 64 ∧ Weak s' ⟨[(3, .int .i64 (i : Int)), (4, .int .u64 (u : Int))], [], []⟩) k ⟨t, T, hk, htB, rfl, hk64, ?_⟩ (fun n s' hI => ?_)
   ·exact xw zs0
   ·obtain ⟨u, i, i1, i2, i3, i4, hw⟩ := hI
    refine SW_weak hw ?_
    clear hw
    by_cases hu : 0 < u
    ·have z1 : decide ((u : Int) > 0) = true := decide_eq_true (by omega)
     have hn := i1.pos hu
     obtain ⟨n, rfl⟩ : ∃ n', n = n' + 1 := ⟨n - 1, by omega⟩
     have v4 := half_veU u
     have v5 : Ve (IntKind.i64.wrap ((i : Int) + 1)) ((i + 1 : Nat) : Int) := veI (by omega) (by omega)
     refine SW_seq ?_
     refine xr [] [(19, .bool (decide ((u : Int) > 0)))] ?_
     refine xst z1 ?_
     refine SW_skip ?_
     refine SW_seq ?_
     refine SW_block ?_
     refine SW_region ?_
     refine xn 1 [] [(22, .int .i64 (i : Int))] ?_
     refine xve 23 IntKind.i64 (IntKind.wrap IntKind.i64 ((i : Int) + 1)) ((((i + 1) : Nat) : Int)) v5 ?_
     refine xz [] [(3, .int .i64 (((i + 1) : Nat) : Int))] ?_
     refine SW_region ?_
     refine xn 1 [] [(20, .int .u64 (u : Int))] ?_
     refine xve 21 IntKind.u64 (shf IntKind.u64 (u : Int) 1) ((((u / 2) : Nat) : Int)) v4 ?_
     refine xz [] [(4, .int .u64 (((u / 2) : Nat) : Int))] ?_
     refine ⟨n, by omega, u / 2, i + 1, i1.half, by omega, by omega, by omega, ?_⟩
     exact xw zs0
    ·have z1 : decide ((u : Int) > 0) = false := decide_eq_false (by omega)
     obtain rfl : u = 0 := by omega
     obtain rfl : n = 0 := i1.uniq IsBits.zero
     obtain rfl : i = T + k := by omega
     refine SW_seq ?_
     refine xr [] [(19, .bool false)] ?_
     refine xs0 ?_
     refine SW_exit ?_
     exact xw zs0
  ·rintro s' hw
   refine SW_weak hw ?_
   refine xr [] [(2, .int .i64 (((T + k) : Nat) : Int))] ?_
   refine SW_ret ?_
   refine xe () (.int .i64 (((T + k) : Nat) : Int)) [] ?_ trivial
   rfl
end Go.Proofs.YtodhmbbiifhiaaaDoor.M
end
section
namespace Go.Proofs.YtodhmbbiifhiaaaDoor.M
open Go.RowKit Go.Proofs.YtodhmbbiifhiaaaDoor.G Go.Proofs.YtodhmbbiifhiaaaDoorV.PrintWords Go.Proofs.YtodhmbbiifhiaaaDoorV.PrintLast Go.Proofs.YtodhmbbiifhiaaaDoor.X
set_option linter.unusedVariables false
set_option linter.unusedSimpArgs false
theorem quo32 (n : Nat) (h : n ≤ 9223372036854775807) : Ve (IntKind.i64.wrap (Int.tdiv (n : Int) 32)) ((n / 32 : Nat) : Int) := ⟨(Nn.w (Nn.div ⟨rfl⟩ ⟨rfl⟩ : Nn (Int.tdiv (n : Int) 32) (n / 32)) (by omega)).out⟩
theorem rem32 (n : Nat) : Ve (Int.tmod (n : Int) 32) ((n % 32 : Nat) : Int) := ⟨(Nn.mod ⟨rfl⟩ ⟨rfl⟩ : Nn (Int.tmod (n : Int) 32) (n % 32)).out⟩
theorem conv32 (n : Nat) : Ve (IntKind.u64.wrap ((n % 32 : Nat) : Int)) ((n % 32 : Nat) : Int) := veU rfl (by omega)
theorem bit_at {x z p : Nat} (hp : p < 32) : (x + B32 * z) / 2 ^ p % 2 = x / 2 ^ p % 2 := by
 have h1 := pow_split 32 p (by omega)
 have h2 : 2 ^ (32 - p) = 2 * 2 ^ (31 - p) := by rw [show 32 - p = (31 - p) + 1 by omega, Nat.pow_succ, Nat.mul_comm]
 rw [B32_pow, h1, Nat.mul_right_comm, Nat.add_mul_div_right _ _ (Nat.pow_pos (by decide)), h2, Nat.mul_assoc, Nat.add_mul_mod_self_left]
theorem val_bit {l : List Int} (dl : Dig B32 l) (n : Nat) {x : Nat} (hx : rd l ((n / 32 : Nat) : Int) = (x : Int)) : val B32 l / 2 ^ n % 2 = x / 2 ^ (n % 32) % 2 := by
 rw [pow_div_mod _ 32 n, ← B32_pow, ← val_drop B32 B32_pos dl]
 have h : val B32 (l.drop (n / 32)) = x + B32 * val B32 (l.drop (n / 32 + 1)) := by
  rcases Nat.lt_or_ge (n / 32) l.length with h | h
  ·have := val_drop_rd B32 h
   rwa [hx, Int.toNat_natCast] at this
  ·rw [List.drop_eq_nil_of_le h, List.drop_eq_nil_of_le (by omega)]
   have := rd_of_ge l ((n / 32 : Nat) : Int) (by rw [Int.toNat_natCast]; exact h)
   rw [hx] at this
   have : x = 0 := by omega
   rw [this]
   rfl
 rw [h, bit_at (Nat.mod_lt _ (by decide))]
theorem ct_spec_l1Bit_rows (l : List Int) (A : Option Addr) (c : Nat) (dl : Dig B32 l) (hl : l.length ≤ 1000000000) (N : Int) (n : Nat) (hN : Nn N n) (hn : n ≤ 100000000000) : CtV Tryd.prog 53 [.slice A l.length c, .int .i64 N] [Row .u64 A c l] (.int .u64 ((val B32 l / 2 ^ n % 2 : Nat) : Int)) := by
 obtain ⟨rfl⟩ := hN
 refine ct_of Tryd.func53 rfl (by kernel_rfl) (fun B w0 => ?_)
 obtain ⟨x, hx, hxB⟩ := nat_rd32 dl (n / 32)
 have v1 : Ve (rd l ((n / 32 : Nat) : Int)) (x : Int) := ⟨hx⟩
 have v2 := quo32 n (by omega)
 have v3 := rem32 n
 have v3' := conv32 n
 have v4 : Ve (shf .u64 (x : Int) ((n % 32 : Nat) : Int)) ((x / 2 ^ (n % 32) : Nat) : Int) := ⟨shf_nat x (n % 32) (by omega)⟩
 have v5 : Ve (bits .and .u64 ((x / 2 ^ (n % 32) : Nat) : Int) 1) ((x / 2 ^ (n % 32) % 2 : Nat) : Int) := ⟨and1 _ (by have := Nat.div_le_self x (2 ^ (n % 32)); omega)⟩
 rw [val_bit dl n hx]
 refine xr [] [(4, .int .u64 0)] ?_
 refine xg ?_
 refine xn 2 [] [(6, .int .i64 (n : Int)), (5, .slice A (List.length l) c)] ?_
 refine xve 7 IntKind.i64 (IntKind.wrap IntKind.i64 (Int.tdiv (n : Int) 32)) ((((n / 32) : Nat) : Int)) v2 ?_
 refine xcv 8 (ct_spec_l1At (l) (A) (c) ((((n / 32) : Nat) : Int)) (n / 32) ⟨rfl⟩ ((x : Int)) v1 (by omega)) (zsS zi0 zs0) ?_
 refine xn 5 [] [(9, .int .i64 (n : Int))] ?_
 refine xve 10 IntKind.i64 (Int.tmod (n : Int) 32) ((((n % 32) : Nat) : Int)) v3 ?_
 refine xve 11 IntKind.u64 (IntKind.wrap IntKind.u64 (((n % 32) : Nat) : Int)) ((((n % 32) : Nat) : Int)) v3' ?_
 refine xve 12 IntKind.u64 (shf IntKind.u64 (x : Int) (((n % 32) : Nat) : Int)) ((((x / 2 ^ (n % 32)) : Nat) : Int)) v4 ?_
 refine xve 13 IntKind.u64 (bits BinOp.and IntKind.u64 (((x / 2 ^ (n % 32)) : Nat) : Int) 1) ((((x / 2 ^ (n % 32) % 2) : Nat) : Int)) v5 ?_
 refine xz [] [(4, .int .u64 (((x / 2 ^ (n % 32) % 2) : Nat) : Int))] ?_
 refine SW_ret ?_
 refine xe () (.int .u64 (((x / 2 ^ (n % 32) % 2) : Nat) : Int)) [] ?_ trivial
 rfl
theorem left32 {a O : List Int} {i x p cy : Nat} (hx : rd a (i : Int) = (x : Int)) (hl : O.length = i) (hv : val B32 O + B32 ^ i * cy = val B32 (a.take i) * 2 ^ p) :
  val B32 (O ++ [(((x * 2 ^ p + cy) % 4294967296 : Nat) : Int)]) + B32 ^ (i + 1) * ((x * 2 ^ p + cy) / 4294967296) = val B32 (a.take (i + 1)) * 2 ^ p := by
 rw [val_snoc, val_take_succ, hl, hx, Nat.pow_succ, Nat.mul_assoc, Nat.add_mul, ← hv, Nat.mul_assoc]
 simp only [Int.toNat_natCast]
 rw [show B32 * ((x * 2 ^ p + cy) / 4294967296) = 4294967296 * ((x * 2 ^ p + cy) / 4294967296) from rfl]
 have h := congrArg (B32 ^ i * ·) (Nat.mod_add_div (x * 2 ^ p + cy) 4294967296)
 generalize (x * 2 ^ p + cy) % 4294967296 = m at *
 generalize 4294967296 * ((x * 2 ^ p + cy) / 4294967296) = q at *
 generalize B32 ^ i = P at *
 simp only [Nat.mul_add] at h ⊢
 omega
theorem ct_spec_l1Left_rows (a : List Int) (A : Option Addr) (c : Nat) (da : Dig B32 a) (hla : a.length ≤ 1000000000) (N : Int) (n : Nat) (hN : Nn N n) (hn : n ≤ 100000000000) : ∀ r, Dig B32 r → Norm r → val B32 r = val B32 a * 2 ^ n → CtR Tryd.prog 64 [.slice A a.length c, .int .i64 N] [Row .u64 A c a] .u64 r := by
 intro r dr nr vr
 obtain ⟨rfl⟩ := hN
 refine ct_of Tryd.func64 rfl (by kernel_rfl) (fun B w0 => ?_)
 have v2 := quo32 n (by omega)
 have v3 := rem32 n
 have v3' := conv32 n
 obtain ⟨q, hq⟩ : ∃ q, n / 32 = q := ⟨_, rfl⟩
 have hp : n % 32 < 32 := Nat.mod_lt _ (by decide)
 obtain ⟨p, hpe⟩ : ∃ p, n % 32 = p := ⟨_, rfl⟩
 have hsp : val B32 a * 2 ^ n = B32 ^ q * (val B32 a * 2 ^ p) := by rw [pow_mul_mod _ 32 n, hq, hpe, ← B32_pow]
 have hq1 : q ≤ 10000000000 := by omega
 rw [hq] at v2
 rw [hpe] at v3 v3' hp
 clear hq hpe
 have hP : 0 < 2 ^ p := Nat.pow_pos (by decide)
 have hP1 : 2 ^ p ≤ 2147483648 := by
  have : 2 ^ p ≤ 2 ^ 31 := Nat.pow_le_pow_right (by decide) (by omega)
  exact this
 refine xr [] [(4, .slice none 0 0)] ?_
 refine xg ?_
 refine xn 1 [] [(9, .int .i64 (n : Int))] ?_
 refine xve 10 IntKind.i64 (IntKind.wrap IntKind.i64 (Int.tdiv (n : Int) 32)) ((q : Int)) v2 ?_
 refine xma 11 23 (q) IntKind.u64 8 ((q : Int)) ⟨rfl⟩ (by omega) (fun g0 => ?_)
 refine xz [] [(5, .slice (some ⟨g0, 0, none⟩) q q)] ?_
 refine xr [] [(6, .int .u64 0)] ?_
 refine SW_seq ?_
 refine xr [] [(7, .int .i64 0)] ?_
 refine SW_then (fun s' => ∃ (sl : Value) (bs : List Box) (O : List Int), Own 23 .u64 sl bs (List.replicate q 0 ++ O) ∧ Dig B32 O ∧ O.length = a.length + 1 ∧ val B32 O = val B32 a * 2 ^ p ∧ Weak s' ⟨[(5, sl)], bs, []⟩) ?_ ?_
 ·refine SW_block ?_
  refine SW_loopn (fun m s' => ∃ (sl : Value) (bs : List Box) (O : List Int) (i cy : Nat), m + i = a.length + 1 ∧ Own 23 .u64 sl bs (List.replicate q 0 ++ O) ∧ Dig B32 O ∧ O.length = i ∧ cy < 2 ^ p ∧ val B32 O + B32 ^ i * cy = val B32 (a.take i) * 2 ^ p ∧ Weak s' ⟨[(0, .slice A a.length c), (1, .int .i64 (n : Int)), (5, sl), (6, .int .u64 (cy : Int)), (7, .int .i64 (i : Int))], bs, [Row .u64 A c a]⟩) (a.length + 1) ⟨.slice (some ⟨g0, 0, none⟩) q q, [⟨g0, cl .u64 (List.replicate q 0) [], 23⟩], [], 0, 0, rfl, .inr ⟨g0, [], q, by simp, by simp, by rw [List.append_nil]; rfl⟩, Dig.nil _, rfl, hP, by simp [val], ?_⟩ (fun m s' hI => ?_)
  ·exact xw (zsS zi0 zs0)
  ·obtain ⟨sl0, bs0, O, i, cy, k1, hO0, k3, k4, k5, k6, hw⟩ := hI
   refine SW_weak hw ?_
   clear hw
   by_cases hi : i ≤ a.length
   ·have z : decide ((i : Int) ≤ (a.length : Int)) = true := decide_eq_true (by omega)
    obtain ⟨m, rfl⟩ : ∃ m', m = m' + 1 := ⟨m - 1, by omega⟩
    obtain ⟨x, hx, hxB⟩ := nat_rd32 da i
    have v1 : Ve (rd a (i : Int)) (x : Int) := ⟨hx⟩
    have hmx : x * 2 ^ p ≤ 4294967295 * 2 ^ p := Nat.mul_le_mul_right _ (by omega)
    have v4 : Ve (shl .u64 (x : Int) (p : Int)) ((x * 2 ^ p : Nat) : Int) := ⟨by rw [shl_nat x p (by omega), Nat.mod_eq_of_lt (by omega)]⟩
    have v5 : Ve (bits .or .u64 ((x * 2 ^ p : Nat) : Int) (cy : Int)) ((x * 2 ^ p + cy : Nat) : Int) := ⟨or_nat p (x * 2 ^ p) cy (by omega) (by omega) (Nat.dvd_mul_left _ _) k5⟩
    have v6 := low_ve (x * 2 ^ p + cy) (by omega)
    have v7 := high_ve (x * 2 ^ p + cy)
    have v8 : Ve (IntKind.i64.wrap ((i : Int) + 1)) ((i + 1 : Nat) : Int) := veI (by omega) (by omega)
    have hst := left32 hx k4 k6
    refine SW_seq ?_
    refine xr [] [(15, .bool (decide ((i : Int) ≤ (((List.length a) : Nat) : Int))))] ?_
    refine xst z ?_
    refine SW_skip ?_
    refine SW_seq ?_
    refine SW_block ?_
    refine xg ?_
    refine xn 2 [] [(19, .int .i64 (i : Int)), (18, .slice A (List.length a) c)] ?_
    refine xcv 20 (ct_spec_l1At (a) (A) (c) ((i : Int)) (i) ⟨rfl⟩ ((x : Int)) v1 (by omega)) (zsS zi0 zs0) ?_
    refine xn 4 [] [(21, .int .i64 (n : Int))] ?_
    refine xve 22 IntKind.i64 (Int.tmod (n : Int) 32) ((p : Int)) v3 ?_
    refine xve 23 IntKind.u64 (IntKind.wrap IntKind.u64 (p : Int)) ((p : Int)) v3' ?_
    refine xve 24 IntKind.u64 (shl IntKind.u64 (x : Int) (p : Int)) ((((x * 2 ^ p) : Nat) : Int)) v4 ?_
    refine xn 8 [] [(25, .int .u64 (cy : Int))] ?_
    refine xve 26 IntKind.u64 (bits BinOp.or IntKind.u64 (((x * 2 ^ p) : Nat) : Int) (cy : Int)) ((((x * 2 ^ p + cy) : Nat) : Int)) v5 ?_
    refine xz [] [(8, .int .u64 (((x * 2 ^ p + cy) : Nat) : Int))] ?_
    refine xg ?_
    refine xn 2 [] [(28, .int .u64 (((x * 2 ^ p + cy) : Nat) : Int)), (27, sl0)] ?_
    refine xve 29 IntKind.u64 (bits BinOp.and IntKind.u64 (((x * 2 ^ p + cy) : Nat) : Int) 4294967295) (((((x * 2 ^ p + cy) % 4294967296) : Nat) : Int)) v6 ?_
    refine xbl 30 [.int .u64 ((((x * 2 ^ p + cy) % 4294967296) : Nat) : Int)] 23 1 (fun g1 => ?_)
    refine xow 31 8 (g1) (1) [((((x * 2 ^ p + cy) % 4294967296) : Nat) : Int)] hO0 (by first | omega | (simp <;> omega)) (fun sl1 bs1 hO1 => ?_)
    refine xz [] [(5, sl1)] ?_
    refine SW_region ?_
    refine xn 1 [] [(32, .int .u64 (((x * 2 ^ p + cy) : Nat) : Int))] ?_
    refine xve 33 IntKind.u64 (shf IntKind.u64 (((x * 2 ^ p + cy) : Nat) : Int) 32) (((((x * 2 ^ p + cy) / 4294967296) : Nat) : Int)) v7 ?_
    refine xz [] [(6, .int .u64 ((((x * 2 ^ p + cy) / 4294967296) : Nat) : Int))] ?_
    refine SW_region ?_
    refine xn 1 [] [(16, .int .i64 (i : Int))] ?_
    refine xve 17 IntKind.i64 (IntKind.wrap IntKind.i64 ((i : Int) + 1)) ((((i + 1) : Nat) : Int)) v8 ?_
    refine xz [] [(7, .int .i64 (((i + 1) : Nat) : Int))] ?_
    refine ⟨m, by omega, sl1, bs1, O ++ [(((x * 2 ^ p + cy) % 4294967296 : Nat) : Int)], i + 1, (x * 2 ^ p + cy) / 4294967296, by omega, by rw [← List.append_assoc]; exact hO1, k3.snoc (cast_dig32 (Nat.mod_lt _ (by decide))), by rw [List.length_append, k4]; rfl, by omega, hst, ?_⟩
    exact xw (zsS zi0 zs0)
   ·have z : decide ((i : Int) ≤ (a.length : Int)) = false := decide_eq_false (by omega)
    obtain rfl : i = a.length + 1 := by omega
    rw [List.take_of_length_le (by omega)] at k6
    have hcy : cy = 0 := by
     rcases Nat.eq_zero_or_pos cy with h | h
     ·exact h
     ·have h1 := val_lt da
      have h2 := Nat.mul_le_mul (Nat.le_of_lt h1) hP1
      have h3 := Nat.mul_le_mul_left (B32 ^ (a.length + 1)) h
      rw [Nat.pow_succ] at h3 k6
      have h4 : B32 ^ a.length * 2147483648 < B32 ^ a.length * B32 := Nat.mul_lt_mul_of_pos_left (by unfold B32; decide) (Nat.pow_pos B32_pos)
      omega
    rw [hcy, Nat.mul_zero, Nat.add_zero] at k6
    refine SW_seq ?_
    refine xr [] [(15, .bool (decide ((((List.length a + 1) : Nat) : Int) ≤ (((List.length a) : Nat) : Int))))] ?_
    refine xsf z ?_
    refine SW_exit ?_
    refine ⟨sl0, bs0, O, hO0, k3, k4, k6, ?_⟩
    exact xw zs0
 ·rintro s' ⟨sl, bs, O, hO, dO, lO, vO, hw⟩
  refine SW_weak hw ?_
  clear hw
  have lQ : (List.replicate q 0 ++ O).length = q + a.length + 1 := by rw [List.length_append, List.length_replicate, lO]; omega
  have dQ : Dig B32 (List.replicate q 0 ++ O) := (Dig.zeros B32_pos q).append dO
  have vQ : val B32 (List.replicate q 0 ++ O) = val B32 r := by rw [val_append, val_zeros, List.length_replicate, Nat.zero_add, vO, vr, hsp]
  obtain ⟨Q, hQ⟩ : ∃ Q, List.replicate q 0 ++ O = Q := ⟨_, rfl⟩
  rw [hQ] at hO lQ dQ vQ
  refine SW_own hO (by omega) (fun Ao co e => ?_)
  subst e
  have er : trimL Q = r := norm_inj B32_pos dQ.trim dr (norm_trim _) nr (by rw [val_trim, vQ])
  have ct := ct_spec_l1Trim Q Ao co (by omega)
  rw [er] at ct
  refine xg ?_
  refine xn 1 [] [(34, .slice Ao (List.length Q) co)] ?_
  refine xcr 35 ct (zsS zi0 zs0) (fun A0 k0 => ?_)
  refine xz [] [(4, .slice A0 (List.length r) k0)] ?_
  refine SW_ret ?_
  refine xe (A0, k0) (.slice A0 (List.length r) k0) [] ?_ (zsS zi0 zs0)
  rfl
theorem ct_spec_l1Right_rows (a : List Int) (A : Option Addr) (c : Nat) (da : Dig B32 a) (hla : a.length ≤ 1000000000) (N : Int) (n : Nat) (hN : Nn N n) (hn : n ≤ 100000000000) : ∀ r, Dig B32 r → Norm r → val B32 r = val B32 a / 2 ^ n → CtR Tryd.prog 99 [.slice A a.length c, .int .i64 N] [Row .u64 A c a] .u64 r := by
 intro r dr nr vr
 obtain ⟨rfl⟩ := hN
 refine ct_of Tryd.func99 rfl (by kernel_rfl) (fun B w0 => ?_)
 have v2 := quo32 n (by omega)
 have v3 := rem32 n
 have v3' := conv32 n
 obtain ⟨q, hq⟩ : ∃ q, n / 32 = q := ⟨_, rfl⟩
 have hp : n % 32 < 32 := Nat.mod_lt _ (by decide)
 obtain ⟨p, hpe⟩ : ∃ p, n % 32 = p := ⟨_, rfl⟩
 have hsp : val B32 a / 2 ^ n = val B32 a / B32 ^ q / 2 ^ p := by rw [pow_div_mod _ 32 n, hq, hpe, ← B32_pow]
 have hq1 : q ≤ 10000000000 := by omega
 rw [hq] at v2
 rw [hpe] at v3 v3' hp
 clear hq hpe
 have hP : 0 < 2 ^ p := Nat.pow_pos (by decide)
 obtain ⟨l, hl⟩ : ∃ l, a.drop q = l := ⟨_, rfl⟩
 have ll : l.length = a.length - q := by rw [← hl]; exact List.length_drop ..
 have dl : Dig B32 l := by rw [← hl]; exact da.drop q
 have vl : val B32 l = val B32 a / B32 ^ q := by rw [← hl]; exact val_drop B32 B32_pos da q
 have rl : ∀ k : Nat, rd a ((q + k : Nat) : Int) = rd l (k : Int) := fun k => by rw [← hl, rd_drop]
 have lsr : (sr B32 (2 ^ p) l).length = l.length := sr_length _ _ l
 refine xr [] [(4, .slice none 0 0)] ?_
 refine xr [] [(5, .slice none 0 0)] ?_
 refine SW_seq ?_
 refine xg ?_
 refine xn 1 [] [(8, .int .i64 (n : Int))] ?_
 refine xve 9 IntKind.i64 (IntKind.wrap IntKind.i64 (Int.tdiv (n : Int) 32)) ((q : Int)) v2 ?_
 refine xz [] [(6, .int .i64 (q : Int))] ?_
 refine SW_then (fun s' => ∃ (sl : Value) (bs : List Box), Own 23 .u64 sl bs (sr B32 (2 ^ p) l) ∧ Weak s' ⟨[(5, sl)], bs, []⟩) ?_ ?_
 ·refine SW_block ?_
  refine SW_loopn (fun m s' => ∃ (sl : Value) (bs : List Box) (k : Nat), m + k = l.length ∧ Own 23 .u64 sl bs ((sr B32 (2 ^ p) l).take k) ∧ Weak s' ⟨[(0, .slice A a.length c), (1, .int .i64 (n : Int)), (5, sl), (6, .int .i64 ((q + k : Nat) : Int))], bs, [Row .u64 A c a]⟩) l.length ⟨_, _, 0, rfl, Own.nil 23 .u64, ?_⟩ (fun m s' hI => ?_)
  ·exact xw (zsS zi0 zs0)
  ·obtain ⟨sl0, bs0, k, k1, hO0, hw⟩ := hI
   refine SW_weak hw ?_
   clear hw
   by_cases hi : k < l.length
   ·have z : decide (((q + k : Nat) : Int) < (a.length : Int)) = true := decide_eq_true (by omega)
    obtain ⟨m, rfl⟩ : ∃ m', m = m' + 1 := ⟨m - 1, by omega⟩
    obtain ⟨x, hx, hxB⟩ := nat_rd32 dl k
    obtain ⟨y, hy, hyB⟩ := nat_rd32 dl (k + 1)
    have v1 : Ve (rd a ((q + k : Nat) : Int)) (x : Int) := ⟨by rw [rl, hx]⟩
    have v1' : Ve (rd a ((q + k + 1 : Nat) : Int)) (y : Int) := ⟨by rw [Nat.add_assoc, rl, hy]⟩
    have v4 : Ve (shl .u64 (y : Int) 32) ((y * 4294967296 : Nat) : Int) := ⟨by have := shl_nat y 32 (by omega); rw [show ((32 : Nat) : Int) = 32 from rfl] at this; rw [this]; omega⟩
    have v5 : Ve (bits .or .u64 (x : Int) ((y * 4294967296 : Nat) : Int)) ((x + y * 4294967296 : Nat) : Int) := ⟨or_nat' 32 (y * 4294967296) x (by omega) (by omega) (Nat.dvd_mul_left _ _) hxB⟩
    have v6 : Ve (shf .u64 ((x + y * 4294967296 : Nat) : Int) (p : Int)) (((x + y * 4294967296) / 2 ^ p : Nat) : Int) := ⟨shf_nat _ p (by omega)⟩
    have v7 := low_ve ((x + y * 4294967296) / 2 ^ p) (by have := Nat.div_le_self (x + y * 4294967296) (2 ^ p); omega)
    have v8 : Ve (IntKind.i64.wrap (((q + k : Nat) : Int) + 1)) ((q + k + 1 : Nat) : Int) := veI (by omega) (by omega)
    have hs := sr_take (B := B32) (P := 2 ^ p) hi (y := (((x + y * 4294967296) / 2 ^ p % 4294967296 : Nat) : Int)) (by
     rw [hx, hy, Int.toNat_natCast, Int.toNat_natCast, ← div_split hP (show x < B32 from hxB), Nat.mul_comm y]
     rfl)
    refine SW_seq ?_
    refine xr [] [(13, .bool (decide ((((q + k) : Nat) : Int) < (((List.length a) : Nat) : Int))))] ?_
    refine xst z ?_
    refine SW_skip ?_
    refine SW_seq ?_
    refine SW_block ?_
    refine xg ?_
    refine xn 2 [] [(17, .int .i64 (((q + k) : Nat) : Int)), (16, .slice A (List.length a) c)] ?_
    refine xcv 18 (ct_spec_l1At (a) (A) (c) ((((q + k) : Nat) : Int)) (q + k) ⟨rfl⟩ ((x : Int)) v1 (by omega)) (zsS zi0 zs0) ?_
    refine xn 5 [] [(20, .int .i64 (((q + k) : Nat) : Int)), (19, .slice A (List.length a) c)] ?_
    refine xve 21 IntKind.i64 (IntKind.wrap IntKind.i64 ((((q + k) : Nat) : Int) + 1)) ((((q + k + 1) : Nat) : Int)) v8 ?_
    refine xcv 22 (ct_spec_l1At (a) (A) (c) ((((q + k + 1) : Nat) : Int)) (q + k + 1) ⟨rfl⟩ ((y : Int)) v1' (by omega)) (zsS zi0 zs0) ?_
    refine xve 23 IntKind.u64 (shl IntKind.u64 (y : Int) 32) ((((y * 4294967296) : Nat) : Int)) v4 ?_
    refine xve 24 IntKind.u64 (bits BinOp.or IntKind.u64 (x : Int) (((y * 4294967296) : Nat) : Int)) ((((x + y * 4294967296) : Nat) : Int)) v5 ?_
    refine xz [] [(7, .int .u64 (((x + y * 4294967296) : Nat) : Int))] ?_
    refine SW_region ?_
    refine xn 3 [] [(27, .int .i64 (n : Int)), (26, .int .u64 (((x + y * 4294967296) : Nat) : Int)), (25, sl0)] ?_
    refine xve 28 IntKind.i64 (Int.tmod (n : Int) 32) ((p : Int)) v3 ?_
    refine xve 29 IntKind.u64 (IntKind.wrap IntKind.u64 (p : Int)) ((p : Int)) v3' ?_
    refine xve 30 IntKind.u64 (shf IntKind.u64 (((x + y * 4294967296) : Nat) : Int) (p : Int)) (((((x + y * 4294967296) / 2 ^ p) : Nat) : Int)) v6 ?_
    refine xve 31 IntKind.u64 (bits BinOp.and IntKind.u64 ((((x + y * 4294967296) / 2 ^ p) : Nat) : Int) 4294967295) (((((x + y * 4294967296) / 2 ^ p % 4294967296) : Nat) : Int)) v7 ?_
    refine xbl 32 [.int .u64 ((((x + y * 4294967296) / 2 ^ p % 4294967296) : Nat) : Int)] 23 1 (fun g0 => ?_)
    refine xow 33 8 (g0) (1) [((((x + y * 4294967296) / 2 ^ p % 4294967296) : Nat) : Int)] hO0 (by first | omega | (simp <;> omega)) (fun sl1 bs1 hO1 => ?_)
    refine xz [] [(5, sl1)] ?_
    refine SW_region ?_
    refine xn 1 [] [(14, .int .i64 (((q + k) : Nat) : Int))] ?_
    refine xve 15 IntKind.i64 (IntKind.wrap IntKind.i64 ((((q + k) : Nat) : Int) + 1)) ((((q + k + 1) : Nat) : Int)) v8 ?_
    refine xz [] [(6, .int .i64 (((q + k + 1) : Nat) : Int))] ?_
    rw [hs] at hO1
    refine ⟨m, by omega, sl1, bs1, k + 1, by omega, hO1, ?_⟩
    exact xw (zsS zi0 zs0)
   ·have z : decide (((q + k : Nat) : Int) < (a.length : Int)) = false := decide_eq_false (by omega)
    rw [List.take_of_length_le (by omega)] at hO0
    refine SW_seq ?_
    refine xr [] [(13, .bool (decide ((((q + k) : Nat) : Int) < (((List.length a) : Nat) : Int))))] ?_
    refine xsf z ?_
    refine SW_exit ?_
    refine ⟨sl0, bs0, hO0, ?_⟩
    exact xw zs0
 ·rintro s' ⟨sl, bs, hO, hw⟩
  refine SW_weak hw ?_
  clear hw
  have er : trimL (sr B32 (2 ^ p) l) = r := norm_inj B32_pos (sr_dig hP l dl).trim dr (norm_trim _) nr (by rw [val_trim, sr_val hP (by rw [B32_pow]; exact Nat.pow_dvd_pow 2 (by omega)), vl, vr, hsp])
  obtain ⟨Q, hQ⟩ : ∃ Q, sr B32 (2 ^ p) l = Q := ⟨_, rfl⟩
  rw [hQ] at hO er lsr
  refine SW_own hO (by omega) (fun Ao co e => ?_)
  subst e
  have ct := ct_spec_l1Trim Q Ao co (by omega)
  rw [er] at ct
  refine xg ?_
  refine xn 1 [] [(34, .slice Ao (List.length Q) co)] ?_
  refine xcr 35 ct (zsS zi0 zs0) (fun A0 k0 => ?_)
  refine xz [] [(4, .slice A0 (List.length r) k0)] ?_
  refine SW_ret ?_
  refine xe (A0, k0) (.slice A0 (List.length r) k0) [] ?_ (zsS zi0 zs0)
  rfl
end Go.Proofs.YtodhmbbiifhiaaaDoor.M
end
section
namespace Go.Proofs.YtodhmbbiifhiaaaDoor.M
open Go.RowKit Go.Proofs.YtodhmbbiifhiaaaDoor.G Go.Proofs.YtodhmbbiifhiaaaDoorV.PrintWords Go.Proofs.YtodhmbbiifhiaaaDoorV.PrintLast Go.Proofs.YtodhmbbiifhiaaaDoor.X
set_option linter.unusedVariables false
set_option linter.unusedSimpArgs false
theorem digits_exist {B : Nat} (hB : 2 ≤ B) (n : Nat) : ∃ l, Dig B l ∧ Norm l ∧ val B l = n := by
  induction n using Nat.strongRecOn with
  | _ n ih =>
    by_cases h0 : n = 0
    · exact ⟨[], Dig.nil _, norm_nil, by rw [h0]; rfl⟩
    · obtain ⟨l, h1, h2, h3⟩ := ih (n / B) (Nat.div_lt_self (by omega) hB)
      have hm : n % B < B := Nat.mod_lt _ (by omega)
      have hv : val B (((n % B : Nat) : Int) :: l) = n := by
        rw [val_cons, h3, Int.toNat_natCast]
        exact Nat.mod_add_div n B
      refine ⟨((n % B : Nat) : Int) :: l, Dig.cons ⟨by omega, by omega⟩ h1, ?_, hv⟩
      rcases Nat.eq_zero_or_pos l.length with hl | hl
      · have : l = [] := List.eq_nil_of_length_eq_zero hl
        subst this
        have h4 : n / B = 0 := by rw [← h3]; rfl
        have h5 : n % B = n := Nat.mod_eq_of_lt (by
          rcases Nat.lt_or_ge n B with h | h
          · exact h
          · have := Nat.div_pos h (by omega); omega)
        have : ((((n % B : Nat) : Int)) :: ([] : List Int)) = [] ++ [((n % B : Nat) : Int)] := rfl
        rw [this, norm_snoc, h5]
        omega
      · obtain ⟨a, y, rfl⟩ := snoc_of hl
        have : (((n % B : Nat) : Int)) :: (a ++ [y]) = (((n % B : Nat) : Int) :: a) ++ [y] := rfl
        rw [this, norm_snoc]
        exact norm_snoc.1 h2
noncomputable def ofN (B n : Nat) : List Int := @dite _ (∃ l, Dig B l ∧ Norm l ∧ val B l = n) (Classical.propDecidable _) (fun h => Classical.choose h) (fun _ => [])
theorem ofN_spec {B : Nat} (hB : 2 ≤ B) (n : Nat) : Dig B (ofN B n) ∧ Norm (ofN B n) ∧ val B (ofN B n) = n := by
  unfold ofN
  rw [dif_pos (digits_exist hB n)]
  exact Classical.choose_spec (digits_exist hB n)
theorem B32_2 : 2 ≤ B32 := by unfold B32; omega
theorem B64_2 : 2 ≤ B64 := by unfold B64; omega
theorem ofN_zero {B : Nat} (hB : 2 ≤ B) (n : Nat) : (ofN B n).length = 0 ↔ n = 0 := by
  obtain ⟨k1, k2, k3⟩ := ofN_spec hB n
  have := norm_zero (by omega) k1 k2
  rw [k3] at this
  rw [← this]
  exact ⟨fun h => List.eq_nil_of_length_eq_zero h, fun h => by rw [h]; rfl⟩
theorem ofN_nil {B : Nat} (hB : 2 ≤ B) : ofN B 0 = [] := List.eq_nil_of_length_eq_zero ((ofN_zero hB 0).2 rfl)
theorem ofN_len {B : Nat} (hB : 2 ≤ B) {n k : Nat} (h : n < B ^ k) : (ofN B n).length ≤ k := by
  obtain ⟨k1, k2, k3⟩ := ofN_spec hB n
  rcases Nat.lt_or_ge k (ofN B n).length with hk | hk
  · have h1 := val_ge k1 k2 (by omega)
    rw [k3] at h1
    have h2 := Nat.pow_le_pow_right (n := B) (by omega) (show k ≤ (ofN B n).length - 1 by omega)
    omega
  · exact hk
def capL : Nat := 100000
def Sm (n : Nat) : Prop := n < B32 ^ capL
theorem capL_le : capL ≤ 100000 := Nat.le_refl _
theorem Sm.len {n : Nat} (h : Sm n) : (ofN B32 n).length ≤ 100000 := by
  unfold Sm at h
  exact Nat.le_trans (ofN_len B32_2 h) capL_le
theorem pow_base {n : Nat} : B32 ^ n = 2 ^ (32 * n) := by rw [show B32 = 2 ^ 32 from rfl, ← Nat.pow_mul]
theorem Sm.of {n k : Nat} (h : n < 2 ^ k) (hk : k ≤ 3200000) : Sm n := by
  unfold Sm
  rw [pow_base]
  exact Nat.lt_of_lt_of_le h (Nat.pow_le_pow_right (by decide) (by unfold capL; omega))
theorem Sm.mono {n m : Nat} (h : Sm m) (hn : n ≤ m) : Sm n := Nat.lt_of_le_of_lt hn h
theorem wsi {x : Int} (h : -9223372036854775808 ≤ x ∧ x ≤ 9223372036854775807) : IntKind.i64.wrap x = x := wrap_i64 h
structure Wd (h l : Int) (x : Nat) : Prop where
  hi : h = hiI x
  lo : l = loI x
def prtV (u : Prt) : Value := .agg #[.int .i64 u.1, .bool u.2.1, .int .u64 u.2.2.1, .int .u64 u.2.2.2.1, .int .i64 u.2.2.2.2]
abbrev dscV (P : Nat) (emin emax : Int) (W E : Nat) (ex : Bool) : Value := .agg #[.int .i64 P, .int .i64 emin, .int .i64 emax, .int .i64 W, .int .i64 E, .bool ex]
section
theorem ct_spec_l1Of (a : Int) (n : Nat) (ha : Nn a n) (hn : n < 18446744073709551616) : CtR Tryd.prog 65 [.int .u64 a] [] .u64 (ofN B32 n) := by
  obtain ⟨d, m, v⟩ := ofN_spec B32_2 n
  exact ct_spec_l1Of_rows a n ha hn _ d m v
theorem ct_spec_l1Bits (x : Nat) (A : Option Addr) (c : Nat) (hx : Sm x) (m : Nat) (hm : IsBits x m) : CtV Tryd.prog 51 [.slice A (ofN B32 x).length c] [Row .u64 A c (ofN B32 x)] (.int .i64 m) := by
  obtain ⟨d, n, v⟩ := ofN_spec B32_2 x
  have hl := hx.len
  exact ct_spec_l1Bits_rows _ A c d n (by omega) m (by rw [v]; exact hm)
theorem ct_spec_l1Bit (x : Nat) (A : Option Addr) (c : Nat) (a : Int) (i : Nat) (ha : Nn a i) (hi : i ≤ 100000000000) (hx : Sm x) : CtV Tryd.prog 53 [.slice A (ofN B32 x).length c, .int .i64 a] [Row .u64 A c (ofN B32 x)] (.int .u64 ((x / 2 ^ i % 2 : Nat) : Int)) := by
  obtain ⟨d, n, v⟩ := ofN_spec B32_2 x
  have hl := hx.len
  have := ct_spec_l1Bit_rows _ A c d (by omega) a i ha hi
  rwa [v] at this
theorem ct_spec_l1Left (x : Nat) (A : Option Addr) (c : Nat) (a : Int) (i : Nat) (ha : Nn a i) (hi : i ≤ 100000000000) (hx : Sm x) : CtR Tryd.prog 64 [.slice A (ofN B32 x).length c, .int .i64 a] [Row .u64 A c (ofN B32 x)] .u64 (ofN B32 (x * 2 ^ i)) := by
  obtain ⟨d, n, v⟩ := ofN_spec B32_2 x
  obtain ⟨d2, n2, v2⟩ := ofN_spec B32_2 (x * 2 ^ i)
  have hl := hx.len
  exact ct_spec_l1Left_rows _ A c d (by omega) a i ha hi _ d2 n2 (by rw [v2, v])
theorem ct_spec_l1Right (x : Nat) (A : Option Addr) (c : Nat) (a : Int) (i : Nat) (ha : Nn a i) (hi : i ≤ 100000000000) (hx : Sm x) : CtR Tryd.prog 99 [.slice A (ofN B32 x).length c, .int .i64 a] [Row .u64 A c (ofN B32 x)] .u64 (ofN B32 (x / 2 ^ i)) := by
  obtain ⟨d, n, v⟩ := ofN_spec B32_2 x
  obtain ⟨d2, n2, v2⟩ := ofN_spec B32_2 (x / 2 ^ i)
  have hl := hx.len
  exact ct_spec_l1Right_rows _ A c d (by omega) a i ha hi _ d2 n2 (by rw [v2, v])
theorem ct_spec_l1Add (x y : Nat) (A A' : Option Addr) (c c' : Nat) (hx : Sm x) (hy : Sm y) : CtR Tryd.prog 55 [.slice A (ofN B32 x).length c, .slice A' (ofN B32 y).length c'] [Row .u64 A c (ofN B32 x), Row .u64 A' c' (ofN B32 y)] .u64 (ofN B32 (x + y)) := by
  obtain ⟨d, n, v⟩ := ofN_spec B32_2 x
  obtain ⟨d', n', v'⟩ := ofN_spec B32_2 y
  obtain ⟨d2, n2, v2⟩ := ofN_spec B32_2 (x + y)
  have hl := hx.len
  have hl' := hy.len
  exact ct_spec_l1Add_rows _ _ A A' c c' d d' (by omega) (by omega) _ d2 n2 (by rw [v2, v, v'])
theorem ct_spec_l1Sub (x y : Nat) (A A' : Option Addr) (c c' : Nat) (hx : Sm x) (hy : y ≤ x) : CtR Tryd.prog 66 [.slice A (ofN B32 x).length c, .slice A' (ofN B32 y).length c'] [Row .u64 A c (ofN B32 x), Row .u64 A' c' (ofN B32 y)] .u64 (ofN B32 (x - y)) := by
  obtain ⟨d, n, v⟩ := ofN_spec B32_2 x
  obtain ⟨d', n', v'⟩ := ofN_spec B32_2 y
  obtain ⟨d2, n2, v2⟩ := ofN_spec B32_2 (x - y)
  have hl := hx.len
  have hl' := (hx.mono hy).len
  exact ct_spec_l1Sub_rows _ _ A A' c c' d d' (by omega) (by omega) _ d2 n2 (by rw [v2, v, v']; omega)
end
end Go.Proofs.YtodhmbbiifhiaaaDoor.M
end
section
namespace Go.Proofs.YtodhmbbiifhiaaaDoor.M
open Go.RowKit Go.Proofs.YtodhmbbiifhiaaaDoor.G Go.Proofs.YtodhmbbiifhiaaaDoorV.PrintWords Go.Proofs.YtodhmbbiifhiaaaDoorV.PrintLast Go.Proofs.YtodhmbbiifhiaaaDoor.X
set_option linter.unusedVariables false
set_option linter.unusedSimpArgs false
theorem two_val {x : Nat} (hx : x < B128) : Dig B64 [loI x, hiI x] ∧ val B64 [loI x, hiI x] = x := by
 have h1 := hi_lt hx
 have h2 := lo_lt x
 refine ⟨Dig.cons (by unfold loI B64; omega) (Dig.cons (by unfold hiI B64; omega) (Dig.nil _)), ?_⟩
 rw [val_cons, val_one]
 unfold hiI loI B64
 rw [Int.toNat_natCast, Int.toNat_natCast]
 omega
theorem ct_spec_l2Of (x : Nat) (hx : x < B128) : CtR Tryd.prog 50 [.agg #[.int .u64 (hiI x), .int .u64 (loI x)]] [] .u64 (ofN B32 x) := by
 refine ct_of Tryd.func50 rfl (by kernel_rfl) (fun B w0 => ?_)
 obtain ⟨d, v⟩ := two_val hx
 obtain ⟨d2, n2, v2⟩ := ofN_spec B32_2 x
 refine xg ?_
 refine xb 1 [.int .u64 (hiI x), .int .u64 (loI x)] 25 (fun g0 => ?_)
 refine xz [] [(2, .slice none 0 0)] ?_
 refine xg ?_
 refine xn 4 [(1, [0]), (3, [0])] [(6, .int .u64 (hiI x)), (4, .int .u64 (loI x))] ?_
 refine xbl 7 [.int .u64 (loI x), .int .u64 (hiI x)] 23 2 (fun g1 => ?_)
 refine NW_fz 1 2 g1 .u64 [loI x, hiI x] [] 23 (by simp) (by simp) ?_
 have ct : CtR Tryd.prog 70 [.slice (some ⟨g1, 0, none⟩) 2 2] [Row .u64 (some ⟨g1, 0, none⟩) 2 [loI x, hiI x]] .u64 (ofN B32 x) := ct_spec_l1In_rows [loI x, hiI x] _ 2 d (by simp) _ d2 n2 (by rw [v2, v])
 refine xcr 8 ct (zsS zi0 zs0) (fun A0 k0 => ?_)
 refine xz [] [(2, .slice A0 (List.length (ofN B32 x)) k0)] ?_
 refine SW_ret ?_
 refine xe (A0, k0) (.slice A0 (List.length (ofN B32 x)) k0) [] ?_ (zsS zi0 zs0)
 rfl
theorem ct_spec_l2Two (a : Int) (i : Nat) (ha : Nn a i) (hi : i ≤ 100000) : CtR Tryd.prog 56 [.int .i64 a] [] .u64 (ofN B32 (2 ^ i)) := by
 obtain ⟨rfl⟩ := ha
 refine ct_of Tryd.func56 rfl (by kernel_rfl) (fun B w0 => ?_)
 have h1 : Sm 1 := Sm.of (k := 1) (by decide) (by decide)
 rw [← Nat.one_mul (2 ^ i)]
 refine xr [] [(2, .slice none 0 0)] ?_
 refine xg ?_
 refine xcr 3 (ct_spec_l1Of (1) (1) ⟨rfl⟩ (by omega)) zs0 (fun A0 k0 => ?_)
 refine xn 2 [] [(4, .int .i64 (i : Int))] ?_
 refine xcr 5 (ct_spec_l1Left (1) (A0) (k0) ((i : Int)) (i) ⟨rfl⟩ (by omega) h1) (zsS zi0 zs0) (fun A1 k1 => ?_)
 refine xz [] [(2, .slice A1 (List.length (ofN B32 (1 * 2 ^ i))) k1)] ?_
 refine SW_ret ?_
 refine xe (A1, k1) (.slice A1 (List.length (ofN B32 (1 * 2 ^ i))) k1) [] ?_ (zsS zi0 zs0)
 rfl
theorem ct_spec_l2Low (x : Nat) (A : Option Addr) (c : Nat) (a : Int) (i : Nat) (ha : Nn a i) (hi : i ≤ 100000) (hx : Sm x) : CtR Tryd.prog 52 [.slice A (ofN B32 x).length c, .int .i64 a] [Row .u64 A c (ofN B32 x)] .u64 (ofN B32 (x % 2 ^ i)) := by
 obtain ⟨rfl⟩ := ha
 refine ct_of Tryd.func52 rfl (by kernel_rfl) (fun B w0 => ?_)
 have h1 : Sm (x / 2 ^ i) := hx.mono (Nat.div_le_self _ _)
 have h2 : x / 2 ^ i * 2 ^ i ≤ x := Nat.div_mul_le_self _ _
 have h3 : x - x / 2 ^ i * 2 ^ i = x % 2 ^ i := by have := Nat.div_add_mod x (2 ^ i); rw [Nat.mul_comm] at this; omega
 rw [← h3]
 refine xr [] [(4, .slice none 0 0)] ?_
 refine xg ?_
 refine xn 3 [] [(7, .int .i64 (i : Int)), (6, .slice A (List.length (ofN B32 x)) c), (5, .slice A (List.length (ofN B32 x)) c)] ?_
 refine xcr 8 (ct_spec_l1Right (x) (A) (c) ((i : Int)) (i) ⟨rfl⟩ (by omega) hx) (zsS zi0 zs0) (fun A0 k0 => ?_)
 refine xn 5 [] [(9, .int .i64 (i : Int))] ?_
 refine xcr 10 (ct_spec_l1Left (x / 2 ^ i) (A0) (k0) ((i : Int)) (i) ⟨rfl⟩ (by omega) h1) (zsS zi0 zs0) (fun A1 k1 => ?_)
 refine xcr 11 (ct_spec_l1Sub (x) (x / 2 ^ i * 2 ^ i) (A) (A1) (c) (k1) hx h2) (zsS (ziS (ziS zi0)) (zsS zi0 zs0)) (fun A2 k2 => ?_)
 refine xz [] [(4, .slice A2 (List.length (ofN B32 (x - x / 2 ^ i * 2 ^ i))) k2)] ?_
 refine SW_ret ?_
 refine xe (A2, k2) (.slice A2 (List.length (ofN B32 (x - x / 2 ^ i * 2 ^ i))) k2) [] ?_ (zsS zi0 zs0)
 rfl
theorem ct_spec_l2Word (x : Nat) (A : Option Addr) (c : Nat) (hx : x < B128) : CtV Tryd.prog 54 [.slice A (ofN B32 x).length c] [Row .u64 A c (ofN B32 x)] (.agg #[.int .u64 (hiI x), .int .u64 (loI x)]) := by
 refine ct_of Tryd.func54 rfl (by kernel_rfl) (fun B w0 => ?_)
 obtain ⟨d, n, v⟩ := ofN_spec B32_2 x
 obtain ⟨d2, n2, v2⟩ := ofN_spec B64_2 x
 have hl : (ofN B32 x).length ≤ 4 := ofN_len B32_2 (show x < B32 ^ 4 from hx)
 have ct := ct_spec_l1Out_own _ A c d n (by omega) _ d2 n2 (by rw [v2, v])
 have hl2 : (ofN B64 x).length ≤ 2 := ofN_len B64_2 hx
 obtain ⟨t1, t2, t3⟩ := two_digits (ofN B64 x) d2 hl2
 rw [v2] at t1 t2
 generalize ofN B64 x = y at *
 have w1 : Ve (rd (y ++ [0, 0]) ((1 : Nat) : Int)) (hiI x) := ⟨t2⟩
 have w0' : Ve (rd (y ++ [0, 0]) ((0 : Nat) : Int)) (loI x) := ⟨t1⟩
 have ly : 2 ≤ (y ++ [0, 0]).length := by simp
 refine xg ?_
 refine xb 2 [.int .u64 0, .int .u64 0] 25 (fun g0 => ?_)
 refine xz [] [] ?_
 refine xg ?_
 refine xn 1 [] [(4, .slice A (List.length (ofN B32 x)) c)] ?_
 refine xcu 5 ct (zsS zi0 zs0) (fun sl0 bs0 hO0 => ?_)
 refine xbl 6 [.int .u64 0, .int .u64 0] 23 2 (fun g1 => ?_)
 refine xow2 7 8 (g1) (2) [0, 0] hO0 (by first | omega | (simp <;> omega)) (fun sl1 bs1 hO1 => ?_)
 refine xz [] [(3, sl1)] ?_
 refine xd (fun hB => ?_)
 refine xdk [(0, []), (3, [])] [(11, sl1), (8, sl1)] hB ?_
 rcases hO1 with ⟨rfl, h1, rfl⟩ | ⟨g, r', c', hc, rfl, rfl⟩
 ·rw [h1] at ly
  exact absurd ly (by decide)
 ·refine xdoi 1 hB 9 23 (g) (List.length (y ++ [0, 0])) (c') 1 IntKind.i64 (1) ⟨rfl⟩ (by omega) ?_
  refine xdole 2 hB 10 1 (g) (1) IntKind.u64 (y ++ [0, 0]) (r') 23 (hiI x) w1 (by first | omega | (simp <;> omega)) ?_
  refine xdoi 4 hB 12 23 (g) (List.length (y ++ [0, 0])) (c') 0 IntKind.i64 (0) ⟨rfl⟩ (by omega) ?_
  refine xdole 5 hB 13 1 (g) (0) IntKind.u64 (y ++ [0, 0]) (r') 23 (loI x) w0' (by first | omega | (simp <;> omega)) ?_
  refine xdk [(6, [])] [(14, .agg #[.int .u64 (hiI x), .int .u64 (loI x)])] hB ?_
  refine xds 7 [0] [(0, [.int .u64 (hiI x), .int .u64 (loI x)])] ?_
  refine xdz ?_
  refine SW_ret ?_
  refine xe () (.agg #[.int .u64 (hiI x), .int .u64 (loI x)]) [0] ?_ trivial
  rfl
end Go.Proofs.YtodhmbbiifhiaaaDoor.M
end
section
namespace Go.Proofs.YtodhmbbiifhiaaaDoor.M
open Go.RowKit Go.Proofs.YtodhmbbiifhiaaaDoor.G Go.Proofs.YtodhmbbiifhiaaaDoorV.PrintWords Go.Proofs.YtodhmbbiifhiaaaDoorV.PrintLast Go.Proofs.YtodhmbbiifhiaaaDoor.X
set_option linter.unusedVariables false
set_option linter.unusedSimpArgs false
theorem ct_impl_one (a : Int) (i : Nat) (ha : Nn a i) (hi : i < 128) : CtV Tryd.prog 48 [.int .i64 a] [] (.agg #[.int .u64 (hiI (2 ^ i)), .int .u64 (loI (2 ^ i))]) := by
 obtain ⟨rfl⟩ := ha
 refine ct_of Tryd.func48 rfl (by kernel_rfl) (fun B w0 => ?_)
 have hs : ∀ p : Nat, p < 64 → Ve (shl .u64 1 (p : Int)) ((2 ^ p : Nat) : Int) := fun p hp => ⟨by
  have h := shl_nat 1 p (by omega)
  rw [Nat.one_mul, Nat.mod_eq_of_lt (Nat.pow_lt_pow_right (by decide) hp : 2 ^ p < 2 ^ 64)] at h
  exact h⟩
 by_cases h : 64 ≤ i
 ·have z : decide ((i : Int) ≥ 64) = true := decide_eq_true (by omega)
  have v1 : Ve (IntKind.i64.wrap ((i : Int) - 64)) ((i - 64 : Nat) : Int) := veI (by omega) (by omega)
  have v2 := hs (i - 64) (by omega)
  have e : 2 ^ i = 2 ^ (i - 64) * 18446744073709551616 := by rw [show (18446744073709551616 : Nat) = 2 ^ 64 from rfl, ← Nat.pow_add]; congr 1; omega
  have e1 : hiI (2 ^ i) = ((2 ^ (i - 64) : Nat) : Int) := by unfold hiI; rw [e, Nat.mul_div_cancel _ (by decide)]
  have e2 : loI (2 ^ i) = 0 := by unfold loI; rw [e, Nat.mul_mod_left]; rfl
  rw [e1, e2]
  refine xg ?_
  refine xb 2 [.int .u64 0, .int .u64 0] 25 (fun g0 => ?_)
  refine xz [] [] ?_
  refine SW_seq ?_
  refine xr [] [(4, .bool (decide ((i : Int) ≥ 64)))] ?_
  refine xst z ?_
  refine xg ?_
  refine xn 1 [] [(5, .int .i64 (i : Int))] ?_
  refine xve 6 IntKind.i64 (IntKind.wrap IntKind.i64 ((i : Int) - 64)) ((((i - 64) : Nat) : Int)) v1 ?_
  refine xve 7 IntKind.u64 (shl IntKind.u64 1 (((i - 64) : Nat) : Int)) ((((2 ^ (i - 64)) : Nat) : Int)) v2 ?_
  refine xy [(4, [0])] [] [(0, [.int .u64 (((2 ^ (i - 64)) : Nat) : Int), .int .u64 0])] ?_
  refine SW_ret ?_
  refine xe () (.agg #[.int .u64 (((2 ^ (i - 64)) : Nat) : Int), .int .u64 0]) [0] ?_ trivial
  rfl
 ·have z : decide ((i : Int) ≥ 64) = false := decide_eq_false (by omega)
  have v2 := hs i (by omega)
  have hlt : 2 ^ i < 18446744073709551616 := (Nat.pow_lt_pow_right (by decide) (by omega) : 2 ^ i < 2 ^ 64)
  have e1 : hiI (2 ^ i) = 0 := by unfold hiI; rw [Nat.div_eq_of_lt hlt]; rfl
  have e2 : loI (2 ^ i) = ((2 ^ i : Nat) : Int) := by unfold loI; rw [Nat.mod_eq_of_lt hlt]
  rw [e1, e2]
  refine xg ?_
  refine xb 2 [.int .u64 0, .int .u64 0] 25 (fun g0 => ?_)
  refine xz [] [] ?_
  refine SW_seq ?_
  refine xr [] [(4, .bool (decide ((i : Int) ≥ 64)))] ?_
  refine xsf z ?_
  refine SW_skip ?_
  refine xg ?_
  refine xn 1 [] [(9, .int .i64 (i : Int))] ?_
  refine xve 10 IntKind.u64 (shl IntKind.u64 1 (i : Int)) ((((2 ^ i) : Nat) : Int)) v2 ?_
  refine xy [(3, [0])] [] [(0, [.int .u64 0, .int .u64 (((2 ^ i) : Nat) : Int)])] ?_
  refine SW_ret ?_
  refine xe () (.agg #[.int .u64 0, .int .u64 (((2 ^ i) : Nat) : Int)]) [0] ?_ trivial
  rfl
theorem ct_impl_Word_right (x : Nat) (a : Int) (i : Nat) (ha : Nn a i) (hi : i ≤ 1000) (hx : x < B128) : CtV Tryd.prog 42 [.agg #[.int .u64 (hiI x), .int .u64 (loI x)], .int .i64 a] [] (.agg #[.int .u64 (hiI (x / 2 ^ i)), .int .u64 (loI (x / 2 ^ i))]) := by
 obtain ⟨rfl⟩ := ha
 refine ct_of Tryd.func42 rfl (by kernel_rfl) (fun B w0 => ?_)
 have h1 := hi_lt hx
 have h2 := lo_lt x
 by_cases c0 : i = 0
 ·subst c0
  rw [Nat.pow_zero, Nat.div_one]
  refine xg ?_
  refine xb 2 [.int .u64 (hiI x), .int .u64 (loI x)] 25 (fun g0 => ?_)
  refine xb 4 [.int .u64 0, .int .u64 0] 25 (fun g1 => ?_)
  refine xz [] [] ?_
  refine SW_seq ?_
  refine SW_block ?_
  refine xr [] [(5, .bool true)] ?_
  refine xs1 ?_
  refine xq [(0, [0]), (1, [1])] [] [(1, [.int .u64 (hiI x), .int .u64 (loI x)])] ?_
  refine SW_ret ?_
  refine xe () (.agg #[.int .u64 (hiI x), .int .u64 (loI x)]) [1] ?_ trivial
  rfl
 ·have z0 : ((i : Int) == 0) = false := by rw [beq_eq_false_iff_ne]; omega
  by_cases c1 : 128 ≤ i
  ·have z1 : decide ((i : Int) ≥ 128) = true := decide_eq_true (by omega)
   have e : x / 2 ^ i = 0 := Nat.div_eq_of_lt (Nat.lt_of_lt_of_le hx (by have : 2 ^ 128 ≤ 2 ^ i := Nat.pow_le_pow_right (by decide) c1; exact this))
   rw [e]
   refine xg ?_
   refine xb 2 [.int .u64 (hiI x), .int .u64 (loI x)] 25 (fun g0 => ?_)
   refine xb 4 [.int .u64 0, .int .u64 0] 25 (fun g1 => ?_)
   refine xz [] [] ?_
   refine SW_seq ?_
   refine SW_block ?_
   refine xr [] [(5, .bool ((i : Int) == 0))] ?_
   refine xsf z0 ?_
   refine xr [] [(9, .bool (decide ((i : Int) ≥ 128)))] ?_
   refine xst z1 ?_
   refine xq [(1, [1])] [] [] ?_
   refine SW_ret ?_
   refine xe () (.agg #[.int .u64 0, .int .u64 0]) [1] ?_ trivial
   rfl
  ·have z1 : decide ((i : Int) ≥ 128) = false := decide_eq_false (by omega)
   by_cases c2 : 64 ≤ i
   ·have z2 : decide ((i : Int) ≥ 64) = true := decide_eq_true (by omega)
    have v1 : Ve (IntKind.i64.wrap ((i : Int) - 64)) ((i - 64 : Nat) : Int) := veI (by omega) (by omega)
    have v2 : Ve (shf .u64 (hiI x) ((i - 64 : Nat) : Int)) ((x / 18446744073709551616 / 2 ^ (i - 64) : Nat) : Int) := ⟨shf_nat _ _ (by omega)⟩
    have e : x / 2 ^ i = x / 18446744073709551616 / 2 ^ (i - 64) := by rw [Nat.div_div_eq_div_mul, show (18446744073709551616 : Nat) = 2 ^ 64 from rfl, ← Nat.pow_add]; congr 2; omega
    have hlt : x / 18446744073709551616 / 2 ^ (i - 64) < 18446744073709551616 := Nat.lt_of_le_of_lt (Nat.div_le_self _ _) h1
    have e1 : hiI (x / 2 ^ i) = 0 := by unfold hiI; rw [e, Nat.div_eq_of_lt hlt]; rfl
    have e2 : loI (x / 2 ^ i) = ((x / 18446744073709551616 / 2 ^ (i - 64) : Nat) : Int) := by unfold loI; rw [e, Nat.mod_eq_of_lt hlt]
    rw [e1, e2]
    refine xg ?_
    refine xb 2 [.int .u64 (hiI x), .int .u64 (loI x)] 25 (fun g0 => ?_)
    refine xb 4 [.int .u64 0, .int .u64 0] 25 (fun g1 => ?_)
    refine xz [] [] ?_
    refine SW_seq ?_
    refine SW_block ?_
    refine xr [] [(5, .bool ((i : Int) == 0))] ?_
    refine xsf z0 ?_
    refine xr [] [(9, .bool (decide ((i : Int) ≥ 128)))] ?_
    refine xsf z1 ?_
    refine xr [] [(13, .bool (decide ((i : Int) ≥ 64)))] ?_
    refine xst z2 ?_
    refine xg ?_
    refine xn 3 [(1, [0])] [(18, .int .i64 (i : Int)), (17, .int .u64 (hiI x))] ?_
    refine xve 19 IntKind.i64 (IntKind.wrap IntKind.i64 ((i : Int) - 64)) ((((i - 64) : Nat) : Int)) v1 ?_
    refine xve 20 IntKind.u64 (shf IntKind.u64 (hiI x) (((i - 64) : Nat) : Int)) ((((x / 18446744073709551616 / 2 ^ (i - 64)) : Nat) : Int)) v2 ?_
    refine xy [(6, [1])] [] [(1, [.int .u64 0, .int .u64 (((x / 18446744073709551616 / 2 ^ (i - 64)) : Nat) : Int)])] ?_
    refine SW_ret ?_
    refine xe () (.agg #[.int .u64 0, .int .u64 (((x / 18446744073709551616 / 2 ^ (i - 64)) : Nat) : Int)]) [1] ?_ trivial
    rfl
   ·have z2 : decide ((i : Int) ≥ 64) = false := decide_eq_false (by omega)
    have hn : i < 64 := by omega
    obtain ⟨s1, s2⟩ := split_div x i hn
    have v1 : Ve (IntKind.i64.wrap (64 - (i : Int))) ((64 - i : Nat) : Int) := veI (by omega) (by omega)
    have v2 : Ve (shf .u64 (hiI x) (i : Int)) ((x / 18446744073709551616 / 2 ^ i : Nat) : Int) := ⟨shf_nat _ _ (by omega)⟩
    have v3 : Ve (shf .u64 (loI x) (i : Int)) ((x % 18446744073709551616 / 2 ^ i : Nat) : Int) := ⟨shf_nat _ _ (by omega)⟩
    have v4 : Ve (shl .u64 (hiI x) ((64 - i : Nat) : Int)) ((x / 18446744073709551616 * 2 ^ (64 - i) % 18446744073709551616 : Nat) : Int) := ⟨shl_nat _ _ (by omega)⟩
    have hl : x % 18446744073709551616 / 2 ^ i < 2 ^ (64 - i) := by rw [Nat.div_lt_iff_lt_mul (Nat.pow_pos (by decide)), ← Nat.pow_add, show 64 - i + i = 64 by omega]; exact h2
    have hd : 2 ^ (64 - i) ∣ x / 18446744073709551616 * 2 ^ (64 - i) % 18446744073709551616 := by
     rw [show (18446744073709551616 : Nat) = 2 ^ i * 2 ^ (64 - i) by rw [← Nat.pow_add, show i + (64 - i) = 64 by omega], Nat.mul_mod_mul_right]
     exact Nat.dvd_mul_left _ _
    have v5 : Ve (bits .or .u64 ((x % 18446744073709551616 / 2 ^ i : Nat) : Int) ((x / 18446744073709551616 * 2 ^ (64 - i) % 18446744073709551616 : Nat) : Int)) (loI (x / 2 ^ i)) := ⟨by
     rw [or_nat' (64 - i) _ _ (by omega) (Nat.mod_lt _ (by decide)) hd hl]
     unfold loI
     rw [s2]⟩
    have e1 : hiI (x / 2 ^ i) = ((x / 18446744073709551616 / 2 ^ i : Nat) : Int) := by unfold hiI; rw [s1]
    rw [e1]
    refine xg ?_
    refine xb 2 [.int .u64 (hiI x), .int .u64 (loI x)] 25 (fun g0 => ?_)
    refine xb 4 [.int .u64 0, .int .u64 0] 25 (fun g1 => ?_)
    refine xz [] [] ?_
    refine SW_seq ?_
    refine SW_block ?_
    refine xr [] [(5, .bool ((i : Int) == 0))] ?_
    refine xsf z0 ?_
    refine xr [] [(9, .bool (decide ((i : Int) ≥ 128)))] ?_
    refine xsf z1 ?_
    refine xr [] [(13, .bool (decide ((i : Int) ≥ 64)))] ?_
    refine xsf z2 ?_
    refine SW_skip ?_
    refine xd (fun hB => ?_)
    refine xdk [(0, []), (1, [0]), (2, []), (4, []), (5, [0]), (6, []), (8, []), (9, [0]), (10, [])] [(32, .int .i64 (i : Int)), (31, .int .u64 (hiI x)), (28, .int .i64 (i : Int)), (27, .int .u64 (loI x)), (24, .int .i64 (i : Int)), (23, .int .u64 (hiI x))] hB ?_
    refine xdve 3 hB 25 IntKind.u64 (shf IntKind.u64 (hiI x) (i : Int)) ((((x / 18446744073709551616 / 2 ^ i) : Nat) : Int)) v2 ?_
    refine xdve 7 hB 29 IntKind.u64 (shf IntKind.u64 (loI x) (i : Int)) ((((x % 18446744073709551616 / 2 ^ i) : Nat) : Int)) v3 ?_
    refine xdve 11 hB 33 IntKind.i64 (IntKind.wrap IntKind.i64 (64 - (i : Int))) ((((64 - i) : Nat) : Int)) v1 ?_
    refine xdve 12 hB 34 IntKind.u64 (shl IntKind.u64 (hiI x) (((64 - i) : Nat) : Int)) ((((x / 18446744073709551616 * 2 ^ (64 - i) % 18446744073709551616) : Nat) : Int)) v4 ?_
    refine xdve 13 hB 35 IntKind.u64 (bits BinOp.or IntKind.u64 (((x % 18446744073709551616 / 2 ^ i) : Nat) : Int) (((x / 18446744073709551616 * 2 ^ (64 - i) % 18446744073709551616) : Nat) : Int)) (loI (x / 2 ^ i)) v5 ?_
    refine xdk [(14, [])] [(36, .agg #[.int .u64 (((x / 18446744073709551616 / 2 ^ i) : Nat) : Int), .int .u64 (loI (x / 2 ^ i))])] hB ?_
    refine xds 15 [1] [(1, [.int .u64 (((x / 18446744073709551616 / 2 ^ i) : Nat) : Int), .int .u64 (loI (x / 2 ^ i))])] ?_
    refine xdz ?_
    refine SW_ret ?_
    refine xe () (.agg #[.int .u64 (((x / 18446744073709551616 / 2 ^ i) : Nat) : Int), .int .u64 (loI (x / 2 ^ i))]) [1] ?_ trivial
    rfl
end Go.Proofs.YtodhmbbiifhiaaaDoor.M
end
section
namespace Go.Proofs.YtodhmbbiifhiaaaDoor.M
open Go.RowKit Go.Proofs.YtodhmbbiifhiaaaDoor.G Go.Proofs.YtodhmbbiifhiaaaDoorV.PrintWords Go.Proofs.YtodhmbbiifhiaaaDoorV.PrintLast Go.Proofs.YtodhmbbiifhiaaaDoor.X
set_option linter.unusedVariables false
set_option linter.unusedSimpArgs false
theorem ct_impl_Word_left (h l : Int) (x : Nat) (hw : Wd h l x) (a : Int) (i : Nat) (ha : Nn a i) (hi : i < 128) (hx : x < B128) : CtV Tryd.prog 57 [.agg #[.int .u64 h, .int .u64 l], .int .i64 a] [] (.agg #[.int .u64 (hiI (x * 2 ^ i % B128)), .int .u64 (loI (x * 2 ^ i % B128))]) := by
 obtain ⟨rfl⟩ := ha
 obtain ⟨rfl, rfl⟩ := hw
 refine ct_of Tryd.func57 rfl (by kernel_rfl) (fun B w0 => ?_)
 have h1 := hi_lt hx
 have h2 := lo_lt x
 by_cases c0 : i = 0
 ·subst c0
  rw [Nat.pow_zero, Nat.mul_one, Nat.mod_eq_of_lt hx]
  refine xg ?_
  refine xb 2 [.int .u64 (hiI x), .int .u64 (loI x)] 25 (fun g0 => ?_)
  refine xb 4 [.int .u64 0, .int .u64 0] 25 (fun g1 => ?_)
  refine xz [] [] ?_
  refine SW_seq ?_
  refine SW_block ?_
  refine xr [] [(5, .bool true)] ?_
  refine xs1 ?_
  refine xq [(0, [0]), (1, [1])] [] [(1, [.int .u64 (hiI x), .int .u64 (loI x)])] ?_
  refine SW_ret ?_
  refine xe () (.agg #[.int .u64 (hiI x), .int .u64 (loI x)]) [1] ?_ trivial
  rfl
 ·have z0 : ((i : Int) == 0) = false := by rw [beq_eq_false_iff_ne]; omega
  by_cases c2 : 64 ≤ i
  ·have z2 : decide ((i : Int) ≥ 64) = true := decide_eq_true (by omega)
   have v1 : Ve (IntKind.i64.wrap ((i : Int) - 64)) ((i - 64 : Nat) : Int) := veI (by omega) (by omega)
   have v2 : Ve (shl .u64 (loI x) ((i - 64 : Nat) : Int)) ((x % 18446744073709551616 * 2 ^ (i - 64) % 18446744073709551616 : Nat) : Int) := ⟨shl_nat _ _ (by omega)⟩
   have e1 : x * 2 ^ i % B128 = (x % 18446744073709551616 * 2 ^ (i - 64) % 18446744073709551616) * 18446744073709551616 := by
    have e2 : 2 ^ i = 2 ^ (i - 64) * 18446744073709551616 := by rw [pow64, ← Nat.pow_add, show i - 64 + 64 = i by omega]
    rw [e2, ← Nat.mul_assoc, show B128 = 18446744073709551616 * 18446744073709551616 from rfl, Nat.mul_mod_mul_right]
    congr 1
    rw [Nat.mul_mod (x % 18446744073709551616), Nat.mod_mod, ← Nat.mul_mod]
   have e2 : hiI (x * 2 ^ i % B128) = ((x % 18446744073709551616 * 2 ^ (i - 64) % 18446744073709551616 : Nat) : Int) := by unfold hiI; rw [e1, Nat.mul_div_cancel _ (by decide)]
   have e3 : loI (x * 2 ^ i % B128) = 0 := by unfold loI; rw [e1, Nat.mul_mod_left]; rfl
   rw [e2, e3]
   refine xg ?_
   refine xb 2 [.int .u64 (hiI x), .int .u64 (loI x)] 25 (fun g0 => ?_)
   refine xb 4 [.int .u64 0, .int .u64 0] 25 (fun g1 => ?_)
   refine xz [] [] ?_
   refine SW_seq ?_
   refine SW_block ?_
   refine xr [] [(5, .bool ((i : Int) == 0))] ?_
   refine xsf z0 ?_
   refine xr [] [(9, .bool (decide ((i : Int) ≥ 64)))] ?_
   refine xst z2 ?_
   refine xg ?_
   refine xn 3 [(1, [0])] [(14, .int .i64 (i : Int)), (13, .int .u64 (loI x))] ?_
   refine xve 15 IntKind.i64 (IntKind.wrap IntKind.i64 ((i : Int) - 64)) ((((i - 64) : Nat) : Int)) v1 ?_
   refine xve 16 IntKind.u64 (shl IntKind.u64 (loI x) (((i - 64) : Nat) : Int)) ((((x % 18446744073709551616 * 2 ^ (i - 64) % 18446744073709551616) : Nat) : Int)) v2 ?_
   refine xy [(6, [1])] [] [(1, [.int .u64 (((x % 18446744073709551616 * 2 ^ (i - 64) % 18446744073709551616) : Nat) : Int), .int .u64 0])] ?_
   refine SW_ret ?_
   refine xe () (.agg #[.int .u64 (((x % 18446744073709551616 * 2 ^ (i - 64) % 18446744073709551616) : Nat) : Int), .int .u64 0]) [1] ?_ trivial
   rfl
  ·have z2 : decide ((i : Int) ≥ 64) = false := decide_eq_false (by omega)
   obtain ⟨s1, s2⟩ := mul_split x i (by omega)
   have e64 : (18446744073709551616 : Nat) = 2 ^ (64 - i) * 2 ^ i := by rw [← Nat.pow_add, show 64 - i + i = 64 by omega]
   have hl : x % 18446744073709551616 / 2 ^ (64 - i) < 2 ^ i := by rw [Nat.div_lt_iff_lt_mul (Nat.pow_pos (by decide)), Nat.mul_comm, ← e64]; exact lo_lt x
   have hd : 2 ^ i ∣ x / 18446744073709551616 * 2 ^ i % 18446744073709551616 := (Nat.dvd_mod_iff (by rw [e64]; exact Nat.dvd_mul_left _ _)).2 (Nat.dvd_mul_left _ _)
   have v1 : Ve (IntKind.i64.wrap (64 - (i : Int))) ((64 - i : Nat) : Int) := veI (by omega) (by omega)
   have v2 : Ve (shl .u64 (hiI x) (i : Int)) ((x / 18446744073709551616 * 2 ^ i % 18446744073709551616 : Nat) : Int) := ⟨shl_nat _ _ (by omega)⟩
   have v3 : Ve (shf .u64 (loI x) ((64 - i : Nat) : Int)) ((x % 18446744073709551616 / 2 ^ (64 - i) : Nat) : Int) := ⟨shf_nat _ _ (by omega)⟩
   have v4 : Ve (shl .u64 (loI x) (i : Int)) (loI (x * 2 ^ i % B128)) := ⟨by unfold loI; rw [shl_nat _ _ (by omega), s2]⟩
   have v5 : Ve (bits .or .u64 ((x / 18446744073709551616 * 2 ^ i % 18446744073709551616 : Nat) : Int) ((x % 18446744073709551616 / 2 ^ (64 - i) : Nat) : Int)) (hiI (x * 2 ^ i % B128)) := ⟨by
    rw [or_nat i _ _ (by omega) (Nat.mod_lt _ (by decide)) hd hl]
    unfold hiI
    rw [s1]⟩
   refine xg ?_
   refine xb 2 [.int .u64 (hiI x), .int .u64 (loI x)] 25 (fun g0 => ?_)
   refine xb 4 [.int .u64 0, .int .u64 0] 25 (fun g1 => ?_)
   refine xz [] [] ?_
   refine SW_seq ?_
   refine SW_block ?_
   refine xr [] [(5, .bool ((i : Int) == 0))] ?_
   refine xsf z0 ?_
   refine xr [] [(9, .bool (decide ((i : Int) ≥ 64)))] ?_
   refine xsf z2 ?_
   refine SW_skip ?_
   refine xd (fun hB => ?_)
   refine xdk [(0, []), (1, [0]), (2, []), (4, []), (5, [0]), (6, []), (10, []), (11, [0]), (12, [])] [(30, .int .i64 (i : Int)), (29, .int .u64 (loI x)), (24, .int .i64 (i : Int)), (23, .int .u64 (loI x)), (20, .int .i64 (i : Int)), (19, .int .u64 (hiI x))] hB ?_
   refine xdve 3 hB 21 IntKind.u64 (shl IntKind.u64 (hiI x) (i : Int)) ((((x / 18446744073709551616 * 2 ^ i % 18446744073709551616) : Nat) : Int)) v2 ?_
   refine xdve 7 hB 25 IntKind.i64 (IntKind.wrap IntKind.i64 (64 - (i : Int))) ((((64 - i) : Nat) : Int)) v1 ?_
   refine xdve 8 hB 26 IntKind.u64 (shf IntKind.u64 (loI x) (((64 - i) : Nat) : Int)) ((((x % 18446744073709551616 / 2 ^ (64 - i)) : Nat) : Int)) v3 ?_
   refine xdve 9 hB 27 IntKind.u64 (bits BinOp.or IntKind.u64 (((x / 18446744073709551616 * 2 ^ i % 18446744073709551616) : Nat) : Int) (((x % 18446744073709551616 / 2 ^ (64 - i)) : Nat) : Int)) (hiI (x * 2 ^ i % B128)) v5 ?_
   refine xdve 13 hB 31 IntKind.u64 (shl IntKind.u64 (loI x) (i : Int)) (loI (x * 2 ^ i % B128)) v4 ?_
   refine xdk [(14, [])] [(32, .agg #[.int .u64 (hiI (x * 2 ^ i % B128)), .int .u64 (loI (x * 2 ^ i % B128))])] hB ?_
   refine xds 15 [1] [(1, [.int .u64 (hiI (x * 2 ^ i % B128)), .int .u64 (loI (x * 2 ^ i % B128))])] ?_
   refine xdz ?_
   refine SW_ret ?_
   refine xe () (.agg #[.int .u64 (hiI (x * 2 ^ i % B128)), .int .u64 (loI (x * 2 ^ i % B128))]) [1] ?_ trivial
   rfl
theorem or64 (a b : Nat) (ha : a < 18446744073709551616) (hb : b < 18446744073709551616) : bits .or .u64 (a : Int) (b : Int) = ((a ||| b : Nat) : Int) := by
 have hlt : a ||| b < 2 ^ 64 := Nat.or_lt_two_pow ha hb
 show IntKind.u64.wrap ((BitVec.ofInt 64 (a : Int) ||| BitVec.ofInt 64 (b : Int)).toNat : Int) = _
 have e1 : (BitVec.ofInt 64 (a : Int) ||| BitVec.ofInt 64 (b : Int)).toNat = a ||| b := by
  rw [BitVec.toNat_or, BitVec.toNat_ofInt, BitVec.toNat_ofInt]
  congr 1 <;> omega
 rw [e1]
 exact wrap_u64_id ⟨by omega, by have : (a ||| b : Nat) < 18446744073709551616 := hlt; omega⟩
theorem ct_impl_Word_or (h l h' l' : Int) (x y : Nat) (hw : Wd h l x) (hw' : Wd h' l' y) (hx : x < B128) (hy : y < B128) : CtV Tryd.prog 47 [.agg #[.int .u64 h, .int .u64 l], .agg #[.int .u64 h', .int .u64 l']] [] (.agg #[.int .u64 (hiI (x ||| y)), .int .u64 (loI (x ||| y))]) := by
 obtain ⟨rfl, rfl⟩ := hw
 obtain ⟨rfl, rfl⟩ := hw'
 refine ct_of Tryd.func47 rfl (by kernel_rfl) (fun B w0 => ?_)
 have h1 : (x ||| y) / 18446744073709551616 = x / 18446744073709551616 ||| y / 18446744073709551616 := by
  rw [show (18446744073709551616 : Nat) = 2 ^ 64 from rfl, ← Nat.shiftRight_eq_div_pow, ← Nat.shiftRight_eq_div_pow, ← Nat.shiftRight_eq_div_pow, Nat.shiftRight_or_distrib]
 have h2 : (x ||| y) % 18446744073709551616 = x % 18446744073709551616 ||| y % 18446744073709551616 := by
  rw [show (18446744073709551616 : Nat) = 2 ^ 64 from rfl, Nat.or_mod_two_pow]
 have v1 : Ve (bits .or .u64 (hiI x) (hiI y)) (hiI (x ||| y)) := ⟨by unfold hiI; rw [or64 _ _ (hi_lt hx) (hi_lt hy), h1]⟩
 have v2 : Ve (bits .or .u64 (loI x) (loI y)) (loI (x ||| y)) := ⟨by unfold loI; rw [or64 _ _ (lo_lt x) (lo_lt y), h2]⟩
 refine xg ?_
 refine xb 2 [.int .u64 (hiI x), .int .u64 (loI x)] 25 (fun g0 => ?_)
 refine xb 3 [.int .u64 (hiI y), .int .u64 (loI y)] 25 (fun g1 => ?_)
 refine xb 4 [.int .u64 0, .int .u64 0] 25 (fun g2 => ?_)
 refine xz [] [] ?_
 refine xg ?_
 refine xn 4 [(1, [0]), (3, [1])] [(8, .int .u64 (hiI y)), (6, .int .u64 (hiI x))] ?_
 refine xve 9 IntKind.u64 (bits BinOp.or IntKind.u64 (hiI x) (hiI y)) (hiI (x ||| y)) v1 ?_
 refine xn 9 [(6, [0]), (8, [1])] [(13, .int .u64 (loI y)), (11, .int .u64 (loI x))] ?_
 refine xve 14 IntKind.u64 (bits BinOp.or IntKind.u64 (loI x) (loI y)) (loI (x ||| y)) v2 ?_
 refine xy [(11, [2])] [] [(2, [.int .u64 (hiI (x ||| y)), .int .u64 (loI (x ||| y))])] ?_
 refine SW_ret ?_
 refine xe () (.agg #[.int .u64 (hiI (x ||| y)), .int .u64 (loI (x ||| y))]) [2] ?_ trivial
 rfl
theorem ct_impl_Word_without (x y z : Nat) (h1 : Go.bits .andNot .u64 (hiI x) (hiI y) = hiI z) (h2 : Go.bits .andNot .u64 (loI x) (loI y) = loI z) : CtV Tryd.prog 101 [.agg #[.int .u64 (hiI x), .int .u64 (loI x)], .agg #[.int .u64 (hiI y), .int .u64 (loI y)]] [] (.agg #[.int .u64 (hiI z), .int .u64 (loI z)]) := by
 refine ct_of Tryd.func101 rfl (by kernel_rfl) (fun B w0 => ?_)
 have v1 : Ve (Go.bits .andNot .u64 (hiI x) (hiI y)) (hiI z) := ⟨h1⟩
 have v2 : Ve (Go.bits .andNot .u64 (loI x) (loI y)) (loI z) := ⟨h2⟩
 refine xg ?_
 refine xb 2 [.int .u64 (hiI x), .int .u64 (loI x)] 25 (fun g0 => ?_)
 refine xb 3 [.int .u64 (hiI y), .int .u64 (loI y)] 25 (fun g1 => ?_)
 refine xb 4 [.int .u64 0, .int .u64 0] 25 (fun g2 => ?_)
 refine xz [] [] ?_
 refine xg ?_
 refine xn 4 [(1, [0]), (3, [1])] [(8, .int .u64 (hiI y)), (6, .int .u64 (hiI x))] ?_
 refine xve 9 IntKind.u64 (bits BinOp.andNot IntKind.u64 (hiI x) (hiI y)) (hiI z) v1 ?_
 refine xn 9 [(6, [0]), (8, [1])] [(13, .int .u64 (loI y)), (11, .int .u64 (loI x))] ?_
 refine xve 14 IntKind.u64 (bits BinOp.andNot IntKind.u64 (loI x) (loI y)) (loI z) v2 ?_
 refine xy [(11, [2])] [] [(2, [.int .u64 (hiI z), .int .u64 (loI z)])] ?_
 refine SW_ret ?_
 refine xe () (.agg #[.int .u64 (hiI z), .int .u64 (loI z)]) [2] ?_ trivial
 rfl
theorem ct_impl_Word_low (x : Nat) (a : Int) (i : Nat) (ha : Nn a i) (hi : i < 128) (hx : x < B128) : CtV Tryd.prog 44 [.agg #[.int .u64 (hiI x), .int .u64 (loI x)], .int .i64 a] [] (.agg #[.int .u64 (hiI (x % 2 ^ i)), .int .u64 (loI (x % 2 ^ i))]) := by
 obtain ⟨rfl⟩ := ha
 refine ct_of Tryd.func44 rfl (by kernel_rfl) (fun B w0 => ?_)
 have hh := hi_lt hx
 have z : decide ((i : Int) ≥ 128) = false := decide_eq_false (by omega)
 have hq : x / 2 ^ i < B128 := Nat.lt_of_le_of_lt (Nat.div_le_self _ _) hx
 have hv : x / 2 ^ i * 2 ^ i < B128 := Nat.lt_of_le_of_lt (Nat.div_mul_le_self _ _) hx
 have co := ct_impl_Word_or (hiI x) (loI x) 0 0 x 0 ⟨rfl, rfl⟩ ⟨rfl, rfl⟩ hx (by decide)
 rw [Nat.or_zero] at co
 have cl' := ct_impl_Word_left (hiI (x / 2 ^ i)) (loI (x / 2 ^ i)) (x / 2 ^ i) ⟨rfl, rfl⟩ (i : Int) i ⟨rfl⟩ hi hq
 rw [Nat.mod_eq_of_lt hv] at cl'
 obtain ⟨k1, k2⟩ := high_cells x i
 have cw : Go.bits .andNot .u64 (hiI x) (hiI (x / 2 ^ i * 2 ^ i)) = hiI (x % 2 ^ i) ∧ Go.bits .andNot .u64 (loI x) (loI (x / 2 ^ i * 2 ^ i)) = loI (x % 2 ^ i) := by
  unfold hiI loI
  by_cases h : i < 64
  ·obtain ⟨a1, a2, a3, a4⟩ := k1 h
   rw [a1, a2, a3, a4, andNot_self _ hh, andNot_high _ i (lo_lt x) (by omega)]
   exact ⟨rfl, rfl⟩
  ·obtain ⟨a1, a2, a3, a4⟩ := k2 (by omega)
   rw [a1, a2, a3, a4, andNot_high _ (i - 64) hh (by omega), andNot_zero _ (lo_lt x)]
   exact ⟨rfl, rfl⟩
 have cwo := ct_impl_Word_without x (x / 2 ^ i * 2 ^ i) (x % 2 ^ i) cw.1 cw.2
 refine xg ?_
 refine xb 2 [.int .u64 (hiI x), .int .u64 (loI x)] 25 (fun g0 => ?_)
 refine xb 4 [.int .u64 0, .int .u64 0] 25 (fun g1 => ?_)
 refine xz [] [] ?_
 refine SW_seq ?_
 refine xr [] [(6, .bool (decide ((i : Int) ≥ 128)))] ?_
 refine xsf z ?_
 refine SW_skip ?_
 refine xd (fun hB => ?_)
 refine xdk [(0, [0]), (1, []), (3, [0]), (4, []), (6, [])] [(14, .int .i64 (i : Int)), (12, .int .i64 (i : Int)), (11, .agg #[.int .u64 (hiI x), .int .u64 (loI x)]), (9, .agg #[.int .u64 0, .int .u64 0]), (8, .agg #[.int .u64 (hiI x), .int .u64 (loI x)])] hB ?_
 refine xdv 2 10 co zs0 ?_
 refine xdv 5 13 (ct_impl_Word_right (x) ((i : Int)) (i) ⟨rfl⟩ (by omega) hx) zs0 ?_
 refine xdv 7 15 cl' zs0 ?_
 refine xdv 8 16 cwo zs0 ?_
 refine xds 9 [1] [(1, [.int .u64 (hiI (x % 2 ^ i)), .int .u64 (loI (x % 2 ^ i))])] ?_
 refine xdz ?_
 refine SW_ret ?_
 refine xe () (.agg #[.int .u64 (hiI (x % 2 ^ i)), .int .u64 (loI (x % 2 ^ i))]) [1] ?_ trivial
 rfl
end Go.Proofs.YtodhmbbiifhiaaaDoor.M
end
