import Derived.IntWalk
import Derived.Test.YtcbmdpecnmbhjaaQFnShiftf
section
namespace Go.Proofs.Ytcbmdpecnmbhjaa.M
open Go.RowKit Go.Proofs.Ytcbmdpecnmbhjaa.G Go.Proofs.YtcbmdpecnmbhjaaV.PrintWords Go.Proofs.YtcbmdpecnmbhjaaV.PrintLast Go.Proofs.YtcbmdpecnmbhjaaV.PrintMore
set_option linter.unusedVariables false
set_option linter.unusedSimpArgs false
def val (B : Nat) : List Int → Nat
  | [] => 0
  | x :: xs => x.toNat + B * val B xs
def Dig (B : Nat) (l : List Int) : Prop := ∀ x ∈ l, 0 ≤ x ∧ x < (B : Int)
def Norm (l : List Int) : Prop := trimL l = l
theorem val_nil (B : Nat) : val B [] = 0 := rfl
theorem val_cons (B : Nat) (x : Int) (l : List Int) : val B (x :: l) = x.toNat + B * val B l := rfl
theorem val_append (B : Nat) (a b : List Int) : val B (a ++ b) = val B a + B ^ a.length * val B b := by
  induction a with
  | nil => simp [val]
  | cons x a ih =>
    rw [List.cons_append, val_cons, val_cons, ih, List.length_cons, Nat.pow_succ, Nat.mul_add, Nat.add_assoc]
    congr 2
    rw [← Nat.mul_assoc, Nat.mul_comm B (B ^ a.length)]
theorem val_one (B : Nat) (x : Int) : val B [x] = x.toNat := by simp [val]
theorem val_snoc (B : Nat) (a : List Int) (x : Int) : val B (a ++ [x]) = val B a + B ^ a.length * x.toNat := by rw [val_append, val_one]
theorem val_zeros (B n : Nat) : val B (List.replicate n 0) = 0 := by
  induction n with
  | zero => rfl
  | succ n ih => rw [List.replicate_succ, val_cons, ih]; simp
theorem Dig.nil (B : Nat) : Dig B [] := fun x h => by cases h
theorem Dig.cons {B : Nat} {x : Int} {l : List Int} (hx : 0 ≤ x ∧ x < (B : Int)) (h : Dig B l) : Dig B (x :: l) := by
  intro y hy
  rcases List.mem_cons.1 hy with rfl | hy
  · exact hx
  · exact h y hy
theorem Dig.append {B : Nat} {a b : List Int} (ha : Dig B a) (hb : Dig B b) : Dig B (a ++ b) := by
  intro y hy
  rcases List.mem_append.1 hy with hy | hy
  · exact ha y hy
  · exact hb y hy
theorem Dig.snoc {B : Nat} {a : List Int} {x : Int} (ha : Dig B a) (hx : 0 ≤ x ∧ x < (B : Int)) : Dig B (a ++ [x]) := ha.append (Dig.cons hx (Dig.nil B))
theorem Dig.take {B : Nat} {l : List Int} (h : Dig B l) (k : Nat) : Dig B (l.take k) := fun x hx => h x (List.mem_of_mem_take hx)
theorem Dig.drop {B : Nat} {l : List Int} (h : Dig B l) (k : Nat) : Dig B (l.drop k) := fun x hx => h x (List.mem_of_mem_drop hx)
theorem Dig.trim {B : Nat} {l : List Int} (h : Dig B l) : Dig B (trimL l) := by rw [trimL_eq_take]; exact h.take _
theorem Dig.zeros {B : Nat} (hB : 0 < B) (n : Nat) : Dig B (List.replicate n 0) := fun x hx => by rw [List.eq_of_mem_replicate hx]; omega
theorem Dig.set {B : Nat} {l : List Int} (h : Dig B l) (p : Nat) {x : Int} (hx : 0 ≤ x ∧ x < (B : Int)) : Dig B (l.set p x) := by
  intro y hy
  rcases List.mem_or_eq_of_mem_set hy with hy | rfl
  · exact h y hy
  · exact hx
theorem Dig.rd {B : Nat} {l : List Int} (h : Dig B l) (hB : 0 < B) (i : Int) : 0 ≤ rd l i ∧ rd l i < (B : Int) := by
  show 0 ≤ l.getD i.toNat 0 ∧ l.getD i.toNat 0 < (B : Int)
  rw [List.getD_eq_getElem?_getD]
  cases hg : l[i.toNat]? with
  | none => simp; omega
  | some x => exact h x (List.mem_of_getElem? hg)
theorem val_lt {B : Nat} {l : List Int} (h : Dig B l) : val B l < B ^ l.length := by
  induction l with
  | nil => simp [val]
  | cons x l ih =>
    have h1 := ih (fun y hy => h y (List.mem_cons_of_mem _ hy))
    have hx := h x (List.mem_cons_self)
    rw [val_cons, List.length_cons, Nat.pow_succ]
    have h2 : val B l + 1 ≤ B ^ l.length := h1
    have h3 : B * (val B l + 1) ≤ B * B ^ l.length := Nat.mul_le_mul_left B h2
    rw [Nat.mul_comm B (B ^ l.length), Nat.mul_add] at h3
    omega
theorem snoc_of {l : List Int} (h : 0 < l.length) : ∃ a x, l = a ++ [x] := by
  refine ⟨l.dropLast, l.getLast (by intro hn; rw [hn] at h; simp at h), ?_⟩
  exact (List.dropLast_concat_getLast _).symm
theorem val_snoc_zero (B : Nat) (a : List Int) : val B (a ++ [0]) = val B a := by rw [val_snoc]; simp
theorem val_trim (B : Nat) (l : List Int) : val B (trimL l) = val B l := by
  induction h : l.length generalizing l with
  | zero => rw [List.eq_nil_of_length_eq_zero h]; rfl
  | succ n ih =>
    obtain ⟨a, x, rfl⟩ : ∃ a x, l = a ++ [x] := snoc_of (by omega)
    by_cases hx : x = 0
    · subst hx
      rw [trimL_snoc_zero, val_snoc_zero]
      exact ih a (by simpa using h)
    · rw [trimL_snoc_ne _ _ hx]
theorem norm_trim (l : List Int) : Norm (trimL l) := trimL_idem l
theorem norm_nil : Norm [] := rfl
theorem norm_snoc {a : List Int} {x : Int} : Norm (a ++ [x]) ↔ x ≠ 0 := by
  constructor
  · intro h hx
    subst hx
    unfold Norm at h
    rw [trimL_snoc_zero] at h
    have h1 := trimL_length a
    rw [h] at h1
    simp at h1
    omega
  · exact fun h => trimL_snoc_ne _ _ h
theorem val_ge {B : Nat} {l : List Int} (hd : Dig B l) (h : Norm l) (hl : 0 < l.length) : B ^ (l.length - 1) ≤ val B l := by
  obtain ⟨a, x, rfl⟩ : ∃ a x, l = a ++ [x] := snoc_of hl
  have hx := norm_snoc.1 h
  have hx0 := hd x (by simp)
  rw [val_snoc, List.length_append, List.length_singleton, Nat.add_sub_cancel]
  have : B ^ a.length * 1 ≤ B ^ a.length * x.toNat := Nat.mul_le_mul_left _ (by omega)
  omega
theorem val_inj {B : Nat} : ∀ {a b : List Int}, Dig B a → Dig B b → a.length = b.length → val B a = val B b → a = b
  | [], [], _, _, _, _ => rfl
  | [], y :: b, _, _, h, _ => by simp at h
  | x :: a, [], _, _, h, _ => by simp at h
  | x :: a, y :: b, ha, hb, hl, hv => by
    have hx := ha x (by simp)
    have hy := hb y (by simp)
    rw [val_cons, val_cons] at hv
    have hm : (x.toNat + B * val B a) % B = (y.toNat + B * val B b) % B := by rw [hv]
    rw [Nat.add_mul_mod_self_left, Nat.add_mul_mod_self_left, Nat.mod_eq_of_lt (by omega), Nat.mod_eq_of_lt (by omega)] at hm
    have hB : 0 < B := by omega
    have hv2 : val B a = val B b := by
      have h2 : B * val B a = B * val B b := by omega
      exact Nat.eq_of_mul_eq_mul_left hB h2
    rw [val_inj (fun z hz => ha z (List.mem_cons_of_mem _ hz)) (fun z hz => hb z (List.mem_cons_of_mem _ hz)) (by simpa using hl) hv2, show x = y by omega]
theorem val_lt_of_length {B : Nat} (hB : 0 < B) {a b : List Int} (ha : Dig B a) (hb : Dig B b) (hn : Norm b) (hl : a.length < b.length) : val B a < val B b := by
  have h1 := val_lt ha
  have h2 := val_ge hb hn (by omega)
  have h3 : B ^ a.length ≤ B ^ (b.length - 1) := Nat.pow_le_pow_right hB (by omega)
  omega
theorem norm_inj {B : Nat} (hB : 0 < B) {a b : List Int} (ha : Dig B a) (hb : Dig B b) (na : Norm a) (nb : Norm b) (hv : val B a = val B b) : a = b := by
  rcases Nat.lt_trichotomy a.length b.length with h | h | h
  · have := val_lt_of_length hB ha hb nb h; omega
  · exact val_inj ha hb h hv
  · have := val_lt_of_length hB hb ha na h; omega
theorem rd_nat (l : List Int) (k : Nat) : rd l (k : Int) = l.getD k 0 := rfl
theorem rd_of_ge (l : List Int) (i : Int) (h : l.length ≤ i.toNat) : rd l i = 0 := by simp [rd, List.getD_eq_getElem?_getD, List.getElem?_eq_none h]
theorem rd_of_drop {l r : List Int} {x : Int} {i : Nat} (h : l.drop i = x :: r) : rd l (i : Int) = x := by
  have h2 : l[i]? = some x := by
    have := congrArg (fun m : List Int => m[0]?) h
    simpa [List.getElem?_drop] using this
  rw [rd_nat, List.getD_eq_getElem?_getD, h2]
  rfl
theorem drop_succ_of {l r : List Int} {x : Int} {i : Nat} (h : l.drop i = x :: r) : l.drop (i + 1) = r := by
  have := congrArg (List.drop 1) h
  rw [List.drop_drop] at this
  simpa using this
theorem val_take_succ (B : Nat) (l : List Int) (k : Nat) : val B (l.take (k + 1)) = val B (l.take k) + B ^ k * (rd l (k : Int)).toNat := by
  rcases Nat.lt_or_ge k l.length with h | h
  · rw [take_snoc_rd l k h, val_snoc, List.length_take, Nat.min_eq_left (Nat.le_of_lt h)]
  · rw [rd_of_ge l k (by simpa using h), List.take_of_length_le (by omega), List.take_of_length_le h]
    simp
theorem val_take_all (B : Nat) (l : List Int) (k : Nat) (h : l.length ≤ k) : val B (l.take k) = val B l := by rw [List.take_of_length_le h]
theorem val_split (B : Nat) (l : List Int) (k : Nat) (h : k ≤ l.length) : val B l = val B (l.take k) + B ^ k * val B (l.drop k) := by
  have := val_append B (l.take k) (l.drop k)
  rw [List.take_append_drop, List.length_take, Nat.min_eq_left h] at this
  exact this
theorem val_set (B : Nat) : ∀ (l : List Int) (p : Nat) (x : Int), p < l.length → val B (l.set p x) + B ^ p * (rd l (p : Int)).toNat = val B l + B ^ p * x.toNat
  | [], p, x, h => by simp at h
  | y :: l, 0, x, h => by
    simp only [List.set_cons_zero, val_cons, Nat.pow_zero, Nat.one_mul]
    have : rd (y :: l) ((0 : Nat) : Int) = y := rfl
    rw [this]
    omega
  | y :: l, p + 1, x, h => by
    have ih := val_set B l p x (by simpa using h)
    have hr : rd (y :: l) ((p + 1 : Nat) : Int) = rd l (p : Int) := by rw [rd_nat, rd_nat]; rfl
    rw [List.set_cons_succ, val_cons, val_cons, hr, Nat.pow_succ, Nat.mul_comm (B ^ p) B, Nat.mul_assoc, Nat.mul_assoc]
    have h2 := congrArg (B * ·) ih
    simp only [Nat.mul_add] at h2
    omega
theorem rd_set_ne (l : List Int) (p q : Nat) (x : Int) (h : p ≠ q) : rd (l.set p x) (q : Int) = rd l (q : Int) := by simp [rd_nat, List.getD_eq_getElem?_getD, List.getElem?_set_ne h]
theorem wrap64_id {n : Int} (h : -9223372036854775808 ≤ n ∧ n ≤ 9223372036854775807) : wrap64 n = n := by unfold wrap64; omega
theorem wrap_u64 (n : Int) : IntKind.u64.wrap n = n % 18446744073709551616 := by simp [IntKind.wrap, IntKind.bits, IntKind.signed]
theorem wrap_u64_id {n : Int} (h : 0 ≤ n ∧ n < 18446744073709551616) : IntKind.u64.wrap n = n := by rw [wrap_u64]; omega
theorem wraps_u64 (n : Int) (h₀ : 0 ≤ n) (h₁ : n < 2 ^ 64) : IntKind.u64.wrap n = n := wrap_u64_id ⟨h₀, by simpa using h₁⟩
theorem and_mask (i : Nat) (hi : i ≤ 64) (x : Int) (h₀ : 0 ≤ x) (h₁ : x < 18446744073709551616) : bits .and .u64 x (2 ^ i - 1) = x % 2 ^ i :=
  bits_mask .u64 64 (by decide) wraps_u64 i hi x h₀ (by simpa using h₁)
theorem and_low32 (x : Int) (h₀ : 0 ≤ x) (h₁ : x < 18446744073709551616) : bits .and .u64 x 4294967295 = x % 4294967296 := by
  simpa using and_mask 32 (by decide) x h₀ h₁
theorem or_join (i : Nat) (x y : Int) (hx₀ : 0 ≤ x) (hx : x % 2 ^ i = 0) (hx₁ : x < 18446744073709551616) (hy₀ : 0 ≤ y) (hy : y < 2 ^ i) (hy₁ : y < 18446744073709551616) : bits .or .u64 x y = x + y :=
  bits_join .u64 64 (by decide) wraps_u64 i x y hx₀ hx (by simpa using hx₁) hy₀ hy (by simpa using hy₁)
theorem bits_or_comm (x y : Int) : bits .or .u64 x y = bits .or .u64 y x := by simp [bits, BitVec.or_comm]
theorem or_join' (i : Nat) (x y : Int) (hy₀ : 0 ≤ y) (hy : y % 2 ^ i = 0) (hy₁ : y < 18446744073709551616) (hx₀ : 0 ≤ x) (hx : x < 2 ^ i) (hx₁ : x < 18446744073709551616) : bits .or .u64 x y = x + y := by
  rw [bits_or_comm, or_join i y x hy₀ hy hy₁ hx₀ hx hx₁, Int.add_comm]
theorem ev_to {α : Type} {g : Nat → Option α} {r r' : α} (h : Ev g r) (e : r = r') : Ev g r' := e ▸ h
end Go.Proofs.Ytcbmdpecnmbhjaa.M
end
section
namespace Go.Proofs.Ytcbmdpecnmbhjaa.M
open Go.RowKit Go.Proofs.Ytcbmdpecnmbhjaa.G Go.Proofs.YtcbmdpecnmbhjaaV.PrintWords Go.Proofs.YtcbmdpecnmbhjaaV.PrintLast Go.Proofs.YtcbmdpecnmbhjaaV.PrintMore Go.Proofs.Ytcbmdpecnmbhjaa.PA
set_option linter.unusedVariables false
set_option linter.unusedSimpArgs false
def B32 : Nat := 4294967296
def B64 : Nat := 18446744073709551616
theorem B32_pos : 0 < B32 := by unfold B32; omega
theorem B64_pos : 0 < B64 := by unfold B64; omega
theorem fits_eq (l : List Int) : spec_l1Fits.f l = some (decide (l.length ≤ 1200)) := by
  unfold spec_l1Fits.f
  simp
  omega
theorem at_eq (l : List Int) (i : Int) (h : 0 ≤ i) : spec_l1At.f l i = some (rd l i) := by
  unfold spec_l1At.f
  by_cases h1 : i < (l.length : Int)
  · rw [if_pos h1, if_pos h]
  · rw [if_neg h1, rd_of_ge l i (by omega)]
theorem trim_eq (l : List Int) (h : l.length ≤ 35184372088832) : spec_l1Trim.f l = some (trimL l) := by
  unfold spec_l1Trim.f
  rw [if_pos h]
def d32 : List Int → List Int
  | [] => []
  | x :: l => x % 4294967296 :: x / 4294967296 :: d32 l
theorem d32_append (a b : List Int) : d32 (a ++ b) = d32 a ++ d32 b := by
  induction a with
  | nil => rfl
  | cons x a ih => simp [d32, ih]
theorem d32_length (l : List Int) : (d32 l).length = 2 * l.length := by
  induction l with
  | nil => rfl
  | cons x l ih => simp only [d32, List.length_cons, ih]; omega
theorem d32_dig {l : List Int} (h : Dig B64 l) : Dig B32 (d32 l) := by
  induction l with
  | nil => exact Dig.nil _
  | cons x l ih =>
    have hx := h x (by simp)
    unfold B64 at hx
    refine Dig.cons ?_ (Dig.cons ?_ (ih (fun y hy => h y (List.mem_cons_of_mem _ hy)))) <;> unfold B32 <;> omega
theorem d32_val {l : List Int} (h : Dig B64 l) : val B32 (d32 l) = val B64 l := by
  induction l with
  | nil => rfl
  | cons x l ih =>
    have hx := h x (by simp)
    have ih := ih (fun y hy => h y (List.mem_cons_of_mem _ hy))
    simp only [d32, val_cons, ih]
    unfold B64 at hx
    unfold B32 B64
    omega
def inL (l : List Int) : List Int := trimL (d32 l)
theorem inL_dig {l : List Int} (h : Dig B64 l) : Dig B32 (inL l) := (d32_dig h).trim
theorem inL_val {l : List Int} (h : Dig B64 l) : val B32 (inL l) = val B64 l := by unfold inL; rw [val_trim, d32_val h]
theorem inL_length (l : List Int) : (inL l).length ≤ 2 * l.length := by
  unfold inL
  have := trimL_length (d32 l)
  rw [d32_length] at this
  exact this
theorem in_loop (l : List Int) (hd : Dig B64 l) (hl : l.length ≤ 1073741824) (d : Nat) : ∀ i : Nat, i + d = l.length →
    Ev (fun k => spec_l1In.l0 k (d32 (l.take i)) l (l.length : Int) (i : Int)) (inL l) := by
  induction d with
  | zero =>
    intro i hi
    refine Ev.step (f := fun _ => some (inL l)) (fun k => ?_) (Ev.now _)
    simp only [spec_l1In.l0]
    rw [if_neg (by omega), List.take_of_length_le (by omega), trim_eq _ (by rw [d32_length]; omega)]
    rfl
  | succ d ih =>
    intro i hi
    have hx := hd.rd B64_pos (i : Int)
    refine Ev.step (fun k => ?_) (ih (i + 1) (by omega))
    have hlen : (d32 (l.take i)).length = 2 * i := by rw [d32_length, List.length_take]; omega
    unfold B64 at hx
    simp only [spec_l1In.l0]
    rw [if_pos (by omega), if_pos (by omega), if_pos (by omega)]
    simp only [Option.bind_some]
    rw [if_pos (by rw [hlen]; simp; omega), and_low32 _ hx.1 (by omega), wrap64_id (by omega), take_snoc_rd l i (by omega), d32_append]
    rfl
theorem in_ev (l : List Int) (hd : Dig B64 l) (hl : l.length ≤ 1073741824) : Ev (fun k => spec_l1In.f k l) (inL l) := in_loop l hd hl l.length 0 (by omega)
def outL : List Int → List Int
  | [] => []
  | [x] => [x]
  | x :: y :: l => (x + y * 4294967296) :: outL l
theorem outL_length : ∀ l : List Int, (outL l).length ≤ l.length
  | [] => Nat.le_refl _
  | [x] => Nat.le_refl _
  | x :: y :: l => by have := outL_length l; simp only [outL, List.length_cons]; omega
theorem outL_dig : ∀ {l : List Int}, Dig B32 l → Dig B64 (outL l)
  | [], _ => Dig.nil _
  | [x], h => by
    have hx := h x (by simp)
    unfold B32 at hx
    exact Dig.cons (by unfold B64; omega) (Dig.nil _)
  | x :: y :: l, h => by
    have hx := h x (by simp)
    have hy := h y (by simp)
    unfold B32 at hx hy
    exact Dig.cons (by unfold B64; omega) (outL_dig (fun z hz => h z (List.mem_cons_of_mem _ (List.mem_cons_of_mem _ hz))))
theorem outL_val : ∀ {l : List Int}, Dig B32 l → val B64 (outL l) = val B32 l
  | [], _ => rfl
  | [x], h => by simp [outL, val]
  | x :: y :: l, h => by
    have hx := h x (by simp)
    have hy := h y (by simp)
    have ih := outL_val (l := l) (fun z hz => h z (List.mem_cons_of_mem _ (List.mem_cons_of_mem _ hz)))
    simp only [outL, val_cons, ih]
    unfold B32 at hx hy
    unfold B32 B64
    omega
theorem norm_iff (l : List Int) : Norm l ↔ ∀ h : l ≠ [], l.getLast h ≠ 0 := by
  rcases Nat.eq_zero_or_pos l.length with h | h
  · have := List.eq_nil_of_length_eq_zero h
    subst this
    exact ⟨fun _ h => absurd rfl h, fun _ => rfl⟩
  · obtain ⟨a, x, rfl⟩ := snoc_of h
    rw [norm_snoc]
    simp
theorem outL_norm : ∀ {l : List Int}, Dig B32 l → Norm l → Norm (outL l)
  | [], _, _ => norm_nil
  | [x], _, h => h
  | [x, y], hd, h => by
    have hx := hd x (by simp)
    have h2 := (norm_iff _).1 h (by simp)
    simp at h2
    have hy := hd y (by simp)
    refine (norm_iff _).2 (fun _ => ?_)
    simp [outL]
    omega
  | x :: y :: z :: l, hd, h => by
    have h2 : Norm (z :: l) := by
      rw [norm_iff] at h ⊢
      intro hn
      have := h (by simp)
      simpa using this
    have ih := outL_norm (l := z :: l) (fun w hw => hd w (List.mem_cons_of_mem _ (List.mem_cons_of_mem _ hw))) h2
    rw [norm_iff] at ih ⊢
    intro hn
    have hne : outL (z :: l) ≠ [] := by cases l <;> simp [outL]
    have := ih hne
    simp only [outL]
    rw [List.getLast_cons hne]
    exact this
theorem out_loop (l : List Int) (hd : Dig B32 l) (hl : l.length ≤ 4294967296) (n : Nat) : ∀ (i : Nat) (acc rest : List Int), rest.length ≤ n → l.drop i = rest → i ≤ l.length → acc.length ≤ i →
    Ev (fun k => spec_l1Out.l0 k l acc (i : Int)) (acc ++ outL rest) := by
  induction n with
  | zero =>
    intro i acc rest hn hr hi ha
    have h0 : rest = [] := List.eq_nil_of_length_eq_zero (by omega)
    subst h0
    have hlen := congrArg List.length hr
    rw [List.length_drop] at hlen
    refine Ev.step (f := fun _ => some (acc ++ outL [])) (fun k => ?_) (Ev.now _)
    simp only [spec_l1Out.l0]
    rw [if_neg (by simp at hlen; omega)]
    simp [outL]
  | succ n ih =>
    intro i acc rest hn hr hi ha
    match rest, hn, hr with
    | [], hn, hr => exact ih i acc [] (by simp) hr hi ha
    | [x], hn, hr =>
      have hlen := congrArg List.length hr
      rw [List.length_drop] at hlen
      simp at hlen
      have hx : rd l (i : Int) = x := rd_of_drop hr
      refine Ev.step (f := fun k => spec_l1Out.l0 k l (acc ++ [x]) ((i + 2 : Nat) : Int)) (fun k => ?_) (Ev.step (f := fun _ => some (acc ++ outL [x])) (fun k => ?_) (Ev.now _))
      · simp only [spec_l1Out.l0]
        rw [if_pos (by omega), if_pos (by omega), wrap64_id (by omega), if_neg (by omega), if_pos (by omega), wrap64_id (by omega), hx]
        rfl
      · simp only [spec_l1Out.l0]
        rw [if_neg (by omega)]
        simp [outL]
    | x :: y :: r, hn, hr =>
      have hlen := congrArg List.length hr
      rw [List.length_drop] at hlen
      simp at hlen
      have hx : rd l (i : Int) = x := rd_of_drop hr
      have hy : rd l ((i : Int) + 1) = y := rd_of_drop (i := i + 1) (drop_succ_of hr)
      have hr2 : l.drop (i + 2) = r := drop_succ_of (drop_succ_of hr)
      have dx := hd.rd B32_pos (i : Int)
      have dy := hd.rd B32_pos ((i : Int) + 1)
      rw [hx] at dx
      rw [hy] at dy
      unfold B32 at dx dy
      have hor : bits .or .u64 x (IntKind.u64.wrap (y * 4294967296)) = x + y * 4294967296 := by
        rw [wrap_u64_id (by omega)]
        exact or_join' 32 x (y * 4294967296) (by omega) (by simp) (by omega) (by omega) (by simp; omega) (by omega)
      have hrl : r.length ≤ n := by simp at hn; omega
      refine Ev.step (fun k => ?_) (ev_to (ih (i + 2) (acc ++ [x + y * 4294967296]) r hrl hr2 (by omega) (by simp; omega)) (by simp [outL]))
      simp only [spec_l1Out.l0]
      rw [if_pos (by omega), if_pos (by omega), wrap64_id (by omega), if_pos (by omega), if_pos (by omega), if_pos (by omega), wrap64_id (by omega), hx, hy, hor]
      rfl
theorem out_ev (l : List Int) (hd : Dig B32 l) (hl : l.length ≤ 4294967296) : Ev (fun k => spec_l1Out.f k l) (outL l) := by
  have h := out_loop l hd hl l.length 0 [] l (Nat.le_refl _) rfl (by omega) (by simp)
  unfold spec_l1Out.f
  simpa using h
end Go.Proofs.Ytcbmdpecnmbhjaa.M
end
section
namespace Go.Proofs.Ytcbmdpecnmbhjaa.M
open Go.RowKit Go.Proofs.Ytcbmdpecnmbhjaa.G Go.Proofs.YtcbmdpecnmbhjaaV.PrintWords Go.Proofs.YtcbmdpecnmbhjaaV.PrintLast Go.Proofs.YtcbmdpecnmbhjaaV.PrintMore Go.Proofs.Ytcbmdpecnmbhjaa.PA
set_option linter.unusedVariables false
set_option linter.unusedSimpArgs false
theorem short_two (a b : List Int) (ha : a.length ≤ 1073741824) (hb : b.length ≤ 1073741824) : Ev (fun k => impl_short.f k [a, b]) (decide (a.length ≤ 1200) && decide (b.length ≤ 1200)) := by
  refine ⟨4, fun k hk => ?_⟩
  obtain ⟨k, rfl⟩ : ∃ m, k = m + 3 := ⟨k - 3, by omega⟩
  have w1 : wrap64 1 = 1 := by unfold wrap64; omega
  have w2 : wrap64 2 = 2 := by unfold wrap64; omega
  have r0 : rd_L2 [a, b] 0 = a := rfl
  have r1 : rd_L2 [a, b] 1 = b := rfl
  unfold impl_short.f
  simp only [List.length_cons, List.length_nil]
  by_cases h1 : a.length ≤ 1200
  · have n1 : ¬ ((a.length : Int) > 1200) := by omega
    by_cases h2 : b.length ≤ 1200
    · have n2 : ¬ ((b.length : Int) > 1200) := by omega
      simp [impl_short.l0, r0, r1, w1, w2, n1, n2, h1, h2]
    · have n2 : ((b.length : Int) > 1200) := by omega
      simp [impl_short.l0, r0, r1, w1, w2, n1, n2, h1, h2]
  · have n1 : ((a.length : Int) > 1200) := by omega
    simp [impl_short.l0, r0, r1, w1, w2, n1, h1]
theorem short_one (a : List Int) (ha : a.length ≤ 1073741824) : Ev (fun k => impl_short.f k [a]) (decide (a.length ≤ 1200)) := by
  refine ⟨4, fun k hk => ?_⟩
  obtain ⟨k, rfl⟩ : ∃ m, k = m + 3 := ⟨k - 3, by omega⟩
  have w1 : wrap64 1 = 1 := by unfold wrap64; omega
  have r0 : rd_L2 [a] 0 = a := rfl
  unfold impl_short.f
  simp only [List.length_cons, List.length_nil]
  by_cases h1 : a.length ≤ 1200
  · have n1 : ¬ ((a.length : Int) > 1200) := by omega
    simp [impl_short.l0, r0, w1, n1, h1]
  · have n1 : ((a.length : Int) > 1200) := by omega
    simp [impl_short.l0, r0, w1, n1, h1]
theorem add64_spec (a b c : Int) (ha : 0 ≤ a ∧ a < (B64 : Int)) (hb : 0 ≤ b ∧ b < (B64 : Int)) (hc : 0 ≤ c ∧ c ≤ 1) :
    0 ≤ add64s a b c ∧ add64s a b c < (B64 : Int) ∧ 0 ≤ add64c a b c ∧ add64c a b c ≤ 1 ∧ (add64s a b c).toNat + B64 * (add64c a b c).toNat = a.toNat + b.toNat + c.toNat := by
  unfold add64s add64c
  unfold B64 at *
  omega
end Go.Proofs.Ytcbmdpecnmbhjaa.M
end
section
namespace Go.Proofs.Ytcbmdpecnmbhjaa.M
open Go.RowKit Go.Proofs.Ytcbmdpecnmbhjaa.G Go.Proofs.YtcbmdpecnmbhjaaV.PrintWords Go.Proofs.YtcbmdpecnmbhjaaV.PrintLast Go.Proofs.YtcbmdpecnmbhjaaV.PrintMore Go.Proofs.Ytcbmdpecnmbhjaa.PA
set_option linter.unusedVariables false
set_option linter.unusedSimpArgs false
def IsNat (l : List Int) (v : Nat) : Prop := Dig B64 l ∧ Norm l ∧ val B64 l = v
theorem IsNat.uniq {a b : List Int} {v : Nat} (h : IsNat a v) (k : IsNat b v) : a = b := norm_inj B64_pos h.1 k.1 h.2.1 k.2.1 (h.2.2.trans k.2.2.symm)
theorem IsNat.nil : IsNat [] 0 := ⟨Dig.nil _, norm_nil, rfl⟩
theorem IsNat.out {l : List Int} {v : Nat} (hd : Dig B32 l) (hn : Norm l) (hv : val B32 l = v) : IsNat (outL l) v := ⟨outL_dig hd, outL_norm hd hn, by rw [outL_val hd, hv]⟩
end Go.Proofs.Ytcbmdpecnmbhjaa.M
end
section
namespace Go.Proofs.Ytcbmdpecnmbhjaa.M
open Go.RowKit Go.Proofs.Ytcbmdpecnmbhjaa.G Go.Proofs.YtcbmdpecnmbhjaaV.PrintWords Go.Proofs.YtcbmdpecnmbhjaaV.PrintLast Go.Proofs.YtcbmdpecnmbhjaaV.PrintMore Go.Proofs.Ytcbmdpecnmbhjaa.PA
set_option linter.unusedVariables false
set_option linter.unusedSimpArgs false
theorem cast_dig {B n : Nat} (h : n < B) : 0 ≤ (n : Int) ∧ (n : Int) < (B : Int) := by omega
theorem low32_nat (n : Nat) (h : n < 18446744073709551616) : bits .and .u64 (n : Int) 4294967295 = ((n % 4294967296 : Nat) : Int) := by
  rw [and_low32 _ (by omega) (by omega)]
  omega
def sl (B P : Nat) : Nat → List Int → List Int
  | c, [] => [(c : Int)]
  | c, x :: l => (((x.toNat * P + c) % B : Nat) : Int) :: sl B P ((x.toNat * P + c) / B) l
theorem sl_val (B P : Nat) : ∀ (l : List Int) (c : Nat), val B (sl B P c l) = val B l * P + c
  | [], c => by simp [sl, val]
  | x :: l, c => by
    simp only [sl, val_cons, Int.toNat_natCast]
    rw [sl_val B P l, Nat.mul_add, Nat.add_mul, Nat.mul_assoc]
    have h := Nat.mod_add_div (x.toNat * P + c) B
    generalize (x.toNat * P + c) % B = m at *
    generalize B * ((x.toNat * P + c) / B) = q at *
    omega
theorem carry_lt {B P x c : Nat} (hx : x < B) (hc : c < P) : (x * P + c) / B < P := by
  have hB : 0 < B := by omega
  refine Nat.div_lt_of_lt_mul ?_
  have h := Nat.mul_le_mul_right P (show x + 1 ≤ B from hx)
  rw [Nat.add_mul, Nat.one_mul] at h
  omega
theorem sl_dig {B P : Nat} (hB : 0 < B) (hP : P ≤ B) : ∀ (l : List Int) (c : Nat), Dig B l → c < P → Dig B (sl B P c l)
  | [], c, _, hc => Dig.cons (by omega) (Dig.nil _)
  | x :: l, c, h, hc => by
    have hx := h x (by simp)
    have h1 := Nat.mod_lt (x.toNat * P + c) hB
    exact Dig.cons (by omega) (sl_dig hB hP l _ (fun y hy => h y (List.mem_cons_of_mem _ hy)) (carry_lt (by omega) hc))
theorem sl_length (B P : Nat) : ∀ (l : List Int) (c : Nat), (sl B P c l).length = l.length + 1
  | [], c => rfl
  | x :: l, c => by simp only [sl, List.length_cons, sl_length B P l]
def sr (B P : Nat) : List Int → List Int
  | [] => []
  | x :: l => (((x.toNat + B * ((rd l 0).toNat % P)) / P : Nat) : Int) :: sr B P l
theorem val_mod (B P : Nat) (h : P ∣ B) (l : List Int) : val B l % P = (rd l 0).toNat % P := by
  cases l with
  | nil => rfl
  | cons x l =>
    obtain ⟨K, rfl⟩ := h
    rw [val_cons, Nat.mul_assoc, Nat.add_mul_mod_self_left]
    rfl
theorem sr_val {B P : Nat} (hP : 0 < P) (h : P ∣ B) : ∀ l : List Int, val B (sr B P l) = val B l / P
  | [] => by simp [sr, val]
  | x :: l => by
    simp only [sr, val_cons, Int.toNat_natCast]
    rw [sr_val hP h l, ← val_mod B P h l]
    have h1 := Nat.mod_add_div (val B l) P
    have h2 : x.toNat + B * val B l = x.toNat + B * (val B l % P) + P * (B * (val B l / P)) := by
      have h3 := congrArg (B * ·) h1
      simp only [Nat.mul_add] at h3
      rw [Nat.mul_left_comm] at h3
      omega
    rw [h2, Nat.add_mul_div_left _ _ hP]
theorem quot_lt {B P x y : Nat} (hP : 0 < P) (hx : x < B) : (x + B * (y % P)) / P < B := by
  have h1 := Nat.mod_lt y hP
  refine Nat.div_lt_of_lt_mul ?_
  have h := Nat.mul_le_mul_left B (show y % P + 1 ≤ P from h1)
  rw [Nat.mul_add, Nat.mul_one, Nat.mul_comm B P] at h
  omega
theorem sr_dig {B P : Nat} (hP : 0 < P) : ∀ l : List Int, Dig B l → Dig B (sr B P l)
  | [], _ => Dig.nil _
  | x :: l, h => by
    have hx := h x (by simp)
    have h1 : (x.toNat + B * ((rd l 0).toNat % P)) / P < B := quot_lt hP (by omega)
    exact Dig.cons (cast_dig h1) (sr_dig hP l (fun y hy => h y (List.mem_cons_of_mem _ hy)))
theorem sr_length (B P : Nat) : ∀ l : List Int, (sr B P l).length = l.length
  | [] => rfl
  | x :: l => by simp only [sr, List.length_cons, sr_length B P l]
theorem div_split {B P x y : Nat} (hP : 0 < P) (hx : x < B) : (x + B * y) / P % B = (x + B * (y % P)) / P := by
  have h1 := Nat.mod_add_div y P
  have h2 : x + B * y = x + B * (y % P) + P * (B * (y / P)) := by
    have h3 := congrArg (B * ·) h1
    simp only [Nat.mul_add] at h3
    rw [Nat.mul_left_comm] at h3
    omega
  rw [h2, Nat.add_mul_div_left _ _ hP, Nat.add_mul_mod_self_left, Nat.mod_eq_of_lt (quot_lt hP hx)]
theorem tdiv_nat (m d : Nat) : Int.tdiv (m : Int) (d : Int) = ((m / d : Nat) : Int) := by rw [Int.tdiv_eq_ediv_of_nonneg (by omega)]; rfl
theorem tmod_nat (m d : Nat) : Int.tmod (m : Int) (d : Int) = ((m % d : Nat) : Int) := by rw [Int.tmod_eq_emod_of_nonneg (by omega)]; rfl
theorem wtdiv (m d : Nat) (h : m ≤ 9223372036854775807) : wrap64 (Int.tdiv (m : Int) (d : Int)) = ((m / d : Nat) : Int) := by
  have := Nat.div_le_self m d
  rw [tdiv_nat]
  generalize m / d = q at *
  rw [wrap64_id (by omega)]
theorem wtmod (m d : Nat) (h : m ≤ 9223372036854775807) : IntKind.u64.wrap (Int.tmod (m : Int) (d : Int)) = ((m % d : Nat) : Int) := by
  have := Nat.mod_le m d
  rw [tmod_nat]
  generalize m % d = q at *
  rw [wrap_u64_id (by omega)]
theorem shl_nat (x p : Nat) (hp : p ≤ 64) : shl .u64 (x : Int) (p : Int) = ((x * 2 ^ p % 18446744073709551616 : Nat) : Int) := by
  unfold shl
  rw [wrap_u64, Int.toNat_natCast, show IntKind.u64.bits = 64 from rfl, Nat.min_eq_left hp, show ((x : Int) * 2 ^ p) = ((x * 2 ^ p : Nat) : Int) by simp]
  exact (Int.natCast_emod _ 18446744073709551616).symm
theorem shr_nat (x p : Nat) (hp : p ≤ 64) : shr .u64 (x : Int) (p : Int) = ((x / 2 ^ p : Nat) : Int) := by
  unfold shr
  rw [Int.toNat_natCast, show IntKind.u64.bits = 64 from rfl, Nat.min_eq_left hp]
  simp
theorem or_nat (p x y : Nat) (hp : p ≤ 64) (hx : x < 18446744073709551616) (h : 2 ^ p ∣ x) (hy : y < 2 ^ p) : bits .or .u64 (x : Int) (y : Int) = ((x + y : Nat) : Int) := by
  have h64 : 2 ^ p ≤ 2 ^ 64 := Nat.pow_le_pow_right (by omega) hp
  have hc : ((2 : Int) ^ p) = ((2 ^ p : Nat) : Int) := by simp
  rw [or_join p x y (by omega) (by rw [hc]; have := Nat.mod_eq_zero_of_dvd h; omega) (by omega) (by omega) (by rw [hc]; omega) (by omega)]
  omega
theorem or_nat' (p x y : Nat) (hp : p ≤ 64) (hx : x < 18446744073709551616) (h : 2 ^ p ∣ x) (hy : y < 2 ^ p) : bits .or .u64 (y : Int) (x : Int) = ((y + x : Nat) : Int) := by
  rw [bits_or_comm, or_nat p x y hp hx h hy, Nat.add_comm]
theorem pow_split (w p : Nat) (h : p ≤ w) : 2 ^ w = 2 ^ (w - p) * 2 ^ p := by rw [← Nat.pow_add]; congr 1; omega
theorem pow_div_mod (v w n : Nat) : v / 2 ^ n = v / (2 ^ w) ^ (n / w) / 2 ^ (n % w) := by
  rw [Nat.div_div_eq_div_mul, ← Nat.pow_mul, ← Nat.pow_add]
  congr 2
  exact (Nat.div_add_mod n w).symm
theorem pow_mul_mod (v w n : Nat) : v * 2 ^ n = (2 ^ w) ^ (n / w) * (v * 2 ^ (n % w)) := by
  rw [Nat.mul_left_comm, ← Nat.pow_mul, ← Nat.pow_add, Nat.div_add_mod]
theorem B32_pow : B32 = 2 ^ 32 := by unfold B32; rfl
theorem B64_pow : B64 = 2 ^ 64 := by unfold B64; rfl
theorem val_drop (B : Nat) (hB : 0 < B) {l : List Int} (h : Dig B l) (d : Nat) : val B (l.drop d) = val B l / B ^ d := by
  rcases Nat.lt_or_ge l.length d with hl | hl
  · rw [List.drop_eq_nil_of_le (by omega), Nat.div_eq_of_lt]
    · rfl
    · have h1 := val_lt h
      have h2 : B ^ l.length ≤ B ^ d := Nat.pow_le_pow_right hB (by omega)
      omega
  · have h1 := val_split B l d hl
    have h2 := val_lt (h.take d)
    rw [List.length_take, Nat.min_eq_left hl] at h2
    rw [h1, Nat.add_mul_div_left _ _ (Nat.pow_pos hB), Nat.div_eq_of_lt h2]
    omega
theorem val_shl (B d : Nat) (l : List Int) : val B (List.replicate d 0 ++ l) = B ^ d * val B l := by
  rw [val_append, val_zeros, List.length_replicate]
  omega
theorem sleft_loop (a : List Int) (ha : Dig B32 a) (la : a.length ≤ 1073741824) (n : Nat) (hn : n ≤ 1000000) (rest : List Int) : ∀ (i : Nat) (acc : List Int) (c : Nat), a.drop i = rest → i ≤ a.length → c < 2 ^ (n % 32) → acc.length ≤ 80000 + i →
    Ev (fun k => spec_l1Left.l0 k a (n : Int) acc (c : Int) (i : Int)) (trimL (acc ++ sl B32 (2 ^ (n % 32)) c rest)) := by
  have hp : n % 32 < 32 := Nat.mod_lt _ (by omega)
  have hP : 2 ^ (n % 32) ≤ 2 ^ 31 := Nat.pow_le_pow_right (by omega) (by omega)
  have hw := wtmod n 32 (by omega)
  have step : ∀ (x c : Nat), x < 4294967296 → c < 2 ^ (n % 32) → bits .or .u64 (shl .u64 (x : Int) ((n % 32 : Nat) : Int)) (c : Int) = ((x * 2 ^ (n % 32) + c : Nat) : Int) ∧ x * 2 ^ (n % 32) + c < 18446744073709551616 := by
    intro x c hx hc
    have h1 : x * 2 ^ (n % 32) ≤ 4294967295 * 2 ^ 31 := Nat.mul_le_mul (by omega) hP
    rw [shl_nat _ _ (by omega), Nat.mod_eq_of_lt (by omega), or_nat (n % 32) _ _ (by omega) (by omega) (Nat.dvd_mul_left _ _) hc]
    exact ⟨rfl, by omega⟩
  induction rest with
  | nil =>
    intro i acc c hr hi hc hac
    have hlen := congrArg List.length hr
    rw [List.length_drop] at hlen
    simp at hlen
    have h0 : rd a (i : Int) = 0 := rd_of_ge a _ (by simp; omega)
    obtain ⟨s1, s2⟩ := step 0 c (by omega) hc
    refine Ev.step (f := fun k => spec_l1Left.l0 k a (n : Int) (acc ++ [(c : Int)]) 0 ((i + 1 : Nat) : Int)) (fun k => ?_) (Ev.step (f := fun _ => some (trimL (acc ++ sl B32 (2 ^ (n % 32)) c []))) (fun k => ?_) (Ev.now _))
    · simp only [spec_l1Left.l0]
      rw [if_pos (by omega), at_eq _ _ (by omega), h0, Option.bind_some, show ((32 : Int)) = ((32 : Nat) : Int) from rfl, hw, if_pos (by omega), if_pos (by omega)]
      rw [show (0 : Int) = ((0 : Nat) : Int) from rfl, s1, and_low32 _ (by omega) (by omega), wrap64_id (by omega)]
      rw [Nat.zero_mul, Nat.zero_add, show ((c : Int) % 4294967296) = (c : Int) by omega, show ((c : Int) / 4294967296) = ((0 : Nat) : Int) by omega]
      rfl
    · simp only [spec_l1Left.l0]
      rw [if_neg (by omega), trim_eq _ (by simp; omega)]
      rfl
  | cons x rest ih =>
    intro i acc c hr hi hc hac
    have hlen := congrArg List.length hr
    rw [List.length_drop] at hlen
    simp at hlen
    have hx : rd a (i : Int) = x := rd_of_drop hr
    have dx := ha.rd B32_pos (i : Int)
    rw [hx] at dx
    unfold B32 at dx
    obtain ⟨y, rfl⟩ : ∃ y : Nat, x = (y : Int) := ⟨x.toNat, by omega⟩
    obtain ⟨s1, s2⟩ := step y c (by omega) hc
    have hc2 : (y * 2 ^ (n % 32) + c) / B32 < 2 ^ (n % 32) := carry_lt (by unfold B32; omega) hc
    refine Ev.step (fun k => ?_) (ev_to (ih (i + 1) (acc ++ [(((y * 2 ^ (n % 32) + c) % B32 : Nat) : Int)]) ((y * 2 ^ (n % 32) + c) / B32) (drop_succ_of hr) (by omega) hc2 (by simp; omega)) (by simp [sl]))
    simp only [spec_l1Left.l0]
    rw [if_pos (by omega), at_eq _ _ (by omega), hx, Option.bind_some, show ((32 : Int)) = ((32 : Nat) : Int) from rfl, hw, if_pos (by omega), if_pos (by omega)]
    rw [s1, and_low32 _ (by omega) (by omega), wrap64_id (by omega)]
    unfold B32
    rfl
theorem sleft_ev (a : List Int) (ha : Dig B32 a) (la : a.length ≤ 1073741824) (n : Nat) (hn : n ≤ 1000000) :
    ∃ r, Ev (fun k => spec_l1Left.f k a (n : Int)) r ∧ Dig B32 r ∧ Norm r ∧ val B32 r = val B32 a * 2 ^ n ∧ r.length ≤ 1000000 + a.length + 1 := by
  have hp : n % 32 < 32 := Nat.mod_lt _ (by omega)
  have hP : 2 ^ (n % 32) ≤ B32 := by rw [B32_pow]; exact Nat.pow_le_pow_right (by omega) (by omega)
  have hP0 : 0 < 2 ^ (n % 32) := Nat.pow_pos (by omega)
  have hd := Nat.div_le_self n 32
  have h := sleft_loop a ha la n hn a 0 (List.replicate (n / 32) 0) 0 rfl (by omega) hP0 (by simp; omega)
  refine ⟨_, Ev.congr (fun k => ?_) h, ((Dig.zeros B32_pos _).append (sl_dig B32_pos hP _ _ ha hP0)).trim, norm_trim _, ?_, ?_⟩
  · unfold spec_l1Left.f
    rw [show ((32 : Int)) = ((32 : Nat) : Int) from rfl, wtdiv n 32 (by omega), if_pos (by omega), if_pos (by omega)]
    rfl
  · rw [val_trim, val_shl, sl_val, pow_mul_mod (val B32 a) 32 n, ← B32_pow]
    rfl
  · have := trimL_length (List.replicate (n / 32) 0 ++ sl B32 (2 ^ (n % 32)) 0 a)
    rw [List.length_append, List.length_replicate, sl_length] at this
    omega
theorem sright_loop (a : List Int) (ha : Dig B32 a) (la : a.length ≤ 1073741824) (n : Nat) (hn : n ≤ 1000000) (rest : List Int) : ∀ (i : Nat) (acc : List Int), a.drop i = rest → i ≤ 1073741824 + 1000000 → acc.length ≤ i →
    Ev (fun k => spec_l1Right.l0 k a (n : Int) acc (i : Int)) (trimL (acc ++ sr B32 (2 ^ (n % 32)) rest)) := by
  have hp : n % 32 < 32 := Nat.mod_lt _ (by omega)
  have hP0 : 0 < 2 ^ (n % 32) := Nat.pow_pos (by omega)
  have hw := wtmod n 32 (by omega)
  induction rest with
  | nil =>
    intro i acc hr hi hac
    have hlen := congrArg List.length hr
    rw [List.length_drop] at hlen
    simp at hlen
    refine Ev.step (f := fun _ => some (trimL (acc ++ sr B32 (2 ^ (n % 32)) []))) (fun k => ?_) (Ev.now _)
    simp only [spec_l1Right.l0]
    rw [if_neg (by omega), trim_eq _ (by omega), Option.bind_some, sr, List.append_nil]
  | cons x rest ih =>
    intro i acc hr hi hac
    have hlen := congrArg List.length hr
    rw [List.length_drop] at hlen
    simp at hlen
    have hx : rd a (i : Int) = x := rd_of_drop hr
    have dx := ha.rd B32_pos (i : Int)
    have dy := ha.rd B32_pos ((i : Int) + 1)
    rw [hx] at dx
    have hy : rd a ((i : Int) + 1) = rd rest 0 := by
      rw [← drop_succ_of hr]
      show a.getD _ 0 = (a.drop (i + 1)).getD 0 0
      simp [List.getD_eq_getElem?_getD]
    rw [hy] at dy
    unfold B32 at dx dy
    obtain ⟨u, rfl⟩ : ∃ u : Nat, x = (u : Int) := ⟨x.toNat, by omega⟩
    obtain ⟨v, hv⟩ : ∃ v : Nat, rd rest 0 = (v : Int) := ⟨(rd rest 0).toNat, by omega⟩
    rw [hv] at dy hy
    have h1 := div_split (B := B32) (P := 2 ^ (n % 32)) (x := u) (y := v) hP0 (by unfold B32; omega)
    unfold B32 at h1
    refine Ev.step (fun k => ?_) (ev_to (ih (i + 1) (acc ++ [(((u + B32 * (v % 2 ^ (n % 32))) / 2 ^ (n % 32) : Nat) : Int)]) (drop_succ_of hr) (by omega) (by simp; omega)) (by simp [sr, hv]))
    have h2 : (u + 4294967296 * v) / 2 ^ (n % 32) ≤ u + 4294967296 * v := Nat.div_le_self _ _
    simp only [spec_l1Right.l0]
    rw [if_pos (by omega), at_eq _ _ (by omega), hx, Option.bind_some, wrap64_id (by omega), at_eq _ _ (by omega), hy, Option.bind_some, show ((32 : Int)) = ((32 : Nat) : Int) from rfl, hw, if_pos (by omega), if_pos (by omega)]
    rw [wrap_u64_id (by omega), show ((v : Int) * 4294967296) = ((v * 4294967296 : Nat) : Int) by omega, or_nat' 32 (v * 4294967296) u (by omega) (by omega) ⟨v, by rw [Nat.mul_comm]⟩ (by omega), shr_nat _ _ (by omega), Nat.mul_comm v, low32_nat _ (by omega), h1]
    unfold B32
    rfl
theorem sright_ev (a : List Int) (ha : Dig B32 a) (la : a.length ≤ 1073741824) (n : Nat) (hn : n ≤ 1000000) :
    ∃ r, Ev (fun k => spec_l1Right.f k a (n : Int)) r ∧ Dig B32 r ∧ Norm r ∧ val B32 r = val B32 a / 2 ^ n ∧ r.length ≤ a.length := by
  have hp : n % 32 < 32 := Nat.mod_lt _ (by omega)
  have hP0 : 0 < 2 ^ (n % 32) := Nat.pow_pos (by omega)
  have hd := Nat.div_le_self n 32
  have hdv : 2 ^ (n % 32) ∣ B32 := by rw [B32_pow]; exact Nat.pow_dvd_pow 2 (by omega)
  have h := sright_loop a ha la n hn (a.drop (n / 32)) (n / 32) [] rfl (by omega) (by simp)
  refine ⟨_, Ev.congr (fun k => ?_) h, ?_, norm_trim _, ?_, ?_⟩
  · unfold spec_l1Right.f
    rw [show ((32 : Int)) = ((32 : Nat) : Int) from rfl, wtdiv n 32 (by omega)]
  · rw [List.nil_append]
    exact (sr_dig hP0 _ (ha.drop _)).trim
  · rw [List.nil_append, val_trim, sr_val hP0 hdv, val_drop B32 B32_pos ha, pow_div_mod _ 32 n, ← B32_pow]
  · rw [List.nil_append]
    have := trimL_length (sr B32 (2 ^ (n % 32)) (a.drop (n / 32)))
    rw [sr_length, List.length_drop] at this
    omega
end Go.Proofs.Ytcbmdpecnmbhjaa.M
end
section
namespace Go.Proofs.Ytcbmdpecnmbhjaa.M
open Go.RowKit Go.Proofs.Ytcbmdpecnmbhjaa.G Go.Proofs.YtcbmdpecnmbhjaaV.PrintWords Go.Proofs.YtcbmdpecnmbhjaaV.PrintLast Go.Proofs.YtcbmdpecnmbhjaaV.PrintMore Go.Proofs.Ytcbmdpecnmbhjaa.PA
set_option linter.unusedVariables false
set_option linter.unusedSimpArgs false
theorem mul_step {B : Nat} {a b out : List Int} {i j : Nat} {ai c x c' : Int} (hp : i + j < out.length)
    (hv : val B out + B ^ (i + j) * c.toNat = val B (a.take i) * val B b + B ^ i * (ai.toNat * val B (b.take j)))
    (hx : x.toNat + B * c'.toNat = ai.toNat * (rd b (j : Int)).toNat + (rd out ((i + j : Nat) : Int)).toNat + c.toNat) :
    val B (out.set (i + j) x) + B ^ (i + (j + 1)) * c'.toNat = val B (a.take i) * val B b + B ^ i * (ai.toNat * val B (b.take (j + 1))) := by
  have h1 := val_set B out (i + j) x hp
  rw [val_take_succ, Nat.mul_add, Nat.mul_add, ← Nat.add_assoc i j 1, Nat.pow_succ]
  have h2 := congrArg (B ^ (i + j) * ·) hx
  simp only [Nat.mul_add] at h2
  have h3 : B ^ (i + j) * (B * c'.toNat) = B ^ (i + j) * B * c'.toNat := (Nat.mul_assoc _ _ _).symm
  have h4 : B ^ (i + j) * (ai.toNat * (rd b (j : Int)).toNat) = B ^ i * (ai.toNat * (B ^ j * (rd b (j : Int)).toNat)) := by
    rw [Nat.pow_add]
    simp only [Nat.mul_assoc, Nat.mul_left_comm]
  omega
theorem mul_carry {B : Nat} (hB : 0 < B) {x c' p q o c : Nat} (hp : p < B) (hq : q < B) (ho : o < B) (hc : c < B) (hx : x + B * c' = p * q + o + c) : c' < B := by
  have h1 : p * q ≤ (B - 1) * (B - 1) := Nat.mul_le_mul (by omega) (by omega)
  rcases Nat.lt_or_ge c' B with h | h
  · exact h
  · have h2 : B * B ≤ B * c' := Nat.mul_le_mul_left B h
    obtain ⟨m, rfl⟩ : ∃ m, B = m + 1 := ⟨B - 1, by omega⟩
    simp only [Nat.add_sub_cancel] at h1
    have h3 : (m + 1) * (m + 1) = m * m + 2 * m + 1 := by
      rw [Nat.add_mul, Nat.mul_add, Nat.mul_one, Nat.one_mul]
      omega
    omega
theorem mul_end {B : Nat} {a b out : List Int} {i : Nat} {c : Int} (hp : i + b.length < out.length) (h0 : rd out ((i + b.length : Nat) : Int) = 0)
    (hv : val B out + B ^ (i + b.length) * c.toNat = val B (a.take i) * val B b + B ^ i * ((rd a (i : Int)).toNat * val B (b.take b.length))) :
    val B (out.set (i + b.length) c) = val B (a.take (i + 1)) * val B b := by
  have h1 := val_set B out (i + b.length) c hp
  rw [h0] at h1
  rw [List.take_length] at hv
  rw [val_take_succ, Nat.add_mul]
  have h2 : B ^ i * (rd a (i : Int)).toNat * val B b = B ^ i * ((rd a (i : Int)).toNat * val B b) := Nat.mul_assoc _ _ _
  simp at h1
  omega
def Clear (l : List Int) (n : Nat) : Prop := ∀ m : Nat, n ≤ m → rd l (m : Int) = 0
theorem Clear.set {l : List Int} {n p : Nat} {x : Int} (h : Clear l n) (hp : p < n) : Clear (l.set p x) n := fun m hm => by rw [rd_set_ne _ _ _ _ (by omega)]; exact h m hm
theorem Clear.more {l : List Int} {n : Nat} (h : Clear l n) (x : Int) : Clear (l.set n x) (n + 1) := fun m hm => by rw [rd_set_ne _ _ _ _ (by omega)]; exact h m (by omega)
theorem Clear.zeros (n m : Nat) : Clear (List.replicate n 0) m := fun k hk => by
  rw [rd_nat, List.getD_eq_getElem?_getD, List.getElem?_replicate]
  split <;> rfl
theorem smul_inner (a b : List Int) (ha : Dig B32 a) (hb : Dig B32 b) (la : a.length ≤ 1073741824) (lb : b.length ≤ 1073741824) (i : Nat) (hi : i < a.length)
    (R : List Int → Prop) (next : ∀ out : List Int, out.length = a.length + b.length + 1 → Dig B32 out → Clear out (i + 1 + b.length) → val B32 out = val B32 (a.take (i + 1)) * val B32 b → ∃ r, Ev (fun k => spec_l1Mul.l0 k a b out ((i + 1 : Nat) : Int)) r ∧ R r) (d : Nat) :
    ∀ (j : Nat) (out : List Int) (c : Int), j + d = b.length → out.length = a.length + b.length + 1 → Dig B32 out → Clear out (i + b.length) → 0 ≤ c ∧ c < (B32 : Int) →
    val B32 out + B32 ^ (i + j) * c.toNat = val B32 (a.take i) * val B32 b + B32 ^ i * ((rd a (i : Int)).toNat * val B32 (b.take j)) →
    ∃ r, Ev (fun k => spec_l1Mul.l1 k a b out (i : Int) c (j : Int)) r ∧ R r := by
  induction d with
  | zero =>
    intro j out c hj hl hd hcl hc hv
    obtain rfl : j = b.length := by omega
    have h1 := mul_end (by omega) (hcl _ (Nat.le_refl _)) hv
    obtain ⟨r, hr, hR⟩ := next (out.set (i + b.length) c) (by simp [hl]) (hd.set _ hc) (by have := hcl.more c; rwa [show i + b.length + 1 = i + 1 + b.length by omega] at this) h1
    refine ⟨r, Ev.step (fun k => ?_) hr, hR⟩
    simp only [spec_l1Mul.l1]
    rw [if_neg (by omega), wrap64_id (by omega), if_pos (by omega), if_pos (by omega), wrap64_id (by omega), show ((i : Int) + (b.length : Int)).toNat = i + b.length by omega]
    rfl
  | succ d ih =>
    intro j out c hj hl hd hcl hc hv
    have dx := ha.rd B32_pos (i : Int)
    have dy := hb.rd B32_pos (j : Int)
    have dz := hd.rd B32_pos ((i + j : Nat) : Int)
    have hb32 : (B32 : Int) = 4294967296 := rfl
    have hb32n : B32 = 4294967296 := rfl
    have hij : ((i : Int) + (j : Int)) = ((i + j : Nat) : Int) := by omega
    have hprod : rd a (i : Int) * rd b (j : Int) = (((rd a (i : Int)).toNat * (rd b (j : Int)).toNat : Nat) : Int) := by
      rw [Int.natCast_mul, Int.toNat_of_nonneg dx.1, Int.toNat_of_nonneg dy.1]
    have hple : (rd a (i : Int)).toNat * (rd b (j : Int)).toNat ≤ 4294967295 * 4294967295 := Nat.mul_le_mul (by omega) (by omega)
    have hs := mul_step (B := B32) (a := a) (b := b) (out := out) (i := i) (j := j) (ai := rd a (i : Int)) (c := c) (x := (rd a (i : Int) * rd b (j : Int) + rd out ((i + j : Nat) : Int) + c) % 4294967296) (c' := (rd a (i : Int) * rd b (j : Int) + rd out ((i + j : Nat) : Int) + c) / 4294967296) (by omega) hv (by rw [hprod, hb32n]; omega)
    obtain ⟨r, hr, hR⟩ := ih (j + 1) _ _ (by omega) (by simp [hl]) (hd.set (i + j) (x := (rd a (i : Int) * rd b (j : Int) + rd out ((i + j : Nat) : Int) + c) % 4294967296) (by omega)) (hcl.set (by omega)) (by rw [hprod]; omega) hs
    refine ⟨r, Ev.step (fun k => ?_) hr, hR⟩
    simp only [spec_l1Mul.l1]
    rw [if_pos (by omega), if_pos (by omega), if_pos (by omega), if_pos (by omega), wrap64_id (by omega), if_pos (by omega), if_pos (by omega), hij, Int.toNat_natCast]
    rw [wrap_u64_id (n := rd a (i : Int) * rd b (j : Int)) (by rw [hprod]; omega), wrap_u64_id (n := rd a (i : Int) * rd b (j : Int) + rd out ((i + j : Nat) : Int)) (by rw [hprod]; omega), wrap_u64_id (n := rd a (i : Int) * rd b (j : Int) + rd out ((i + j : Nat) : Int) + c) (by rw [hprod]; omega), and_low32 _ (by rw [hprod]; omega) (by rw [hprod]; omega), wrap64_id (by omega)]
    rfl
theorem smul_outer (a b : List Int) (ha : Dig B32 a) (hb : Dig B32 b) (la : a.length ≤ 1073741824) (lb : b.length ≤ 1073741824) (d : Nat) : ∀ (i : Nat) (out : List Int), i + d = a.length → out.length = a.length + b.length + 1 → Dig B32 out → Clear out (i + b.length) →
    val B32 out = val B32 (a.take i) * val B32 b →
    ∃ r, Ev (fun k => spec_l1Mul.l0 k a b out (i : Int)) r ∧ Dig B32 r ∧ Norm r ∧ val B32 r = val B32 a * val B32 b ∧ r.length ≤ a.length + b.length + 1 := by
  induction d with
  | zero =>
    intro i out hi hl hd hcl hv
    refine ⟨trimL out, Ev.step (f := fun _ => some (trimL out)) (fun k => ?_) (Ev.now _), hd.trim, norm_trim _, ?_, ?_⟩
    · simp only [spec_l1Mul.l0]
      rw [if_neg (by omega), trim_eq _ (by omega)]
      rfl
    · rw [val_trim, hv, val_take_all _ _ _ (by omega)]
    · have := trimL_length out
      omega
  | succ d ih =>
    intro i out hi hl hd hcl hv
    obtain ⟨r, hr, hR⟩ := smul_inner a b ha hb la lb i (by omega) (fun r => Dig B32 r ∧ Norm r ∧ val B32 r = val B32 a * val B32 b ∧ r.length ≤ a.length + b.length + 1)
      (fun out' h1 h2 h3 h4 => ih (i + 1) out' (by omega) h1 h2 h3 h4) b.length 0 out 0 (by omega) hl hd hcl (by unfold B32; omega) (by simp [val, hv])
    refine ⟨r, Ev.step (fun k => ?_) hr, hR⟩
    simp only [spec_l1Mul.l0]
    rw [if_pos (by omega)]
    rfl
theorem smul_ev (a b : List Int) (ha : Dig B32 a) (hb : Dig B32 b) (la : a.length ≤ 1073741824) (lb : b.length ≤ 1073741824) :
    ∃ r, Ev (fun k => spec_l1Mul.f k a b) r ∧ Dig B32 r ∧ Norm r ∧ val B32 r = val B32 a * val B32 b ∧ r.length ≤ a.length + b.length + 1 := by
  obtain ⟨r, hr, hR⟩ := smul_outer a b ha hb la lb a.length 0 (List.replicate (a.length + b.length + 1) 0) (by omega) (by simp) (Dig.zeros B32_pos _) (Clear.zeros _ _) (by rw [val_zeros]; simp [val])
  refine ⟨r, Ev.congr (fun k => ?_) hr, hR⟩
  unfold spec_l1Mul.f
  rw [wrap64_id (n := (a.length : Int) + (b.length : Int)) (by omega), wrap64_id (by omega), if_pos (by omega), if_pos (by omega), show ((a.length : Int) + (b.length : Int) + 1).toNat = a.length + b.length + 1 by omega]
  rfl
theorem split_mul (x y : Int) (hx : 0 ≤ x) (hy : 0 ≤ y) (M : Int) (hM : 0 < M) : x * y = (x / M * (y / M)) * (M * M) + ((x / M * (y % M)) + (x % M * (y / M))) * M + (x % M * (y % M)) := by
  have h1 := Int.mul_ediv_add_emod x M
  have h2 := Int.mul_ediv_add_emod y M
  generalize x / M = x1 at *
  generalize x % M = x0 at *
  generalize y / M = y1 at *
  generalize y % M = y0 at *
  subst h1
  subst h2
  simp only [Int.add_mul, Int.mul_add]
  have e1 : M * x1 * (M * y1) = x1 * y1 * (M * M) := by simp only [Int.mul_assoc, Int.mul_left_comm, Int.mul_comm]
  have e2 : M * x1 * y0 = x1 * y0 * M := by simp only [Int.mul_assoc, Int.mul_left_comm, Int.mul_comm]
  have e3 : x0 * (M * y1) = x0 * y1 * M := by simp only [Int.mul_assoc, Int.mul_left_comm, Int.mul_comm]
  rw [e1, e2, e3]
  omega
theorem prod_bound {a b A B : Int} (ha : 0 ≤ a ∧ a ≤ A) (hb : 0 ≤ b ∧ b ≤ B) : 0 ≤ a * b ∧ a * b ≤ A * B :=
  ⟨Int.mul_nonneg ha.1 hb.1, Int.mul_le_mul ha.2 hb.2 hb.1 (by omega)⟩
theorem mul64_eq (x y : Int) (hx : 0 ≤ x ∧ x < (B64 : Int)) (hy : 0 ≤ y ∧ y < (B64 : Int)) :
    ∃ hi lo : Int, bits_Mul64.f x y = some (hi, lo) ∧ 0 ≤ hi ∧ hi < (B64 : Int) ∧ 0 ≤ lo ∧ lo < (B64 : Int) ∧ lo + 18446744073709551616 * hi = x * y ∧ hi ≤ 18446744073709551614 := by
  unfold B64 at hx hy ⊢
  have hsp := split_mul x y hx.1 hy.1 4294967296 (by omega)
  have b1 := prod_bound (a := x / 4294967296) (b := y / 4294967296) (A := 4294967295) (B := 4294967295) (by omega) (by omega)
  have b2 := prod_bound (a := x / 4294967296) (b := y % 4294967296) (A := 4294967295) (B := 4294967295) (by omega) (by omega)
  have b3 := prod_bound (a := x % 4294967296) (b := y / 4294967296) (A := 4294967295) (B := 4294967295) (by omega) (by omega)
  have b4 := prod_bound (a := x % 4294967296) (b := y % 4294967296) (A := 4294967295) (B := 4294967295) (by omega) (by omega)
  have hbig := prod_bound (a := x) (b := y) (A := 18446744073709551615) (B := 18446744073709551615) (by omega) (by omega)
  unfold bits_Mul64.f
  rw [and_low32 x hx.1 hx.2, and_low32 y hy.1 hy.2]
  generalize x / 4294967296 * (y / 4294967296) = p11 at *
  generalize x / 4294967296 * (y % 4294967296) = p10 at *
  generalize x % 4294967296 * (y / 4294967296) = p01 at *
  generalize x % 4294967296 * (y % 4294967296) = p00 at *
  generalize x * y = xy at *
  refine ⟨_, _, rfl, ?_⟩
  rw [wrap_u64_id (n := p11) (by omega), wrap_u64_id (n := p10) (by omega), wrap_u64_id (n := p00) (by omega), wrap_u64_id (n := p01) (by omega)]
  rw [wrap_u64_id (n := p10 + p00 / 4294967296) (by omega), and_low32 _ (by omega) (by omega)]
  rw [wrap_u64_id (n := p11 + (p10 + p00 / 4294967296) / 4294967296) (by omega), wrap_u64_id (n := (p10 + p00 / 4294967296) % 4294967296 + p01) (by omega), wrap_u64_id (by omega), wrap_u64]
  omega
theorem dig64 {x : Int} (h : 0 ≤ x ∧ x < (B64 : Int)) : 0 ≤ x ∧ x < 18446744073709551616 := by unfold B64 at h; omega
theorem toNat_lt64 {x : Int} (h : 0 ≤ x ∧ x < (B64 : Int)) : x.toNat < B64 := by unfold B64 at *; omega
theorem mul_place {lo hi x c s1 c1 s2 c2 : Int} {pq : Nat} (hlo : 0 ≤ lo) (hhi : 0 ≤ hi) (hx : 0 ≤ x) (hc : 0 ≤ c) (h1 : 0 ≤ c1) (h2 : 0 ≤ c2) (g1 : 0 ≤ s1)
    (m : lo + 18446744073709551616 * hi = (pq : Int)) (a1 : s1.toNat + B64 * c1.toNat = lo.toNat + x.toNat + (0 : Int).toNat) (a2 : s2.toNat + B64 * c2.toNat = s1.toNat + c.toNat + (0 : Int).toNat) :
    s2.toNat + B64 * (hi + c1 + c2).toNat = pq + x.toNat + c.toNat := by
  unfold B64 at *
  omega
end Go.Proofs.Ytcbmdpecnmbhjaa.M
end
section
namespace Go.Proofs.Ytcbmdpecnmbhjaa.M
open Go.RowKit Go.Proofs.Ytcbmdpecnmbhjaa.G Go.Proofs.YtcbmdpecnmbhjaaV.PrintWords Go.Proofs.YtcbmdpecnmbhjaaV.PrintLast Go.Proofs.YtcbmdpecnmbhjaaV.PrintMore Go.Proofs.Ytcbmdpecnmbhjaa.PA
set_option linter.unusedVariables false
set_option linter.unusedSimpArgs false
theorem imul_inner (a b : List Int) (ha : Dig B64 a) (hb : Dig B64 b) (la : a.length ≤ 1073741824) (lb : b.length ≤ 1073741824) (i : Nat) (hi : i < a.length)
    (R : List Int → Prop) (next : ∀ out : List Int, out.length = a.length + b.length → Dig B64 out → Clear out (i + 1 + b.length) → val B64 out = val B64 (a.take (i + 1)) * val B64 b → ∃ r, Ev (fun k => impl_nat_mul.l0 k b out a (a.length : Int) ((i + 1 : Nat) : Int)) r ∧ R r) (d : Nat) :
    ∀ (j : Nat) (out : List Int) (c : Int), j + d = b.length → out.length = a.length + b.length → Dig B64 out → Clear out (i + b.length) → 0 ≤ c ∧ c < (B64 : Int) →
    val B64 out + B64 ^ (i + j) * c.toNat = val B64 (a.take i) * val B64 b + B64 ^ i * ((rd a (i : Int)).toNat * val B64 (b.take j)) →
    ∃ r, Ev (fun k => impl_nat_mul.l1 k b out (i : Int) (rd a (i : Int)) c a (a.length : Int) (i : Int) b (b.length : Int) (j : Int)) r ∧ R r := by
  induction d with
  | zero =>
    intro j out c hj hl hd hcl hc hv
    obtain rfl : j = b.length := by omega
    have h1 := mul_end (by omega) (hcl _ (Nat.le_refl _)) hv
    obtain ⟨r, hr, hR⟩ := next (out.set (i + b.length) c) (by simp [hl]) (hd.set _ hc) (by have := hcl.more c; rwa [show i + b.length + 1 = i + 1 + b.length by omega] at this) h1
    refine ⟨r, Ev.step (fun k => ?_) hr, hR⟩
    simp only [impl_nat_mul.l1]
    rw [if_neg (by omega), wrap64_id (by omega), if_pos (by omega), if_pos (by omega), wrap64_id (by omega), show ((i : Int) + (b.length : Int)).toNat = i + b.length by omega]
    rfl
  | succ d ih =>
    intro j out c hj hl hd hcl hc hv
    have dx := ha.rd B64_pos (i : Int)
    have dy := hb.rd B64_pos (j : Int)
    have dz := hd.rd B64_pos ((i + j : Nat) : Int)
    have hij : ((i : Int) + (j : Int)) = ((i + j : Nat) : Int) := by omega
    obtain ⟨hi', lo, hm, m1, m2, m3, m4, m5, m6⟩ := mul64_eq _ _ dx dy
    have hprod : rd a (i : Int) * rd b (j : Int) = (((rd a (i : Int)).toNat * (rd b (j : Int)).toNat : Nat) : Int) := by
      rw [Int.natCast_mul, Int.toNat_of_nonneg dx.1, Int.toNat_of_nonneg dy.1]
    rw [hprod] at m5
    obtain ⟨s1, s2, s3, s4, s5⟩ := add64_spec lo (rd out ((i + j : Nat) : Int)) 0 ⟨m3, m4⟩ dz (by omega)
    obtain ⟨q1, q2, q3, q4, q5⟩ := add64_spec (add64s lo (rd out ((i + j : Nat) : Int)) 0) c 0 ⟨s1, s2⟩ hc (by omega)
    have hxv := mul_place m3 m1 dz.1 hc.1 s3 q3 s1 m5 s5 q5
    have hcar := mul_carry B64_pos (toNat_lt64 dx) (toNat_lt64 dy) (toNat_lt64 dz) (toNat_lt64 hc) hxv
    have hs := mul_step (B := B64) (a := a) (b := b) (out := out) (i := i) (j := j) (ai := rd a (i : Int)) (c := c) (by omega) hv hxv
    have hi0 : 0 ≤ hi' + add64c lo (rd out ((i + j : Nat) : Int)) 0 := by omega
    have hi1 : hi' + add64c lo (rd out ((i + j : Nat) : Int)) 0 < 18446744073709551616 := by omega
    have hi2 : 0 ≤ hi' + add64c lo (rd out ((i + j : Nat) : Int)) 0 + add64c (add64s lo (rd out ((i + j : Nat) : Int)) 0) c 0 ∧ hi' + add64c lo (rd out ((i + j : Nat) : Int)) 0 + add64c (add64s lo (rd out ((i + j : Nat) : Int)) 0) c 0 < (B64 : Int) := by omega
    obtain ⟨r, hr, hR⟩ := ih (j + 1) _ _ (by omega) (by simp [hl]) (hd.set (i + j) ⟨q1, q2⟩) (hcl.set (by omega)) hi2 hs
    refine ⟨r, Ev.step (fun k => ?_) hr, hR⟩
    simp only [impl_nat_mul.l1]
    rw [if_pos (by omega), if_pos (by omega), if_pos (by omega), hm, Option.bind_some]
    rw [wrap64_id (n := (i : Int) + (j : Int)) (by omega), if_pos (by omega), if_pos (by omega), hij, Int.toNat_natCast]
    rw [wrap_u64_id ⟨hi0, hi1⟩, wrap_u64_id (dig64 hi2), wrap64_id (by omega)]
    rfl
theorem imul_outer (a b : List Int) (ha : Dig B64 a) (hb : Dig B64 b) (la : a.length ≤ 1073741824) (lb : b.length ≤ 1073741824) (d : Nat) : ∀ (i : Nat) (out : List Int), i + d = a.length → out.length = a.length + b.length → Dig B64 out → Clear out (i + b.length) →
    val B64 out = val B64 (a.take i) * val B64 b →
    ∃ r, Ev (fun k => impl_nat_mul.l0 k b out a (a.length : Int) (i : Int)) r ∧ Dig B64 r ∧ Norm r ∧ val B64 r = val B64 a * val B64 b ∧ r.length ≤ a.length + b.length := by
  induction d with
  | zero =>
    intro i out hi hl hd hcl hv
    refine ⟨trimL out, Ev.step (f := fun _ => some (trimL out)) (fun k => ?_) (Ev.now _), hd.trim, norm_trim _, ?_, ?_⟩
    · simp only [impl_nat_mul.l0]
      rw [if_neg (by omega)]
    · rw [val_trim, hv, val_take_all _ _ _ (by omega)]
    · have := trimL_length out
      omega
  | succ d ih =>
    intro i out hi hl hd hcl hv
    obtain ⟨r, hr, hR⟩ := imul_inner a b ha hb la lb i (by omega) (fun r => Dig B64 r ∧ Norm r ∧ val B64 r = val B64 a * val B64 b ∧ r.length ≤ a.length + b.length)
      (fun out' h1 h2 h3 h4 => ih (i + 1) out' (by omega) h1 h2 h3 h4) b.length 0 out 0 (by omega) hl hd hcl (by unfold B64; omega) (by simp [val, hv])
    refine ⟨r, Ev.step (fun k => ?_) hr, hR⟩
    simp only [impl_nat_mul.l0]
    rw [if_pos (by omega), if_pos (by omega), if_pos (by omega)]
    rfl
theorem imul_ev (a b : List Int) (ha : Dig B64 a) (hb : Dig B64 b) (la : a.length ≤ 1073741824) (lb : b.length ≤ 1073741824) :
    ∃ r, Ev (fun k => impl_nat_mul.f k a b) r ∧ Dig B64 r ∧ Norm r ∧ val B64 r = val B64 a * val B64 b ∧ r.length ≤ a.length + b.length := by
  obtain ⟨r, hr, hR⟩ := imul_outer a b ha hb la lb a.length 0 (List.replicate (a.length + b.length) 0) (by omega) (by simp) (Dig.zeros B64_pos _) (Clear.zeros _ _) (by rw [val_zeros]; simp [val])
  refine ⟨r, Ev.congr (fun k => ?_) hr, hR⟩
  unfold impl_nat_mul.f
  rw [wrap64_id (n := (a.length : Int) + (b.length : Int)) (by omega), if_pos (by omega), if_pos (by omega), show ((a.length : Int) + (b.length : Int)).toNat = a.length + b.length by omega]
  rfl
end Go.Proofs.Ytcbmdpecnmbhjaa.M
end
section
namespace Go.Proofs.Ytcbmdpecnmbhjaa.M
open Go.RowKit Go.Proofs.Ytcbmdpecnmbhjaa.G Go.Proofs.YtcbmdpecnmbhjaaV.PrintWords Go.Proofs.YtcbmdpecnmbhjaaV.PrintLast Go.Proofs.YtcbmdpecnmbhjaaV.PrintMore Go.Proofs.Ytcbmdpecnmbhjaa.PA
set_option linter.unusedVariables false
set_option linter.unusedSimpArgs false
theorem impl_NatMul_ev (a b : List Int) (ha : Dig B64 a) (hb : Dig B64 b) (la : a.length ≤ 1048576) (lb : b.length ≤ 1048576) :
    ∃ r, Ev (fun k => impl_NatMul.f k a b) r ∧ IsNat r (if a.length ≤ 1200 ∧ b.length ≤ 1200 then val B64 a * val B64 b else 0) := by
  unfold impl_NatMul.f
  by_cases h : a.length ≤ 1200 ∧ b.length ≤ 1200
  · obtain ⟨r, hr, hd, hn, hv, hl⟩ := imul_ev (trimL a) (trimL b) ha.trim hb.trim (by have := trimL_length a; omega) (by have := trimL_length b; omega)
    rw [val_trim, val_trim] at hv
    refine ⟨r, Ev.bind (short_two a b (by omega) (by omega)) ?_, ⟨hd, hn, by rw [if_pos h]; exact hv⟩⟩
    simp only [h.1, h.2, and_self, decide_true, Bool.and_self, if_true]
    exact Ev.bind hr (Ev.now _)
  · refine ⟨[], Ev.bind (short_two a b (by omega) (by omega)) ?_, ⟨Dig.nil _, norm_nil, by rw [if_neg h]; rfl⟩⟩
    have h3 : ¬ ((decide (a.length ≤ 1200) && decide (b.length ≤ 1200)) = true) := by simpa using h
    simp only [if_neg h3]
    exact Ev.now _
end Go.Proofs.Ytcbmdpecnmbhjaa.M
end
section
namespace Go.Proofs.Ytcbmdpecnmbhjaa.M
open Go.RowKit Go.Proofs.Ytcbmdpecnmbhjaa.G Go.Proofs.YtcbmdpecnmbhjaaV.PrintWords Go.Proofs.YtcbmdpecnmbhjaaV.PrintLast Go.Proofs.YtcbmdpecnmbhjaaV.PrintMore Go.Proofs.Ytcbmdpecnmbhjaa.PA
set_option linter.unusedVariables false
set_option linter.unusedSimpArgs false
def IsBits (v n : Nat) : Prop := v < 2 ^ n ∧ (n = 0 ∨ 2 ^ (n - 1) ≤ v)
instance (v n : Nat) : Decidable (IsBits v n) := by unfold IsBits; infer_instance
theorem IsBits.uniq {v n m : Nat} (h : IsBits v n) (k : IsBits v m) : n = m := by
  have one : ∀ a b : Nat, IsBits v a → IsBits v b → a ≤ b := by
    intro a b h k
    rcases h.2 with h2 | h2
    · omega
    · rcases Nat.lt_or_ge b a with h3 | h3
      · have := Nat.pow_le_pow_right (n := 2) (by omega) (show b ≤ a - 1 by omega)
        have := k.1
        omega
      · exact h3
  exact Nat.le_antisymm (one n m h k) (one m n k h)
theorem IsBits.zero : IsBits 0 0 := ⟨by decide, Or.inl rfl⟩
theorem IsBits.pos {v n : Nat} (h : IsBits v n) (hv : 0 < v) : 0 < n := by
  rcases Nat.eq_zero_or_pos n with h2 | h2
  · subst h2
    have := h.1
    simp at this
    omega
  · exact h2
theorem IsBits.up {v m s : Nat} (h : IsBits (v / 2 ^ s) m) (hv : 0 < v / 2 ^ s) : IsBits v (s + m) := by
  have hp : 0 < 2 ^ s := Nat.pow_pos (by omega)
  have hm := h.pos hv
  refine ⟨?_, Or.inr ?_⟩
  · rw [Nat.pow_add, Nat.mul_comm]
    exact (Nat.div_lt_iff_lt_mul hp).1 h.1
  · rcases h.2 with h2 | h2
    · omega
    · rw [show s + m - 1 = s + (m - 1) by omega, Nat.pow_add, Nat.mul_comm]
      exact (Nat.le_div_iff_mul_le hp).1 h2
theorem IsBits.le {v n w : Nat} (h : IsBits v n) (hv : v < 2 ^ w) : n ≤ w := by
  rcases h.2 with h2 | h2
  · omega
  · rcases Nat.lt_or_ge w n with h3 | h3
    · have := Nat.pow_le_pow_right (n := 2) (by omega) (show w ≤ n - 1 by omega)
      omega
    · exact h3
theorem lenT : ∀ i : Nat, i < 256 → IsBits i (bt (⟨#[0, 1, 2, 2, 3, 3, 3, 3, 4, 4, 4, 4, 4, 4, 4, 4, 5, 5, 5, 5, 5, 5, 5, 5, 5, 5, 5, 5, 5, 5, 5, 5, 6, 6, 6, 6, 6, 6, 6, 6, 6, 6, 6, 6, 6, 6, 6, 6, 6, 6, 6, 6, 6, 6, 6, 6, 6, 6, 6, 6, 6, 6, 6, 6, 7, 7, 7, 7, 7, 7, 7, 7, 7, 7, 7, 7, 7, 7, 7, 7, 7, 7, 7, 7, 7, 7, 7, 7, 7, 7, 7, 7, 7, 7, 7, 7, 7, 7, 7, 7, 7, 7, 7, 7, 7, 7, 7, 7, 7, 7, 7, 7, 7, 7, 7, 7, 7, 7, 7, 7, 7, 7, 7, 7, 7, 7, 7, 7, 8, 8, 8, 8, 8, 8, 8, 8, 8, 8, 8, 8, 8, 8, 8, 8, 8, 8, 8, 8, 8, 8, 8, 8, 8, 8, 8, 8, 8, 8, 8, 8, 8, 8, 8, 8, 8, 8, 8, 8, 8, 8, 8, 8, 8, 8, 8, 8, 8, 8, 8, 8, 8, 8, 8, 8, 8, 8, 8, 8, 8, 8, 8, 8, 8, 8, 8, 8, 8, 8, 8, 8, 8, 8, 8, 8, 8, 8, 8, 8, 8, 8, 8, 8, 8, 8, 8, 8, 8, 8, 8, 8, 8, 8, 8, 8, 8, 8, 8, 8, 8, 8, 8, 8, 8, 8, 8, 8, 8, 8, 8, 8, 8, 8, 8, 8, 8, 8, 8, 8, 8, 8, 8, 8, 8, 8, 8, 8]⟩ : ByteArray) (i : Int)).toNat ∧ 0 ≤ bt (⟨#[0, 1, 2, 2, 3, 3, 3, 3, 4, 4, 4, 4, 4, 4, 4, 4, 5, 5, 5, 5, 5, 5, 5, 5, 5, 5, 5, 5, 5, 5, 5, 5, 6, 6, 6, 6, 6, 6, 6, 6, 6, 6, 6, 6, 6, 6, 6, 6, 6, 6, 6, 6, 6, 6, 6, 6, 6, 6, 6, 6, 6, 6, 6, 6, 7, 7, 7, 7, 7, 7, 7, 7, 7, 7, 7, 7, 7, 7, 7, 7, 7, 7, 7, 7, 7, 7, 7, 7, 7, 7, 7, 7, 7, 7, 7, 7, 7, 7, 7, 7, 7, 7, 7, 7, 7, 7, 7, 7, 7, 7, 7, 7, 7, 7, 7, 7, 7, 7, 7, 7, 7, 7, 7, 7, 7, 7, 7, 7, 8, 8, 8, 8, 8, 8, 8, 8, 8, 8, 8, 8, 8, 8, 8, 8, 8, 8, 8, 8, 8, 8, 8, 8, 8, 8, 8, 8, 8, 8, 8, 8, 8, 8, 8, 8, 8, 8, 8, 8, 8, 8, 8, 8, 8, 8, 8, 8, 8, 8, 8, 8, 8, 8, 8, 8, 8, 8, 8, 8, 8, 8, 8, 8, 8, 8, 8, 8, 8, 8, 8, 8, 8, 8, 8, 8, 8, 8, 8, 8, 8, 8, 8, 8, 8, 8, 8, 8, 8, 8, 8, 8, 8, 8, 8, 8, 8, 8, 8, 8, 8, 8, 8, 8, 8, 8, 8, 8, 8, 8, 8, 8, 8, 8, 8, 8, 8, 8, 8, 8, 8, 8, 8, 8, 8, 8, 8, 8]⟩ : ByteArray) (i : Int) := by decide +kernel
theorem len_top (c x2 : Nat) (hc : c < 256) (h2 : x2 ≤ 1000) : ∃ m : Nat, IsBits c m ∧ m ≤ 8 ∧ (fun _ : Unit => wrap64 ((x2 : Int) + wrap64 (bt (⟨#[0, 1, 2, 2, 3, 3, 3, 3, 4, 4, 4, 4, 4, 4, 4, 4, 5, 5, 5, 5, 5, 5, 5, 5, 5, 5, 5, 5, 5, 5, 5, 5, 6, 6, 6, 6, 6, 6, 6, 6, 6, 6, 6, 6, 6, 6, 6, 6, 6, 6, 6, 6, 6, 6, 6, 6, 6, 6, 6, 6, 6, 6, 6, 6, 7, 7, 7, 7, 7, 7, 7, 7, 7, 7, 7, 7, 7, 7, 7, 7, 7, 7, 7, 7, 7, 7, 7, 7, 7, 7, 7, 7, 7, 7, 7, 7, 7, 7, 7, 7, 7, 7, 7, 7, 7, 7, 7, 7, 7, 7, 7, 7, 7, 7, 7, 7, 7, 7, 7, 7, 7, 7, 7, 7, 7, 7, 7, 7, 8, 8, 8, 8, 8, 8, 8, 8, 8, 8, 8, 8, 8, 8, 8, 8, 8, 8, 8, 8, 8, 8, 8, 8, 8, 8, 8, 8, 8, 8, 8, 8, 8, 8, 8, 8, 8, 8, 8, 8, 8, 8, 8, 8, 8, 8, 8, 8, 8, 8, 8, 8, 8, 8, 8, 8, 8, 8, 8, 8, 8, 8, 8, 8, 8, 8, 8, 8, 8, 8, 8, 8, 8, 8, 8, 8, 8, 8, 8, 8, 8, 8, 8, 8, 8, 8, 8, 8, 8, 8, 8, 8, 8, 8, 8, 8, 8, 8, 8, 8, 8, 8, 8, 8, 8, 8, 8, 8, 8, 8, 8, 8, 8, 8, 8, 8, 8, 8, 8, 8, 8, 8, 8, 8, 8, 8, 8, 8]⟩ : ByteArray) (c : Int)))) = (fun _ => ((x2 + m : Nat) : Int)) := by
  obtain ⟨h1, h0⟩ := lenT c hc
  have h8 := h1.le (w := 8) hc
  refine ⟨_, h1, h8, funext fun _ => ?_⟩
  generalize bt (⟨#[0, 1, 2, 2, 3, 3, 3, 3, 4, 4, 4, 4, 4, 4, 4, 4, 5, 5, 5, 5, 5, 5, 5, 5, 5, 5, 5, 5, 5, 5, 5, 5, 6, 6, 6, 6, 6, 6, 6, 6, 6, 6, 6, 6, 6, 6, 6, 6, 6, 6, 6, 6, 6, 6, 6, 6, 6, 6, 6, 6, 6, 6, 6, 6, 7, 7, 7, 7, 7, 7, 7, 7, 7, 7, 7, 7, 7, 7, 7, 7, 7, 7, 7, 7, 7, 7, 7, 7, 7, 7, 7, 7, 7, 7, 7, 7, 7, 7, 7, 7, 7, 7, 7, 7, 7, 7, 7, 7, 7, 7, 7, 7, 7, 7, 7, 7, 7, 7, 7, 7, 7, 7, 7, 7, 7, 7, 7, 7, 8, 8, 8, 8, 8, 8, 8, 8, 8, 8, 8, 8, 8, 8, 8, 8, 8, 8, 8, 8, 8, 8, 8, 8, 8, 8, 8, 8, 8, 8, 8, 8, 8, 8, 8, 8, 8, 8, 8, 8, 8, 8, 8, 8, 8, 8, 8, 8, 8, 8, 8, 8, 8, 8, 8, 8, 8, 8, 8, 8, 8, 8, 8, 8, 8, 8, 8, 8, 8, 8, 8, 8, 8, 8, 8, 8, 8, 8, 8, 8, 8, 8, 8, 8, 8, 8, 8, 8, 8, 8, 8, 8, 8, 8, 8, 8, 8, 8, 8, 8, 8, 8, 8, 8, 8, 8, 8, 8, 8, 8, 8, 8, 8, 8, 8, 8, 8, 8, 8, 8, 8, 8, 8, 8, 8, 8, 8, 8]⟩ : ByteArray) (c : Int) = z at *
  rw [wrap64_id (n := z) (by omega), wrap64_id (by omega)]
  omega
set_option maxRecDepth 20000 in
theorem len_j0 (x x2 : Nat) (hx : x < 4294967296) (h2 : x2 ≤ 100) : ∃ m : Nat, IsBits x m ∧ m ≤ 32 ∧ Ev (fun k => bits_Len64.j0 k (x : Int) (x2 : Int)) ((x2 + m : Nat) : Int) := by
  have wr : ∀ a b : Nat, a ≤ 1000 → b ≤ 1000 → wrap64 ((a : Int) + (b : Int)) = ((a + b : Nat) : Int) := by
    intro a b ha hb
    rw [wrap64_id (by omega)]
    omega
  by_cases c1 : 65536 ≤ x
  · by_cases c2 : 256 ≤ x / 65536
    · obtain ⟨m, hm, h8, he⟩ := len_top (x / 65536 / 256) (x2 + 16 + 8) (by omega) (by omega)
      have hb : IsBits x (24 + m) := by
        refine IsBits.up (s := 24) ?_ (by omega)
        rw [show x / 2 ^ 24 = x / 65536 / 256 by omega]
        exact hm
      refine ⟨24 + m, hb, by omega, Ev.step (f := fun _ => some ((x2 + (24 + m) : Nat) : Int)) (fun k => ?_) (Ev.now _)⟩
      have e1 : ((x : Int) / 65536 / 256 % 256) = ((x / 65536 / 256 : Nat) : Int) := by omega
      rw [bits_Len64.j0]
      rw [if_pos (by omega), if_pos (by omega), if_pos (by omega), if_pos (by omega), e1, show (16 : Int) = ((16 : Nat) : Int) from rfl, wr _ _ (by omega) (by omega), show (8 : Int) = ((8 : Nat) : Int) from rfl, wr _ _ (by omega) (by omega), congrFun he ()]
      congr 2
      omega
    · obtain ⟨m, hm, h8, he⟩ := len_top (x / 65536) (x2 + 16) (by omega) (by omega)
      have hb : IsBits x (16 + m) := by
        refine IsBits.up (s := 16) ?_ (by omega)
        exact hm
      refine ⟨16 + m, hb, by omega, Ev.step (f := fun _ => some ((x2 + (16 + m) : Nat) : Int)) (fun k => ?_) (Ev.now _)⟩
      have e1 : ((x : Int) / 65536 % 256) = ((x / 65536 : Nat) : Int) := by omega
      rw [bits_Len64.j0]
      rw [if_pos (by omega), if_neg (by omega), if_pos (by omega), if_pos (by omega), e1, show (16 : Int) = ((16 : Nat) : Int) from rfl, wr _ _ (by omega) (by omega), congrFun he ()]
      congr 2
      omega
  · by_cases c2 : 256 ≤ x
    · obtain ⟨m, hm, h8, he⟩ := len_top (x / 256) (x2 + 8) (by omega) (by omega)
      have hb : IsBits x (8 + m) := by
        refine IsBits.up (s := 8) ?_ (by omega)
        exact hm
      refine ⟨8 + m, hb, by omega, Ev.step (f := fun _ => some ((x2 + (8 + m) : Nat) : Int)) (fun k => ?_) (Ev.now _)⟩
      have e1 : ((x : Int) / 256 % 256) = ((x / 256 : Nat) : Int) := by omega
      rw [bits_Len64.j0]
      rw [if_neg (by omega), if_pos (by omega), if_pos (by omega), if_pos (by omega), e1, show (8 : Int) = ((8 : Nat) : Int) from rfl, wr _ _ (by omega) (by omega), congrFun he ()]
      congr 2
      omega
    · obtain ⟨m, hm, h8, he⟩ := len_top x x2 (by omega) (by omega)
      refine ⟨m, hm, by omega, Ev.step (f := fun _ => some ((x2 + m : Nat) : Int)) (fun k => ?_) (Ev.now _)⟩
      have e1 : ((x : Int) % 256) = (x : Int) := by omega
      rw [bits_Len64.j0]
      rw [if_neg (by omega), if_neg (by omega), if_pos (by omega), if_pos (by omega), e1, congrFun he ()]
theorem len64_ev (x : Nat) (hx : x < 18446744073709551616) : ∃ m : Nat, IsBits x m ∧ m ≤ 64 ∧ Ev (fun k => bits_Len64.f k (x : Int)) (m : Int) := by
  unfold bits_Len64.f
  by_cases c : 4294967296 ≤ x
  · obtain ⟨m, hm, h1, h2⟩ := len_j0 (x / 4294967296) 32 (by omega) (by omega)
    refine ⟨32 + m, IsBits.up (s := 32) hm (by omega), by omega, Ev.congr (fun k => ?_) h2⟩
    rw [if_pos (by omega)]
    rfl
  · obtain ⟨m, hm, h1, h2⟩ := len_j0 x 0 (by omega) (by omega)
    refine ⟨m, hm, by omega, Ev.congr (fun k => ?_) (ev_to h2 (by simp))⟩
    rw [if_neg (by omega)]
    rfl
theorem sbits_loop (m : Nat) : ∀ (u n : Nat), IsBits u m → n + m ≤ 4611686018427387904 → Ev (fun k => spec_l1Bits.l0 k (n : Int) (u : Int)) ((n + m : Nat) : Int) := by
  induction m with
  | zero =>
    intro u n h hb
    have := h.1
    refine Ev.step (f := fun _ => some ((n + 0 : Nat) : Int)) (fun k => ?_) (Ev.now _)
    simp only [spec_l1Bits.l0]
    rw [if_neg (by omega)]
    rfl
  | succ m ih =>
    intro u n h hb
    have hu : 2 ^ m ≤ u := by
      rcases h.2 with h2 | h2
      · omega
      · simpa using h2
    have hp : 0 < 2 ^ m := Nat.pow_pos (by omega)
    have h1 := h.1
    rw [Nat.pow_succ] at h1
    have hh : IsBits (u / 2) m := by
      refine ⟨by omega, ?_⟩
      rcases Nat.eq_zero_or_pos m with h3 | h3
      · exact Or.inl h3
      · right
        rw [show m = (m - 1) + 1 by omega, Nat.pow_succ] at hu
        omega
    refine Ev.step (fun k => ?_) (ev_to (ih (u / 2) (n + 1) hh (by omega)) (by congr 1; omega))
    simp only [spec_l1Bits.l0]
    rw [if_pos (by omega), wrap64_id (by omega)]
    rfl
def ofW (v : Nat) : List Int := trimL [((v % 4294967296 : Nat) : Int), ((v / 4294967296 : Nat) : Int)]
theorem ofW_cases (v : Nat) : (v / 4294967296 ≠ 0 ∧ ofW v = [((v % 4294967296 : Nat) : Int), ((v / 4294967296 : Nat) : Int)]) ∨ (v / 4294967296 = 0 ∧ v ≠ 0 ∧ ofW v = [(v : Int)]) ∨ (v = 0 ∧ ofW v = []) := by
  have e2 : ∀ x y : Int, [x, y] = [x] ++ [y] := fun _ _ => rfl
  have e1 : ∀ x : Int, [x] = [] ++ [x] := fun _ => rfl
  unfold ofW
  by_cases h : v / 4294967296 = 0
  · have e3 : trimL [((v % 4294967296 : Nat) : Int), ((v / 4294967296 : Nat) : Int)] = trimL [(v : Int)] := by
      rw [h, show v % 4294967296 = v by omega, e2, show (((0 : Nat)) : Int) = 0 from rfl, trimL_snoc_zero]
    by_cases h0 : v = 0
    · exact Or.inr (Or.inr ⟨h0, by rw [e3, h0, e1, show (((0 : Nat)) : Int) = 0 from rfl, trimL_snoc_zero]; rfl⟩)
    · exact Or.inr (Or.inl ⟨h, h0, by rw [e3, e1, trimL_snoc_ne _ _ (by omega)]⟩)
  · exact Or.inl ⟨h, by rw [e2, trimL_snoc_ne _ _ (by omega)]⟩
theorem ofW_eq (v : Nat) (hv : v < 18446744073709551616) : spec_l1Of.f (v : Int) = some (ofW v) := by
  unfold spec_l1Of.f
  rw [trim_eq _ (by simp), Option.bind_some, and_low32 _ (by omega) (by omega)]
  rfl
theorem ofW_dig (v : Nat) (hv : v < 18446744073709551616) : Dig B32 (ofW v) := by
  unfold ofW
  exact (Dig.cons (by unfold B32; omega) (Dig.cons (by unfold B32; omega) (Dig.nil _))).trim
theorem ofW_val (v : Nat) : val B32 (ofW v) = v := by
  unfold ofW
  rw [val_trim]
  simp only [val_cons, val_nil]
  unfold B32
  omega
theorem ofW_length (v : Nat) : (ofW v).length ≤ 2 := by
  unfold ofW
  have := trimL_length [((v % 4294967296 : Nat) : Int), ((v / 4294967296 : Nat) : Int)]
  simpa using this
theorem sbits_ev (v m : Nat) (hv : v < 18446744073709551616) (hm : IsBits v m) : Ev (fun k => spec_l1Bits.f k (ofW v)) (m : Int) := by
  have w0 : wrap64 0 = 0 := wrap64_id (by omega)
  have w1 : wrap64 1 = 1 := wrap64_id (by omega)
  have w32 : wrap64 32 = 32 := wrap64_id (by omega)
  unfold spec_l1Bits.f
  rcases ofW_cases v with ⟨h, e⟩ | ⟨h, h0, e⟩ | ⟨h0, e⟩
  · rw [e]
    obtain ⟨q, hq, _, _⟩ := len64_ev (v / 4294967296) (by omega)
    have hb : IsBits v (32 + q) := IsBits.up (s := 32) hq (by omega)
    have := hm.uniq hb
    subst this
    have hq8 := hq.le (w := 64) (by omega)
    refine Ev.congr (fun k => ?_) (sbits_loop q (v / 4294967296) 32 hq (by omega))
    rw [show (([((v % 4294967296 : Nat) : Int), ((v / 4294967296 : Nat) : Int)].length : Int)) = 2 from rfl, show (2 : Int) - 1 = 1 from rfl, w1, if_neg (by decide), if_pos (by decide), if_pos (by decide), show (32 : Int) * 1 = 32 from rfl, w32]
    rfl
  · rw [e]
    refine Ev.congr (fun k => ?_) (ev_to (sbits_loop m v 0 hm (by have := hm.le (w := 64) hv; omega)) (by simp))
    rw [show (([(v : Int)].length : Int)) = 1 from rfl, show (1 : Int) - 1 = 0 from rfl, w0, if_neg (by decide), if_pos (by decide), if_pos (by decide), show (32 : Int) * 0 = 0 from rfl, w0]
    rfl
  · rw [e]
    subst h0
    obtain rfl := hm.uniq IsBits.zero
    exact Ev.congr (fun k => by simp) (Ev.now _)
end Go.Proofs.Ytcbmdpecnmbhjaa.M
end
section
namespace Go.Proofs.Ytcbmdpecnmbhjaa.M
open Go.RowKit Go.Proofs.Ytcbmdpecnmbhjaa.G Go.Proofs.YtcbmdpecnmbhjaaV.PrintWords Go.Proofs.YtcbmdpecnmbhjaaV.PrintLast Go.Proofs.YtcbmdpecnmbhjaaV.PrintMore Go.Proofs.Ytcbmdpecnmbhjaa.PA
set_option linter.unusedVariables false
set_option linter.unusedSimpArgs false
theorem bits_or_range (x y : Int) : 0 ≤ Go.bits .or .u64 x y ∧ Go.bits .or .u64 x y < 18446744073709551616 := by
  unfold Go.bits
  simp only
  rw [wrap_u64]
  omega
theorem u64_range (x : Int) : 0 ≤ IntKind.u64.wrap x ∧ IntKind.u64.wrap x < (B64 : Int) := by
  rw [wrap_u64]
  unfold B64
  omega
theorem shl1_range (p : Int) : 0 ≤ shl .u64 1 p ∧ shl .u64 1 p < (B64 : Int) := by
  unfold shl
  rw [wrap_u64]
  unfold B64
  omega
theorem dig64_one (x : Int) (h : 0 ≤ x ∧ x < (B64 : Int)) {l : List Int} (hl : Dig B64 l) : Dig B64 (l ++ [x]) := hl.snoc h
theorem next_ev (b : List Int) (hb : Dig 256 b) (lb : b.length ≤ 1048576) (i : Nat) (hi : i ≤ b.length) : ∃ c i' : Nat, spec_l1Reader_next.f b (i : Int) = some ((c : Int), (i' : Int)) ∧ c < 256 ∧ i' ≤ b.length := by
  unfold spec_l1Reader_next.f
  by_cases h : i < b.length
  · have hd := hb.rd (by decide) (i : Int)
    have c1 : ¬ (i : Int) ≥ (b.length : Int) := by omega
    have c2 : (i : Int) < (b.length : Int) := by omega
    have b1 : i + 1 ≤ 9223372036854775807 := by omega
    refine ⟨(rd b (i : Int)).toNat, i + 1, ?_, by omega, by omega⟩
    have e1 : wrap64 (rd b (i : Int)) = (((rd b (i : Int)).toNat : Nat) : Int) := by rw [wrap64_id (by omega)]; omega
    have e2 : wrap64 ((i : Int) + 1) = ((i + 1 : Nat) : Int) := by rw [wrap64_id (by omega)]; rfl
    rw [if_neg c1, if_pos (Int.natCast_nonneg _), if_pos c2, e1, e2]
  · refine ⟨0, i, ?_, by decide, hi⟩
    rw [if_pos (by omega)]
    rfl
section
variable (b : List Int) (hb : Dig 256 b) (lb : b.length ≤ 1048576)
include hb lb
theorem wide_loop (d : Nat) : ∀ (j i : Nat) (x : Int), j + d = 8 → i ≤ b.length → 0 ≤ x ∧ x < (B64 : Int) → ∃ (y : Nat) (i' : Nat), Ev (fun k => spec_l1Reader_wide.l0 k x (j : Int) b (i : Int)) ((y : Int), (i' : Int)) ∧ y < B64 ∧ i' ≤ b.length := by
  induction d with
  | zero =>
    intro j i x hj hi hx
    obtain ⟨y, rfl, hy⟩ : ∃ n : Nat, x = (n : Int) ∧ n < B64 := ⟨x.toNat, by omega, by omega⟩
    refine ⟨y, i, Ev.step (f := fun _ => some ((y : Int), (i : Int))) (fun k => ?_) (Ev.now _), hy, hi⟩
    simp only [spec_l1Reader_wide.l0]
    rw [if_neg (by omega)]
  | succ d ih =>
    intro j i x hj hi hx
    obtain ⟨c, i2, hn, hc, hi2⟩ := next_ev b hb lb i hi
    have hr := bits_or_range (IntKind.u64.wrap (x * 256)) (IntKind.u64.wrap (c : Int))
    obtain ⟨y, i3, hE, hy, hi3⟩ := ih (j + 1) i2 (Go.bits .or .u64 (IntKind.u64.wrap (x * 256)) (IntKind.u64.wrap (c : Int))) (by omega) hi2 (by unfold B64; exact hr)
    refine ⟨y, i3, Ev.step (fun k => ?_) hE, hy, hi3⟩
    have c1 : (j : Int) < 8 := by omega
    have e2 : wrap64 ((j : Int) + 1) = ((j + 1 : Nat) : Int) := by rw [wrap64_id (by omega)]; rfl
    simp only [spec_l1Reader_wide.l0]
    rw [if_pos c1, hn, Option.bind_some, e2]
theorem wide_ev (i : Nat) (hi : i ≤ b.length) : ∃ (y : Nat) (i' : Nat), Ev (fun k => spec_l1Reader_wide.f k b (i : Int)) ((y : Int), (i' : Int)) ∧ y < B64 ∧ i' ≤ b.length := by
  unfold spec_l1Reader_wide.f
  exact wide_loop b hb lb 8 0 i 0 (by omega) hi (by unfold B64; omega)
theorem limbs_l1 (d : Nat) : ∀ (i : Nat) (l : List Int), i ≤ b.length → Dig B64 l → l.length ≤ 1201 → 1201 ≤ l.length + d → ∃ (r : List Int) (i' : Nat), Ev (fun k => spec_l1Reader_limbs.l1 k l b (i : Int)) (r, (i' : Int)) ∧ Dig B64 r ∧ r.length ≤ 1201 ∧ i' ≤ b.length := by
  induction d with
  | zero =>
    intro i l hi hl ll hd
    obtain ⟨c, i2, hn, hc, hi2⟩ := next_ev b hb lb i hi
    refine ⟨l, i2, Ev.step (f := fun _ => some (l, (i2 : Int))) (fun k => ?_) (Ev.now _), hl, ll, hi2⟩
    have hm : c % 2 ≤ 1 := by omega
    have e1 : wrap64 (1200 + ((c % 2 : Nat) : Int)) = ((1200 + c % 2 : Nat) : Int) := by rw [wrap64_id (by omega)]; rfl
    simp only [spec_l1Reader_limbs.l1]
    rw [hn, Option.bind_some]
    dsimp only
    rw [show (2 : Int) = ((2 : Nat) : Int) from rfl, tmod_nat, e1, if_neg (by clear e1; omega)]
  | succ d ih =>
    intro i l hi hl ll hd
    obtain ⟨c, i2, hn, hc, hi2⟩ := next_ev b hb lb i hi
    have hm : c % 2 ≤ 1 := by omega
    have e1 : wrap64 (1200 + ((c % 2 : Nat) : Int)) = ((1200 + c % 2 : Nat) : Int) := by rw [wrap64_id (by omega)]; rfl
    by_cases h : l.length < 1200 + c % 2
    · obtain ⟨r, i3, hE, p⟩ := ih i2 (l ++ [IntKind.u64.wrap (l.length : Int)]) hi2 (dig64_one _ (u64_range _) hl) (by simp; clear e1; omega) (by simp; clear e1; omega)
      refine ⟨r, i3, Ev.step (fun k => ?_) hE, p⟩
      have c1 : (l.length : Int) < ((1200 + c % 2 : Nat) : Int) := by clear e1; omega
      have c2 : l.length < 17592186044416 := by clear e1; omega
      simp only [spec_l1Reader_limbs.l1]
      rw [hn, Option.bind_some]
      dsimp only
      rw [show (2 : Int) = ((2 : Nat) : Int) from rfl, tmod_nat, e1, if_pos c1, if_pos c2]
    · refine ⟨l, i2, Ev.step (f := fun _ => some (l, (i2 : Int))) (fun k => ?_) (Ev.now _), hl, ll, hi2⟩
      have c1 : ¬ (l.length : Int) < ((1200 + c % 2 : Nat) : Int) := by clear e1; omega
      simp only [spec_l1Reader_limbs.l1]
      rw [hn, Option.bind_some]
      dsimp only
      rw [show (2 : Int) = ((2 : Nat) : Int) from rfl, tmod_nat, e1, if_neg c1]
theorem limbs_l0 (K : Int) (n : Nat) : ∀ (i : Nat) (l : List Int), i ≤ b.length → Dig B64 l → l.length + n ≤ 100 → ∃ (r : List Int) (i' : Nat), Ev (fun k => spec_l1Reader_limbs.l0 k K (n : Int) l b (i : Int)) (r, (i' : Int)) ∧ Dig B64 r ∧ r.length ≤ 1201 ∧ i' ≤ b.length := by
  induction n with
  | zero =>
    intro i l hi hl ll
    by_cases h : K = 255
    · obtain ⟨r, i3, hE, p⟩ := limbs_l1 b hb lb 1201 i l hi hl (by omega) (by omega)
      refine ⟨r, i3, Ev.step (fun k => ?_) hE, p⟩
      simp only [spec_l1Reader_limbs.l0]
      rw [if_neg (by decide), if_pos h]
    · refine ⟨l, i, Ev.step (f := fun _ => some (l, (i : Int))) (fun k => ?_) (Ev.now _), hl, by omega, hi⟩
      simp only [spec_l1Reader_limbs.l0]
      rw [if_neg (by decide), if_neg h]
  | succ n ih =>
    intro i l hi hl ll
    obtain ⟨c, i2, hn, hc, hi2⟩ := next_ev b hb lb i hi
    have c0 : ((n + 1 : Nat) : Int) > 0 := by omega
    have c2 : l.length < 17592186044416 := by omega
    have ew : wrap64 (((n + 1 : Nat) : Int) - 1) = (n : Int) := by rw [show (((n + 1 : Nat) : Int) - 1) = (n : Int) by omega]; exact wrap64_id (by omega)
    have e6 : Int.tmod (c : Int) 6 = ((c % 6 : Nat) : Int) := tmod_nat c 6
    have ll1 : ∀ x : Int, (l ++ [x]).length + n ≤ 100 := fun x => by rw [List.length_append, List.length_singleton]; clear ew; omega
    by_cases h0 : c % 6 = 0
    · obtain ⟨r, i3, hE, p⟩ := ih i2 (l ++ [0]) hi2 (dig64_one _ (by unfold B64; omega) hl) (ll1 _)
      refine ⟨r, i3, Ev.step (fun k => ?_) hE, p⟩
      simp only [spec_l1Reader_limbs.l0]
      rw [if_pos c0, hn, Option.bind_some]
      dsimp only
      rw [e6, h0, if_pos (show ((0 : Nat) : Int) = 0 from rfl), if_pos c2, ew]
    by_cases h1 : c % 6 = 1
    · obtain ⟨r, i3, hE, p⟩ := ih i2 (l ++ [18446744073709551615]) hi2 (dig64_one _ (by unfold B64; omega) hl) (ll1 _)
      refine ⟨r, i3, Ev.step (fun k => ?_) hE, p⟩
      simp only [spec_l1Reader_limbs.l0]
      rw [if_pos c0, hn, Option.bind_some]
      dsimp only
      rw [e6, h1, if_neg (by decide), if_pos (show ((1 : Nat) : Int) = 1 from rfl), if_pos c2, ew]
    by_cases h2 : c % 6 = 2
    · obtain ⟨r, i3, hE, p⟩ := ih i2 (l ++ [IntKind.u64.wrap (c : Int)]) hi2 (dig64_one _ (u64_range _) hl) (ll1 _)
      refine ⟨r, i3, Ev.step (fun k => ?_) hE, p⟩
      simp only [spec_l1Reader_limbs.l0]
      rw [if_pos c0, hn, Option.bind_some]
      dsimp only
      rw [e6, h2, if_neg (by decide), if_neg (by decide), if_pos (show ((2 : Nat) : Int) = 2 from rfl), if_pos c2, ew]
    have n0 : ¬ ((c % 6 : Nat) : Int) = 0 := by clear ew; omega
    have n1 : ¬ ((c % 6 : Nat) : Int) = 1 := by clear ew; omega
    have n2 : ¬ ((c % 6 : Nat) : Int) = 2 := by clear ew; omega
    by_cases h3 : c % 6 = 3
    · obtain ⟨c', i3, hn', hc', hi3⟩ := next_ev b hb lb i2 hi2
      obtain ⟨r, i4, hE, p⟩ := ih i3 (l ++ [shl .u64 1 (IntKind.u64.wrap (Int.tmod (c' : Int) 64))]) hi3 (dig64_one _ (shl1_range _) hl) (ll1 _)
      refine ⟨r, i4, Ev.step (fun k => ?_) hE, p⟩
      have g : 0 ≤ IntKind.u64.wrap (Int.tmod (c' : Int) 64) := (u64_range _).1
      simp only [spec_l1Reader_limbs.l0]
      rw [if_pos c0, hn, Option.bind_some]
      dsimp only
      rw [e6, if_neg n0, if_neg n1, if_neg n2, h3, if_pos (show ((3 : Nat) : Int) = 3 from rfl), hn', Option.bind_some]
      dsimp only
      rw [if_pos g, if_pos c2, ew]
    · have n3 : ¬ ((c % 6 : Nat) : Int) = 3 := by clear ew; omega
      obtain ⟨y, i3, hw, hy, hi3⟩ := wide_ev b hb lb i2 hi2
      obtain ⟨r, i4, hE, p⟩ := ih i3 (l ++ [(y : Int)]) hi3 (dig64_one _ (cast_dig hy) hl) (ll1 _)
      refine ⟨r, i4, Ev.step (f := fun k => (spec_l1Reader_wide.f k b (i2 : Int)).bind fun t => if l.length < 17592186044416 then spec_l1Reader_limbs.l0 k K (n : Int) (l ++ [t.1]) b t.2 else none) (fun k => ?_) (Ev.bind hw (Ev.congr (fun k => by rw [if_pos c2]) hE)), p⟩
      simp only [spec_l1Reader_limbs.l0]
      rw [if_pos c0, hn, Option.bind_some]
      dsimp only
      rw [e6, if_neg n0, if_neg n1, if_neg n2, if_neg n3, ew]
theorem limbs_ev (i : Nat) (hi : i ≤ b.length) : ∃ (r : List Int) (i' : Nat), Ev (fun k => spec_l1Reader_limbs.f k b (i : Int)) (r, (i' : Int)) ∧ Dig B64 r ∧ r.length ≤ 1201 ∧ i' ≤ b.length := by
  obtain ⟨c, i2, hn, hc, hi2⟩ := next_ev b hb lb i hi
  unfold spec_l1Reader_limbs.f
  have e7 : Int.tmod (c : Int) 7 = ((c % 7 : Nat) : Int) := tmod_nat c 7
  have e16 : Int.tmod (c : Int) 16 = ((c % 16 : Nat) : Int) := tmod_nat c 16
  by_cases h : 240 ≤ c
  · obtain ⟨r, i3, hE, p⟩ := limbs_l0 b hb lb (c : Int) (8 + c % 16 * 3) i2 [] hi2 (Dig.nil _) (by simp; omega)
    refine ⟨r, i3, ?_, p⟩
    have b1 : c % 16 * 3 ≤ 48 := by omega
    have f1 : wrap64 (((c % 16 : Nat) : Int) * 3) = ((c % 16 * 3 : Nat) : Int) := by rw [wrap64_id (by omega)]; rfl
    have f2 : wrap64 (8 + ((c % 16 * 3 : Nat) : Int)) = ((8 + c % 16 * 3 : Nat) : Int) := by rw [wrap64_id (by clear f1; omega)]; rfl
    have g : (c : Int) ≥ 240 := by clear f1 f2; omega
    have hE2 : Ev (fun k => spec_l1Reader_limbs.j0 k (c : Int) ((8 + c % 16 * 3 : Nat) : Int) b (i2 : Int)) (r, (i3 : Int)) := Ev.step (fun k => by simp only [spec_l1Reader_limbs.j0]) hE
    refine Ev.congr (fun k => ?_) hE2
    rw [hn, Option.bind_some]
    dsimp only
    rw [if_pos g, e16, f1, f2]
  · obtain ⟨r, i3, hE, p⟩ := limbs_l0 b hb lb (c : Int) (c % 7) i2 [] hi2 (Dig.nil _) (by simp; omega)
    refine ⟨r, i3, ?_, p⟩
    have g : ¬ (c : Int) ≥ 240 := by omega
    have hE2 : Ev (fun k => spec_l1Reader_limbs.j0 k (c : Int) ((c % 7 : Nat) : Int) b (i2 : Int)) (r, (i3 : Int)) := Ev.step (fun k => by simp only [spec_l1Reader_limbs.j0]) hE
    refine Ev.congr (fun k => ?_) hE2
    rw [hn, Option.bind_some]
    dsimp only
    rw [if_neg g, e7]
end
end Go.Proofs.Ytcbmdpecnmbhjaa.M
end
section
namespace Go.Proofs.Ytcbmdpecnmbhjaa.M
open Go.RowKit Go.Proofs.Ytcbmdpecnmbhjaa.G Go.Proofs.YtcbmdpecnmbhjaaV.PrintWords Go.Proofs.YtcbmdpecnmbhjaaV.PrintLast Go.Proofs.YtcbmdpecnmbhjaaV.PrintMore Go.Proofs.Ytcbmdpecnmbhjaa.PA
set_option linter.unusedVariables false
set_option linter.unusedSimpArgs false
theorem set_mid (acc r : List Int) (c y : Int) (p : Nat) (h : p = acc.length) : (acc ++ c :: r).set p y = acc ++ y :: r := by
  subst h
  rw [List.set_append_right _ _ (Nat.le_refl _), Nat.sub_self]
  rfl
theorem rd_mid (acc r : List Int) (c : Int) (p : Nat) (h : p = acc.length) : rd (acc ++ c :: r) (p : Int) = c := by
  subst h
  simp [rd_nat, List.getD_eq_getElem?_getD]
theorem sh64 (p : Nat) (hp : 0 < p ∧ p < 64) : IntKind.u64.wrap (64 - (p : Int)) = ((64 - p : Nat) : Int) := by
  rw [wrap_u64_id (by omega)]
  omega
theorem place_up (p x c : Nat) (hp : p < 64) (hx : x < B64) (hc : c < 2 ^ p) : bits .or .u64 (c : Int) (shl .u64 (x : Int) (p : Int)) = (((x * 2 ^ p + c) % B64 : Nat) : Int) := by
  have hs := pow_split 64 p (by omega)
  have hK : 0 < 2 ^ (64 - p) := Nat.pow_pos (by omega)
  have hmod : x * 2 ^ p % 18446744073709551616 = x % 2 ^ (64 - p) * 2 ^ p := by
    rw [show 18446744073709551616 = 2 ^ 64 from rfl, hs, Nat.mul_mod_mul_right]
  have hlt := Nat.mod_lt x hK
  have h1 := Nat.mul_le_mul_right (2 ^ p) (show x % 2 ^ (64 - p) + 1 ≤ 2 ^ (64 - p) from hlt)
  rw [Nat.add_mul, Nat.one_mul, ← hs] at h1
  have h2 : (2 : Nat) ^ 64 = 18446744073709551616 := rfl
  rw [h2] at h1
  have h3 : (x * 2 ^ p + c) % B64 = c + x % 2 ^ (64 - p) * 2 ^ p := by
    unfold B64
    rw [Nat.add_mod, hmod, Nat.mod_eq_of_lt (a := c) (by omega), Nat.mod_eq_of_lt (by omega), Nat.add_comm]
  rw [shl_nat _ _ (by omega), hmod, or_nat' p _ _ (by omega) (by omega) (Nat.dvd_mul_left _ _) hc, h3]
theorem up_carry (p x c : Nat) (hp : p < 64) (hc : c < 2 ^ p) : (x * 2 ^ p + c) / B64 = x / 2 ^ (64 - p) := by
  rw [B64_pow, pow_split 64 p (by omega), Nat.mul_comm (2 ^ (64 - p)), ← Nat.div_div_eq_div_mul, Nat.add_comm, Nat.add_mul_div_right _ _ (Nat.pow_pos (by omega)), Nat.div_eq_of_lt hc, Nat.zero_add]
theorem wadd (i d : Nat) (h : i + d ≤ 9223372036854775807) : wrap64 ((i : Int) + (d : Int)) = ((i + d : Nat) : Int) := by
  rw [wrap64_id (by omega)]
  omega
theorem ileft_loop (a : List Int) (ha : Dig B64 a) (la : a.length ≤ 1073741824) (N : Int) (d p : Nat) (hw : Unit → wrap64 (Int.tdiv N 64) = (d : Int)) (hd : d ≤ 1000000) (hp : p < 64) (rest : List Int) : ∀ (i : Nat) (acc : List Int) (c : Nat), a.drop i = rest → i ≤ a.length → c < 2 ^ p → acc.length = i + d →
    Ev (fun k => impl_nat_left.l0 k N (acc ++ (c : Int) :: List.replicate rest.length 0) (p : Int) a (a.length : Int) (i : Int)) (trimL (acc ++ sl B64 (2 ^ p) c rest)) := by
  induction rest with
  | nil =>
    intro i acc c hr hi hc hac
    have hlen := congrArg List.length hr
    rw [List.length_drop] at hlen
    simp at hlen
    refine Ev.step (f := fun _ => some (trimL (acc ++ sl B64 (2 ^ p) c []))) (fun k => ?_) (Ev.now _)
    simp only [impl_nat_left.l0]
    rw [if_neg (by omega)]
    rfl
  | cons x rest ih =>
    intro i acc c hr hi hc hac
    have hlen := congrArg List.length hr
    rw [List.length_drop] at hlen
    simp at hlen
    have hx : rd a (i : Int) = x := rd_of_drop hr
    have dx := ha.rd B64_pos (i : Int)
    rw [hx] at dx
    obtain ⟨y, rfl⟩ : ∃ y : Nat, x = (y : Int) := ⟨x.toNat, by omega⟩
    have hy : y < B64 := by omega
    have e1 := fun _ : Unit => wadd i d (by omega)
    have e5 := fun _ : Unit => wadd i 1 (by omega)
    have e6 := fun _ : Unit => wadd (i + d) 1 (by omega)
    have g1 : (i : Int) < (a.length : Int) := by omega
    have g2 : 0 ≤ (i : Int) := by omega
    have g3 : 0 ≤ ((i + d : Nat) : Int) := by omega
    have g4 : 0 ≤ (p : Int) := by omega
    have g6 : 0 ≤ ((i + d + 1 : Nat) : Int) := by omega
    have ll : ∀ z : Int, (acc ++ z :: List.replicate ((y : Int) :: rest).length 0).length = i + d + rest.length + 2 := by
      intro z
      simp
      omega
    have g5 : ((i + d : Nat) : Int) < ((i + d + rest.length + 2 : Nat) : Int) := by omega
    have g7 : ((i + d + 1 : Nat) : Int) < ((i + d + rest.length + 2 : Nat) : Int) := by omega
    have l2 : ∀ z : Int, i + d + 1 = (acc ++ [z]).length := by
      intro z
      simp
      omega
    have hi2 : i + 1 ≤ a.length := by omega
    have hac2 : ∀ z : Int, (acc ++ [z]).length = i + 1 + d := by
      intro z
      simp
      omega
    have hsp := fun h : 0 < p => sh64 p ⟨h, hp⟩
    have hc2 : (y * 2 ^ p + c) / B64 < 2 ^ p := carry_lt hy hc
    have huc := up_carry p y c hp hc
    have hpu := place_up p y c hp hy hc
    have hz : y / 2 ^ (64 - p) < B64 := Nat.lt_of_le_of_lt (Nat.div_le_self _ _) hy
    have e4 := or_nat' 0 (y / 2 ^ (64 - p)) 0 (by omega) (by unfold B64 at hz; exact hz) (by simp) (by omega)
    rw [Nat.zero_add] at e4
    have h64 : 64 - p ≤ 64 := Nat.sub_le _ _
    have h0 : p = 0 → (y * 2 ^ p + c) / B64 = 0 := by
      intro h0
      subst h0
      have : c = 0 := by omega
      rw [this, Nat.pow_zero, Nat.mul_one, Nat.add_zero, Nat.div_eq_of_lt hy]
    have hpp : ¬ p = 0 → (p : Int) > 0 := by omega
    have hpn : p = 0 → ¬ (p : Int) > 0 := by omega
    have hp0 : ¬ p = 0 → 0 < p := by omega
    have hpk : 0 ≤ ((64 - p : Nat) : Int) := by omega
    have hr0 : ∀ z : Int, acc ++ z :: List.replicate ((y : Int) :: rest).length 0 = (acc ++ [z]) ++ 0 :: List.replicate rest.length 0 := by
      intro z
      simp [List.replicate_succ]
    have hih := ih (i + 1) (acc ++ [(((y * 2 ^ p + c) % B64 : Nat) : Int)]) ((y * 2 ^ p + c) / B64) (drop_succ_of hr) hi2 hc2 (hac2 _)
    refine Ev.step (fun k => ?_) (ev_to hih (by simp [sl]))
    simp only [impl_nat_left.l0]
    rw [if_pos g1, if_pos g2, if_pos g1, hw (), e1 (), if_pos g3, if_pos (by rw [ll]; exact g5), if_pos g4, Option.bind_some, Int.toNat_natCast, rd_mid _ _ _ _ hac.symm, set_mid _ _ _ _ _ hac.symm, hx, hpu]
    by_cases hpz : p = 0
    · rw [if_neg (hpn hpz), show (1 : Int) = ((1 : Nat) : Int) from rfl, e5 (), h0 hpz, hr0]
      rfl
    · rw [if_pos (hpp hpz), show (1 : Int) = ((1 : Nat) : Int) from rfl, e6 (), e5 (), if_pos g6, if_pos (by rw [ll]; exact g7), sh64 _ ⟨hp0 hpz, hp⟩, if_pos hpk, shr_nat _ _ h64, Int.toNat_natCast, hr0, rd_mid _ _ _ _ (l2 _), set_mid _ _ _ _ _ (l2 _), huc]
      rw [show (0 : Int) = ((0 : Nat) : Int) from rfl, e4]
theorem rep_split (n m : Nat) : List.replicate (n + (m + 1)) (0 : Int) = List.replicate n 0 ++ ((0 : Nat) : Int) :: List.replicate m 0 := by
  induction n with
  | zero => rw [Nat.zero_add, List.replicate_succ]; rfl
  | succ n ih => rw [show n + 1 + (m + 1) = (n + (m + 1)) + 1 by omega, List.replicate_succ, ih, List.replicate_succ]; rfl
theorem ileft_ev (a : List Int) (ha : Dig B64 a) (la : a.length ≤ 1048576) (n : Nat) (hn : n ≤ 1000000) :
    ∃ r, Ev (fun k => impl_nat_left.f k a (n : Int)) r ∧ Dig B64 r ∧ Norm r ∧ val B64 r = val B64 a * 2 ^ n := by
  have hp : n % 64 < 64 := Nat.mod_lt _ (by omega)
  have hP : 2 ^ (n % 64) ≤ B64 := by rw [B64_pow]; exact Nat.pow_le_pow_right (by omega) (by omega)
  have hP0 : 0 < 2 ^ (n % 64) := Nat.pow_pos (by omega)
  have hd := Nat.div_le_self n 64
  unfold impl_nat_left.f
  by_cases h0 : (a.length : Int) = 0
  · have : a = [] := List.eq_nil_of_length_eq_zero (by omega)
    subst this
    refine ⟨[], ?_, Dig.nil _, norm_nil, by simp [val]⟩
    exact Ev.now _
  have h := ileft_loop a ha (by omega) (n : Int) (n / 64) (n % 64) (fun _ => wtdiv n 64 (by omega)) (by omega) hp a 0 (List.replicate (n / 64) 0) 0 rfl (by omega) hP0 (by simp)
  refine ⟨_, Ev.congr (fun k => ?_) h, ((Dig.zeros B64_pos _).append (sl_dig B64_pos hP _ _ ha hP0)).trim, norm_trim _, ?_⟩
  · rw [if_neg h0, show ((64 : Int)) = ((64 : Nat) : Int) from rfl, wtdiv n 64 (by omega), wtmod n 64 (by omega), wrap64_id (n := (a.length : Int) + ((n / 64 : Nat) : Int)) (by omega), wrap64_id (by omega), if_pos (by omega), if_pos (by omega)]
    rw [show ((a.length : Int) + ((n / 64 : Nat) : Int) + 1).toNat = n / 64 + (a.length + 1) by omega, rep_split]
    rfl
  · rw [val_trim, val_shl, sl_val, pow_mul_mod (val B64 a) 64 n, ← B64_pow]
    rfl
theorem place_down (p x y : Nat) (hp : 0 < p ∧ p < 64) (hx : x < B64) : bits .or .u64 ((x / 2 ^ p : Nat) : Int) (shl .u64 (y : Int) ((64 - p : Nat) : Int)) = (((x + B64 * (y % 2 ^ p)) / 2 ^ p : Nat) : Int) := by
  have hs := pow_split 64 (64 - p) (by omega)
  rw [show 64 - (64 - p) = p by omega] at hs
  have hP : 0 < 2 ^ p := Nat.pow_pos (by omega)
  have hmod : y * 2 ^ (64 - p) % 18446744073709551616 = y % 2 ^ p * 2 ^ (64 - p) := by
    rw [show 18446744073709551616 = 2 ^ 64 from rfl, hs, Nat.mul_mod_mul_right]
  have hlt := Nat.mod_lt y hP
  have h1 := Nat.mul_le_mul_right (2 ^ (64 - p)) (show y % 2 ^ p + 1 ≤ 2 ^ p from hlt)
  rw [Nat.add_mul, Nat.one_mul, ← hs] at h1
  have h2 : (2 : Nat) ^ 64 = 18446744073709551616 := rfl
  rw [h2] at h1
  have hK : 0 < 2 ^ (64 - p) := Nat.pow_pos (by omega)
  have hxd : x / 2 ^ p < 2 ^ (64 - p) := by
    refine Nat.div_lt_of_lt_mul ?_
    rw [← hs, h2]
    exact hx
  rw [shl_nat _ _ (by omega), hmod, or_nat' (64 - p) _ _ (by omega) (by omega) (Nat.dvd_mul_left _ _) hxd]
  congr 1
  rw [B64_pow, hs, Nat.mul_assoc, Nat.add_mul_div_left _ _ hP, Nat.mul_comm (2 ^ (64 - p))]
theorem iright_loop (l : List Int) (ha : Dig B64 l) (la : l.length ≤ 1073741824) (p : Nat) (hp : p < 64) (rest : List Int) : ∀ (i : Nat) (acc : List Int), l.drop i = rest → i ≤ l.length → acc.length = i →
    Ev (fun k => impl_nat_right.l0 k l (acc ++ List.replicate rest.length 0) (p : Int) (l.length : Int) (i : Int)) (trimL (acc ++ sr B64 (2 ^ p) rest)) := by
  have hP0 : 0 < 2 ^ p := Nat.pow_pos (by omega)
  induction rest with
  | nil =>
    intro i acc hr hi hac
    have hlen := congrArg List.length hr
    rw [List.length_drop] at hlen
    simp at hlen
    refine Ev.step (f := fun _ => some (trimL (acc ++ sr B64 (2 ^ p) []))) (fun k => ?_) (Ev.now _)
    simp only [impl_nat_right.l0]
    rw [if_neg (by omega)]
    rfl
  | cons x rest ih =>
    intro i acc hr hi hac
    have hlen := congrArg List.length hr
    rw [List.length_drop] at hlen
    simp at hlen
    have hx : rd l (i : Int) = x := rd_of_drop hr
    have dx := ha.rd B64_pos (i : Int)
    have dy := ha.rd B64_pos ((i : Int) + 1)
    rw [hx] at dx
    have hy : rd l ((i : Int) + 1) = rd rest 0 := by
      rw [← drop_succ_of hr]
      show l.getD _ 0 = (l.drop (i + 1)).getD 0 0
      simp [List.getD_eq_getElem?_getD]
    rw [hy] at dy
    obtain ⟨u, rfl⟩ : ∃ u : Nat, x = (u : Int) := ⟨x.toNat, by omega⟩
    obtain ⟨v, hv⟩ : ∃ v : Nat, rd rest 0 = (v : Int) := ⟨(rd rest 0).toNat, by omega⟩
    rw [hv] at dy hy
    have hu : u < B64 := by omega
    have e0 : acc ++ List.replicate ((u : Int) :: rest).length 0 = acc ++ (0 : Int) :: List.replicate rest.length 0 := by simp [List.replicate_succ]
    have l1 : (acc ++ (0 : Int) :: List.replicate rest.length 0).length = l.length := by simp; omega
    have g1 : (i : Int) < (l.length : Int) := by omega
    have g2 : 0 ≤ (i : Int) := by omega
    have g4 : 0 ≤ (p : Int) := by omega
    have g6 : 0 ≤ ((i + 1 : Nat) : Int) := by omega
    have hp64 : p ≤ 64 := by omega
    have hpp : ¬ p = 0 → (p : Int) > 0 := by omega
    have hp0 : ¬ p = 0 → 0 < p := by omega
    have hpk : 0 ≤ ((64 - p : Nat) : Int) := by omega
    have e5 := fun _ : Unit => wadd i 1 (by omega)
    rw [e0]
    refine Ev.step (fun k => ?_) (ev_to (ih (i + 1) (acc ++ [(((u + B64 * (v % 2 ^ p)) / 2 ^ p : Nat) : Int)]) (drop_succ_of hr) (by omega) (by simp; omega)) (by simp [sr, hv]))
    simp only [impl_nat_right.l0]
    rw [if_pos g1, if_pos g2, if_pos g1, if_pos g4, if_pos (by rw [l1]; exact g1), Option.bind_some, Int.toNat_natCast, set_mid _ _ _ _ _ hac.symm, hx, shr_nat _ _ hp64]
    by_cases h0 : p = 0
    · subst h0
      rw [if_neg (by decide), show (1 : Int) = ((1 : Nat) : Int) from rfl, e5 ()]
      simp [Nat.mod_one]
    · rw [if_pos (hpp h0), show (1 : Int) = ((1 : Nat) : Int) from rfl, e5 ()]
      by_cases h1 : ((i + 1 : Nat) : Int) < (l.length : Int)
      · rw [if_pos h1, if_pos g6, sh64 _ ⟨hp0 h0, hp⟩, if_pos hpk, rd_mid _ _ _ _ hac.symm, set_mid _ _ _ _ _ hac.symm, show ((i + 1 : Nat) : Int) = (i : Int) + 1 from rfl, hy, place_down p u v ⟨hp0 h0, hp⟩ hu]
        simp
      · rw [if_neg h1]
        have h2 : rest = [] := List.eq_nil_of_length_eq_zero (by omega)
        subst h2
        have h3 : v = 0 := by
          have : rd ([] : List Int) 0 = 0 := rfl
          omega
        subst h3
        simp
theorem iright_ev (a : List Int) (ha : Dig B64 a) (la : a.length ≤ 1048576) (n : Nat) (hn : n ≤ 1000000) :
    ∃ r, Ev (fun k => impl_nat_right.f k a (n : Int)) r ∧ Dig B64 r ∧ Norm r ∧ val B64 r = val B64 a / 2 ^ n := by
  have hp : n % 64 < 64 := Nat.mod_lt _ (by omega)
  have hP0 : 0 < 2 ^ (n % 64) := Nat.pow_pos (by omega)
  have hd := Nat.div_le_self n 64
  have hdv : 2 ^ (n % 64) ∣ B64 := by rw [B64_pow]; exact Nat.pow_dvd_pow 2 (by omega)
  unfold impl_nat_right.f
  simp only [show ((64 : Int)) = ((64 : Nat) : Int) from rfl, wtdiv n 64 (by omega), wtmod n 64 (by omega)]
  by_cases h0 : ((n / 64 : Nat) : Int) ≥ (a.length : Int)
  · simp only [if_pos h0]
    refine ⟨[], Ev.now _, Dig.nil _, norm_nil, ?_⟩
    rw [pow_div_mod _ 64 n, ← B64_pow, ← val_drop B64 B64_pos ha, List.drop_eq_nil_of_le (by omega)]
    simp [val]
  · simp only [if_neg h0]
    have h := iright_loop (a.drop (n / 64)) (ha.drop _) (by rw [List.length_drop]; omega) (n % 64) hp (a.drop (n / 64)) 0 [] rfl (by omega) rfl
    refine ⟨_, Ev.congr (fun k => ?_) h, ?_, norm_trim _, ?_⟩
    · rw [if_pos (by omega), if_pos (by omega), Option.bind_some, Int.toNat_natCast, if_pos (by omega), if_pos (by rw [List.length_drop]; omega)]
      rfl
    · rw [List.nil_append]
      exact (sr_dig hP0 _ (ha.drop _)).trim
    · rw [List.nil_append, val_trim, sr_val hP0 hdv, val_drop B64 B64_pos ha, pow_div_mod _ 64 n, ← B64_pow]
def shN (v : Nat) (n : Int) : Nat := if n ≥ 0 then v * 2 ^ n.toNat else v / 2 ^ (-n).toNat
def shOk (a : List Int) (n : Int) : Prop := a.length ≤ 1200 ∧ ¬ (n > 80000) ∧ ¬ (n < -80000)
instance (a : List Int) (n : Int) : Decidable (shOk a n) := by unfold shOk; infer_instance
theorem spec_NatShift_ev (a : List Int) (n : Int) (ha : Dig B64 a) (la : a.length ≤ 1048576) :
    ∃ r, Ev (fun k => spec_NatShift.f k a n) r ∧ IsNat r (if shOk a n then shN (val B64 a) n else 0) ∧ r.length ≤ 1048576 * 8 := by
  have hno : Ev (fun k => spec_NatShift.j0 k a n true) [] := Ev.step (f := fun _ => some []) (fun k => by simp [spec_NatShift.j0]) (Ev.now _)
  unfold spec_NatShift.f
  simp only [fits_eq, Option.bind_some]
  by_cases h : shOk a n
  · obtain ⟨h1, h2, h3⟩ := h
    simp only [h1, decide_true, if_true, if_neg h2, decide_eq_false h3]
    rw [if_pos (show shOk a n from ⟨h1, h2, h3⟩)]
    have l1 := inL_length a
    by_cases h4 : n ≥ 0
    · obtain ⟨m, rfl⟩ : ∃ m : Nat, n = (m : Int) := ⟨n.toNat, by omega⟩
      obtain ⟨r, hr, hd, hn, hv, hl⟩ := sleft_ev (inL a) (inL_dig ha) (by omega) m (by omega)
      rw [inL_val ha] at hv
      refine ⟨outL r, Ev.step (f := fun k => (spec_l1In.f k a).bind fun t395 => ((spec_l1Left.f k t395 (m : Int)).bind fun t398 => ((spec_l1Out.f k t398).bind fun t401 => (some t401)))) (fun k => ?_) (Ev.bind (in_ev a ha (by omega)) (Ev.bind hr (Ev.bind (out_ev r hd (by omega)) (Ev.now _)))), IsNat.out hd hn (by rw [hv]; unfold shN; rw [if_pos h4, Int.toNat_natCast]), ?_⟩
      · simp only [spec_NatShift.j0]
        rw [if_neg (by decide), if_pos h4]
      · have := outL_length r
        omega
    · obtain ⟨m, hm⟩ : ∃ m : Nat, -n = (m : Int) := ⟨(-n).toNat, by omega⟩
      obtain ⟨r, hr, hd, hn, hv, hl⟩ := sright_ev (inL a) (inL_dig ha) (by omega) m (by omega)
      rw [inL_val ha] at hv
      refine ⟨outL r, Ev.step (f := fun k => (spec_l1In.f k a).bind fun t395 => ((spec_l1Right.f k t395 (m : Int)).bind fun t398 => ((spec_l1Out.f k t398).bind fun t401 => (some t401)))) (fun k => ?_) (Ev.bind (in_ev a ha (by omega)) (Ev.bind hr (Ev.bind (out_ev r hd (by omega)) (Ev.now _)))), IsNat.out hd hn (by rw [hv]; unfold shN; rw [if_neg h4, hm, Int.toNat_natCast]), ?_⟩
      · simp only [spec_NatShift.j0]
        rw [if_neg (by decide), if_neg h4, wrap64_id (by omega), hm]
      · have := outL_length r
        omega
  · rw [if_neg h]
    refine ⟨[], ?_, IsNat.nil, by simp⟩
    by_cases h1 : a.length ≤ 1200
    · simp only [h1, decide_true, if_true]
      by_cases h2 : n > 80000
      · simp only [if_pos h2]
        exact hno
      · simp only [if_neg h2]
        rw [decide_eq_true (by
          rcases Decidable.em (n < -80000) with h3 | h3
          · exact h3
          · exact absurd ⟨h1, h2, h3⟩ h)]
        exact hno
    · simp only [h1, decide_false, Bool.false_eq_true, if_false]
      exact hno
theorem impl_NatShift_ev (a : List Int) (n : Int) (ha : Dig B64 a) (la : a.length ≤ 1048576) :
    ∃ r, Ev (fun k => impl_NatShift.f k a n) r ∧ IsNat r (if shOk a n then shN (val B64 a) n else 0) := by
  have hno : Ev (fun k => impl_NatShift.j0 k a n true) [] := Ev.step (f := fun _ => some []) (fun k => by simp [impl_NatShift.j0]) (Ev.now _)
  have ta := trimL_length a
  have hsh := short_one a (by omega)
  unfold impl_NatShift.f
  by_cases h : shOk a n
  · obtain ⟨h1, h2, h3⟩ := h
    rw [if_pos (show shOk a n from ⟨h1, h2, h3⟩)]
    simp only [h1, decide_true] at hsh
    by_cases h4 : n < 0
    · obtain ⟨m, hm⟩ : ∃ m : Nat, -n = (m : Int) := ⟨(-n).toNat, by omega⟩
      obtain ⟨r, hr, hd, hn, hv⟩ := iright_ev (trimL a) ha.trim (by omega) m (by omega)
      rw [val_trim] at hv
      refine ⟨r, Ev.bind hsh ?_, hd, hn, by rw [hv]; unfold shN; rw [if_neg (by omega), hm, Int.toNat_natCast]⟩
      simp only [if_true, if_neg h2, decide_eq_false h3]
      refine Ev.step (f := fun k => (impl_nat_shift.f k (trimL a) n).bind fun t453 => (some t453)) (fun k => by simp [impl_NatShift.j0]) (Ev.bind ?_ (Ev.now _))
      unfold impl_nat_shift.f
      simp only [if_pos h4]
      rw [wrap64_id (by omega), hm]
      exact Ev.bind hr (Ev.now _)
    · obtain ⟨m, rfl⟩ : ∃ m : Nat, n = (m : Int) := ⟨n.toNat, by omega⟩
      obtain ⟨r, hr, hd, hn, hv⟩ := ileft_ev (trimL a) ha.trim (by omega) m (by omega)
      rw [val_trim] at hv
      refine ⟨r, Ev.bind hsh ?_, hd, hn, by rw [hv]; unfold shN; rw [if_pos (by omega), Int.toNat_natCast]⟩
      simp only [if_true, if_neg h2, decide_eq_false h3]
      refine Ev.step (f := fun k => (impl_nat_shift.f k (trimL a) (m : Int)).bind fun t453 => (some t453)) (fun k => by simp [impl_NatShift.j0]) (Ev.bind ?_ (Ev.now _))
      unfold impl_nat_shift.f
      simp only [if_neg h4]
      exact Ev.bind hr (Ev.now _)
  · rw [if_neg h]
    refine ⟨[], Ev.bind hsh ?_, ⟨Dig.nil _, norm_nil, rfl⟩⟩
    by_cases h1 : a.length ≤ 1200
    · simp only [h1, decide_true, if_true]
      by_cases h2 : n > 80000
      · simp only [if_pos h2]
        exact hno
      · simp only [if_neg h2]
        rw [decide_eq_true (by
          rcases Decidable.em (n < -80000) with h3 | h3
          · exact h3
          · exact absurd ⟨h1, h2, h3⟩ h)]
        exact hno
    · simp only [h1, decide_false, Bool.false_eq_true, if_false]
      exact hno
end Go.Proofs.Ytcbmdpecnmbhjaa.M
end
section
namespace Go.Proofs.Ytcbmdpecnmbhjaa.M
open Go.RowKit Go.Proofs.Ytcbmdpecnmbhjaa.G Go.Proofs.YtcbmdpecnmbhjaaV.PrintWords Go.Proofs.YtcbmdpecnmbhjaaV.PrintLast Go.Proofs.YtcbmdpecnmbhjaaV.PrintMore Go.Proofs.Ytcbmdpecnmbhjaa.PA
set_option linter.unusedVariables false
set_option linter.unusedSimpArgs false
theorem spow_loop (b : List Int) (hb : Dig B32 b) (lb : b.length ≤ 2) (d : Nat) : ∀ (out : List Int), d ≤ 20000 → Dig B32 out → Norm out → out.length + 3 * d ≤ 100000 →
    ∃ r, Ev (fun k => spec_NatPow.l0 k (d : Int) b out) r ∧ IsNat r (val B32 out * val B32 b ^ d) ∧ r.length ≤ 100000 := by
  induction d with
  | zero =>
    intro out hd ho hn hl
    refine ⟨outL out, Ev.step (f := fun k => (spec_l1Out.f k out).bind fun t617 => (some t617)) (fun k => ?_) (Ev.bind (out_ev out ho (by omega)) (Ev.now _)), IsNat.out ho hn (by simp), ?_⟩
    · simp only [spec_NatPow.l0]
      rw [if_neg (by omega)]
    · have := outL_length out
      omega
  | succ d ih =>
    intro out hd ho hn hl
    obtain ⟨m, hm, md, mn, mv, ml⟩ := smul_ev out b ho hb (by omega) (by omega)
    obtain ⟨r, hr, h2, h3⟩ := ih m (by omega) md mn (by omega)
    refine ⟨r, Ev.step (f := fun k => (spec_l1Mul.f k out b).bind fun t => spec_NatPow.l0 k (d : Int) b t) (fun k => ?_) (Ev.bind hm hr), ?_, h3⟩
    · simp only [spec_NatPow.l0]
      rw [if_pos (by omega), wrap64_id (by omega), show (((d + 1 : Nat) : Int) - 1) = (d : Int) by omega]
    · rw [mv] at h2
      rw [Nat.pow_succ, Nat.mul_comm (val B32 b ^ d), ← Nat.mul_assoc]
      exact h2
theorem and_one (x : Nat) (h : x ≤ 20000) : bits .and .i64 (x : Int) 1 = ((x % 2 : Nat) : Int) := by
  have := bits_mask .i64 15 (by decide) (fun n h0 h1 => by simp only [IntKind.wrap, IntKind.bits, IntKind.signed] at *; simp at *; omega) 1 (by decide) (x : Int) (by omega) (by simp; omega)
  simp at this
  rw [this]
  omega
theorem len_half {l x : Nat} (h : l * x ≤ 100000) : (l + l) * (x / 2) ≤ 100000 ∧ (x > 1 → l ≤ 100000) := by
  constructor
  · have h1 : (l + l) * (x / 2) = l * (2 * (x / 2)) := by rw [← Nat.two_mul, Nat.mul_assoc, Nat.mul_left_comm]
    have h2 : l * (2 * (x / 2)) ≤ l * x := Nat.mul_le_mul_left l (by omega)
    omega
  · intro h1
    have : l * 1 ≤ l * x := Nat.mul_le_mul_left l (by omega)
    omega
theorem len_split (l x : Nat) : l * x = (l + l) * (x / 2) + l * (x % 2) := by
  have h1 : (l + l) * (x / 2) = l * (2 * (x / 2)) := by rw [← Nat.two_mul, Nat.mul_assoc, Nat.mul_left_comm]
  rw [h1, ← Nat.mul_add, Nat.div_add_mod]
theorem pow_half (b x : Nat) : b ^ x = b ^ (x % 2) * (b * b) ^ (x / 2) := by
  rw [← Nat.pow_two, ← Nat.pow_mul, ← Nat.pow_add]
  congr 1
  omega
theorem ipow_loop (n : Nat) : ∀ (x : Nat) (base out : List Int), x ≤ n → x ≤ 20000 → Dig B64 base → Dig B64 out → Norm out → base.length * x ≤ 100000 → base.length ≤ 200000 → out.length + base.length * x ≤ 200000 →
    ∃ r, Ev (fun k => impl_pow.l0 k base (x : Int) out) r ∧ IsNat r (val B64 out * val B64 base ^ x) := by
  induction n with
  | zero =>
    intro x base out hx h2 hb ho hn hlb hb2 hlo
    have : x = 0 := by omega
    subst this
    refine ⟨out, Ev.step (f := fun _ => some out) (fun k => ?_) (Ev.now _), ho, hn, by simp⟩
    simp only [impl_pow.l0]
    rw [if_neg (by omega)]
  | succ n ih =>
    intro x base out hx h2 hb ho hn hlb hb2 hlo
    rcases Nat.eq_zero_or_pos x with h0 | h0
    · exact ih x base out (by omega) h2 hb ho hn hlb hb2 hlo
    have hmul : ∃ out' : List Int, (x % 2 = 1 → Ev (fun k => impl_nat_mul.f k out base) out') ∧ (x % 2 = 0 → out' = out) ∧ Dig B64 out' ∧ Norm out' ∧ val B64 out' = val B64 out * val B64 base ^ (x % 2) ∧ out'.length ≤ out.length + base.length * (x % 2) := by
      by_cases h : x % 2 = 1
      · obtain ⟨m, hm, md, mn, mv, ml⟩ := imul_ev out base ho hb (by omega) (by omega)
        exact ⟨m, fun _ => hm, by omega, md, mn, by rw [mv, h, Nat.pow_one], by rw [h, Nat.mul_one]; omega⟩
      · exact ⟨out, fun e => absurd e h, fun _ => rfl, ho, hn, by rw [show x % 2 = 0 by omega]; simp, by omega⟩
    obtain ⟨out', e1, e0, od, on, ov, ol⟩ := hmul
    have hsq : ∃ base' : List Int, (x > 1 → Ev (fun k => impl_nat_mul.f k base base) base') ∧ (¬ x > 1 → base' = base) ∧ Dig B64 base' ∧ val B64 base' ^ (x / 2) = (val B64 base * val B64 base) ^ (x / 2) ∧ base'.length * (x / 2) ≤ 100000 ∧ base'.length ≤ 200000 ∧ base'.length * (x / 2) ≤ (base.length + base.length) * (x / 2) := by
      obtain ⟨l1, l2⟩ := len_half hlb
      by_cases h : x > 1
      · have := l2 h
        obtain ⟨m, hm, md, mn, mv, ml⟩ := imul_ev base base hb hb (by omega) (by omega)
        refine ⟨m, fun _ => hm, fun e => absurd h e, md, by rw [mv], ?_, by omega, Nat.mul_le_mul_right (x / 2) ml⟩
        have := Nat.mul_le_mul_right (x / 2) ml
        omega
      · refine ⟨base, fun e => absurd e h, fun _ => rfl, hb, ?_, ?_, hb2, Nat.mul_le_mul_right _ (by omega)⟩
        · rw [show x / 2 = 0 by omega]
          simp
        · rw [show x / 2 = 0 by omega]
          simp
    obtain ⟨base', s1, s0, bd, bv, bl, bl2, bl3⟩ := hsq
    have hsplit := len_split base.length x
    obtain ⟨r, hr, hR⟩ := ih (x / 2) base' out' (by omega) (by omega) bd od on bl bl2 (by omega)
    rw [ov, bv, Nat.mul_assoc, ← pow_half] at hR
    refine ⟨r, ?_, hR⟩
    have hand := and_one x h2
    have hx0 : (x : Int) > 0 := by omega
    have hdiv : (x : Int) / 2 = ((x / 2 : Nat) : Int) := by omega
    by_cases h : x % 2 = 1
    · have hone : ((x % 2 : Nat) : Int) = 1 := by omega
      by_cases h1 : x > 1
      · refine Ev.step (f := fun k => (impl_nat_mul.f k out base).bind fun t629 => ((impl_nat_mul.f k base base).bind fun t632 => (impl_pow.l0 k t632 ((x / 2 : Nat) : Int) t629))) (fun k => ?_) (Ev.bind (e1 h) (Ev.bind (s1 h1) hr))
        simp only [impl_pow.l0]
        rw [if_pos hx0, hand, if_pos hone, hdiv]
        have : (x : Int) > 1 := by omega
        simp only [if_pos this]
      · have hbb := s0 h1
        subst hbb
        refine Ev.step (f := fun k => (impl_nat_mul.f k out base').bind fun t629 => (impl_pow.l0 k base' ((x / 2 : Nat) : Int) t629)) (fun k => ?_) (Ev.bind (e1 h) hr)
        simp only [impl_pow.l0]
        rw [if_pos hx0, hand, if_pos hone, hdiv]
        have : ¬ (x : Int) > 1 := by omega
        simp only [if_neg this]
    · have hone : ¬ ((x % 2 : Nat) : Int) = 1 := by omega
      have hoo := e0 (by omega)
      subst hoo
      have h1 : x > 1 := by omega
      refine Ev.step (f := fun k => ((impl_nat_mul.f k base base).bind fun t632 => (impl_pow.l0 k t632 ((x / 2 : Nat) : Int) out'))) (fun k => ?_) (Ev.bind (s1 h1) hr)
      simp only [impl_pow.l0]
      have h3 : (x : Int) > 1 := by omega
      rw [if_pos hx0, hand, if_neg hone, hdiv, if_pos h3]
theorem word_eq (v : Int) : impl_word.f v = some (trimL [v]) := rfl
theorem word_nat (v : Nat) (hv : v < 18446744073709551616) : IsNat (trimL [(v : Int)]) v ∧ (trimL [(v : Int)]).length ≤ 1 := by
  refine ⟨⟨(Dig.cons (by unfold B64; omega) (Dig.nil _)).trim, norm_trim _, by rw [val_trim, val_one]; simp⟩, ?_⟩
  have := trimL_length [(v : Int)]
  simpa using this
theorem ipow_ev (b : List Int) (hb : Dig B64 b) (lb : b.length ≤ 2) (x : Nat) (hx : x ≤ 20000) : ∃ r, Ev (fun k => impl_pow.f k b (x : Int)) r ∧ IsNat r (val B64 b ^ x) := by
  obtain ⟨⟨w1, w2, w3⟩, wl⟩ := word_nat 1 (by omega)
  have hlb : b.length * x ≤ 100000 := by
    have := Nat.mul_le_mul lb hx
    omega
  obtain ⟨r, hr, hR⟩ := ipow_loop x x b (trimL [((1 : Nat) : Int)]) (Nat.le_refl _) hx hb w1 w2 hlb (by omega) (by omega)
  rw [w3, Nat.one_mul] at hR
  refine ⟨r, Ev.congr (fun k => ?_) hr, hR⟩
  unfold impl_pow.f
  rw [word_eq, Option.bind_some]
  rfl
def powOk (m : Nat) (e : Int) : Prop := ¬ (e < 0) ∧ ¬ (e > 20000) ∧ ¬ (wrap64 ((m : Int) * e) > 76800)
instance (m : Nat) (e : Int) : Decidable (powOk m e) := by unfold powOk; infer_instance
theorem spec_NatPow_ev (v m : Nat) (e : Int) (hv : v < 18446744073709551616) (hm : IsBits v m) :
    ∃ r, Ev (fun k => spec_NatPow.f k (v : Int) e) r ∧ IsNat r (if powOk m e then v ^ e.toNat else 0) ∧ r.length ≤ 1048576 * 8 := by
  have hno : ∀ b, Ev (fun k => spec_NatPow.j0 k e b true) [] := fun b => Ev.step (f := fun _ => some []) (fun k => by simp [spec_NatPow.j0]) (Ev.now _)
  unfold spec_NatPow.f
  simp only [ofW_eq v hv, Option.bind_some]
  by_cases h1 : e < 0
  · simp only [if_pos h1]
    rw [if_neg (fun h : powOk m e => h.1 h1)]
    exact ⟨[], hno _, IsNat.nil, by simp⟩
  by_cases h2 : e > 20000
  · simp only [if_neg h1, if_pos h2]
    rw [if_neg (fun h : powOk m e => h.2.1 h2)]
    exact ⟨[], hno _, IsNat.nil, by simp⟩
  simp only [if_neg h1, if_neg h2]
  by_cases h3 : wrap64 ((m : Int) * e) > 76800
  · rw [if_neg (fun h : powOk m e => h.2.2 h3)]
    refine ⟨[], Ev.bind (sbits_ev v m hv hm) ?_, IsNat.nil, by simp⟩
    rw [decide_eq_true h3]
    exact hno _
  · rw [if_pos (show powOk m e from ⟨h1, h2, h3⟩)]
    obtain ⟨x, rfl⟩ : ∃ x : Nat, e = (x : Int) := ⟨e.toNat, by omega⟩
    have l1 := ofW_length 1
    have l2 := ofW_length v
    obtain ⟨r, hr, hR, hl⟩ := spow_loop (ofW v) (ofW_dig v hv) l2 x (ofW 1) (by omega) (ofW_dig 1 (by omega)) (norm_trim _) (by omega)
    rw [ofW_val, ofW_val, Nat.one_mul] at hR
    refine ⟨r, Ev.bind (sbits_ev v m hv hm) ?_, by rw [Int.toNat_natCast]; exact hR, by omega⟩
    rw [decide_eq_false h3]
    refine Ev.step (f := fun k => spec_NatPow.l0 k (x : Int) (ofW v) (ofW 1)) (fun k => ?_) hr
    simp only [spec_NatPow.j0]
    rw [if_neg (by decide), show (1 : Int) = ((1 : Nat) : Int) from rfl, ofW_eq 1 (by omega), Option.bind_some]
theorem impl_NatPow_ev (v m : Nat) (e : Int) (hv : v < 18446744073709551616) (hm : IsBits v m) :
    ∃ r, Ev (fun k => impl_NatPow.f k (v : Int) e) r ∧ IsNat r (if powOk m e then v ^ e.toNat else 0) := by
  have hno : Ev (fun k => impl_NatPow.j0 k (v : Int) e true) [] := Ev.step (f := fun _ => some []) (fun k => by simp [impl_NatPow.j0]) (Ev.now _)
  obtain ⟨m', hm', _, hlen⟩ := len64_ev v hv
  obtain rfl := hm.uniq hm'
  unfold impl_NatPow.f
  by_cases h1 : e < 0
  · simp only [if_pos h1]
    rw [if_neg (fun h : powOk m e => h.1 h1)]
    exact ⟨[], hno, IsNat.nil⟩
  by_cases h2 : e > 20000
  · simp only [if_neg h1, if_pos h2]
    rw [if_neg (fun h : powOk m e => h.2.1 h2)]
    exact ⟨[], hno, IsNat.nil⟩
  simp only [if_neg h1, if_neg h2]
  by_cases h3 : wrap64 ((m : Int) * e) > 76800
  · rw [if_neg (fun h : powOk m e => h.2.2 h3)]
    refine ⟨[], Ev.bind hlen ?_, IsNat.nil⟩
    rw [decide_eq_true h3]
    exact hno
  · rw [if_pos (show powOk m e from ⟨h1, h2, h3⟩)]
    obtain ⟨x, rfl⟩ : ∃ x : Nat, e = (x : Int) := ⟨e.toNat, by omega⟩
    obtain ⟨⟨w1, w2, w3⟩, wl⟩ := word_nat v hv
    obtain ⟨r, hr, hR⟩ := ipow_ev (trimL [(v : Int)]) w1 (by omega) x (by omega)
    rw [w3] at hR
    refine ⟨r, Ev.bind hlen ?_, by rw [Int.toNat_natCast]; exact hR⟩
    rw [decide_eq_false h3]
    refine Ev.step (f := fun k => (impl_pow.f k (trimL [(v : Int)]) (x : Int)).bind fun t642 => (some t642)) (fun k => ?_) (Ev.bind hr (Ev.now _))
    simp only [impl_NatPow.j0]
    rw [if_neg (by decide), word_eq, Option.bind_some]
end Go.Proofs.Ytcbmdpecnmbhjaa.M
end
section
namespace Go.Proofs.Ytcbmdpecnmbhjaa.M
open Go.RowKit Go.Proofs.Ytcbmdpecnmbhjaa.G Go.Proofs.YtcbmdpecnmbhjaaV.PrintWords Go.Proofs.YtcbmdpecnmbhjaaV.PrintLast Go.Proofs.YtcbmdpecnmbhjaaV.PrintMore Go.Proofs.Ytcbmdpecnmbhjaa.PA
set_option linter.unusedVariables false
set_option linter.unusedSimpArgs false
theorem wnum (x : Int) (h : -100000 ≤ x ∧ x ≤ 100000) : wrap64 x = x := wrap64_id (by omega)
section
variable (b : List Int) (hb : Dig 256 b) (lb : b.length ≤ 1048576)
include hb lb
theorem DrawNatShift_ev : ∃ (a : List Int) (n : Int), Ev (fun k => spec_DrawNatShift.f k b) (a, n) ∧ Dig B64 a ∧ a.length ≤ 1201 ∧ -90000 ≤ n ∧ n ≤ 90000 := by
  obtain ⟨a, i1, hx, dx, lx, hi1⟩ := limbs_ev b hb lb 0 (Nat.zero_le _)
  obtain ⟨c, i2, hn, hc, hi2⟩ := next_ev b hb lb i1 hi1
  obtain ⟨d, i3, hd, hdb, hi3⟩ := next_ev b hb lb i2 hi2
  obtain ⟨e, i4, he, heb, hi4⟩ := next_ev b hb lb i3 hi3
  have t2 : Int.tmod (c : Int) 2 = ((c % 2 : Nat) : Int) := tmod_nat c 2
  have t3 : Int.tmod (e : Int) 3 = ((e % 3 : Nat) : Int) := tmod_nat e 3
  have t4 : Int.tmod (c : Int) 4 = ((c % 4 : Nat) : Int) := tmod_nat c 4
  have t7 : Int.tmod (e : Int) 7 = ((e % 7 : Nat) : Int) := tmod_nat e 7
  have t64 : ∀ m : Nat, Int.tdiv (m : Int) 64 = ((m / 64 : Nat) : Int) := fun m => tdiv_nat m 64
  have hdc : d * c ≤ 65025 := Nat.mul_le_mul (show d ≤ 255 by omega) (show c ≤ 255 by omega)
  have m3 : e % 3 ≤ 2 := by omega
  have m7 : e % 7 ≤ 6 := by omega
  generalize hq3 : e % 3 = q3 at *
  generalize hq7 : e % 7 = q7 at *
  unfold spec_DrawNatShift.f
  by_cases h1 : 250 ≤ c
  · have g1 : (c : Int) ≥ 250 := by omega
    by_cases h2 : c % 2 = 1
    · refine ⟨a, -(79999 + (q3 : Int)), Ev.bind hx (Ev.congr (fun k => ?_) (Ev.now _)), dx, lx, by omega, by omega⟩
      rw [hn, Option.bind_some]
      dsimp only
      rw [hd, Option.bind_some]
      dsimp only
      rw [if_pos g1, he, Option.bind_some]
      dsimp only
      rw [t2, h2, if_pos (show ((1 : Nat) : Int) = 1 from rfl), t3, wnum (79999 + (q3 : Int)) (by omega), wnum _ (by omega)]
    · refine ⟨a, 79999 + (q3 : Int), Ev.bind hx (Ev.congr (fun k => ?_) (Ev.now _)), dx, lx, by omega, by omega⟩
      have n2 : ¬ ((c % 2 : Nat) : Int) = 1 := by omega
      rw [hn, Option.bind_some]
      dsimp only
      rw [hd, Option.bind_some]
      dsimp only
      rw [if_pos g1, he, Option.bind_some]
      dsimp only
      rw [t2, if_neg n2, t3, wnum (79999 + (q3 : Int)) (by omega)]
  · have g1 : ¬ (c : Int) ≥ 250 := by omega
    by_cases h2 : c % 4 = 1
    · refine ⟨a, ((q7 : Int) - 3) * 64, Ev.bind hx (Ev.congr (fun k => ?_) (Ev.now _)), dx, lx, by omega, by omega⟩
      rw [hn, Option.bind_some]
      dsimp only
      rw [hd, Option.bind_some]
      dsimp only
      rw [if_neg g1, t4, h2, if_pos (show ((1 : Nat) : Int) = 1 from rfl), he, Option.bind_some]
      dsimp only
      rw [t7, wnum ((q7 : Int) - 3) (by omega), wnum _ (by omega)]
    · have n2 : ¬ ((c % 4 : Nat) : Int) = 1 := by omega
      have m64 : d * c / 64 ≤ 65025 := Nat.le_trans (Nat.div_le_self _ _) hdc
      refine ⟨a, ((d * c / 64 : Nat) : Int) - 100, Ev.bind hx (Ev.congr (fun k => ?_) (Ev.now _)), dx, lx, by omega, by omega⟩
      have w1 : wrap64 ((d * c : Nat) : Int) = ((d * c : Nat) : Int) := wnum _ (by omega)
      have w2 : wrap64 ((d * c / 64 : Nat) : Int) = ((d * c / 64 : Nat) : Int) := wnum _ (by clear w1; omega)
      have w3 : wrap64 (((d * c / 64 : Nat) : Int) - 100) = ((d * c / 64 : Nat) : Int) - 100 := wnum _ (by clear w1 w2; omega)
      rw [hn, Option.bind_some]
      dsimp only
      rw [hd, Option.bind_some]
      dsimp only
      rw [if_neg g1, t4, if_neg n2, ← Int.natCast_mul, w1, t64, w2, w3]
theorem DrawNatPow_ev : ∃ (v : Nat) (e : Int), Ev (fun k => spec_DrawNatPow.f k b) ((v : Int), e) ∧ v < B64 ∧ -90000 ≤ e ∧ e ≤ 90000 := by
  obtain ⟨c, i1, hc, hcb, hi1⟩ := next_ev b hb lb 0 (Nat.zero_le _)
  have hc0 : spec_l1Reader_next.f b 0 = some ((c : Int), (i1 : Int)) := hc
  have t9 : Int.tmod (c : Int) 9 = ((c % 9 : Nat) : Int) := tmod_nat c 9
  have m9 : c % 9 < 9 := Nat.mod_lt _ (by decide)
  have hj : ∀ (v i : Nat), v < B64 → i ≤ b.length → ∃ e : Int, Ev (fun k => spec_DrawNatPow.j0 k (v : Int) b (i : Int)) ((v : Int), e) ∧ -90000 ≤ e ∧ e ≤ 90000 := by
    intro v i hv hi
    obtain ⟨x, i2, hx, hxb, hi2⟩ := next_ev b hb lb i hi
    obtain ⟨y, i3, hy, hyb, hi3⟩ := next_ev b hb lb i2 hi2
    have t8 : Int.tmod (y : Int) 8 = ((y % 8 : Nat) : Int) := tmod_nat y 8
    have t60 : Int.tmod (x : Int) 60 = ((x % 60 : Nat) : Int) := tmod_nat x 60
    have t3 : Int.tmod ((x % 60 : Nat) : Int) 3 = ((x % 60 % 3 : Nat) : Int) := tmod_nat _ 3
    have m60 : x % 60 < 60 := Nat.mod_lt _ (by decide)
    have m3 : x % 60 % 3 < 3 := Nat.mod_lt _ (by decide)
    generalize x % 60 % 3 = r3 at *
    generalize x % 60 = r at *
    have hopen : ∀ k, spec_DrawNatPow.j0 (k + 1) (v : Int) b (i : Int) = if ((y % 8 : Nat) : Int) = 1 then some ((v : Int), wrap64 ((-1) - (r : Int))) else if ((y % 8 : Nat) : Int) = 2 then some ((v : Int), wrap64 (19999 + (r3 : Int))) else if ((y % 8 : Nat) : Int) = 3 then some ((v : Int), wrap64 ((r : Int) * 20)) else some ((v : Int), (r : Int)) := by
      intro k
      simp only [spec_DrawNatPow.j0]
      rw [hx, Option.bind_some]
      dsimp only
      rw [hy, Option.bind_some]
      dsimp only
      rw [t8, t60, t3]
    have fin : ∀ e : Int, -90000 ≤ e → e ≤ 90000 → (∀ k, spec_DrawNatPow.j0 (k + 1) (v : Int) b (i : Int) = some ((v : Int), e)) → ∃ e : Int, Ev (fun k => spec_DrawNatPow.j0 k (v : Int) b (i : Int)) ((v : Int), e) ∧ -90000 ≤ e ∧ e ≤ 90000 := fun e h1 h2 h => ⟨e, Ev.step (f := fun _ => some ((v : Int), e)) h (Ev.now _), h1, h2⟩
    by_cases h1 : y % 8 = 1
    · exact fin ((-1) - (r : Int)) (by omega) (by omega) (fun k => by rw [hopen k, h1, if_pos (show ((1 : Nat) : Int) = 1 from rfl), wnum _ (by omega)])
    have n1 : ¬ ((y % 8 : Nat) : Int) = 1 := by omega
    by_cases h2 : y % 8 = 2
    · exact fin (19999 + (r3 : Int)) (by omega) (by omega) (fun k => by rw [hopen k, if_neg n1, h2, if_pos (show ((2 : Nat) : Int) = 2 from rfl), wnum _ (by omega)])
    have n2 : ¬ ((y % 8 : Nat) : Int) = 2 := by omega
    by_cases h3 : y % 8 = 3
    · exact fin ((r : Int) * 20) (by omega) (by omega) (fun k => by rw [hopen k, if_neg n1, if_neg n2, h3, if_pos (show ((3 : Nat) : Int) = 3 from rfl), wnum _ (by omega)])
    have n3 : ¬ ((y % 8 : Nat) : Int) = 3 := by omega
    exact fin (r : Int) (by omega) (by omega) (fun k => by rw [hopen k, if_neg n1, if_neg n2, if_neg n3])
  unfold spec_DrawNatPow.f
  have hlist : ∀ q : Nat, q < 9 → ∃ v : Nat, rd ([0, 1, 2, 3, 5, 10, 255, 4294967296, 18446744073709551615] : List Int) (q : Int) = (v : Int) ∧ v < B64 := by
    intro q hq
    have : Dig B64 ([0, 1, 2, 3, 5, 10, 255, 4294967296, 18446744073709551615] : List Int) := by
      intro x hx
      simp only [List.mem_cons, List.not_mem_nil, or_false] at hx
      unfold B64
      omega
    have := this.rd B64_pos (q : Int)
    exact ⟨_, (Int.toNat_of_nonneg this.1).symm, by omega⟩
  have c0 : ((c % 9 : Nat) : Int) < (([0, 1, 2, 3, 5, 10, 255, 4294967296, 18446744073709551615] : List Int).length : Int) := by
    show ((c % 9 : Nat) : Int) < ((9 : Nat) : Int)
    omega
  by_cases h1 : 128 ≤ c
  · obtain ⟨w, i2, hw, hwb, hi2⟩ := wide_ev b hb lb i1 hi1
    obtain ⟨d, i3, hd, hdb, hi3⟩ := next_ev b hb lb i2 hi2
    have t64 : IntKind.u64.wrap (Int.tmod (d : Int) 64) = ((d % 64 : Nat) : Int) := wtmod d 64 (by omega)
    have m64 : d % 64 < 64 := Nat.mod_lt _ (by decide)
    have hsb : w / 2 ^ (d % 64) < B64 := Nat.lt_of_le_of_lt (Nat.div_le_self _ _) hwb
    have hsh := shr_nat w (d % 64) (by clear t64; omega)
    obtain ⟨e, hE, p⟩ := hj (w / 2 ^ (d % 64)) i3 hsb hi3
    have g1 : (c : Int) ≥ 128 := by clear t64; omega
    refine ⟨_, e, Ev.congr (f := fun k => (spec_l1Reader_wide.f k b (i1 : Int)).bind fun t => (spec_l1Reader_next.f b t.2).bind fun t2 => if 0 ≤ (IntKind.u64.wrap (Int.tmod t2.1 64)) then spec_DrawNatPow.j0 k (shr .u64 t.1 (IntKind.u64.wrap (Int.tmod t2.1 64))) b t2.2 else none) (fun k => ?_) (Ev.bind hw (Ev.congr (f := fun k => spec_DrawNatPow.j0 k ((w / 2 ^ (d % 64) : Nat) : Int) b (i3 : Int)) (fun k => ?_) hE)), hsb, p⟩
    · rw [hc0, Option.bind_some]
      dsimp only
      rw [t9, Option.bind_some, if_pos (Int.natCast_nonneg _), if_pos c0, if_pos g1]
    · dsimp only
      rw [hd, Option.bind_some]
      dsimp only
      rw [t64, if_pos (Int.natCast_nonneg _), hsh]
  · obtain ⟨v0, hv0, hv0b⟩ := hlist (c % 9) m9
    obtain ⟨e, hE, p⟩ := hj v0 i1 hv0b hi1
    have g1 : ¬ (c : Int) ≥ 128 := by omega
    refine ⟨v0, e, Ev.congr (fun k => ?_) hE, hv0b, p⟩
    rw [hc0, Option.bind_some]
    dsimp only
    rw [t9, Option.bind_some, if_pos (Int.natCast_nonneg _), if_pos c0, if_neg g1, hv0]
end
end Go.Proofs.Ytcbmdpecnmbhjaa.M
end
section
namespace Go.Proofs.Ytcbmdpecnmbhjaa.M
open Go.RowKit Go.Proofs.Ytcbmdpecnmbhjaa.G Go.Proofs.YtcbmdpecnmbhjaaV.PrintWords Go.Proofs.YtcbmdpecnmbhjaaV.PrintLast Go.Proofs.YtcbmdpecnmbhjaaV.PrintMore Go.Proofs.Ytcbmdpecnmbhjaa.PA
set_option linter.unusedVariables false
set_option linter.unusedSimpArgs false
theorem wf_u8 {l : List Int} (h : ∀ x ∈ l, (Lit.int .u8 x).wf = true) : Dig 256 l := by
  intro x hx
  have := h x hx
  simp [Lit.wf, IntKind.min, IntKind.max, IntKind.signed, IntKind.bits] at this
  omega
theorem same_loop (a : List Int) (hm : a.length ≤ 1073741824) (d : Nat) : ∀ i : Nat, i + d = a.length → Ev (fun k => laws_sameLimbs.l0 k a a (a.length : Int) (i : Int)) true := by
  induction d with
  | zero =>
    intro i hi
    refine Ev.step (f := fun _ => some true) (fun k => ?_) (Ev.now _)
    simp only [laws_sameLimbs.l0]
    rw [if_neg (by omega)]
  | succ d ih =>
    intro i hi
    refine Ev.step (fun k => ?_) (ih (i + 1) (by omega))
    have c1 : (i : Int) < (a.length : Int) := by omega
    have e2 : wrap64 ((i : Int) + 1) = ((i + 1 : Nat) : Int) := by rw [wrap64_id (by omega)]; rfl
    simp only [laws_sameLimbs.l0]
    rw [if_pos c1, if_pos (Int.natCast_nonneg _)]
    simp only [if_pos c1, if_true]
    rw [e2]
theorem same_ev (a : List Int) (hm : a.length ≤ 1073741824) : Ev (fun k => laws_sameLimbs.f k a a) true := by
  unfold laws_sameLimbs.f
  refine Ev.congr (fun k => ?_) (same_loop a hm a.length 0 (by omega))
  rw [if_pos rfl]
  rfl
end Go.Proofs.Ytcbmdpecnmbhjaa.M
end
section
namespace Go.Proofs.Ytcbmdpecnmbhjaa.Pure
open Go.RowKit Go.Proofs.Ytcbmdpecnmbhjaa.G Go.Proofs.Ytcbmdpecnmbhjaa.PA Go.Proofs.YtcbmdpecnmbhjaaV.PrintWords Go.Proofs.YtcbmdpecnmbhjaaV.PrintLast Go.Proofs.Ytcbmdpecnmbhjaa.M
set_option linter.unusedVariables false
set_option linter.unusedSimpArgs false
theorem len_of_val {l : List Int} {v m : Nat} (h : IsNat l v) (hv : v < B64 ^ m) : l.length ≤ m := by
  rcases Nat.lt_or_ge m l.length with h1 | h1
  · have h2 := val_ge h.1 h.2.1 (by omega)
    have h3 : B64 ^ m ≤ B64 ^ (l.length - 1) := Nat.pow_le_pow_right B64_pos (by omega)
    have := h.2.2
    omega
  · exact h1
theorem pow_ok (m : Nat) (hm : m ≤ 64) (e : Int) (h0 : 0 ≤ e) (h1 : e ≤ 200) : powOk m e := by
  have h2 : (0 : Int) ≤ (m : Int) * e := Int.mul_nonneg (Int.natCast_nonneg _) h0
  have h3 : (m : Int) * e ≤ 64 * 200 := Int.mul_le_mul (by omega) h1 h0 (by decide)
  refine ⟨by omega, by omega, ?_⟩
  rw [wrap64_id (by omega)]
  omega
theorem shift_j2 (l : List Int) (hd : Dig 256 l) (ll : l.length ≤ 1048576) (n : Nat) : Ev (fun k => laws_FnShift.j2 k l (n : Int)) true := by
  obtain ⟨v, e, hdraw, hv, he1, he2⟩ := DrawNatPow_ev l hd ll
  have hv64 : v < 18446744073709551616 := by unfold B64 at hv; exact hv
  obtain ⟨m, hm, hm64, _⟩ := len64_ev v hv64
  have m1 := Int.tmod_lt_of_pos e (show (0 : Int) < 100 by decide)
  have m2 : -100 < Int.tmod e 100 := by
    have := Int.lt_tmod_of_pos e (show (0 : Int) < 100 by decide)
    omega
  obtain ⟨t, htd⟩ : ∃ t, t = Int.tmod e 100 := ⟨_, rfl⟩
  rw [← htd] at m1 m2
  obtain ⟨x, hx, hx100⟩ : ∃ x : Nat, Int.tmod (t + 100) 100 = (x : Int) ∧ x < 100 := by
    refine ⟨(t + 100).toNat % 100, ?_, Nat.mod_lt _ (by decide)⟩
    have h := tmod_nat (t + 100).toNat 100
    rw [Int.toNat_of_nonneg (by omega)] at h
    exact h
  obtain ⟨y, hy, hy100⟩ : ∃ y : Nat, Int.tmod (n : Int) 100 = (y : Int) ∧ y < 100 := ⟨n % 100, tmod_nat n 100, Nat.mod_lt _ (by decide)⟩
  have o1 := pow_ok m hm64 (x : Int) (by omega) (by omega)
  have o2 := pow_ok m hm64 (y : Int) (by omega) (by omega)
  have o3 := pow_ok m hm64 ((x + y : Nat) : Int) (by omega) (by omega)
  obtain ⟨p, hp, hP⟩ := impl_NatPow_ev v m (x : Int) hv64 hm
  obtain ⟨q, hq, hQ⟩ := impl_NatPow_ev v m (y : Int) hv64 hm
  obtain ⟨s, hs, hS⟩ := impl_NatPow_ev v m ((x + y : Nat) : Int) hv64 hm
  obtain ⟨s', hs', hS', ls'⟩ := spec_NatPow_ev v m ((x + y : Nat) : Int) hv64 hm
  rw [if_pos o1, Int.toNat_natCast] at hP
  rw [if_pos o2, Int.toNat_natCast] at hQ
  rw [if_pos o3, Int.toNat_natCast] at hS hS'
  obtain rfl := hS.uniq hS'
  have lp : p.length ≤ 200 := len_of_val hP (Nat.lt_of_le_of_lt (Nat.pow_le_pow_left (Nat.le_of_lt hv) x) (Nat.pow_lt_pow_right (by unfold B64; decide) (by omega)))
  have lq : q.length ≤ 200 := len_of_val hQ (Nat.lt_of_le_of_lt (Nat.pow_le_pow_left (Nat.le_of_lt hv) y) (Nat.pow_lt_pow_right (by unfold B64; decide) (by omega)))
  obtain ⟨z, hz, hZ⟩ := impl_NatMul_ev p q hP.1 hQ.1 (by omega) (by omega)
  rw [if_pos ⟨by omega, by omega⟩, hP.2.2, hQ.2.2, ← Nat.pow_add] at hZ
  obtain rfl := hZ.uniq hS
  have lz : z.length ≤ 1073741824 := by omega
  have b1 : -100000 ≤ t + 100 ∧ t + 100 ≤ 100000 := by omega
  have b2 : -100000 ≤ (x : Int) + (y : Int) ∧ (x : Int) + (y : Int) ≤ 100000 := by omega
  have w1 : wrap64 (t + 100) = t + 100 := wnum _ b1
  have w2 : wrap64 ((x : Int) + (y : Int)) = ((x + y : Nat) : Int) := wnum _ b2
  refine Ev.step (f := fun k => (spec_DrawNatPow.f k l).bind fun t1 => (impl_NatPow.f k t1.1 (Int.tmod (wrap64 ((Int.tmod t1.2 100) + 100)) 100)).bind fun t2 => (impl_NatPow.f k t1.1 (Int.tmod (n : Int) 100)).bind fun t3 => (impl_NatMul.f k t2 t3).bind fun t4 => (spec_NatPow.f k t1.1 (wrap64 ((Int.tmod (wrap64 ((Int.tmod t1.2 100) + 100)) 100) + (Int.tmod (n : Int) 100)))).bind fun t5 => (laws_sameLimbs.f k t4 t5).bind fun t6 => if t6 = true then ((impl_NatPow.f k t1.1 (wrap64 ((Int.tmod (wrap64 ((Int.tmod t1.2 100) + 100)) 100) + (Int.tmod (n : Int) 100)))).bind fun t7 => (spec_NatPow.f k t1.1 (wrap64 ((Int.tmod (wrap64 ((Int.tmod t1.2 100) + 100)) 100) + (Int.tmod (n : Int) 100)))).bind fun t8 => (laws_sameLimbs.f k t7 t8).bind fun t9 => some t9) else some false) (fun k => by simp only [laws_FnShift.j2]) ?_
  refine Ev.bind hdraw ?_
  dsimp only
  rw [← htd, w1, hx, hy, w2]
  refine Ev.bind hp (Ev.bind hq (Ev.bind hz (Ev.bind hs' (Ev.bind (same_ev z lz) ?_))))
  simp only [if_true]
  exact Ev.bind hs (Ev.bind hs' (Ev.bind (same_ev z lz) (Ev.now _)))
theorem shift_main (l a : List Int) (hd : Dig 256 l) (ll : l.length ≤ 1048576) (da : Dig B64 a) (la : a.length ≤ 1201) (n : Nat) (hn : n ≤ 90000) : Ev (fun k => laws_FnShift.j0 k l a (n : Int) a) true := by
  have hj2 := shift_j2 l hd ll n
  obtain ⟨u, hu, hU⟩ := impl_NatShift_ev a (n : Int) da (by omega)
  obtain ⟨u', hu', hU', lu⟩ := spec_NatShift_ev a (n : Int) da (by omega)
  obtain rfl := hU.uniq hU'
  have lu2 : u.length ≤ 1073741824 := by omega
  refine Ev.step (f := fun k => (impl_NatShift.f k a (n : Int)).bind fun t1 => (spec_NatShift.f k a (n : Int)).bind fun t2 => (laws_sameLimbs.f k t1 t2).bind fun t3 => if t3 = true then (if (n : Int) ≤ 80000 then (if (a.length : Int) ≤ 1200 then (laws_FnShift.j1 k l (n : Int) a t1 (decide ((t1.length : Int) ≤ 1200))) else (laws_FnShift.j1 k l (n : Int) a t1 false)) else (laws_FnShift.j1 k l (n : Int) a t1 false)) else some false) (fun k => by simp only [laws_FnShift.j0]) ?_
  refine Ev.bind hu (Ev.bind hu' (Ev.bind (same_ev u lu2) ?_))
  simp only [if_true]
  have hno : Ev (fun k => laws_FnShift.j1 k l (n : Int) a u false) true := by
    refine Ev.step (fun k => ?_) hj2
    simp only [laws_FnShift.j1]
    rw [if_neg (by decide)]
  by_cases h1 : n ≤ 80000
  · by_cases h2 : a.length ≤ 1200
    · by_cases h3 : u.length ≤ 1200
      · have ok1 : shOk a (n : Int) := ⟨h2, by omega, by omega⟩
        rw [if_pos ok1] at hU
        have e1 : shN (val B64 a) (n : Int) = val B64 a * 2 ^ n := by unfold shN; rw [if_pos (by omega)]; simp
        rw [e1] at hU
        obtain ⟨b, hb, hB⟩ := impl_NatShift_ev u (-(n : Int)) hU.1 (by omega)
        obtain ⟨c, hc, hC, lc⟩ := spec_NatShift_ev a 0 da (by omega)
        have ok2 : shOk u (-(n : Int)) := ⟨h3, by omega, by omega⟩
        have ok3 : shOk a 0 := ⟨h2, by decide, by decide⟩
        have e2 : shN (val B64 u) (-(n : Int)) = val B64 a := by
          rw [hU.2.2]
          unfold shN
          by_cases hz : n = 0
          · subst hz
            rw [if_pos (by decide)]
            simp
          · rw [if_neg (by omega), Int.neg_neg, Int.toNat_natCast, Nat.mul_div_cancel _ (Nat.pow_pos (by decide))]
        have e3 : shN (val B64 a) 0 = val B64 a := by unfold shN; rw [if_pos (by decide)]; simp
        rw [if_pos ok2, e2] at hB
        rw [if_pos ok3, e3] at hC
        obtain rfl := hB.uniq hC
        have lb2 : b.length ≤ 1073741824 := by omega
        have wn : wrap64 (-(n : Int)) = -(n : Int) := wnum _ (by omega)
        have hyes : Ev (fun k => laws_FnShift.j1 k l (n : Int) a u true) true := by
          refine Ev.step (f := fun k => (impl_NatShift.f k u (-(n : Int))).bind fun t1 => (spec_NatShift.f k a 0).bind fun t2 => (laws_sameLimbs.f k t1 t2).bind fun t3 => if t3 = true then laws_FnShift.j2 k l (n : Int) else some false) (fun k => ?_) ?_
          · simp only [laws_FnShift.j1]
            rw [if_pos trivial, wn]
          · refine Ev.bind hb (Ev.bind hc (Ev.bind (same_ev b lb2) ?_))
            simp only [if_true]
            exact hj2
        refine Ev.congr (fun k => ?_) hyes
        have g1 : (n : Int) ≤ 80000 := by clear wn; omega
        have g2 : (a.length : Int) ≤ 1200 := by clear wn; omega
        have g3 : (u.length : Int) ≤ 1200 := by clear wn; omega
        rw [if_pos g1, if_pos g2, decide_eq_true g3]
      · refine Ev.congr (fun k => ?_) hno
        have g1 : (n : Int) ≤ 80000 := by omega
        have g2 : (a.length : Int) ≤ 1200 := by omega
        have g3 : ¬ (u.length : Int) ≤ 1200 := by omega
        rw [if_pos g1, if_pos g2, decide_eq_false g3]
    · refine Ev.congr (fun k => ?_) hno
      have g1 : (n : Int) ≤ 80000 := by omega
      have g2 : ¬ (a.length : Int) ≤ 1200 := by omega
      rw [if_pos g1, if_neg g2]
  · refine Ev.congr (fun k => ?_) hno
    have g1 : ¬ (n : Int) ≤ 80000 := by omega
    rw [if_neg g1]
theorem FnShift : laws_FnShift.Pure := by
  intro l _ _ wl
  refine Ev.rounds (g := fun k => laws_FnShift.f k l) ?_
  have hd := wf_u8 wl
  unfold laws_FnShift.f
  by_cases h1 : (l.length : Int) > 1048576
  · simp only [if_pos h1]
    exact Ev.now _
  simp only [if_neg h1]
  have ll : l.length ≤ 1048576 := by omega
  obtain ⟨a, n, hdraw, da, la, n1, n2⟩ := DrawNatShift_ev l hd ll
  refine Ev.bind hdraw (Ev.bind hdraw ?_)
  by_cases hn : n < 0
  · have wn : wrap64 (-n) = (((-n).toNat : Nat) : Int) := by rw [wnum _ (by omega)]; omega
    have hm := shift_main l a hd ll da la (-n).toNat (by clear wn; omega)
    refine Ev.congr (fun k => ?_) hm
    dsimp only
    rw [if_pos hn, wn]
  · have hm := shift_main l a hd ll da la n.toNat (by omega)
    have e : ((n.toNat : Nat) : Int) = n := by omega
    rw [e] at hm
    refine Ev.congr (fun k => ?_) hm
    dsimp only
    rw [if_neg hn]
end Go.Proofs.Ytcbmdpecnmbhjaa.Pure
end
