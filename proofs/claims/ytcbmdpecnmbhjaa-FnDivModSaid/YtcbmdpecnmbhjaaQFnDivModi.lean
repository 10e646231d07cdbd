import Derived.IntWalk
import Derived.Test.YtcbmdpecnmbhjaaQFnDivModh
section
namespace Go.Proofs.Ytcbmdpecnmbhjaa.M
open Go.RowKit Go.Proofs.Ytcbmdpecnmbhjaa.G Go.Proofs.YtcbmdpecnmbhjaaV.PrintWords Go.Proofs.YtcbmdpecnmbhjaaV.PrintLast Go.Proofs.YtcbmdpecnmbhjaaV.PrintMore
set_option linter.unusedVariables false
set_option linter.unusedSimpArgs false
def val (B : Nat) : List Int → Nat
  | [] => 0
  | x :: xs => x.toNat + B * val B xs
def Dig (B : Nat) (l : List Int) : Prop := ∀ x ∈ l, 0 ≤ x ∧ x < (B : Int)
def Norm (l : List Int) : Prop := trimL l = l
theorem val_nil (B : Nat) : val B [] = 0 := rfl
theorem val_cons (B : Nat) (x : Int) (l : List Int) : val B (x :: l) = x.toNat + B * val B l := rfl
theorem val_append (B : Nat) (a b : List Int) : val B (a ++ b) = val B a + B ^ a.length * val B b := by
  induction a with
  | nil => simp [val]
  | cons x a ih =>
    rw [List.cons_append, val_cons, val_cons, ih, List.length_cons, Nat.pow_succ, Nat.mul_add, Nat.add_assoc]
    congr 2
    rw [← Nat.mul_assoc, Nat.mul_comm B (B ^ a.length)]
theorem val_one (B : Nat) (x : Int) : val B [x] = x.toNat := by simp [val]
theorem val_snoc (B : Nat) (a : List Int) (x : Int) : val B (a ++ [x]) = val B a + B ^ a.length * x.toNat := by rw [val_append, val_one]
theorem val_zeros (B n : Nat) : val B (List.replicate n 0) = 0 := by
  induction n with
  | zero => rfl
  | succ n ih => rw [List.replicate_succ, val_cons, ih]; simp
theorem Dig.nil (B : Nat) : Dig B [] := fun x h => by cases h
theorem Dig.cons {B : Nat} {x : Int} {l : List Int} (hx : 0 ≤ x ∧ x < (B : Int)) (h : Dig B l) : Dig B (x :: l) := by
  intro y hy
  rcases List.mem_cons.1 hy with rfl | hy
  · exact hx
  · exact h y hy
theorem Dig.append {B : Nat} {a b : List Int} (ha : Dig B a) (hb : Dig B b) : Dig B (a ++ b) := by
  intro y hy
  rcases List.mem_append.1 hy with hy | hy
  · exact ha y hy
  · exact hb y hy
theorem Dig.snoc {B : Nat} {a : List Int} {x : Int} (ha : Dig B a) (hx : 0 ≤ x ∧ x < (B : Int)) : Dig B (a ++ [x]) := ha.append (Dig.cons hx (Dig.nil B))
theorem Dig.take {B : Nat} {l : List Int} (h : Dig B l) (k : Nat) : Dig B (l.take k) := fun x hx => h x (List.mem_of_mem_take hx)
theorem Dig.drop {B : Nat} {l : List Int} (h : Dig B l) (k : Nat) : Dig B (l.drop k) := fun x hx => h x (List.mem_of_mem_drop hx)
theorem Dig.trim {B : Nat} {l : List Int} (h : Dig B l) : Dig B (trimL l) := by rw [trimL_eq_take]; exact h.take _
theorem Dig.zeros {B : Nat} (hB : 0 < B) (n : Nat) : Dig B (List.replicate n 0) := fun x hx => by rw [List.eq_of_mem_replicate hx]; omega
theorem Dig.set {B : Nat} {l : List Int} (h : Dig B l) (p : Nat) {x : Int} (hx : 0 ≤ x ∧ x < (B : Int)) : Dig B (l.set p x) := by
  intro y hy
  rcases List.mem_or_eq_of_mem_set hy with hy | rfl
  · exact h y hy
  · exact hx
theorem Dig.rd {B : Nat} {l : List Int} (h : Dig B l) (hB : 0 < B) (i : Int) : 0 ≤ rd l i ∧ rd l i < (B : Int) := by
  show 0 ≤ l.getD i.toNat 0 ∧ l.getD i.toNat 0 < (B : Int)
  rw [List.getD_eq_getElem?_getD]
  cases hg : l[i.toNat]? with
  | none => simp; omega
  | some x => exact h x (List.mem_of_getElem? hg)
theorem val_lt {B : Nat} {l : List Int} (h : Dig B l) : val B l < B ^ l.length := by
  induction l with
  | nil => simp [val]
  | cons x l ih =>
    have h1 := ih (fun y hy => h y (List.mem_cons_of_mem _ hy))
    have hx := h x (List.mem_cons_self)
    rw [val_cons, List.length_cons, Nat.pow_succ]
    have h2 : val B l + 1 ≤ B ^ l.length := h1
    have h3 : B * (val B l + 1) ≤ B * B ^ l.length := Nat.mul_le_mul_left B h2
    rw [Nat.mul_comm B (B ^ l.length), Nat.mul_add] at h3
    omega
theorem snoc_of {l : List Int} (h : 0 < l.length) : ∃ a x, l = a ++ [x] := by
  refine ⟨l.dropLast, l.getLast (by intro hn; rw [hn] at h; simp at h), ?_⟩
  exact (List.dropLast_concat_getLast _).symm
theorem val_snoc_zero (B : Nat) (a : List Int) : val B (a ++ [0]) = val B a := by rw [val_snoc]; simp
theorem val_trim (B : Nat) (l : List Int) : val B (trimL l) = val B l := by
  induction h : l.length generalizing l with
  | zero => rw [List.eq_nil_of_length_eq_zero h]; rfl
  | succ n ih =>
    obtain ⟨a, x, rfl⟩ : ∃ a x, l = a ++ [x] := snoc_of (by omega)
    by_cases hx : x = 0
    · subst hx
      rw [trimL_snoc_zero, val_snoc_zero]
      exact ih a (by simpa using h)
    · rw [trimL_snoc_ne _ _ hx]
theorem norm_trim (l : List Int) : Norm (trimL l) := trimL_idem l
theorem norm_nil : Norm [] := rfl
theorem norm_snoc {a : List Int} {x : Int} : Norm (a ++ [x]) ↔ x ≠ 0 := by
  constructor
  · intro h hx
    subst hx
    unfold Norm at h
    rw [trimL_snoc_zero] at h
    have h1 := trimL_length a
    rw [h] at h1
    simp at h1
    omega
  · exact fun h => trimL_snoc_ne _ _ h
theorem norm_last {l : List Int} (h : Norm l) (hl : 0 < l.length) : rd l ((l.length : Int) - 1) ≠ 0 := by
  obtain ⟨a, x, rfl⟩ : ∃ a x, l = a ++ [x] := snoc_of hl
  have hx := norm_snoc.1 h
  rw [show (((a ++ [x]).length : Int) - 1) = (a.length : Int) by simp]
  simpa [rd] using hx
theorem val_ge {B : Nat} {l : List Int} (hd : Dig B l) (h : Norm l) (hl : 0 < l.length) : B ^ (l.length - 1) ≤ val B l := by
  obtain ⟨a, x, rfl⟩ : ∃ a x, l = a ++ [x] := snoc_of hl
  have hx := norm_snoc.1 h
  have hx0 := hd x (by simp)
  rw [val_snoc, List.length_append, List.length_singleton, Nat.add_sub_cancel]
  have : B ^ a.length * 1 ≤ B ^ a.length * x.toNat := Nat.mul_le_mul_left _ (by omega)
  omega
theorem val_inj {B : Nat} : ∀ {a b : List Int}, Dig B a → Dig B b → a.length = b.length → val B a = val B b → a = b
  | [], [], _, _, _, _ => rfl
  | [], y :: b, _, _, h, _ => by simp at h
  | x :: a, [], _, _, h, _ => by simp at h
  | x :: a, y :: b, ha, hb, hl, hv => by
    have hx := ha x (by simp)
    have hy := hb y (by simp)
    rw [val_cons, val_cons] at hv
    have hm : (x.toNat + B * val B a) % B = (y.toNat + B * val B b) % B := by rw [hv]
    rw [Nat.add_mul_mod_self_left, Nat.add_mul_mod_self_left, Nat.mod_eq_of_lt (by omega), Nat.mod_eq_of_lt (by omega)] at hm
    have hB : 0 < B := by omega
    have hv2 : val B a = val B b := by
      have h2 : B * val B a = B * val B b := by omega
      exact Nat.eq_of_mul_eq_mul_left hB h2
    rw [val_inj (fun z hz => ha z (List.mem_cons_of_mem _ hz)) (fun z hz => hb z (List.mem_cons_of_mem _ hz)) (by simpa using hl) hv2, show x = y by omega]
theorem val_lt_of_length {B : Nat} (hB : 0 < B) {a b : List Int} (ha : Dig B a) (hb : Dig B b) (hn : Norm b) (hl : a.length < b.length) : val B a < val B b := by
  have h1 := val_lt ha
  have h2 := val_ge hb hn (by omega)
  have h3 : B ^ a.length ≤ B ^ (b.length - 1) := Nat.pow_le_pow_right hB (by omega)
  omega
theorem norm_inj {B : Nat} (hB : 0 < B) {a b : List Int} (ha : Dig B a) (hb : Dig B b) (na : Norm a) (nb : Norm b) (hv : val B a = val B b) : a = b := by
  rcases Nat.lt_trichotomy a.length b.length with h | h | h
  · have := val_lt_of_length hB ha hb nb h; omega
  · exact val_inj ha hb h hv
  · have := val_lt_of_length hB hb ha na h; omega
theorem norm_zero {B : Nat} (hB : 0 < B) {a : List Int} (ha : Dig B a) (na : Norm a) : a = [] ↔ val B a = 0 := by
  constructor
  · rintro rfl; rfl
  · intro h; exact norm_inj hB ha (Dig.nil B) na norm_nil h
theorem rd_nat (l : List Int) (k : Nat) : rd l (k : Int) = l.getD k 0 := rfl
theorem rd_of_ge (l : List Int) (i : Int) (h : l.length ≤ i.toNat) : rd l i = 0 := by simp [rd, List.getD_eq_getElem?_getD, List.getElem?_eq_none h]
theorem rd_of_drop {l r : List Int} {x : Int} {i : Nat} (h : l.drop i = x :: r) : rd l (i : Int) = x := by
  have h2 : l[i]? = some x := by
    have := congrArg (fun m : List Int => m[0]?) h
    simpa [List.getElem?_drop] using this
  rw [rd_nat, List.getD_eq_getElem?_getD, h2]
  rfl
theorem drop_succ_of {l r : List Int} {x : Int} {i : Nat} (h : l.drop i = x :: r) : l.drop (i + 1) = r := by
  have := congrArg (List.drop 1) h
  rw [List.drop_drop] at this
  simpa using this
theorem val_take_succ (B : Nat) (l : List Int) (k : Nat) : val B (l.take (k + 1)) = val B (l.take k) + B ^ k * (rd l (k : Int)).toNat := by
  rcases Nat.lt_or_ge k l.length with h | h
  · rw [take_snoc_rd l k h, val_snoc, List.length_take, Nat.min_eq_left (Nat.le_of_lt h)]
  · rw [rd_of_ge l k (by simpa using h), List.take_of_length_le (by omega), List.take_of_length_le h]
    simp
theorem val_take_all (B : Nat) (l : List Int) (k : Nat) (h : l.length ≤ k) : val B (l.take k) = val B l := by rw [List.take_of_length_le h]
theorem val_split (B : Nat) (l : List Int) (k : Nat) (h : k ≤ l.length) : val B l = val B (l.take k) + B ^ k * val B (l.drop k) := by
  have := val_append B (l.take k) (l.drop k)
  rw [List.take_append_drop, List.length_take, Nat.min_eq_left h] at this
  exact this
theorem val_set (B : Nat) : ∀ (l : List Int) (p : Nat) (x : Int), p < l.length → val B (l.set p x) + B ^ p * (rd l (p : Int)).toNat = val B l + B ^ p * x.toNat
  | [], p, x, h => by simp at h
  | y :: l, 0, x, h => by
    simp only [List.set_cons_zero, val_cons, Nat.pow_zero, Nat.one_mul]
    have : rd (y :: l) ((0 : Nat) : Int) = y := rfl
    rw [this]
    omega
  | y :: l, p + 1, x, h => by
    have ih := val_set B l p x (by simpa using h)
    have hr : rd (y :: l) ((p + 1 : Nat) : Int) = rd l (p : Int) := by rw [rd_nat, rd_nat]; rfl
    rw [List.set_cons_succ, val_cons, val_cons, hr, Nat.pow_succ, Nat.mul_comm (B ^ p) B, Nat.mul_assoc, Nat.mul_assoc]
    have h2 := congrArg (B * ·) ih
    simp only [Nat.mul_add] at h2
    omega
theorem rd_set_self (l : List Int) (p : Nat) (x : Int) (h : p < l.length) : rd (l.set p x) (p : Int) = x := by simp [rd_nat, h]
theorem rd_set_ne (l : List Int) (p q : Nat) (x : Int) (h : p ≠ q) : rd (l.set p x) (q : Int) = rd l (q : Int) := by simp [rd_nat, List.getD_eq_getElem?_getD, List.getElem?_set_ne h]
theorem wrap64_id {n : Int} (h : -9223372036854775808 ≤ n ∧ n ≤ 9223372036854775807) : wrap64 n = n := by unfold wrap64; omega
theorem wrap_u64 (n : Int) : IntKind.u64.wrap n = n % 18446744073709551616 := by simp [IntKind.wrap, IntKind.bits, IntKind.signed]
theorem wrap_u64_id {n : Int} (h : 0 ≤ n ∧ n < 18446744073709551616) : IntKind.u64.wrap n = n := by rw [wrap_u64]; omega
theorem wraps_u64 (n : Int) (h₀ : 0 ≤ n) (h₁ : n < 2 ^ 64) : IntKind.u64.wrap n = n := wrap_u64_id ⟨h₀, by simpa using h₁⟩
theorem and_mask (i : Nat) (hi : i ≤ 64) (x : Int) (h₀ : 0 ≤ x) (h₁ : x < 18446744073709551616) : bits .and .u64 x (2 ^ i - 1) = x % 2 ^ i :=
  bits_mask .u64 64 (by decide) wraps_u64 i hi x h₀ (by simpa using h₁)
theorem and_low32 (x : Int) (h₀ : 0 ≤ x) (h₁ : x < 18446744073709551616) : bits .and .u64 x 4294967295 = x % 4294967296 := by
  simpa using and_mask 32 (by decide) x h₀ h₁
theorem or_join (i : Nat) (x y : Int) (hx₀ : 0 ≤ x) (hx : x % 2 ^ i = 0) (hx₁ : x < 18446744073709551616) (hy₀ : 0 ≤ y) (hy : y < 2 ^ i) (hy₁ : y < 18446744073709551616) : bits .or .u64 x y = x + y :=
  bits_join .u64 64 (by decide) wraps_u64 i x y hx₀ hx (by simpa using hx₁) hy₀ hy (by simpa using hy₁)
theorem bits_or_comm (x y : Int) : bits .or .u64 x y = bits .or .u64 y x := by simp [bits, BitVec.or_comm]
theorem or_join' (i : Nat) (x y : Int) (hy₀ : 0 ≤ y) (hy : y % 2 ^ i = 0) (hy₁ : y < 18446744073709551616) (hx₀ : 0 ≤ x) (hx : x < 2 ^ i) (hx₁ : x < 18446744073709551616) : bits .or .u64 x y = x + y := by
  rw [bits_or_comm, or_join i y x hy₀ hy hy₁ hx₀ hx hx₁, Int.add_comm]
theorem ev_const {α : Type} {g : Option α} {r : α} (h : g = some r) : Ev (fun _ => g) r := ⟨0, fun _ _ => h⟩
theorem ev_to {α : Type} {g : Nat → Option α} {r r' : α} (h : Ev g r) (e : r = r') : Ev g r' := e ▸ h
theorem ev_bindc {α β : Type} {g : Option α} {f : Nat → α → Option β} {a : α} {r : β} (h : g = some a) (k : Ev (fun n => f n a) r) : Ev (fun n => g.bind (f n)) r := Ev.bind (g := fun _ => g) (ev_const h) k
end Go.Proofs.Ytcbmdpecnmbhjaa.M
end
section
namespace Go.Proofs.Ytcbmdpecnmbhjaa.M
open Go.RowKit Go.Proofs.Ytcbmdpecnmbhjaa.G Go.Proofs.YtcbmdpecnmbhjaaV.PrintWords Go.Proofs.YtcbmdpecnmbhjaaV.PrintLast Go.Proofs.YtcbmdpecnmbhjaaV.PrintMore Go.Proofs.Ytcbmdpecnmbhjaa.PA
set_option linter.unusedVariables false
set_option linter.unusedSimpArgs false
def B32 : Nat := 4294967296
def B64 : Nat := 18446744073709551616
theorem B32_pos : 0 < B32 := by unfold B32; omega
theorem B64_pos : 0 < B64 := by unfold B64; omega
theorem fits_eq (l : List Int) : spec_l1Fits.f l = some (decide (l.length ≤ 1200)) := by
  unfold spec_l1Fits.f
  simp
  omega
theorem at_eq (l : List Int) (i : Int) (h : 0 ≤ i) : spec_l1At.f l i = some (rd l i) := by
  unfold spec_l1At.f
  by_cases h1 : i < (l.length : Int)
  · rw [if_pos h1, if_pos h]
  · rw [if_neg h1, rd_of_ge l i (by omega)]
theorem trim_eq (l : List Int) (h : l.length ≤ 35184372088832) : spec_l1Trim.f l = some (trimL l) := by
  unfold spec_l1Trim.f
  rw [if_pos h]
def d32 : List Int → List Int
  | [] => []
  | x :: l => x % 4294967296 :: x / 4294967296 :: d32 l
theorem d32_append (a b : List Int) : d32 (a ++ b) = d32 a ++ d32 b := by
  induction a with
  | nil => rfl
  | cons x a ih => simp [d32, ih]
theorem d32_length (l : List Int) : (d32 l).length = 2 * l.length := by
  induction l with
  | nil => rfl
  | cons x l ih => simp only [d32, List.length_cons, ih]; omega
theorem d32_dig {l : List Int} (h : Dig B64 l) : Dig B32 (d32 l) := by
  induction l with
  | nil => exact Dig.nil _
  | cons x l ih =>
    have hx := h x (by simp)
    unfold B64 at hx
    refine Dig.cons ?_ (Dig.cons ?_ (ih (fun y hy => h y (List.mem_cons_of_mem _ hy)))) <;> unfold B32 <;> omega
theorem d32_val {l : List Int} (h : Dig B64 l) : val B32 (d32 l) = val B64 l := by
  induction l with
  | nil => rfl
  | cons x l ih =>
    have hx := h x (by simp)
    have ih := ih (fun y hy => h y (List.mem_cons_of_mem _ hy))
    simp only [d32, val_cons, ih]
    unfold B64 at hx
    unfold B32 B64
    omega
def inL (l : List Int) : List Int := trimL (d32 l)
theorem inL_dig {l : List Int} (h : Dig B64 l) : Dig B32 (inL l) := (d32_dig h).trim
theorem inL_norm (l : List Int) : Norm (inL l) := norm_trim _
theorem inL_val {l : List Int} (h : Dig B64 l) : val B32 (inL l) = val B64 l := by unfold inL; rw [val_trim, d32_val h]
theorem inL_length (l : List Int) : (inL l).length ≤ 2 * l.length := by
  unfold inL
  have := trimL_length (d32 l)
  rw [d32_length] at this
  exact this
theorem in_loop (l : List Int) (hd : Dig B64 l) (hl : l.length ≤ 1073741824) (d : Nat) : ∀ i : Nat, i + d = l.length →
    Ev (fun k => spec_l1In.l0 k (d32 (l.take i)) l (l.length : Int) (i : Int)) (inL l) := by
  induction d with
  | zero =>
    intro i hi
    refine Ev.step (f := fun _ => some (inL l)) (fun k => ?_) (Ev.now _)
    simp only [spec_l1In.l0]
    rw [if_neg (by omega), List.take_of_length_le (by omega), trim_eq _ (by rw [d32_length]; omega)]
    rfl
  | succ d ih =>
    intro i hi
    have hx := hd.rd B64_pos (i : Int)
    refine Ev.step (fun k => ?_) (ih (i + 1) (by omega))
    have hlen : (d32 (l.take i)).length = 2 * i := by rw [d32_length, List.length_take]; omega
    unfold B64 at hx
    simp only [spec_l1In.l0]
    rw [if_pos (by omega), if_pos (by omega), if_pos (by omega)]
    simp only [Option.bind_some]
    rw [if_pos (by rw [hlen]; simp; omega), and_low32 _ hx.1 (by omega), wrap64_id (by omega), take_snoc_rd l i (by omega), d32_append]
    rfl
theorem in_ev (l : List Int) (hd : Dig B64 l) (hl : l.length ≤ 1073741824) : Ev (fun k => spec_l1In.f k l) (inL l) := in_loop l hd hl l.length 0 (by omega)
def outL : List Int → List Int
  | [] => []
  | [x] => [x]
  | x :: y :: l => (x + y * 4294967296) :: outL l
theorem outL_length : ∀ l : List Int, (outL l).length ≤ l.length
  | [] => Nat.le_refl _
  | [x] => Nat.le_refl _
  | x :: y :: l => by have := outL_length l; simp only [outL, List.length_cons]; omega
theorem outL_dig : ∀ {l : List Int}, Dig B32 l → Dig B64 (outL l)
  | [], _ => Dig.nil _
  | [x], h => by
    have hx := h x (by simp)
    unfold B32 at hx
    exact Dig.cons (by unfold B64; omega) (Dig.nil _)
  | x :: y :: l, h => by
    have hx := h x (by simp)
    have hy := h y (by simp)
    unfold B32 at hx hy
    exact Dig.cons (by unfold B64; omega) (outL_dig (fun z hz => h z (List.mem_cons_of_mem _ (List.mem_cons_of_mem _ hz))))
theorem outL_val : ∀ {l : List Int}, Dig B32 l → val B64 (outL l) = val B32 l
  | [], _ => rfl
  | [x], h => by simp [outL, val]
  | x :: y :: l, h => by
    have hx := h x (by simp)
    have hy := h y (by simp)
    have ih := outL_val (l := l) (fun z hz => h z (List.mem_cons_of_mem _ (List.mem_cons_of_mem _ hz)))
    simp only [outL, val_cons, ih]
    unfold B32 at hx hy
    unfold B32 B64
    omega
theorem norm_iff (l : List Int) : Norm l ↔ ∀ h : l ≠ [], l.getLast h ≠ 0 := by
  rcases Nat.eq_zero_or_pos l.length with h | h
  · have := List.eq_nil_of_length_eq_zero h
    subst this
    exact ⟨fun _ h => absurd rfl h, fun _ => rfl⟩
  · obtain ⟨a, x, rfl⟩ := snoc_of h
    rw [norm_snoc]
    simp
theorem outL_norm : ∀ {l : List Int}, Dig B32 l → Norm l → Norm (outL l)
  | [], _, _ => norm_nil
  | [x], _, h => h
  | [x, y], hd, h => by
    have hx := hd x (by simp)
    have h2 := (norm_iff _).1 h (by simp)
    simp at h2
    have hy := hd y (by simp)
    refine (norm_iff _).2 (fun _ => ?_)
    simp [outL]
    omega
  | x :: y :: z :: l, hd, h => by
    have h2 : Norm (z :: l) := by
      rw [norm_iff] at h ⊢
      intro hn
      have := h (by simp)
      simpa using this
    have ih := outL_norm (l := z :: l) (fun w hw => hd w (List.mem_cons_of_mem _ (List.mem_cons_of_mem _ hw))) h2
    rw [norm_iff] at ih ⊢
    intro hn
    have hne : outL (z :: l) ≠ [] := by cases l <;> simp [outL]
    have := ih hne
    simp only [outL]
    rw [List.getLast_cons hne]
    exact this
theorem out_loop (l : List Int) (hd : Dig B32 l) (hl : l.length ≤ 4294967296) (n : Nat) : ∀ (i : Nat) (acc rest : List Int), rest.length ≤ n → l.drop i = rest → i ≤ l.length → acc.length ≤ i →
    Ev (fun k => spec_l1Out.l0 k l acc (i : Int)) (acc ++ outL rest) := by
  induction n with
  | zero =>
    intro i acc rest hn hr hi ha
    have h0 : rest = [] := List.eq_nil_of_length_eq_zero (by omega)
    subst h0
    have hlen := congrArg List.length hr
    rw [List.length_drop] at hlen
    refine Ev.step (f := fun _ => some (acc ++ outL [])) (fun k => ?_) (Ev.now _)
    simp only [spec_l1Out.l0]
    rw [if_neg (by simp at hlen; omega)]
    simp [outL]
  | succ n ih =>
    intro i acc rest hn hr hi ha
    match rest, hn, hr with
    | [], hn, hr => exact ih i acc [] (by simp) hr hi ha
    | [x], hn, hr =>
      have hlen := congrArg List.length hr
      rw [List.length_drop] at hlen
      simp at hlen
      have hx : rd l (i : Int) = x := rd_of_drop hr
      refine Ev.step (f := fun k => spec_l1Out.l0 k l (acc ++ [x]) ((i + 2 : Nat) : Int)) (fun k => ?_) (Ev.step (f := fun _ => some (acc ++ outL [x])) (fun k => ?_) (Ev.now _))
      · simp only [spec_l1Out.l0]
        rw [if_pos (by omega), if_pos (by omega), wrap64_id (by omega), if_neg (by omega), if_pos (by omega), wrap64_id (by omega), hx]
        rfl
      · simp only [spec_l1Out.l0]
        rw [if_neg (by omega)]
        simp [outL]
    | x :: y :: r, hn, hr =>
      have hlen := congrArg List.length hr
      rw [List.length_drop] at hlen
      simp at hlen
      have hx : rd l (i : Int) = x := rd_of_drop hr
      have hy : rd l ((i : Int) + 1) = y := rd_of_drop (i := i + 1) (drop_succ_of hr)
      have hr2 : l.drop (i + 2) = r := drop_succ_of (drop_succ_of hr)
      have dx := hd.rd B32_pos (i : Int)
      have dy := hd.rd B32_pos ((i : Int) + 1)
      rw [hx] at dx
      rw [hy] at dy
      unfold B32 at dx dy
      have hor : bits .or .u64 x (IntKind.u64.wrap (y * 4294967296)) = x + y * 4294967296 := by
        rw [wrap_u64_id (by omega)]
        exact or_join' 32 x (y * 4294967296) (by omega) (by simp) (by omega) (by omega) (by simp; omega) (by omega)
      have hrl : r.length ≤ n := by simp at hn; omega
      refine Ev.step (fun k => ?_) (ev_to (ih (i + 2) (acc ++ [x + y * 4294967296]) r hrl hr2 (by omega) (by simp; omega)) (by simp [outL]))
      simp only [spec_l1Out.l0]
      rw [if_pos (by omega), if_pos (by omega), wrap64_id (by omega), if_pos (by omega), if_pos (by omega), if_pos (by omega), wrap64_id (by omega), hx, hy, hor]
      rfl
theorem out_ev (l : List Int) (hd : Dig B32 l) (hl : l.length ≤ 4294967296) : Ev (fun k => spec_l1Out.f k l) (outL l) := by
  have h := out_loop l hd hl l.length 0 [] l (Nat.le_refl _) rfl (by omega) (by simp)
  unfold spec_l1Out.f
  simpa using h
def cmpN (x y : Nat) : Int := if x < y then -1 else if x > y then 1 else 0
theorem cmp_loop (a b : List Int) (ha : Dig B32 a) (hb : Dig B32 b) (i : Nat) (hi : i ≤ 1073741824) :
    Ev (fun k => spec_l1Cmp.l0 k a b ((i : Int) - 1)) (cmpN (val B32 (a.take i)) (val B32 (b.take i))) := by
  induction i with
  | zero =>
    refine Ev.step (f := fun _ => some (cmpN 0 0)) (fun k => ?_) (Ev.now _)
    simp only [spec_l1Cmp.l0]
    rw [if_neg (by omega)]
    rfl
  | succ i ih =>
    have e : (((i + 1 : Nat) : Int) - 1) = (i : Int) := by omega
    rw [e]
    have dx := ha.rd B32_pos (i : Int)
    have dy := hb.rd B32_pos (i : Int)
    have hva := val_lt (ha.take i)
    have hvb := val_lt (hb.take i)
    have hpa : B32 ^ (a.take i).length ≤ B32 ^ i := Nat.pow_le_pow_right B32_pos (by rw [List.length_take]; omega)
    have hpb : B32 ^ (b.take i).length ≤ B32 ^ i := Nat.pow_le_pow_right B32_pos (by rw [List.length_take]; omega)
    rw [val_take_succ B32 a i, val_take_succ B32 b i]
    generalize val B32 (a.take i) = va at *
    generalize val B32 (b.take i) = vb at *
    generalize B32 ^ i = P at *
    by_cases h1 : rd a (i : Int) < rd b (i : Int)
    · have h2 : P * ((rd a (i : Int)).toNat + 1) ≤ P * (rd b (i : Int)).toNat := Nat.mul_le_mul_left _ (by omega)
      rw [Nat.mul_add] at h2
      refine Ev.step (f := fun _ => some (-1)) (fun k => ?_) (ev_to (Ev.now (-1)) (by unfold cmpN; rw [if_pos (by omega)]))
      simp only [spec_l1Cmp.l0]
      rw [if_pos (by omega), at_eq _ _ (by omega), at_eq _ _ (by omega)]
      simp only [Option.bind_some]
      rw [if_pos h1]
    · by_cases h3 : rd a (i : Int) > rd b (i : Int)
      · have h2 : P * ((rd b (i : Int)).toNat + 1) ≤ P * (rd a (i : Int)).toNat := Nat.mul_le_mul_left _ (by omega)
        rw [Nat.mul_add] at h2
        refine Ev.step (f := fun _ => some 1) (fun k => ?_) (ev_to (Ev.now 1) (by unfold cmpN; rw [if_neg (by omega), if_pos (by omega)]))
        simp only [spec_l1Cmp.l0]
        rw [if_pos (by omega), at_eq _ _ (by omega), at_eq _ _ (by omega)]
        simp only [Option.bind_some]
        rw [if_neg h1, if_pos h3]
      · have h4 : rd a (i : Int) = rd b (i : Int) := by omega
        refine Ev.step (fun k => ?_) (ev_to (ih (by omega)) (by unfold cmpN; rw [h4]; simp))
        simp only [spec_l1Cmp.l0]
        rw [if_pos (by omega), at_eq _ _ (by omega), at_eq _ _ (by omega)]
        simp only [Option.bind_some]
        rw [if_neg h1, if_neg h3, wrap64_id (by omega)]
theorem cmp_ev (a b : List Int) (ha : Dig B32 a) (hb : Dig B32 b) (la : a.length ≤ 1073741824) (lb : b.length ≤ 1073741824) : Ev (fun k => spec_l1Cmp.f k a b) (cmpN (val B32 a) (val B32 b)) := by
  unfold spec_l1Cmp.f
  by_cases h : (b.length : Int) > (a.length : Int)
  · simp only [if_pos h]
    have h1 := cmp_loop a b ha hb b.length (by omega)
    rw [val_take_all _ a _ (by omega), val_take_all _ b _ (by omega)] at h1
    refine Ev.step (fun k => ?_) h1
    simp only [spec_l1Cmp.j0]
    rw [wrap64_id (by omega)]
  · simp only [if_neg h]
    have h1 := cmp_loop a b ha hb a.length (by omega)
    rw [val_take_all _ a _ (by omega), val_take_all _ b _ (by omega)] at h1
    refine Ev.step (fun k => ?_) h1
    simp only [spec_l1Cmp.j0]
    rw [wrap64_id (by omega)]
end Go.Proofs.Ytcbmdpecnmbhjaa.M
end
section
namespace Go.Proofs.Ytcbmdpecnmbhjaa.M
open Go.RowKit Go.Proofs.Ytcbmdpecnmbhjaa.G Go.Proofs.YtcbmdpecnmbhjaaV.PrintWords Go.Proofs.YtcbmdpecnmbhjaaV.PrintLast Go.Proofs.YtcbmdpecnmbhjaaV.PrintMore Go.Proofs.Ytcbmdpecnmbhjaa.PA
set_option linter.unusedVariables false
set_option linter.unusedSimpArgs false
theorem sadd_loop (a b : List Int) (ha : Dig B32 a) (hb : Dig B32 b) (n : Nat) (hn : a.length ≤ n ∧ b.length ≤ n) (hm : n ≤ 1073741824) (d : Nat) : ∀ (i : Nat) (acc : List Int) (c : Int), i + d = n + 1 → acc.length = i → Dig B32 acc → 0 ≤ c ∧ c ≤ 1 → (i = n + 1 → c = 0) →
    val B32 acc + B32 ^ i * c.toNat = val B32 (a.take i) + val B32 (b.take i) →
    ∃ r, Ev (fun k => spec_l1Add.l0 k a b (n : Int) acc c (i : Int)) r ∧ Dig B32 r ∧ Norm r ∧ val B32 r = val B32 a + val B32 b ∧ r.length ≤ n + 1 := by
  induction d with
  | zero =>
    intro i acc c hi hac hd hc hz hv
    refine ⟨trimL acc, Ev.step (f := fun _ => some (trimL acc)) (fun k => ?_) (Ev.now _), hd.trim, norm_trim _, ?_, ?_⟩
    · simp only [spec_l1Add.l0]
      rw [if_neg (by omega), trim_eq _ (by omega)]
      rfl
    · rw [hz (by omega), val_take_all _ a _ (by omega), val_take_all _ b _ (by omega)] at hv
      rw [val_trim]
      simpa using hv
    · have := trimL_length acc
      omega
  | succ d ih =>
    intro i acc c hi hac hd hc hz hv
    have dx := ha.rd B32_pos (i : Int)
    have dy := hb.rd B32_pos (i : Int)
    have hrx : i = n → rd a (i : Int) = 0 := fun h => rd_of_ge a _ (by simp; omega)
    have hry : i = n → rd b (i : Int) = 0 := fun h => rd_of_ge b _ (by simp; omega)
    have hb32 : (B32 : Int) = 4294967296 := rfl
    have hb32n : B32 = 4294967296 := rfl
    have hsum : ((rd a (i : Int) + rd b (i : Int) + c) % 4294967296).toNat + B32 * ((rd a (i : Int) + rd b (i : Int) + c) / 4294967296).toNat = (rd a (i : Int)).toNat + (rd b (i : Int)).toNat + c.toNat := by
      rw [hb32n]
      omega
    obtain ⟨r, hr, h2⟩ := ih (i + 1) (acc ++ [(rd a (i : Int) + rd b (i : Int) + c) % 4294967296]) ((rd a (i : Int) + rd b (i : Int) + c) / 4294967296) (by omega) (by simp [hac]) (hd.snoc (by omega)) (by omega) (by
        intro h
        rw [hrx (by omega), hry (by omega)]
        omega) (by
      rw [val_snoc, hac, val_take_succ, val_take_succ, Nat.pow_succ, Nat.mul_assoc, Nat.add_assoc, ← Nat.mul_add, hsum, Nat.mul_add, Nat.mul_add]
      omega)
    refine ⟨r, Ev.step (fun k => ?_) hr, h2⟩
    simp only [spec_l1Add.l0]
    rw [if_pos (by omega), at_eq _ _ (by omega), at_eq _ _ (by omega)]
    simp only [Option.bind_some]
    rw [if_pos (by omega), wrap_u64_id (n := rd a (i : Int) + rd b (i : Int)) (by omega), wrap_u64_id (by omega), and_low32 _ (by omega) (by omega), wrap64_id (by omega)]
    rfl
theorem sadd_ev (a b : List Int) (ha : Dig B32 a) (hb : Dig B32 b) (la : a.length ≤ 1073741824) (lb : b.length ≤ 1073741824) :
    ∃ r, Ev (fun k => spec_l1Add.f k a b) r ∧ Dig B32 r ∧ Norm r ∧ val B32 r = val B32 a + val B32 b ∧ r.length ≤ max a.length b.length + 1 := by
  by_cases h : (b.length : Int) > (a.length : Int)
  · obtain ⟨r, hr, h1, h2, h3, h4⟩ := sadd_loop a b ha hb b.length (by omega) (by omega) (b.length + 1) 0 [] 0 (by omega) rfl (Dig.nil _) (by omega) (by omega) (by simp [val])
    refine ⟨r, Ev.congr (fun k => ?_) (Ev.step (g := fun k => spec_l1Add.j0 k a b (b.length : Int)) (fun k => ?_) hr), h1, h2, h3, by omega⟩
    · unfold spec_l1Add.f
      rw [if_pos h]
    · simp only [spec_l1Add.j0]
      rfl
  · obtain ⟨r, hr, h1, h2, h3, h4⟩ := sadd_loop a b ha hb a.length (by omega) (by omega) (a.length + 1) 0 [] 0 (by omega) rfl (Dig.nil _) (by omega) (by omega) (by simp [val])
    refine ⟨r, Ev.congr (fun k => ?_) (Ev.step (g := fun k => spec_l1Add.j0 k a b (a.length : Int)) (fun k => ?_) hr), h1, h2, h3, by omega⟩
    · unfold spec_l1Add.f
      rw [if_neg h]
    · simp only [spec_l1Add.j0]
      rfl
theorem ssub_loop (a b : List Int) (ha : Dig B32 a) (hb : Dig B32 b) (hm : a.length ≤ 1073741824) (d : Nat) : ∀ (i : Nat) (acc : List Int) (c : Int), i + d = a.length → acc.length = i → Dig B32 acc → 0 ≤ c ∧ c ≤ 1 →
    val B32 acc + val B32 (b.take i) = val B32 (a.take i) + B32 ^ i * c.toNat →
    ∃ (r : List Int) (c' : Int), Ev (fun k => spec_l1Sub.l0 k a b acc c (i : Int)) (trimL r) ∧ Dig B32 r ∧ r.length = a.length ∧ 0 ≤ c' ∧ c' ≤ 1 ∧ val B32 r + val B32 (b.take a.length) = val B32 a + B32 ^ a.length * c'.toNat := by
  induction d with
  | zero =>
    intro i acc c hi hac hd hc hv
    refine ⟨acc, c, Ev.step (f := fun _ => some (trimL acc)) (fun k => ?_) (Ev.now _), hd, by omega, hc.1, hc.2, ?_⟩
    · simp only [spec_l1Sub.l0]
      rw [if_neg (by omega), trim_eq _ (by omega)]
      rfl
    · rw [show a.length = i by omega, hv, val_take_all _ a _ (by omega)]
  | succ d ih =>
    intro i acc c hi hac hd hc hv
    have dx := ha.rd B32_pos (i : Int)
    have dy := hb.rd B32_pos (i : Int)
    have hb32 : (B32 : Int) = 4294967296 := rfl
    have hb32n : B32 = 4294967296 := rfl
    have hsum : ((4294967296 + rd a (i : Int) - rd b (i : Int) - c) % 4294967296).toNat + (rd b (i : Int)).toNat + c.toNat = (rd a (i : Int)).toNat + B32 * (1 - (4294967296 + rd a (i : Int) - rd b (i : Int) - c) / 4294967296).toNat := by
      rw [hb32n]
      omega
    obtain ⟨r, c', hr, h2⟩ := ih (i + 1) (acc ++ [(4294967296 + rd a (i : Int) - rd b (i : Int) - c) % 4294967296]) (1 - (4294967296 + rd a (i : Int) - rd b (i : Int) - c) / 4294967296) (by omega) (by simp [hac]) (hd.snoc (by omega)) (by omega) (by
      rw [val_snoc, hac, val_take_succ, val_take_succ, Nat.pow_succ, Nat.mul_assoc]
      have h3 := congrArg (B32 ^ i * ·) hsum
      simp only [Nat.mul_add] at h3
      omega)
    refine ⟨r, c', Ev.step (fun k => ?_) hr, h2⟩
    simp only [spec_l1Sub.l0]
    rw [if_pos (by omega), if_pos (by omega), at_eq _ _ (by omega)]
    simp only [Option.bind_some]
    rw [if_pos (by omega), wrap_u64_id (n := 4294967296 + rd a (i : Int)) (by omega), wrap_u64_id (n := 4294967296 + rd a (i : Int) - rd b (i : Int)) (by omega), wrap_u64_id (n := 4294967296 + rd a (i : Int) - rd b (i : Int) - c) (by omega), and_low32 _ (by omega) (by omega), wrap64_id (by omega), wrap_u64_id (by omega)]
    rfl
theorem ssub_ev (a b : List Int) (ha : Dig B32 a) (hb : Dig B32 b) (la : a.length ≤ 1073741824) (h : val B32 b ≤ val B32 a) :
    ∃ r, Ev (fun k => spec_l1Sub.f k a b) r ∧ Dig B32 r ∧ Norm r ∧ val B32 r = val B32 a - val B32 b ∧ r.length ≤ a.length := by
  obtain ⟨r, c, hr, h1, h2, h3, h4, h5⟩ := ssub_loop a b ha hb la a.length 0 [] 0 (by omega) rfl (Dig.nil _) (by omega) (by simp [val])
  have hva := val_lt ha
  have hvr := val_lt h1
  rw [h2] at hvr
  have hbt : val B32 (b.take a.length) = val B32 b := by
    rcases Nat.lt_or_ge b.length a.length with hl | hl
    · rw [val_take_all _ _ _ (by omega)]
    · have hs := val_split B32 b a.length hl
      have h0 : val B32 (b.drop a.length) = 0 := by
        rcases Nat.eq_zero_or_pos (val B32 (b.drop a.length)) with h6 | h6
        · exact h6
        · have : B32 ^ a.length * 1 ≤ B32 ^ a.length * val B32 (b.drop a.length) := Nat.mul_le_mul_left _ h6
          omega
      rw [h0] at hs
      omega
  rw [hbt] at h5
  have hc : c = 0 := by
    rcases (show c = 0 ∨ c = 1 by omega) with hc | hc
    · exact hc
    · rw [hc] at h5
      simp at h5
      omega
  rw [hc] at h5
  refine ⟨trimL r, hr, h1.trim, norm_trim _, ?_, ?_⟩
  · rw [val_trim]
    simp at h5
    omega
  · have := trimL_length r
    omega
end Go.Proofs.Ytcbmdpecnmbhjaa.M
end
section
namespace Go.Proofs.Ytcbmdpecnmbhjaa.M
open Go.RowKit Go.Proofs.Ytcbmdpecnmbhjaa.G Go.Proofs.YtcbmdpecnmbhjaaV.PrintWords Go.Proofs.YtcbmdpecnmbhjaaV.PrintLast Go.Proofs.YtcbmdpecnmbhjaaV.PrintMore Go.Proofs.Ytcbmdpecnmbhjaa.PA
set_option linter.unusedVariables false
set_option linter.unusedSimpArgs false
theorem short_two (a b : List Int) (ha : a.length ≤ 1073741824) (hb : b.length ≤ 1073741824) : Ev (fun k => impl_short.f k [a, b]) (decide (a.length ≤ 1200) && decide (b.length ≤ 1200)) := by
  refine ⟨4, fun k hk => ?_⟩
  obtain ⟨k, rfl⟩ : ∃ m, k = m + 3 := ⟨k - 3, by omega⟩
  have w1 : wrap64 1 = 1 := by unfold wrap64; omega
  have w2 : wrap64 2 = 2 := by unfold wrap64; omega
  have r0 : rd_L2 [a, b] 0 = a := rfl
  have r1 : rd_L2 [a, b] 1 = b := rfl
  unfold impl_short.f
  simp only [List.length_cons, List.length_nil]
  by_cases h1 : a.length ≤ 1200
  · have n1 : ¬ ((a.length : Int) > 1200) := by omega
    by_cases h2 : b.length ≤ 1200
    · have n2 : ¬ ((b.length : Int) > 1200) := by omega
      simp [impl_short.l0, r0, r1, w1, w2, n1, n2, h1, h2]
    · have n2 : ((b.length : Int) > 1200) := by omega
      simp [impl_short.l0, r0, r1, w1, w2, n1, n2, h1, h2]
  · have n1 : ((a.length : Int) > 1200) := by omega
    simp [impl_short.l0, r0, r1, w1, w2, n1, h1]
theorem icmp_loop (a b : List Int) (ha : Dig B64 a) (hb : Dig B64 b) (hl : a.length = b.length) (i : Nat) (hi : i ≤ a.length) (hm : i ≤ 1073741824) :
    Ev (fun k => impl_nat_cmp.l0 k a b ((i : Int) - 1)) (cmpN (val B64 (a.take i)) (val B64 (b.take i))) := by
  induction i with
  | zero =>
    refine Ev.step (f := fun _ => some (cmpN 0 0)) (fun k => ?_) (Ev.now _)
    simp only [impl_nat_cmp.l0]
    rw [if_neg (by omega)]
    rfl
  | succ i ih =>
    have e : (((i + 1 : Nat) : Int) - 1) = (i : Int) := by omega
    rw [e]
    have dx := ha.rd B64_pos (i : Int)
    have dy := hb.rd B64_pos (i : Int)
    have hva := val_lt (ha.take i)
    have hvb := val_lt (hb.take i)
    have hpa : B64 ^ (a.take i).length ≤ B64 ^ i := Nat.pow_le_pow_right B64_pos (by rw [List.length_take]; omega)
    have hpb : B64 ^ (b.take i).length ≤ B64 ^ i := Nat.pow_le_pow_right B64_pos (by rw [List.length_take]; omega)
    rw [val_take_succ B64 a i, val_take_succ B64 b i]
    generalize val B64 (a.take i) = va at *
    generalize val B64 (b.take i) = vb at *
    generalize B64 ^ i = P at *
    by_cases h0 : rd a (i : Int) = rd b (i : Int)
    · refine Ev.step (fun k => ?_) (ev_to (ih (by omega) (by omega)) (by unfold cmpN; rw [h0]; simp))
      simp only [impl_nat_cmp.l0]
      rw [if_pos (by omega), if_pos (by omega), if_pos (by omega), if_pos (by omega), if_pos h0, wrap64_id (by omega)]
    · by_cases h1 : rd a (i : Int) < rd b (i : Int)
      · have h2 : P * ((rd a (i : Int)).toNat + 1) ≤ P * (rd b (i : Int)).toNat := Nat.mul_le_mul_left _ (by omega)
        rw [Nat.mul_add] at h2
        refine Ev.step (f := fun _ => some (-1)) (fun k => ?_) (ev_to (Ev.now (-1)) (by unfold cmpN; rw [if_pos (by omega)]))
        simp only [impl_nat_cmp.l0]
        rw [if_pos (by omega), if_pos (by omega), if_pos (by omega), if_pos (by omega), if_neg h0, if_pos h1]
      · have h2 : P * ((rd b (i : Int)).toNat + 1) ≤ P * (rd a (i : Int)).toNat := Nat.mul_le_mul_left _ (by omega)
        rw [Nat.mul_add] at h2
        refine Ev.step (f := fun _ => some 1) (fun k => ?_) (ev_to (Ev.now 1) (by unfold cmpN; rw [if_neg (by omega), if_pos (by omega)]))
        simp only [impl_nat_cmp.l0]
        rw [if_pos (by omega), if_pos (by omega), if_pos (by omega), if_pos (by omega), if_neg h0, if_neg h1]
theorem icmp_ev (a b : List Int) (ha : Dig B64 a) (hb : Dig B64 b) (na : Norm a) (nb : Norm b) (la : a.length ≤ 1073741824) (lb : b.length ≤ 1073741824) : Ev (fun k => impl_nat_cmp.f k a b) (cmpN (val B64 a) (val B64 b)) := by
  unfold impl_nat_cmp.f
  by_cases h : (a.length : Int) = (b.length : Int)
  · simp only [if_pos h]
    have h1 := icmp_loop a b ha hb (by omega) a.length (Nat.le_refl _) (by omega)
    rw [val_take_all _ a _ (by omega), val_take_all _ b _ (by omega)] at h1
    refine Ev.congr (fun k => ?_) h1
    rw [wrap64_id (by omega)]
  · simp only [if_neg h]
    by_cases h1 : (a.length : Int) < (b.length : Int)
    · simp only [if_pos h1]
      have := val_lt_of_length B64_pos ha hb nb (by omega)
      exact ev_const (by unfold cmpN; rw [if_pos this])
    · simp only [if_neg h1]
      have := val_lt_of_length B64_pos hb ha na (by omega)
      exact ev_const (by unfold cmpN; rw [if_neg (by omega), if_pos this])
theorem add64_spec (a b c : Int) (ha : 0 ≤ a ∧ a < (B64 : Int)) (hb : 0 ≤ b ∧ b < (B64 : Int)) (hc : 0 ≤ c ∧ c ≤ 1) :
    0 ≤ add64s a b c ∧ add64s a b c < (B64 : Int) ∧ 0 ≤ add64c a b c ∧ add64c a b c ≤ 1 ∧ (add64s a b c).toNat + B64 * (add64c a b c).toNat = a.toNat + b.toNat + c.toNat := by
  unfold add64s add64c
  unfold B64 at *
  omega
theorem sub64_spec (a b c : Int) (ha : 0 ≤ a ∧ a < (B64 : Int)) (hb : 0 ≤ b ∧ b < (B64 : Int)) (hc : 0 ≤ c ∧ c ≤ 1) :
    0 ≤ sub64s a b c ∧ sub64s a b c < (B64 : Int) ∧ 0 ≤ sub64c a b c ∧ sub64c a b c ≤ 1 ∧ (sub64s a b c).toNat + b.toNat + c.toNat = a.toNat + B64 * (sub64c a b c).toNat := by
  unfold sub64s sub64c
  unfold B64 at *
  split <;> omega
theorem fill_set (acc : List Int) (n i : Nat) (x : Int) (hi : acc.length = i) (h : i < n) : (acc ++ List.replicate (n - i) 0).set i x = (acc ++ [x]) ++ List.replicate (n - (i + 1)) 0 := by
  obtain ⟨m, hm⟩ : ∃ m, n - i = m + 1 := ⟨n - i - 1, by omega⟩
  rw [hm, show n - (i + 1) = m by omega, List.replicate_succ, List.set_append_right _ _ (by omega), hi, Nat.sub_self]
  simp
theorem iadd_loop (a b : List Int) (ha : Dig B64 a) (hb : Dig B64 b) (hl : b.length ≤ a.length) (hm : a.length ≤ 1073741824) (d : Nat) : ∀ (i : Nat) (acc : List Int) (c : Int), i + d = a.length → acc.length = i → Dig B64 acc → 0 ≤ c ∧ c ≤ 1 →
    val B64 acc + B64 ^ i * c.toNat = val B64 (a.take i) + val B64 (b.take i) →
    ∃ r, Ev (fun k => impl_nat_add.l0 k a b (acc ++ List.replicate (a.length + 1 - i) 0) c (a.length : Int) (i : Int)) r ∧ Dig B64 r ∧ Norm r ∧ val B64 r = val B64 a + val B64 b ∧ r.length ≤ a.length + 1 := by
  induction d with
  | zero =>
    intro i acc c hi hac hd hc hv
    refine ⟨trimL (acc ++ [c]), Ev.step (f := fun _ => some (trimL (acc ++ [c]))) (fun k => ?_) (Ev.now _), (hd.snoc ?_).trim, norm_trim _, ?_, ?_⟩
    · have hlen : (acc ++ List.replicate (a.length + 1 - i) 0).length = a.length + 1 := by rw [List.length_append, List.length_replicate]; omega
      simp only [impl_nat_add.l0]
      rw [if_neg (by omega), if_pos (by omega), if_pos (by rw [hlen]; omega), Int.toNat_natCast, show a.length = i by omega, fill_set acc (i + 1) i c hac (by omega)]
      simp
    · unfold B64; omega
    · rw [val_trim, val_snoc, hac, hv, val_take_all _ a _ (by omega), val_take_all _ b _ (by omega)]
    · have := trimL_length (acc ++ [c])
      rw [List.length_append, List.length_singleton] at this
      omega
  | succ d ih =>
    intro i acc c hi hac hd hc hv
    have dx := ha.rd B64_pos (i : Int)
    have dy := hb.rd B64_pos (i : Int)
    have hlen : (acc ++ List.replicate (a.length + 1 - i) 0).length = a.length + 1 := by rw [List.length_append, List.length_replicate]; omega
    obtain ⟨s1, s2, s3, s4, s5⟩ := add64_spec _ _ _ dx dy hc
    obtain ⟨r, hr, h2⟩ := ih (i + 1) (acc ++ [add64s (rd a (i : Int)) (rd b (i : Int)) c]) (add64c (rd a (i : Int)) (rd b (i : Int)) c) (by omega) (by simp [hac]) (hd.snoc ⟨s1, s2⟩) ⟨s3, s4⟩ (by
      rw [val_snoc, hac, val_take_succ, val_take_succ, Nat.pow_succ, Nat.mul_assoc, Nat.add_assoc, ← Nat.mul_add, s5, Nat.mul_add, Nat.mul_add]
      omega)
    refine ⟨r, Ev.step (fun k => ?_) hr, h2⟩
    simp only [impl_nat_add.l0]
    rw [if_pos (by omega)]
    by_cases h : (i : Int) < (b.length : Int)
    · rw [if_pos h, if_pos (by omega), if_pos (by omega), if_pos (by omega), if_pos (by rw [hlen]; omega), Int.toNat_natCast, fill_set acc _ i _ hac (by omega), wrap64_id (by omega)]
      rfl
    · have h0 : rd b (i : Int) = 0 := rd_of_ge b _ (by omega)
      rw [h0]
      rw [if_neg h, if_pos (by omega), if_pos (by omega), if_pos (by omega), if_pos (by rw [hlen]; omega), Int.toNat_natCast, fill_set acc _ i _ hac (by omega), wrap64_id (by omega)]
      rfl
theorem iadd_ev (a b : List Int) (ha : Dig B64 a) (hb : Dig B64 b) (la : a.length ≤ 1073741824) (lb : b.length ≤ 1073741824) :
    ∃ r, Ev (fun k => impl_nat_add.f k a b) r ∧ Dig B64 r ∧ Norm r ∧ val B64 r = val B64 a + val B64 b ∧ r.length ≤ max a.length b.length + 1 := by
  have key : ∀ x y : List Int, Dig B64 x → Dig B64 y → y.length ≤ x.length → x.length ≤ 1073741824 →
      ∃ r, Ev (fun k => impl_nat_add.j0 k x y) r ∧ Dig B64 r ∧ Norm r ∧ val B64 r = val B64 x + val B64 y ∧ r.length ≤ x.length + 1 := by
    intro x y hx hy hl hm
    obtain ⟨r, hr, h2⟩ := iadd_loop x y hx hy hl hm x.length 0 [] 0 (by omega) rfl (Dig.nil _) (by omega) (by simp [val])
    refine ⟨r, Ev.step (fun k => ?_) hr, h2⟩
    simp only [impl_nat_add.j0]
    rw [wrap64_id (by omega), if_pos (by omega), if_pos (by omega)]
    rfl
  by_cases h : (a.length : Int) < (b.length : Int)
  · obtain ⟨r, hr, h1, h2, h3, h4⟩ := key b a hb ha (by omega) (by omega)
    refine ⟨r, Ev.congr (fun k => ?_) hr, h1, h2, by omega, by omega⟩
    unfold impl_nat_add.f
    rw [if_pos h]
  · obtain ⟨r, hr, h1, h2, h3, h4⟩ := key a b ha hb (by omega) (by omega)
    refine ⟨r, Ev.congr (fun k => ?_) hr, h1, h2, by omega, by omega⟩
    unfold impl_nat_add.f
    rw [if_neg h]
end Go.Proofs.Ytcbmdpecnmbhjaa.M
end
section
namespace Go.Proofs.Ytcbmdpecnmbhjaa.M
open Go.RowKit Go.Proofs.Ytcbmdpecnmbhjaa.G Go.Proofs.YtcbmdpecnmbhjaaV.PrintWords Go.Proofs.YtcbmdpecnmbhjaaV.PrintLast Go.Proofs.YtcbmdpecnmbhjaaV.PrintMore Go.Proofs.Ytcbmdpecnmbhjaa.PA
set_option linter.unusedVariables false
set_option linter.unusedSimpArgs false
theorem impl_NatCmp_ev (a b : List Int) (ha : Dig B64 a) (hb : Dig B64 b) (la : a.length ≤ 1048576) (lb : b.length ≤ 1048576) :
    Ev (fun k => impl_NatCmp.f k a b) (if a.length ≤ 1200 ∧ b.length ≤ 1200 then cmpN (val B64 a) (val B64 b) else 2) := by
  unfold impl_NatCmp.f
  refine Ev.bind (short_two a b (by omega) (by omega)) ?_
  by_cases h : a.length ≤ 1200 ∧ b.length ≤ 1200
  · simp only [h.1, h.2, and_self, decide_true, Bool.and_self, if_true]
    have h2 := icmp_ev (trimL a) (trimL b) ha.trim hb.trim (norm_trim a) (norm_trim b) (by have := trimL_length a; omega) (by have := trimL_length b; omega)
    rw [val_trim, val_trim] at h2
    exact Ev.bind h2 (Ev.now _)
  · rw [if_neg h]
    have h3 : ¬ ((decide (a.length ≤ 1200) && decide (b.length ≤ 1200)) = true) := by simpa using h
    simp only [if_neg h3]
    exact Ev.now _
def IsNat (l : List Int) (v : Nat) : Prop := Dig B64 l ∧ Norm l ∧ val B64 l = v
theorem IsNat.uniq {a b : List Int} {v : Nat} (h : IsNat a v) (k : IsNat b v) : a = b := norm_inj B64_pos h.1 k.1 h.2.1 k.2.1 (h.2.2.trans k.2.2.symm)
theorem IsNat.nil : IsNat [] 0 := ⟨Dig.nil _, norm_nil, rfl⟩
theorem IsNat.out {l : List Int} {v : Nat} (hd : Dig B32 l) (hn : Norm l) (hv : val B32 l = v) : IsNat (outL l) v := ⟨outL_dig hd, outL_norm hd hn, by rw [outL_val hd, hv]⟩
theorem impl_NatAdd_ev (a b : List Int) (ha : Dig B64 a) (hb : Dig B64 b) (la : a.length ≤ 1048576) (lb : b.length ≤ 1048576) :
    ∃ r, Ev (fun k => impl_NatAdd.f k a b) r ∧ IsNat r (if a.length ≤ 1200 ∧ b.length ≤ 1200 then val B64 a + val B64 b else 0) := by
  unfold impl_NatAdd.f
  by_cases h : a.length ≤ 1200 ∧ b.length ≤ 1200
  · obtain ⟨r, hr, hd, hn, hv, hl⟩ := iadd_ev (trimL a) (trimL b) ha.trim hb.trim (by have := trimL_length a; omega) (by have := trimL_length b; omega)
    rw [val_trim, val_trim] at hv
    refine ⟨r, Ev.bind (short_two a b (by omega) (by omega)) ?_, ⟨hd, hn, by rw [if_pos h]; exact hv⟩⟩
    simp only [h.1, h.2, and_self, decide_true, Bool.and_self, if_true]
    exact Ev.bind hr (Ev.now _)
  · refine ⟨[], Ev.bind (short_two a b (by omega) (by omega)) ?_, ⟨Dig.nil _, norm_nil, by rw [if_neg h]; rfl⟩⟩
    have h3 : ¬ ((decide (a.length ≤ 1200) && decide (b.length ≤ 1200)) = true) := by simpa using h
    simp only [if_neg h3]
    exact Ev.now _
end Go.Proofs.Ytcbmdpecnmbhjaa.M
end
section
namespace Go.Proofs.Ytcbmdpecnmbhjaa.M
open Go.RowKit Go.Proofs.Ytcbmdpecnmbhjaa.G Go.Proofs.YtcbmdpecnmbhjaaV.PrintWords Go.Proofs.YtcbmdpecnmbhjaaV.PrintLast Go.Proofs.YtcbmdpecnmbhjaaV.PrintMore Go.Proofs.Ytcbmdpecnmbhjaa.PA
set_option linter.unusedVariables false
set_option linter.unusedSimpArgs false
theorem cast_dig {B n : Nat} (h : n < B) : 0 ≤ (n : Int) ∧ (n : Int) < (B : Int) := by omega
theorem low32_nat (n : Nat) (h : n < 18446744073709551616) : bits .and .u64 (n : Int) 4294967295 = ((n % 4294967296 : Nat) : Int) := by
  rw [and_low32 _ (by omega) (by omega)]
  omega
def sl (B P : Nat) : Nat → List Int → List Int
  | c, [] => [(c : Int)]
  | c, x :: l => (((x.toNat * P + c) % B : Nat) : Int) :: sl B P ((x.toNat * P + c) / B) l
theorem sl_val (B P : Nat) : ∀ (l : List Int) (c : Nat), val B (sl B P c l) = val B l * P + c
  | [], c => by simp [sl, val]
  | x :: l, c => by
    simp only [sl, val_cons, Int.toNat_natCast]
    rw [sl_val B P l, Nat.mul_add, Nat.add_mul, Nat.mul_assoc]
    have h := Nat.mod_add_div (x.toNat * P + c) B
    generalize (x.toNat * P + c) % B = m at *
    generalize B * ((x.toNat * P + c) / B) = q at *
    omega
theorem carry_lt {B P x c : Nat} (hx : x < B) (hc : c < P) : (x * P + c) / B < P := by
  have hB : 0 < B := by omega
  refine Nat.div_lt_of_lt_mul ?_
  have h := Nat.mul_le_mul_right P (show x + 1 ≤ B from hx)
  rw [Nat.add_mul, Nat.one_mul] at h
  omega
theorem sl_dig {B P : Nat} (hB : 0 < B) (hP : P ≤ B) : ∀ (l : List Int) (c : Nat), Dig B l → c < P → Dig B (sl B P c l)
  | [], c, _, hc => Dig.cons (by omega) (Dig.nil _)
  | x :: l, c, h, hc => by
    have hx := h x (by simp)
    have h1 := Nat.mod_lt (x.toNat * P + c) hB
    exact Dig.cons (by omega) (sl_dig hB hP l _ (fun y hy => h y (List.mem_cons_of_mem _ hy)) (carry_lt (by omega) hc))
theorem sl_length (B P : Nat) : ∀ (l : List Int) (c : Nat), (sl B P c l).length = l.length + 1
  | [], c => rfl
  | x :: l, c => by simp only [sl, List.length_cons, sl_length B P l]
def sr (B P : Nat) : List Int → List Int
  | [] => []
  | x :: l => (((x.toNat + B * ((rd l 0).toNat % P)) / P : Nat) : Int) :: sr B P l
theorem val_mod (B P : Nat) (h : P ∣ B) (l : List Int) : val B l % P = (rd l 0).toNat % P := by
  cases l with
  | nil => rfl
  | cons x l =>
    obtain ⟨K, rfl⟩ := h
    rw [val_cons, Nat.mul_assoc, Nat.add_mul_mod_self_left]
    rfl
theorem sr_val {B P : Nat} (hP : 0 < P) (h : P ∣ B) : ∀ l : List Int, val B (sr B P l) = val B l / P
  | [] => by simp [sr, val]
  | x :: l => by
    simp only [sr, val_cons, Int.toNat_natCast]
    rw [sr_val hP h l, ← val_mod B P h l]
    have h1 := Nat.mod_add_div (val B l) P
    have h2 : x.toNat + B * val B l = x.toNat + B * (val B l % P) + P * (B * (val B l / P)) := by
      have h3 := congrArg (B * ·) h1
      simp only [Nat.mul_add] at h3
      rw [Nat.mul_left_comm] at h3
      omega
    rw [h2, Nat.add_mul_div_left _ _ hP]
theorem quot_lt {B P x y : Nat} (hP : 0 < P) (hx : x < B) : (x + B * (y % P)) / P < B := by
  have h1 := Nat.mod_lt y hP
  refine Nat.div_lt_of_lt_mul ?_
  have h := Nat.mul_le_mul_left B (show y % P + 1 ≤ P from h1)
  rw [Nat.mul_add, Nat.mul_one, Nat.mul_comm B P] at h
  omega
theorem sr_dig {B P : Nat} (hP : 0 < P) : ∀ l : List Int, Dig B l → Dig B (sr B P l)
  | [], _ => Dig.nil _
  | x :: l, h => by
    have hx := h x (by simp)
    have h1 : (x.toNat + B * ((rd l 0).toNat % P)) / P < B := quot_lt hP (by omega)
    exact Dig.cons (cast_dig h1) (sr_dig hP l (fun y hy => h y (List.mem_cons_of_mem _ hy)))
theorem sr_length (B P : Nat) : ∀ l : List Int, (sr B P l).length = l.length
  | [] => rfl
  | x :: l => by simp only [sr, List.length_cons, sr_length B P l]
theorem div_split {B P x y : Nat} (hP : 0 < P) (hx : x < B) : (x + B * y) / P % B = (x + B * (y % P)) / P := by
  have h1 := Nat.mod_add_div y P
  have h2 : x + B * y = x + B * (y % P) + P * (B * (y / P)) := by
    have h3 := congrArg (B * ·) h1
    simp only [Nat.mul_add] at h3
    rw [Nat.mul_left_comm] at h3
    omega
  rw [h2, Nat.add_mul_div_left _ _ hP, Nat.add_mul_mod_self_left, Nat.mod_eq_of_lt (quot_lt hP hx)]
theorem tdiv_nat (m d : Nat) : Int.tdiv (m : Int) (d : Int) = ((m / d : Nat) : Int) := by rw [Int.tdiv_eq_ediv_of_nonneg (by omega)]; rfl
theorem tmod_nat (m d : Nat) : Int.tmod (m : Int) (d : Int) = ((m % d : Nat) : Int) := by rw [Int.tmod_eq_emod_of_nonneg (by omega)]; rfl
theorem wtdiv (m d : Nat) (h : m ≤ 9223372036854775807) : wrap64 (Int.tdiv (m : Int) (d : Int)) = ((m / d : Nat) : Int) := by
  have := Nat.div_le_self m d
  rw [tdiv_nat]
  generalize m / d = q at *
  rw [wrap64_id (by omega)]
theorem wtmod (m d : Nat) (h : m ≤ 9223372036854775807) : IntKind.u64.wrap (Int.tmod (m : Int) (d : Int)) = ((m % d : Nat) : Int) := by
  have := Nat.mod_le m d
  rw [tmod_nat]
  generalize m % d = q at *
  rw [wrap_u64_id (by omega)]
theorem shl_nat (x p : Nat) (hp : p ≤ 64) : shl .u64 (x : Int) (p : Int) = ((x * 2 ^ p % 18446744073709551616 : Nat) : Int) := by
  unfold shl
  rw [wrap_u64, Int.toNat_natCast, show IntKind.u64.bits = 64 from rfl, Nat.min_eq_left hp, show ((x : Int) * 2 ^ p) = ((x * 2 ^ p : Nat) : Int) by simp]
  exact (Int.natCast_emod _ 18446744073709551616).symm
theorem shr_nat (x p : Nat) (hp : p ≤ 64) : shr .u64 (x : Int) (p : Int) = ((x / 2 ^ p : Nat) : Int) := by
  unfold shr
  rw [Int.toNat_natCast, show IntKind.u64.bits = 64 from rfl, Nat.min_eq_left hp]
  simp
theorem or_nat (p x y : Nat) (hp : p ≤ 64) (hx : x < 18446744073709551616) (h : 2 ^ p ∣ x) (hy : y < 2 ^ p) : bits .or .u64 (x : Int) (y : Int) = ((x + y : Nat) : Int) := by
  have h64 : 2 ^ p ≤ 2 ^ 64 := Nat.pow_le_pow_right (by omega) hp
  have hc : ((2 : Int) ^ p) = ((2 ^ p : Nat) : Int) := by simp
  rw [or_join p x y (by omega) (by rw [hc]; have := Nat.mod_eq_zero_of_dvd h; omega) (by omega) (by omega) (by rw [hc]; omega) (by omega)]
  omega
theorem or_nat' (p x y : Nat) (hp : p ≤ 64) (hx : x < 18446744073709551616) (h : 2 ^ p ∣ x) (hy : y < 2 ^ p) : bits .or .u64 (y : Int) (x : Int) = ((y + x : Nat) : Int) := by
  rw [bits_or_comm, or_nat p x y hp hx h hy, Nat.add_comm]
theorem pow_split (w p : Nat) (h : p ≤ w) : 2 ^ w = 2 ^ (w - p) * 2 ^ p := by rw [← Nat.pow_add]; congr 1; omega
theorem pow_div_mod (v w n : Nat) : v / 2 ^ n = v / (2 ^ w) ^ (n / w) / 2 ^ (n % w) := by
  rw [Nat.div_div_eq_div_mul, ← Nat.pow_mul, ← Nat.pow_add]
  congr 2
  exact (Nat.div_add_mod n w).symm
theorem pow_mul_mod (v w n : Nat) : v * 2 ^ n = (2 ^ w) ^ (n / w) * (v * 2 ^ (n % w)) := by
  rw [Nat.mul_left_comm, ← Nat.pow_mul, ← Nat.pow_add, Nat.div_add_mod]
theorem B32_pow : B32 = 2 ^ 32 := by unfold B32; rfl
theorem B64_pow : B64 = 2 ^ 64 := by unfold B64; rfl
theorem val_drop (B : Nat) (hB : 0 < B) {l : List Int} (h : Dig B l) (d : Nat) : val B (l.drop d) = val B l / B ^ d := by
  rcases Nat.lt_or_ge l.length d with hl | hl
  · rw [List.drop_eq_nil_of_le (by omega), Nat.div_eq_of_lt]
    · rfl
    · have h1 := val_lt h
      have h2 : B ^ l.length ≤ B ^ d := Nat.pow_le_pow_right hB (by omega)
      omega
  · have h1 := val_split B l d hl
    have h2 := val_lt (h.take d)
    rw [List.length_take, Nat.min_eq_left hl] at h2
    rw [h1, Nat.add_mul_div_left _ _ (Nat.pow_pos hB), Nat.div_eq_of_lt h2]
    omega
theorem val_shl (B d : Nat) (l : List Int) : val B (List.replicate d 0 ++ l) = B ^ d * val B l := by
  rw [val_append, val_zeros, List.length_replicate]
  omega
theorem sleft_loop (a : List Int) (ha : Dig B32 a) (la : a.length ≤ 1073741824) (n : Nat) (hn : n ≤ 1000000) (rest : List Int) : ∀ (i : Nat) (acc : List Int) (c : Nat), a.drop i = rest → i ≤ a.length → c < 2 ^ (n % 32) → acc.length ≤ 80000 + i →
    Ev (fun k => spec_l1Left.l0 k a (n : Int) acc (c : Int) (i : Int)) (trimL (acc ++ sl B32 (2 ^ (n % 32)) c rest)) := by
  have hp : n % 32 < 32 := Nat.mod_lt _ (by omega)
  have hP : 2 ^ (n % 32) ≤ 2 ^ 31 := Nat.pow_le_pow_right (by omega) (by omega)
  have hw := wtmod n 32 (by omega)
  have step : ∀ (x c : Nat), x < 4294967296 → c < 2 ^ (n % 32) → bits .or .u64 (shl .u64 (x : Int) ((n % 32 : Nat) : Int)) (c : Int) = ((x * 2 ^ (n % 32) + c : Nat) : Int) ∧ x * 2 ^ (n % 32) + c < 18446744073709551616 := by
    intro x c hx hc
    have h1 : x * 2 ^ (n % 32) ≤ 4294967295 * 2 ^ 31 := Nat.mul_le_mul (by omega) hP
    rw [shl_nat _ _ (by omega), Nat.mod_eq_of_lt (by omega), or_nat (n % 32) _ _ (by omega) (by omega) (Nat.dvd_mul_left _ _) hc]
    exact ⟨rfl, by omega⟩
  induction rest with
  | nil =>
    intro i acc c hr hi hc hac
    have hlen := congrArg List.length hr
    rw [List.length_drop] at hlen
    simp at hlen
    have h0 : rd a (i : Int) = 0 := rd_of_ge a _ (by simp; omega)
    obtain ⟨s1, s2⟩ := step 0 c (by omega) hc
    refine Ev.step (f := fun k => spec_l1Left.l0 k a (n : Int) (acc ++ [(c : Int)]) 0 ((i + 1 : Nat) : Int)) (fun k => ?_) (Ev.step (f := fun _ => some (trimL (acc ++ sl B32 (2 ^ (n % 32)) c []))) (fun k => ?_) (Ev.now _))
    · simp only [spec_l1Left.l0]
      rw [if_pos (by omega), at_eq _ _ (by omega), h0, Option.bind_some, show ((32 : Int)) = ((32 : Nat) : Int) from rfl, hw, if_pos (by omega), if_pos (by omega)]
      rw [show (0 : Int) = ((0 : Nat) : Int) from rfl, s1, and_low32 _ (by omega) (by omega), wrap64_id (by omega)]
      rw [Nat.zero_mul, Nat.zero_add, show ((c : Int) % 4294967296) = (c : Int) by omega, show ((c : Int) / 4294967296) = ((0 : Nat) : Int) by omega]
      rfl
    · simp only [spec_l1Left.l0]
      rw [if_neg (by omega), trim_eq _ (by simp; omega)]
      rfl
  | cons x rest ih =>
    intro i acc c hr hi hc hac
    have hlen := congrArg List.length hr
    rw [List.length_drop] at hlen
    simp at hlen
    have hx : rd a (i : Int) = x := rd_of_drop hr
    have dx := ha.rd B32_pos (i : Int)
    rw [hx] at dx
    unfold B32 at dx
    obtain ⟨y, rfl⟩ : ∃ y : Nat, x = (y : Int) := ⟨x.toNat, by omega⟩
    obtain ⟨s1, s2⟩ := step y c (by omega) hc
    have hc2 : (y * 2 ^ (n % 32) + c) / B32 < 2 ^ (n % 32) := carry_lt (by unfold B32; omega) hc
    refine Ev.step (fun k => ?_) (ev_to (ih (i + 1) (acc ++ [(((y * 2 ^ (n % 32) + c) % B32 : Nat) : Int)]) ((y * 2 ^ (n % 32) + c) / B32) (drop_succ_of hr) (by omega) hc2 (by simp; omega)) (by simp [sl]))
    simp only [spec_l1Left.l0]
    rw [if_pos (by omega), at_eq _ _ (by omega), hx, Option.bind_some, show ((32 : Int)) = ((32 : Nat) : Int) from rfl, hw, if_pos (by omega), if_pos (by omega)]
    rw [s1, and_low32 _ (by omega) (by omega), wrap64_id (by omega)]
    unfold B32
    rfl
theorem sleft_ev (a : List Int) (ha : Dig B32 a) (la : a.length ≤ 1073741824) (n : Nat) (hn : n ≤ 1000000) :
    ∃ r, Ev (fun k => spec_l1Left.f k a (n : Int)) r ∧ Dig B32 r ∧ Norm r ∧ val B32 r = val B32 a * 2 ^ n ∧ r.length ≤ 1000000 + a.length + 1 := by
  have hp : n % 32 < 32 := Nat.mod_lt _ (by omega)
  have hP : 2 ^ (n % 32) ≤ B32 := by rw [B32_pow]; exact Nat.pow_le_pow_right (by omega) (by omega)
  have hP0 : 0 < 2 ^ (n % 32) := Nat.pow_pos (by omega)
  have hd := Nat.div_le_self n 32
  have h := sleft_loop a ha la n hn a 0 (List.replicate (n / 32) 0) 0 rfl (by omega) hP0 (by simp; omega)
  refine ⟨_, Ev.congr (fun k => ?_) h, ((Dig.zeros B32_pos _).append (sl_dig B32_pos hP _ _ ha hP0)).trim, norm_trim _, ?_, ?_⟩
  · unfold spec_l1Left.f
    rw [show ((32 : Int)) = ((32 : Nat) : Int) from rfl, wtdiv n 32 (by omega), if_pos (by omega), if_pos (by omega)]
    rfl
  · rw [val_trim, val_shl, sl_val, pow_mul_mod (val B32 a) 32 n, ← B32_pow]
    rfl
  · have := trimL_length (List.replicate (n / 32) 0 ++ sl B32 (2 ^ (n % 32)) 0 a)
    rw [List.length_append, List.length_replicate, sl_length] at this
    omega
theorem sright_loop (a : List Int) (ha : Dig B32 a) (la : a.length ≤ 1073741824) (n : Nat) (hn : n ≤ 1000000) (rest : List Int) : ∀ (i : Nat) (acc : List Int), a.drop i = rest → i ≤ 1073741824 + 1000000 → acc.length ≤ i →
    Ev (fun k => spec_l1Right.l0 k a (n : Int) acc (i : Int)) (trimL (acc ++ sr B32 (2 ^ (n % 32)) rest)) := by
  have hp : n % 32 < 32 := Nat.mod_lt _ (by omega)
  have hP0 : 0 < 2 ^ (n % 32) := Nat.pow_pos (by omega)
  have hw := wtmod n 32 (by omega)
  induction rest with
  | nil =>
    intro i acc hr hi hac
    have hlen := congrArg List.length hr
    rw [List.length_drop] at hlen
    simp at hlen
    refine Ev.step (f := fun _ => some (trimL (acc ++ sr B32 (2 ^ (n % 32)) []))) (fun k => ?_) (Ev.now _)
    simp only [spec_l1Right.l0]
    rw [if_neg (by omega), trim_eq _ (by omega), Option.bind_some, sr, List.append_nil]
  | cons x rest ih =>
    intro i acc hr hi hac
    have hlen := congrArg List.length hr
    rw [List.length_drop] at hlen
    simp at hlen
    have hx : rd a (i : Int) = x := rd_of_drop hr
    have dx := ha.rd B32_pos (i : Int)
    have dy := ha.rd B32_pos ((i : Int) + 1)
    rw [hx] at dx
    have hy : rd a ((i : Int) + 1) = rd rest 0 := by
      rw [← drop_succ_of hr]
      show a.getD _ 0 = (a.drop (i + 1)).getD 0 0
      simp [List.getD_eq_getElem?_getD]
    rw [hy] at dy
    unfold B32 at dx dy
    obtain ⟨u, rfl⟩ : ∃ u : Nat, x = (u : Int) := ⟨x.toNat, by omega⟩
    obtain ⟨v, hv⟩ : ∃ v : Nat, rd rest 0 = (v : Int) := ⟨(rd rest 0).toNat, by omega⟩
    rw [hv] at dy hy
    have h1 := div_split (B := B32) (P := 2 ^ (n % 32)) (x := u) (y := v) hP0 (by unfold B32; omega)
    unfold B32 at h1
    refine Ev.step (fun k => ?_) (ev_to (ih (i + 1) (acc ++ [(((u + B32 * (v % 2 ^ (n % 32))) / 2 ^ (n % 32) : Nat) : Int)]) (drop_succ_of hr) (by omega) (by simp; omega)) (by simp [sr, hv]))
    have h2 : (u + 4294967296 * v) / 2 ^ (n % 32) ≤ u + 4294967296 * v := Nat.div_le_self _ _
    simp only [spec_l1Right.l0]
    rw [if_pos (by omega), at_eq _ _ (by omega), hx, Option.bind_some, wrap64_id (by omega), at_eq _ _ (by omega), hy, Option.bind_some, show ((32 : Int)) = ((32 : Nat) : Int) from rfl, hw, if_pos (by omega), if_pos (by omega)]
    rw [wrap_u64_id (by omega), show ((v : Int) * 4294967296) = ((v * 4294967296 : Nat) : Int) by omega, or_nat' 32 (v * 4294967296) u (by omega) (by omega) ⟨v, by rw [Nat.mul_comm]⟩ (by omega), shr_nat _ _ (by omega), Nat.mul_comm v, low32_nat _ (by omega), h1]
    unfold B32
    rfl
theorem sright_ev (a : List Int) (ha : Dig B32 a) (la : a.length ≤ 1073741824) (n : Nat) (hn : n ≤ 1000000) :
    ∃ r, Ev (fun k => spec_l1Right.f k a (n : Int)) r ∧ Dig B32 r ∧ Norm r ∧ val B32 r = val B32 a / 2 ^ n ∧ r.length ≤ a.length := by
  have hp : n % 32 < 32 := Nat.mod_lt _ (by omega)
  have hP0 : 0 < 2 ^ (n % 32) := Nat.pow_pos (by omega)
  have hd := Nat.div_le_self n 32
  have hdv : 2 ^ (n % 32) ∣ B32 := by rw [B32_pow]; exact Nat.pow_dvd_pow 2 (by omega)
  have h := sright_loop a ha la n hn (a.drop (n / 32)) (n / 32) [] rfl (by omega) (by simp)
  refine ⟨_, Ev.congr (fun k => ?_) h, ?_, norm_trim _, ?_, ?_⟩
  · unfold spec_l1Right.f
    rw [show ((32 : Int)) = ((32 : Nat) : Int) from rfl, wtdiv n 32 (by omega)]
  · rw [List.nil_append]
    exact (sr_dig hP0 _ (ha.drop _)).trim
  · rw [List.nil_append, val_trim, sr_val hP0 hdv, val_drop B32 B32_pos ha, pow_div_mod _ 32 n, ← B32_pow]
  · rw [List.nil_append]
    have := trimL_length (sr B32 (2 ^ (n % 32)) (a.drop (n / 32)))
    rw [sr_length, List.length_drop] at this
    omega
end Go.Proofs.Ytcbmdpecnmbhjaa.M
end
section
namespace Go.Proofs.Ytcbmdpecnmbhjaa.M
open Go.RowKit Go.Proofs.Ytcbmdpecnmbhjaa.G Go.Proofs.YtcbmdpecnmbhjaaV.PrintWords Go.Proofs.YtcbmdpecnmbhjaaV.PrintLast Go.Proofs.YtcbmdpecnmbhjaaV.PrintMore Go.Proofs.Ytcbmdpecnmbhjaa.PA
set_option linter.unusedVariables false
set_option linter.unusedSimpArgs false
theorem mul_step {B : Nat} {a b out : List Int} {i j : Nat} {ai c x c' : Int} (hp : i + j < out.length)
    (hv : val B out + B ^ (i + j) * c.toNat = val B (a.take i) * val B b + B ^ i * (ai.toNat * val B (b.take j)))
    (hx : x.toNat + B * c'.toNat = ai.toNat * (rd b (j : Int)).toNat + (rd out ((i + j : Nat) : Int)).toNat + c.toNat) :
    val B (out.set (i + j) x) + B ^ (i + (j + 1)) * c'.toNat = val B (a.take i) * val B b + B ^ i * (ai.toNat * val B (b.take (j + 1))) := by
  have h1 := val_set B out (i + j) x hp
  rw [val_take_succ, Nat.mul_add, Nat.mul_add, ← Nat.add_assoc i j 1, Nat.pow_succ]
  have h2 := congrArg (B ^ (i + j) * ·) hx
  simp only [Nat.mul_add] at h2
  have h3 : B ^ (i + j) * (B * c'.toNat) = B ^ (i + j) * B * c'.toNat := (Nat.mul_assoc _ _ _).symm
  have h4 : B ^ (i + j) * (ai.toNat * (rd b (j : Int)).toNat) = B ^ i * (ai.toNat * (B ^ j * (rd b (j : Int)).toNat)) := by
    rw [Nat.pow_add]
    simp only [Nat.mul_assoc, Nat.mul_left_comm]
  omega
theorem mul_carry {B : Nat} (hB : 0 < B) {x c' p q o c : Nat} (hp : p < B) (hq : q < B) (ho : o < B) (hc : c < B) (hx : x + B * c' = p * q + o + c) : c' < B := by
  have h1 : p * q ≤ (B - 1) * (B - 1) := Nat.mul_le_mul (by omega) (by omega)
  rcases Nat.lt_or_ge c' B with h | h
  · exact h
  · have h2 : B * B ≤ B * c' := Nat.mul_le_mul_left B h
    obtain ⟨m, rfl⟩ : ∃ m, B = m + 1 := ⟨B - 1, by omega⟩
    simp only [Nat.add_sub_cancel] at h1
    have h3 : (m + 1) * (m + 1) = m * m + 2 * m + 1 := by
      rw [Nat.add_mul, Nat.mul_add, Nat.mul_one, Nat.one_mul]
      omega
    omega
theorem mul_end {B : Nat} {a b out : List Int} {i : Nat} {c : Int} (hp : i + b.length < out.length) (h0 : rd out ((i + b.length : Nat) : Int) = 0)
    (hv : val B out + B ^ (i + b.length) * c.toNat = val B (a.take i) * val B b + B ^ i * ((rd a (i : Int)).toNat * val B (b.take b.length))) :
    val B (out.set (i + b.length) c) = val B (a.take (i + 1)) * val B b := by
  have h1 := val_set B out (i + b.length) c hp
  rw [h0] at h1
  rw [List.take_length] at hv
  rw [val_take_succ, Nat.add_mul]
  have h2 : B ^ i * (rd a (i : Int)).toNat * val B b = B ^ i * ((rd a (i : Int)).toNat * val B b) := Nat.mul_assoc _ _ _
  simp at h1
  omega
def Clear (l : List Int) (n : Nat) : Prop := ∀ m : Nat, n ≤ m → rd l (m : Int) = 0
theorem Clear.set {l : List Int} {n p : Nat} {x : Int} (h : Clear l n) (hp : p < n) : Clear (l.set p x) n := fun m hm => by rw [rd_set_ne _ _ _ _ (by omega)]; exact h m hm
theorem Clear.more {l : List Int} {n : Nat} (h : Clear l n) (x : Int) : Clear (l.set n x) (n + 1) := fun m hm => by rw [rd_set_ne _ _ _ _ (by omega)]; exact h m (by omega)
theorem Clear.zeros (n m : Nat) : Clear (List.replicate n 0) m := fun k hk => by
  rw [rd_nat, List.getD_eq_getElem?_getD, List.getElem?_replicate]
  split <;> rfl
theorem smul_inner (a b : List Int) (ha : Dig B32 a) (hb : Dig B32 b) (la : a.length ≤ 1073741824) (lb : b.length ≤ 1073741824) (i : Nat) (hi : i < a.length)
    (R : List Int → Prop) (next : ∀ out : List Int, out.length = a.length + b.length + 1 → Dig B32 out → Clear out (i + 1 + b.length) → val B32 out = val B32 (a.take (i + 1)) * val B32 b → ∃ r, Ev (fun k => spec_l1Mul.l0 k a b out ((i + 1 : Nat) : Int)) r ∧ R r) (d : Nat) :
    ∀ (j : Nat) (out : List Int) (c : Int), j + d = b.length → out.length = a.length + b.length + 1 → Dig B32 out → Clear out (i + b.length) → 0 ≤ c ∧ c < (B32 : Int) →
    val B32 out + B32 ^ (i + j) * c.toNat = val B32 (a.take i) * val B32 b + B32 ^ i * ((rd a (i : Int)).toNat * val B32 (b.take j)) →
    ∃ r, Ev (fun k => spec_l1Mul.l1 k a b out (i : Int) c (j : Int)) r ∧ R r := by
  induction d with
  | zero =>
    intro j out c hj hl hd hcl hc hv
    obtain rfl : j = b.length := by omega
    have h1 := mul_end (by omega) (hcl _ (Nat.le_refl _)) hv
    obtain ⟨r, hr, hR⟩ := next (out.set (i + b.length) c) (by simp [hl]) (hd.set _ hc) (by have := hcl.more c; rwa [show i + b.length + 1 = i + 1 + b.length by omega] at this) h1
    refine ⟨r, Ev.step (fun k => ?_) hr, hR⟩
    simp only [spec_l1Mul.l1]
    rw [if_neg (by omega), wrap64_id (by omega), if_pos (by omega), if_pos (by omega), wrap64_id (by omega), show ((i : Int) + (b.length : Int)).toNat = i + b.length by omega]
    rfl
  | succ d ih =>
    intro j out c hj hl hd hcl hc hv
    have dx := ha.rd B32_pos (i : Int)
    have dy := hb.rd B32_pos (j : Int)
    have dz := hd.rd B32_pos ((i + j : Nat) : Int)
    have hb32 : (B32 : Int) = 4294967296 := rfl
    have hb32n : B32 = 4294967296 := rfl
    have hij : ((i : Int) + (j : Int)) = ((i + j : Nat) : Int) := by omega
    have hprod : rd a (i : Int) * rd b (j : Int) = (((rd a (i : Int)).toNat * (rd b (j : Int)).toNat : Nat) : Int) := by
      rw [Int.natCast_mul, Int.toNat_of_nonneg dx.1, Int.toNat_of_nonneg dy.1]
    have hple : (rd a (i : Int)).toNat * (rd b (j : Int)).toNat ≤ 4294967295 * 4294967295 := Nat.mul_le_mul (by omega) (by omega)
    have hs := mul_step (B := B32) (a := a) (b := b) (out := out) (i := i) (j := j) (ai := rd a (i : Int)) (c := c) (x := (rd a (i : Int) * rd b (j : Int) + rd out ((i + j : Nat) : Int) + c) % 4294967296) (c' := (rd a (i : Int) * rd b (j : Int) + rd out ((i + j : Nat) : Int) + c) / 4294967296) (by omega) hv (by rw [hprod, hb32n]; omega)
    obtain ⟨r, hr, hR⟩ := ih (j + 1) _ _ (by omega) (by simp [hl]) (hd.set (i + j) (x := (rd a (i : Int) * rd b (j : Int) + rd out ((i + j : Nat) : Int) + c) % 4294967296) (by omega)) (hcl.set (by omega)) (by rw [hprod]; omega) hs
    refine ⟨r, Ev.step (fun k => ?_) hr, hR⟩
    simp only [spec_l1Mul.l1]
    rw [if_pos (by omega), if_pos (by omega), if_pos (by omega), if_pos (by omega), wrap64_id (by omega), if_pos (by omega), if_pos (by omega), hij, Int.toNat_natCast]
    rw [wrap_u64_id (n := rd a (i : Int) * rd b (j : Int)) (by rw [hprod]; omega), wrap_u64_id (n := rd a (i : Int) * rd b (j : Int) + rd out ((i + j : Nat) : Int)) (by rw [hprod]; omega), wrap_u64_id (n := rd a (i : Int) * rd b (j : Int) + rd out ((i + j : Nat) : Int) + c) (by rw [hprod]; omega), and_low32 _ (by rw [hprod]; omega) (by rw [hprod]; omega), wrap64_id (by omega)]
    rfl
theorem smul_outer (a b : List Int) (ha : Dig B32 a) (hb : Dig B32 b) (la : a.length ≤ 1073741824) (lb : b.length ≤ 1073741824) (d : Nat) : ∀ (i : Nat) (out : List Int), i + d = a.length → out.length = a.length + b.length + 1 → Dig B32 out → Clear out (i + b.length) →
    val B32 out = val B32 (a.take i) * val B32 b →
    ∃ r, Ev (fun k => spec_l1Mul.l0 k a b out (i : Int)) r ∧ Dig B32 r ∧ Norm r ∧ val B32 r = val B32 a * val B32 b ∧ r.length ≤ a.length + b.length + 1 := by
  induction d with
  | zero =>
    intro i out hi hl hd hcl hv
    refine ⟨trimL out, Ev.step (f := fun _ => some (trimL out)) (fun k => ?_) (Ev.now _), hd.trim, norm_trim _, ?_, ?_⟩
    · simp only [spec_l1Mul.l0]
      rw [if_neg (by omega), trim_eq _ (by omega)]
      rfl
    · rw [val_trim, hv, val_take_all _ _ _ (by omega)]
    · have := trimL_length out
      omega
  | succ d ih =>
    intro i out hi hl hd hcl hv
    obtain ⟨r, hr, hR⟩ := smul_inner a b ha hb la lb i (by omega) (fun r => Dig B32 r ∧ Norm r ∧ val B32 r = val B32 a * val B32 b ∧ r.length ≤ a.length + b.length + 1)
      (fun out' h1 h2 h3 h4 => ih (i + 1) out' (by omega) h1 h2 h3 h4) b.length 0 out 0 (by omega) hl hd hcl (by unfold B32; omega) (by simp [val, hv])
    refine ⟨r, Ev.step (fun k => ?_) hr, hR⟩
    simp only [spec_l1Mul.l0]
    rw [if_pos (by omega)]
    rfl
theorem smul_ev (a b : List Int) (ha : Dig B32 a) (hb : Dig B32 b) (la : a.length ≤ 1073741824) (lb : b.length ≤ 1073741824) :
    ∃ r, Ev (fun k => spec_l1Mul.f k a b) r ∧ Dig B32 r ∧ Norm r ∧ val B32 r = val B32 a * val B32 b ∧ r.length ≤ a.length + b.length + 1 := by
  obtain ⟨r, hr, hR⟩ := smul_outer a b ha hb la lb a.length 0 (List.replicate (a.length + b.length + 1) 0) (by omega) (by simp) (Dig.zeros B32_pos _) (Clear.zeros _ _) (by rw [val_zeros]; simp [val])
  refine ⟨r, Ev.congr (fun k => ?_) hr, hR⟩
  unfold spec_l1Mul.f
  rw [wrap64_id (n := (a.length : Int) + (b.length : Int)) (by omega), wrap64_id (by omega), if_pos (by omega), if_pos (by omega), show ((a.length : Int) + (b.length : Int) + 1).toNat = a.length + b.length + 1 by omega]
  rfl
theorem split_mul (x y : Int) (hx : 0 ≤ x) (hy : 0 ≤ y) (M : Int) (hM : 0 < M) : x * y = (x / M * (y / M)) * (M * M) + ((x / M * (y % M)) + (x % M * (y / M))) * M + (x % M * (y % M)) := by
  have h1 := Int.mul_ediv_add_emod x M
  have h2 := Int.mul_ediv_add_emod y M
  generalize x / M = x1 at *
  generalize x % M = x0 at *
  generalize y / M = y1 at *
  generalize y % M = y0 at *
  subst h1
  subst h2
  simp only [Int.add_mul, Int.mul_add]
  have e1 : M * x1 * (M * y1) = x1 * y1 * (M * M) := by simp only [Int.mul_assoc, Int.mul_left_comm, Int.mul_comm]
  have e2 : M * x1 * y0 = x1 * y0 * M := by simp only [Int.mul_assoc, Int.mul_left_comm, Int.mul_comm]
  have e3 : x0 * (M * y1) = x0 * y1 * M := by simp only [Int.mul_assoc, Int.mul_left_comm, Int.mul_comm]
  rw [e1, e2, e3]
  omega
theorem prod_bound {a b A B : Int} (ha : 0 ≤ a ∧ a ≤ A) (hb : 0 ≤ b ∧ b ≤ B) : 0 ≤ a * b ∧ a * b ≤ A * B :=
  ⟨Int.mul_nonneg ha.1 hb.1, Int.mul_le_mul ha.2 hb.2 hb.1 (by omega)⟩
theorem mul64_eq (x y : Int) (hx : 0 ≤ x ∧ x < (B64 : Int)) (hy : 0 ≤ y ∧ y < (B64 : Int)) :
    ∃ hi lo : Int, bits_Mul64.f x y = some (hi, lo) ∧ 0 ≤ hi ∧ hi < (B64 : Int) ∧ 0 ≤ lo ∧ lo < (B64 : Int) ∧ lo + 18446744073709551616 * hi = x * y ∧ hi ≤ 18446744073709551614 := by
  unfold B64 at hx hy ⊢
  have hsp := split_mul x y hx.1 hy.1 4294967296 (by omega)
  have b1 := prod_bound (a := x / 4294967296) (b := y / 4294967296) (A := 4294967295) (B := 4294967295) (by omega) (by omega)
  have b2 := prod_bound (a := x / 4294967296) (b := y % 4294967296) (A := 4294967295) (B := 4294967295) (by omega) (by omega)
  have b3 := prod_bound (a := x % 4294967296) (b := y / 4294967296) (A := 4294967295) (B := 4294967295) (by omega) (by omega)
  have b4 := prod_bound (a := x % 4294967296) (b := y % 4294967296) (A := 4294967295) (B := 4294967295) (by omega) (by omega)
  have hbig := prod_bound (a := x) (b := y) (A := 18446744073709551615) (B := 18446744073709551615) (by omega) (by omega)
  unfold bits_Mul64.f
  rw [and_low32 x hx.1 hx.2, and_low32 y hy.1 hy.2]
  generalize x / 4294967296 * (y / 4294967296) = p11 at *
  generalize x / 4294967296 * (y % 4294967296) = p10 at *
  generalize x % 4294967296 * (y / 4294967296) = p01 at *
  generalize x % 4294967296 * (y % 4294967296) = p00 at *
  generalize x * y = xy at *
  refine ⟨_, _, rfl, ?_⟩
  rw [wrap_u64_id (n := p11) (by omega), wrap_u64_id (n := p10) (by omega), wrap_u64_id (n := p00) (by omega), wrap_u64_id (n := p01) (by omega)]
  rw [wrap_u64_id (n := p10 + p00 / 4294967296) (by omega), and_low32 _ (by omega) (by omega)]
  rw [wrap_u64_id (n := p11 + (p10 + p00 / 4294967296) / 4294967296) (by omega), wrap_u64_id (n := (p10 + p00 / 4294967296) % 4294967296 + p01) (by omega), wrap_u64_id (by omega), wrap_u64]
  omega
theorem dig64 {x : Int} (h : 0 ≤ x ∧ x < (B64 : Int)) : 0 ≤ x ∧ x < 18446744073709551616 := by unfold B64 at h; omega
theorem toNat_lt64 {x : Int} (h : 0 ≤ x ∧ x < (B64 : Int)) : x.toNat < B64 := by unfold B64 at *; omega
theorem mul_place {lo hi x c s1 c1 s2 c2 : Int} {pq : Nat} (hlo : 0 ≤ lo) (hhi : 0 ≤ hi) (hx : 0 ≤ x) (hc : 0 ≤ c) (h1 : 0 ≤ c1) (h2 : 0 ≤ c2) (g1 : 0 ≤ s1)
    (m : lo + 18446744073709551616 * hi = (pq : Int)) (a1 : s1.toNat + B64 * c1.toNat = lo.toNat + x.toNat + (0 : Int).toNat) (a2 : s2.toNat + B64 * c2.toNat = s1.toNat + c.toNat + (0 : Int).toNat) :
    s2.toNat + B64 * (hi + c1 + c2).toNat = pq + x.toNat + c.toNat := by
  unfold B64 at *
  omega
end Go.Proofs.Ytcbmdpecnmbhjaa.M
end
section
namespace Go.Proofs.Ytcbmdpecnmbhjaa.M
open Go.RowKit Go.Proofs.Ytcbmdpecnmbhjaa.G Go.Proofs.YtcbmdpecnmbhjaaV.PrintWords Go.Proofs.YtcbmdpecnmbhjaaV.PrintLast Go.Proofs.YtcbmdpecnmbhjaaV.PrintMore Go.Proofs.Ytcbmdpecnmbhjaa.PA
set_option linter.unusedVariables false
set_option linter.unusedSimpArgs false
theorem imul_inner (a b : List Int) (ha : Dig B64 a) (hb : Dig B64 b) (la : a.length ≤ 1073741824) (lb : b.length ≤ 1073741824) (i : Nat) (hi : i < a.length)
    (R : List Int → Prop) (next : ∀ out : List Int, out.length = a.length + b.length → Dig B64 out → Clear out (i + 1 + b.length) → val B64 out = val B64 (a.take (i + 1)) * val B64 b → ∃ r, Ev (fun k => impl_nat_mul.l0 k b out a (a.length : Int) ((i + 1 : Nat) : Int)) r ∧ R r) (d : Nat) :
    ∀ (j : Nat) (out : List Int) (c : Int), j + d = b.length → out.length = a.length + b.length → Dig B64 out → Clear out (i + b.length) → 0 ≤ c ∧ c < (B64 : Int) →
    val B64 out + B64 ^ (i + j) * c.toNat = val B64 (a.take i) * val B64 b + B64 ^ i * ((rd a (i : Int)).toNat * val B64 (b.take j)) →
    ∃ r, Ev (fun k => impl_nat_mul.l1 k b out (i : Int) (rd a (i : Int)) c a (a.length : Int) (i : Int) b (b.length : Int) (j : Int)) r ∧ R r := by
  induction d with
  | zero =>
    intro j out c hj hl hd hcl hc hv
    obtain rfl : j = b.length := by omega
    have h1 := mul_end (by omega) (hcl _ (Nat.le_refl _)) hv
    obtain ⟨r, hr, hR⟩ := next (out.set (i + b.length) c) (by simp [hl]) (hd.set _ hc) (by have := hcl.more c; rwa [show i + b.length + 1 = i + 1 + b.length by omega] at this) h1
    refine ⟨r, Ev.step (fun k => ?_) hr, hR⟩
    simp only [impl_nat_mul.l1]
    rw [if_neg (by omega), wrap64_id (by omega), if_pos (by omega), if_pos (by omega), wrap64_id (by omega), show ((i : Int) + (b.length : Int)).toNat = i + b.length by omega]
    rfl
  | succ d ih =>
    intro j out c hj hl hd hcl hc hv
    have dx := ha.rd B64_pos (i : Int)
    have dy := hb.rd B64_pos (j : Int)
    have dz := hd.rd B64_pos ((i + j : Nat) : Int)
    have hij : ((i : Int) + (j : Int)) = ((i + j : Nat) : Int) := by omega
    obtain ⟨hi', lo, hm, m1, m2, m3, m4, m5, m6⟩ := mul64_eq _ _ dx dy
    have hprod : rd a (i : Int) * rd b (j : Int) = (((rd a (i : Int)).toNat * (rd b (j : Int)).toNat : Nat) : Int) := by
      rw [Int.natCast_mul, Int.toNat_of_nonneg dx.1, Int.toNat_of_nonneg dy.1]
    rw [hprod] at m5
    obtain ⟨s1, s2, s3, s4, s5⟩ := add64_spec lo (rd out ((i + j : Nat) : Int)) 0 ⟨m3, m4⟩ dz (by omega)
    obtain ⟨q1, q2, q3, q4, q5⟩ := add64_spec (add64s lo (rd out ((i + j : Nat) : Int)) 0) c 0 ⟨s1, s2⟩ hc (by omega)
    have hxv := mul_place m3 m1 dz.1 hc.1 s3 q3 s1 m5 s5 q5
    have hcar := mul_carry B64_pos (toNat_lt64 dx) (toNat_lt64 dy) (toNat_lt64 dz) (toNat_lt64 hc) hxv
    have hs := mul_step (B := B64) (a := a) (b := b) (out := out) (i := i) (j := j) (ai := rd a (i : Int)) (c := c) (by omega) hv hxv
    have hi0 : 0 ≤ hi' + add64c lo (rd out ((i + j : Nat) : Int)) 0 := by omega
    have hi1 : hi' + add64c lo (rd out ((i + j : Nat) : Int)) 0 < 18446744073709551616 := by omega
    have hi2 : 0 ≤ hi' + add64c lo (rd out ((i + j : Nat) : Int)) 0 + add64c (add64s lo (rd out ((i + j : Nat) : Int)) 0) c 0 ∧ hi' + add64c lo (rd out ((i + j : Nat) : Int)) 0 + add64c (add64s lo (rd out ((i + j : Nat) : Int)) 0) c 0 < (B64 : Int) := by omega
    obtain ⟨r, hr, hR⟩ := ih (j + 1) _ _ (by omega) (by simp [hl]) (hd.set (i + j) ⟨q1, q2⟩) (hcl.set (by omega)) hi2 hs
    refine ⟨r, Ev.step (fun k => ?_) hr, hR⟩
    simp only [impl_nat_mul.l1]
    rw [if_pos (by omega), if_pos (by omega), if_pos (by omega), hm, Option.bind_some]
    rw [wrap64_id (n := (i : Int) + (j : Int)) (by omega), if_pos (by omega), if_pos (by omega), hij, Int.toNat_natCast]
    rw [wrap_u64_id ⟨hi0, hi1⟩, wrap_u64_id (dig64 hi2), wrap64_id (by omega)]
    rfl
theorem imul_outer (a b : List Int) (ha : Dig B64 a) (hb : Dig B64 b) (la : a.length ≤ 1073741824) (lb : b.length ≤ 1073741824) (d : Nat) : ∀ (i : Nat) (out : List Int), i + d = a.length → out.length = a.length + b.length → Dig B64 out → Clear out (i + b.length) →
    val B64 out = val B64 (a.take i) * val B64 b →
    ∃ r, Ev (fun k => impl_nat_mul.l0 k b out a (a.length : Int) (i : Int)) r ∧ Dig B64 r ∧ Norm r ∧ val B64 r = val B64 a * val B64 b ∧ r.length ≤ a.length + b.length := by
  induction d with
  | zero =>
    intro i out hi hl hd hcl hv
    refine ⟨trimL out, Ev.step (f := fun _ => some (trimL out)) (fun k => ?_) (Ev.now _), hd.trim, norm_trim _, ?_, ?_⟩
    · simp only [impl_nat_mul.l0]
      rw [if_neg (by omega)]
    · rw [val_trim, hv, val_take_all _ _ _ (by omega)]
    · have := trimL_length out
      omega
  | succ d ih =>
    intro i out hi hl hd hcl hv
    obtain ⟨r, hr, hR⟩ := imul_inner a b ha hb la lb i (by omega) (fun r => Dig B64 r ∧ Norm r ∧ val B64 r = val B64 a * val B64 b ∧ r.length ≤ a.length + b.length)
      (fun out' h1 h2 h3 h4 => ih (i + 1) out' (by omega) h1 h2 h3 h4) b.length 0 out 0 (by omega) hl hd hcl (by unfold B64; omega) (by simp [val, hv])
    refine ⟨r, Ev.step (fun k => ?_) hr, hR⟩
    simp only [impl_nat_mul.l0]
    rw [if_pos (by omega), if_pos (by omega), if_pos (by omega)]
    rfl
theorem imul_ev (a b : List Int) (ha : Dig B64 a) (hb : Dig B64 b) (la : a.length ≤ 1073741824) (lb : b.length ≤ 1073741824) :
    ∃ r, Ev (fun k => impl_nat_mul.f k a b) r ∧ Dig B64 r ∧ Norm r ∧ val B64 r = val B64 a * val B64 b ∧ r.length ≤ a.length + b.length := by
  obtain ⟨r, hr, hR⟩ := imul_outer a b ha hb la lb a.length 0 (List.replicate (a.length + b.length) 0) (by omega) (by simp) (Dig.zeros B64_pos _) (Clear.zeros _ _) (by rw [val_zeros]; simp [val])
  refine ⟨r, Ev.congr (fun k => ?_) hr, hR⟩
  unfold impl_nat_mul.f
  rw [wrap64_id (n := (a.length : Int) + (b.length : Int)) (by omega), if_pos (by omega), if_pos (by omega), show ((a.length : Int) + (b.length : Int)).toNat = a.length + b.length by omega]
  rfl
end Go.Proofs.Ytcbmdpecnmbhjaa.M
end
section
namespace Go.Proofs.Ytcbmdpecnmbhjaa.M
open Go.RowKit Go.Proofs.Ytcbmdpecnmbhjaa.G Go.Proofs.YtcbmdpecnmbhjaaV.PrintWords Go.Proofs.YtcbmdpecnmbhjaaV.PrintLast Go.Proofs.YtcbmdpecnmbhjaaV.PrintMore Go.Proofs.Ytcbmdpecnmbhjaa.PA
set_option linter.unusedVariables false
set_option linter.unusedSimpArgs false
def IsBits (v n : Nat) : Prop := v < 2 ^ n ∧ (n = 0 ∨ 2 ^ (n - 1) ≤ v)
instance (v n : Nat) : Decidable (IsBits v n) := by unfold IsBits; infer_instance
theorem IsBits.uniq {v n m : Nat} (h : IsBits v n) (k : IsBits v m) : n = m := by
  have one : ∀ a b : Nat, IsBits v a → IsBits v b → a ≤ b := by
    intro a b h k
    rcases h.2 with h2 | h2
    · omega
    · rcases Nat.lt_or_ge b a with h3 | h3
      · have := Nat.pow_le_pow_right (n := 2) (by omega) (show b ≤ a - 1 by omega)
        have := k.1
        omega
      · exact h3
  exact Nat.le_antisymm (one n m h k) (one m n k h)
theorem IsBits.zero : IsBits 0 0 := ⟨by decide, Or.inl rfl⟩
theorem IsBits.pos {v n : Nat} (h : IsBits v n) (hv : 0 < v) : 0 < n := by
  rcases Nat.eq_zero_or_pos n with h2 | h2
  · subst h2
    have := h.1
    simp at this
    omega
  · exact h2
theorem IsBits.up {v m s : Nat} (h : IsBits (v / 2 ^ s) m) (hv : 0 < v / 2 ^ s) : IsBits v (s + m) := by
  have hp : 0 < 2 ^ s := Nat.pow_pos (by omega)
  have hm := h.pos hv
  refine ⟨?_, Or.inr ?_⟩
  · rw [Nat.pow_add, Nat.mul_comm]
    exact (Nat.div_lt_iff_lt_mul hp).1 h.1
  · rcases h.2 with h2 | h2
    · omega
    · rw [show s + m - 1 = s + (m - 1) by omega, Nat.pow_add, Nat.mul_comm]
      exact (Nat.le_div_iff_mul_le hp).1 h2
theorem IsBits.le {v n w : Nat} (h : IsBits v n) (hv : v < 2 ^ w) : n ≤ w := by
  rcases h.2 with h2 | h2
  · omega
  · rcases Nat.lt_or_ge w n with h3 | h3
    · have := Nat.pow_le_pow_right (n := 2) (by omega) (show w ≤ n - 1 by omega)
      omega
    · exact h3
theorem lenT : ∀ i : Nat, i < 256 → IsBits i (bt (⟨#[0, 1, 2, 2, 3, 3, 3, 3, 4, 4, 4, 4, 4, 4, 4, 4, 5, 5, 5, 5, 5, 5, 5, 5, 5, 5, 5, 5, 5, 5, 5, 5, 6, 6, 6, 6, 6, 6, 6, 6, 6, 6, 6, 6, 6, 6, 6, 6, 6, 6, 6, 6, 6, 6, 6, 6, 6, 6, 6, 6, 6, 6, 6, 6, 7, 7, 7, 7, 7, 7, 7, 7, 7, 7, 7, 7, 7, 7, 7, 7, 7, 7, 7, 7, 7, 7, 7, 7, 7, 7, 7, 7, 7, 7, 7, 7, 7, 7, 7, 7, 7, 7, 7, 7, 7, 7, 7, 7, 7, 7, 7, 7, 7, 7, 7, 7, 7, 7, 7, 7, 7, 7, 7, 7, 7, 7, 7, 7, 8, 8, 8, 8, 8, 8, 8, 8, 8, 8, 8, 8, 8, 8, 8, 8, 8, 8, 8, 8, 8, 8, 8, 8, 8, 8, 8, 8, 8, 8, 8, 8, 8, 8, 8, 8, 8, 8, 8, 8, 8, 8, 8, 8, 8, 8, 8, 8, 8, 8, 8, 8, 8, 8, 8, 8, 8, 8, 8, 8, 8, 8, 8, 8, 8, 8, 8, 8, 8, 8, 8, 8, 8, 8, 8, 8, 8, 8, 8, 8, 8, 8, 8, 8, 8, 8, 8, 8, 8, 8, 8, 8, 8, 8, 8, 8, 8, 8, 8, 8, 8, 8, 8, 8, 8, 8, 8, 8, 8, 8, 8, 8, 8, 8, 8, 8, 8, 8, 8, 8, 8, 8, 8, 8, 8, 8, 8, 8]⟩ : ByteArray) (i : Int)).toNat ∧ 0 ≤ bt (⟨#[0, 1, 2, 2, 3, 3, 3, 3, 4, 4, 4, 4, 4, 4, 4, 4, 5, 5, 5, 5, 5, 5, 5, 5, 5, 5, 5, 5, 5, 5, 5, 5, 6, 6, 6, 6, 6, 6, 6, 6, 6, 6, 6, 6, 6, 6, 6, 6, 6, 6, 6, 6, 6, 6, 6, 6, 6, 6, 6, 6, 6, 6, 6, 6, 7, 7, 7, 7, 7, 7, 7, 7, 7, 7, 7, 7, 7, 7, 7, 7, 7, 7, 7, 7, 7, 7, 7, 7, 7, 7, 7, 7, 7, 7, 7, 7, 7, 7, 7, 7, 7, 7, 7, 7, 7, 7, 7, 7, 7, 7, 7, 7, 7, 7, 7, 7, 7, 7, 7, 7, 7, 7, 7, 7, 7, 7, 7, 7, 8, 8, 8, 8, 8, 8, 8, 8, 8, 8, 8, 8, 8, 8, 8, 8, 8, 8, 8, 8, 8, 8, 8, 8, 8, 8, 8, 8, 8, 8, 8, 8, 8, 8, 8, 8, 8, 8, 8, 8, 8, 8, 8, 8, 8, 8, 8, 8, 8, 8, 8, 8, 8, 8, 8, 8, 8, 8, 8, 8, 8, 8, 8, 8, 8, 8, 8, 8, 8, 8, 8, 8, 8, 8, 8, 8, 8, 8, 8, 8, 8, 8, 8, 8, 8, 8, 8, 8, 8, 8, 8, 8, 8, 8, 8, 8, 8, 8, 8, 8, 8, 8, 8, 8, 8, 8, 8, 8, 8, 8, 8, 8, 8, 8, 8, 8, 8, 8, 8, 8, 8, 8, 8, 8, 8, 8, 8, 8]⟩ : ByteArray) (i : Int) := by decide +kernel
theorem len_top (c x2 : Nat) (hc : c < 256) (h2 : x2 ≤ 1000) : ∃ m : Nat, IsBits c m ∧ m ≤ 8 ∧ (fun _ : Unit => wrap64 ((x2 : Int) + wrap64 (bt (⟨#[0, 1, 2, 2, 3, 3, 3, 3, 4, 4, 4, 4, 4, 4, 4, 4, 5, 5, 5, 5, 5, 5, 5, 5, 5, 5, 5, 5, 5, 5, 5, 5, 6, 6, 6, 6, 6, 6, 6, 6, 6, 6, 6, 6, 6, 6, 6, 6, 6, 6, 6, 6, 6, 6, 6, 6, 6, 6, 6, 6, 6, 6, 6, 6, 7, 7, 7, 7, 7, 7, 7, 7, 7, 7, 7, 7, 7, 7, 7, 7, 7, 7, 7, 7, 7, 7, 7, 7, 7, 7, 7, 7, 7, 7, 7, 7, 7, 7, 7, 7, 7, 7, 7, 7, 7, 7, 7, 7, 7, 7, 7, 7, 7, 7, 7, 7, 7, 7, 7, 7, 7, 7, 7, 7, 7, 7, 7, 7, 8, 8, 8, 8, 8, 8, 8, 8, 8, 8, 8, 8, 8, 8, 8, 8, 8, 8, 8, 8, 8, 8, 8, 8, 8, 8, 8, 8, 8, 8, 8, 8, 8, 8, 8, 8, 8, 8, 8, 8, 8, 8, 8, 8, 8, 8, 8, 8, 8, 8, 8, 8, 8, 8, 8, 8, 8, 8, 8, 8, 8, 8, 8, 8, 8, 8, 8, 8, 8, 8, 8, 8, 8, 8, 8, 8, 8, 8, 8, 8, 8, 8, 8, 8, 8, 8, 8, 8, 8, 8, 8, 8, 8, 8, 8, 8, 8, 8, 8, 8, 8, 8, 8, 8, 8, 8, 8, 8, 8, 8, 8, 8, 8, 8, 8, 8, 8, 8, 8, 8, 8, 8, 8, 8, 8, 8, 8, 8]⟩ : ByteArray) (c : Int)))) = (fun _ => ((x2 + m : Nat) : Int)) := by
  obtain ⟨h1, h0⟩ := lenT c hc
  have h8 := h1.le (w := 8) hc
  refine ⟨_, h1, h8, funext fun _ => ?_⟩
  generalize bt (⟨#[0, 1, 2, 2, 3, 3, 3, 3, 4, 4, 4, 4, 4, 4, 4, 4, 5, 5, 5, 5, 5, 5, 5, 5, 5, 5, 5, 5, 5, 5, 5, 5, 6, 6, 6, 6, 6, 6, 6, 6, 6, 6, 6, 6, 6, 6, 6, 6, 6, 6, 6, 6, 6, 6, 6, 6, 6, 6, 6, 6, 6, 6, 6, 6, 7, 7, 7, 7, 7, 7, 7, 7, 7, 7, 7, 7, 7, 7, 7, 7, 7, 7, 7, 7, 7, 7, 7, 7, 7, 7, 7, 7, 7, 7, 7, 7, 7, 7, 7, 7, 7, 7, 7, 7, 7, 7, 7, 7, 7, 7, 7, 7, 7, 7, 7, 7, 7, 7, 7, 7, 7, 7, 7, 7, 7, 7, 7, 7, 8, 8, 8, 8, 8, 8, 8, 8, 8, 8, 8, 8, 8, 8, 8, 8, 8, 8, 8, 8, 8, 8, 8, 8, 8, 8, 8, 8, 8, 8, 8, 8, 8, 8, 8, 8, 8, 8, 8, 8, 8, 8, 8, 8, 8, 8, 8, 8, 8, 8, 8, 8, 8, 8, 8, 8, 8, 8, 8, 8, 8, 8, 8, 8, 8, 8, 8, 8, 8, 8, 8, 8, 8, 8, 8, 8, 8, 8, 8, 8, 8, 8, 8, 8, 8, 8, 8, 8, 8, 8, 8, 8, 8, 8, 8, 8, 8, 8, 8, 8, 8, 8, 8, 8, 8, 8, 8, 8, 8, 8, 8, 8, 8, 8, 8, 8, 8, 8, 8, 8, 8, 8, 8, 8, 8, 8, 8, 8]⟩ : ByteArray) (c : Int) = z at *
  rw [wrap64_id (n := z) (by omega), wrap64_id (by omega)]
  omega
set_option maxRecDepth 20000 in
theorem len_j0 (x x2 : Nat) (hx : x < 4294967296) (h2 : x2 ≤ 100) : ∃ m : Nat, IsBits x m ∧ m ≤ 32 ∧ Ev (fun k => bits_Len64.j0 k (x : Int) (x2 : Int)) ((x2 + m : Nat) : Int) := by
  have wr : ∀ a b : Nat, a ≤ 1000 → b ≤ 1000 → wrap64 ((a : Int) + (b : Int)) = ((a + b : Nat) : Int) := by
    intro a b ha hb
    rw [wrap64_id (by omega)]
    omega
  by_cases c1 : 65536 ≤ x
  · by_cases c2 : 256 ≤ x / 65536
    · obtain ⟨m, hm, h8, he⟩ := len_top (x / 65536 / 256) (x2 + 16 + 8) (by omega) (by omega)
      have hb : IsBits x (24 + m) := by
        refine IsBits.up (s := 24) ?_ (by omega)
        rw [show x / 2 ^ 24 = x / 65536 / 256 by omega]
        exact hm
      refine ⟨24 + m, hb, by omega, Ev.step (f := fun _ => some ((x2 + (24 + m) : Nat) : Int)) (fun k => ?_) (Ev.now _)⟩
      have e1 : ((x : Int) / 65536 / 256 % 256) = ((x / 65536 / 256 : Nat) : Int) := by omega
      rw [bits_Len64.j0]
      rw [if_pos (by omega), if_pos (by omega), if_pos (by omega), if_pos (by omega), e1, show (16 : Int) = ((16 : Nat) : Int) from rfl, wr _ _ (by omega) (by omega), show (8 : Int) = ((8 : Nat) : Int) from rfl, wr _ _ (by omega) (by omega), congrFun he ()]
      congr 2
      omega
    · obtain ⟨m, hm, h8, he⟩ := len_top (x / 65536) (x2 + 16) (by omega) (by omega)
      have hb : IsBits x (16 + m) := by
        refine IsBits.up (s := 16) ?_ (by omega)
        exact hm
      refine ⟨16 + m, hb, by omega, Ev.step (f := fun _ => some ((x2 + (16 + m) : Nat) : Int)) (fun k => ?_) (Ev.now _)⟩
      have e1 : ((x : Int) / 65536 % 256) = ((x / 65536 : Nat) : Int) := by omega
      rw [bits_Len64.j0]
      rw [if_pos (by omega), if_neg (by omega), if_pos (by omega), if_pos (by omega), e1, show (16 : Int) = ((16 : Nat) : Int) from rfl, wr _ _ (by omega) (by omega), congrFun he ()]
      congr 2
      omega
  · by_cases c2 : 256 ≤ x
    · obtain ⟨m, hm, h8, he⟩ := len_top (x / 256) (x2 + 8) (by omega) (by omega)
      have hb : IsBits x (8 + m) := by
        refine IsBits.up (s := 8) ?_ (by omega)
        exact hm
      refine ⟨8 + m, hb, by omega, Ev.step (f := fun _ => some ((x2 + (8 + m) : Nat) : Int)) (fun k => ?_) (Ev.now _)⟩
      have e1 : ((x : Int) / 256 % 256) = ((x / 256 : Nat) : Int) := by omega
      rw [bits_Len64.j0]
      rw [if_neg (by omega), if_pos (by omega), if_pos (by omega), if_pos (by omega), e1, show (8 : Int) = ((8 : Nat) : Int) from rfl, wr _ _ (by omega) (by omega), congrFun he ()]
      congr 2
      omega
    · obtain ⟨m, hm, h8, he⟩ := len_top x x2 (by omega) (by omega)
      refine ⟨m, hm, by omega, Ev.step (f := fun _ => some ((x2 + m : Nat) : Int)) (fun k => ?_) (Ev.now _)⟩
      have e1 : ((x : Int) % 256) = (x : Int) := by omega
      rw [bits_Len64.j0]
      rw [if_neg (by omega), if_neg (by omega), if_pos (by omega), if_pos (by omega), e1, congrFun he ()]
theorem len64_ev (x : Nat) (hx : x < 18446744073709551616) : ∃ m : Nat, IsBits x m ∧ m ≤ 64 ∧ Ev (fun k => bits_Len64.f k (x : Int)) (m : Int) := by
  unfold bits_Len64.f
  by_cases c : 4294967296 ≤ x
  · obtain ⟨m, hm, h1, h2⟩ := len_j0 (x / 4294967296) 32 (by omega) (by omega)
    refine ⟨32 + m, IsBits.up (s := 32) hm (by omega), by omega, Ev.congr (fun k => ?_) h2⟩
    rw [if_pos (by omega)]
    rfl
  · obtain ⟨m, hm, h1, h2⟩ := len_j0 x 0 (by omega) (by omega)
    refine ⟨m, hm, by omega, Ev.congr (fun k => ?_) (ev_to h2 (by simp))⟩
    rw [if_neg (by omega)]
    rfl
theorem sbits_loop (m : Nat) : ∀ (u n : Nat), IsBits u m → n + m ≤ 4611686018427387904 → Ev (fun k => spec_l1Bits.l0 k (n : Int) (u : Int)) ((n + m : Nat) : Int) := by
  induction m with
  | zero =>
    intro u n h hb
    have := h.1
    refine Ev.step (f := fun _ => some ((n + 0 : Nat) : Int)) (fun k => ?_) (Ev.now _)
    simp only [spec_l1Bits.l0]
    rw [if_neg (by omega)]
    rfl
  | succ m ih =>
    intro u n h hb
    have hu : 2 ^ m ≤ u := by
      rcases h.2 with h2 | h2
      · omega
      · simpa using h2
    have hp : 0 < 2 ^ m := Nat.pow_pos (by omega)
    have h1 := h.1
    rw [Nat.pow_succ] at h1
    have hh : IsBits (u / 2) m := by
      refine ⟨by omega, ?_⟩
      rcases Nat.eq_zero_or_pos m with h3 | h3
      · exact Or.inl h3
      · right
        rw [show m = (m - 1) + 1 by omega, Nat.pow_succ] at hu
        omega
    refine Ev.step (fun k => ?_) (ev_to (ih (u / 2) (n + 1) hh (by omega)) (by congr 1; omega))
    simp only [spec_l1Bits.l0]
    rw [if_pos (by omega), wrap64_id (by omega)]
    rfl
def ofW (v : Nat) : List Int := trimL [((v % 4294967296 : Nat) : Int), ((v / 4294967296 : Nat) : Int)]
theorem ofW_eq (v : Nat) (hv : v < 18446744073709551616) : spec_l1Of.f (v : Int) = some (ofW v) := by
  unfold spec_l1Of.f
  rw [trim_eq _ (by simp), Option.bind_some, and_low32 _ (by omega) (by omega)]
  rfl
theorem ofW_dig (v : Nat) (hv : v < 18446744073709551616) : Dig B32 (ofW v) := by
  unfold ofW
  exact (Dig.cons (by unfold B32; omega) (Dig.cons (by unfold B32; omega) (Dig.nil _))).trim
theorem ofW_val (v : Nat) : val B32 (ofW v) = v := by
  unfold ofW
  rw [val_trim]
  simp only [val_cons, val_nil]
  unfold B32
  omega
end Go.Proofs.Ytcbmdpecnmbhjaa.M
end
section
namespace Go.Proofs.Ytcbmdpecnmbhjaa.M
open Go.RowKit Go.Proofs.Ytcbmdpecnmbhjaa.G Go.Proofs.YtcbmdpecnmbhjaaV.PrintWords Go.Proofs.YtcbmdpecnmbhjaaV.PrintLast Go.Proofs.YtcbmdpecnmbhjaaV.PrintMore
set_option linter.unusedVariables false
set_option linter.unusedSimpArgs false
theorem est_le {B d1 d0 n u q r : Nat} (hq : q * d1 + r = n) (hx : q * d0 ≤ B * r + u) : q * (d1 * B + d0) ≤ n * B + u := by
  subst hq
  have e1 : q * (d1 * B + d0) = q * d1 * B + q * d0 := by rw [Nat.mul_add, Nat.mul_assoc]
  have e2 : (q * d1 + r) * B = q * d1 * B + B * r := by rw [Nat.add_mul, Nat.mul_comm r B]
  omega
theorem est_gt {B d1 d0 n u q r : Nat} (hq : q * d1 + r = n) (hx : B * r + u < q * d0) : n * B + u < q * (d1 * B + d0) := by
  subst hq
  have e1 : q * (d1 * B + d0) = q * d1 * B + q * d0 := by rw [Nat.mul_add, Nat.mul_assoc]
  have e2 : (q * d1 + r) * B = q * d1 * B + B * r := by rw [Nat.add_mul, Nat.mul_comm r B]
  omega
theorem est_over {B d0 q r u : Nat} (hq : q ≤ B) (hd : d0 < B) (hr : B ≤ r) : q * d0 ≤ B * r + u := by
  have h1 := Nat.mul_le_mul hq (Nat.le_of_lt hd)
  have h2 := Nat.mul_le_mul_left B hr
  omega
theorem div_is {T D q : Nat} (hD : 0 < D) (h1 : q * D ≤ T) (h2 : T / D ≤ q) : q = T / D := by
  have := (Nat.le_div_iff_mul_le hD).2 h1
  omega
theorem div_less {T D q : Nat} (hD : 0 < D) (h : T < q * D) : T / D + 1 ≤ q := (Nat.div_lt_iff_lt_mul hD).2 h
theorem div_lt_base {B D n u : Nat} (hn : n < D) (hu : u < B) : (n * B + u) / D < B := by
  have hD : 0 < D := by omega
  rw [Nat.div_lt_iff_lt_mul hD]
  have h1 := Nat.mul_le_mul_right B (show n + 1 ≤ D from hn)
  rw [Nat.add_mul, Nat.mul_comm D B] at h1
  omega
theorem est_start {B d1 d0 n : Nat} (hd1 : B ≤ 2 * d1) (hd0 : d0 < B) (hn : n < d1 * B + d0) : n / d1 ≤ B + 1 := by
  have h1 : 0 < d1 := by omega
  have h2 : n < (B + 2) * d1 := by
    have : (B + 2) * d1 = d1 * B + 2 * d1 := by rw [Nat.add_mul, Nat.mul_comm B d1]
    omega
  have := (Nat.div_lt_iff_lt_mul h1).2 h2
  omega
theorem est_floor {B d1 d0 n u : Nat} (h1 : 0 < d1) (hu : u < B) : (n * B + u) / (d1 * B + d0) ≤ n / d1 := by
  have hD : 0 < d1 * B + d0 := by
    have := Nat.mul_pos h1 (show 0 < B by omega)
    omega
  rw [Nat.le_div_iff_mul_le h1]
  have h3 := Nat.div_mul_le_self (n * B + u) (d1 * B + d0)
  generalize (n * B + u) / (d1 * B + d0) = Q at *
  have e1 : Q * (d1 * B + d0) = Q * d1 * B + Q * d0 := by rw [Nat.mul_add, Nat.mul_assoc]
  have h4 : Q * d1 * B < (n + 1) * B := by
    rw [Nat.add_mul]
    omega
  have := Nat.lt_of_mul_lt_mul_right h4
  omega
theorem quot_mul_le {W V P Q : Nat} (hP : 0 < P) (h : Q * V ≤ W) : Q * (V / P) ≤ W / P := by
  rw [Nat.le_div_iff_mul_le hP]
  have h1 := Nat.div_mul_le_self V P
  have h2 := Nat.mul_le_mul_left Q h1
  rw [← Nat.mul_assoc] at h2
  omega
theorem knuth_dec {W V P top : Nat} (hP : 0 < P) (hV : 0 < V) (h : W / P < top * (V / P)) : W / V + 1 ≤ top := by
  have h1 := quot_mul_le hP (Nat.div_mul_le_self W V)
  rcases Nat.lt_or_ge (W / V) top with h2 | h2
  · exact h2
  · have := Nat.mul_le_mul_right (V / P) h2
    omega
theorem knuth_start {W V P : Nat} (hP : 0 < P) (hV : 0 < V / P) : W / V ≤ W / P / (V / P) := by
  rw [Nat.le_div_iff_mul_le hV]
  exact quot_mul_le hP (Nat.div_mul_le_self W V)
theorem knuth_le {B W V P top : Nat} (hP : 0 < P) (hV : B * P ≤ V) (ht : top < B) (h : top * (V / P) ≤ W / P) : top ≤ W / V + 1 := by
  have hBP : 0 < B * P := Nat.mul_pos (by omega) hP
  have hV0 : 0 < V := by omega
  have h1 := Nat.mul_le_mul_right P h
  have h2 := Nat.div_mul_le_self W P
  have h3 : V ≤ V / P * P + P := by
    have := Nat.div_add_mod V P
    have h4 := Nat.mod_lt V hP
    rw [Nat.mul_comm] at this
    omega
  have h5 := Nat.mul_le_mul_left top h3
  rw [Nat.mul_add, ← Nat.mul_assoc] at h5
  have h6 := Nat.mul_le_mul_right P (show top + 1 ≤ B from ht)
  rw [Nat.add_mul] at h6
  have h7 : top * V < W + V := by omega
  have h8 : W < (W / V + 1) * V := by
    have := Nat.div_add_mod W V
    have h9 := Nat.mod_lt W hV0
    rw [Nat.add_mul, Nat.mul_comm]
    omega
  have h10 : top * V < (W / V + 2) * V := by
    rw [Nat.add_mul] at h8 ⊢
    omega
  have := Nat.lt_of_mul_lt_mul_right h10
  omega
theorem quot_of {W V Q R : Nat} (h : R + Q * V = W) (hR : R < V) : Q = W / V ∧ R = W % V := by
  subst h
  constructor
  · rw [Nat.add_mul_div_right _ _ (by omega), Nat.div_eq_of_lt hR]; omega
  · rw [Nat.add_mul_mod_self_right, Nat.mod_eq_of_lt hR]
theorem knuth_sure {W V top R : Nat} (hV : 0 < V) (hq : W / V ≤ top) (h : R + top * V = W) : top = W / V ∧ R < V := by
  have h1 : top ≤ W / V := (Nat.le_div_iff_mul_le hV).2 (by omega)
  have h2 : top = W / V := by omega
  refine ⟨h2, ?_⟩
  have := Nat.div_add_mod W V
  have h3 := Nat.mod_lt W hV
  rw [h2, Nat.mul_comm] at h
  omega
theorem knuth_back {W V top R M R2 : Nat} (hV : 0 < V) (hVM : V ≤ M) (hq : top ≤ W / V + 1) (h : R + top * V = W + M) (hR : R < M) (h2 : R2 = (R + V) % M) : top = W / V + 1 ∧ R2 + (W / V) * V = W ∧ R2 < V := by
  have h1 : W < top * V := by omega
  have h3 : W / V < top := by
    rw [Nat.div_lt_iff_lt_mul hV]; exact h1
  have h4 : top = W / V + 1 := by omega
  have h5 := Nat.div_add_mod W V
  have h6 := Nat.mod_lt W hV
  rw [Nat.mul_comm] at h5
  rw [h4, Nat.add_mul] at h
  have h7 : R + V = W % V + M := by omega
  have h8 : R2 = W % V := by rw [h2, h7, Nat.add_mod_right, Nat.mod_eq_of_lt (by omega)]
  exact ⟨h4, by omega, by omega⟩
end Go.Proofs.Ytcbmdpecnmbhjaa.M
end
section
namespace Go.Proofs.Ytcbmdpecnmbhjaa.M
open Go.RowKit Go.Proofs.Ytcbmdpecnmbhjaa.G Go.Proofs.YtcbmdpecnmbhjaaV.PrintWords Go.Proofs.YtcbmdpecnmbhjaaV.PrintLast Go.Proofs.YtcbmdpecnmbhjaaV.PrintMore Go.Proofs.Ytcbmdpecnmbhjaa.PA
set_option linter.unusedVariables false
set_option linter.unusedSimpArgs false
theorem u64_nat {n : Nat} (h : n < 18446744073709551616) : IntKind.u64.wrap (n : Int) = (n : Int) := wrap_u64_id (by omega)
theorem d64_rest (n u q D : Nat) (h : q * D ≤ n * 4294967296 + u) (hr : n * 4294967296 + u - q * D < 18446744073709551616) :
    IntKind.u64.wrap ((IntKind.u64.wrap ((IntKind.u64.wrap ((n : Int) * 4294967296)) + (u : Int))) - (IntKind.u64.wrap ((q : Int) * (D : Int)))) = ((n * 4294967296 + u - q * D : Nat) : Int) := by
  rw [← Int.natCast_mul]
  generalize q * D = z at *
  rw [wrap_u64, wrap_u64, wrap_u64, wrap_u64]
  omega
theorem d64_cond (q d0 r u : Nat) (hq : q < 4294967296) (h0 : d0 < 4294967296) (hr : r < 4294967296) (hu : u < 4294967296) :
    (decide ((IntKind.u64.wrap ((q : Int) * (d0 : Int))) > (IntKind.u64.wrap ((IntKind.u64.wrap (4294967296 * (r : Int))) + (u : Int))))) = decide (4294967296 * r + u < q * d0) := by
  have h1 : q * d0 < 18446744073709551616 := Nat.lt_of_lt_of_le (Nat.mul_lt_mul'' hq h0) (by decide)
  rw [← Int.natCast_mul, u64_nat h1, show (4294967296 : Int) * (r : Int) = ((4294967296 * r : Nat) : Int) by omega, u64_nat (by omega), ← Int.natCast_add, u64_nat (by omega)]
  generalize q * d0 = z
  by_cases h : 4294967296 * r + u < z
  · rw [decide_eq_true h, decide_eq_true (by omega)]
  · rw [decide_eq_false h, decide_eq_false (by omega)]
theorem d64_num {D d1 d0 n u : Nat} (e : D = d1 * 4294967296 + d0) (h1 : 2147483648 ≤ d1 ∧ d1 < 4294967296) (h0 : d0 < 4294967296) (hu : u < 4294967296) (hn : n < D) {q r : Nat} (hq : q * d1 + r = n) (hQ : (n * 4294967296 + u) / D ≤ q) (hq1 : q ≤ 4294967297) (hr : r < 4294967296) (hc : 4294967296 ≤ q ∨ 4294967296 * r + u < q * d0) :
    ∃ p, q = p + 1 ∧ p * d1 + (r + d1) = n ∧ (n * 4294967296 + u) / D ≤ p ∧ p ≤ 4294967296 ∧ (4294967296 ≤ r + d1 → p = (n * 4294967296 + u) / D) := by
  have hD : 0 < D := by omega
  have hlt : (n * 4294967296 + u) / D < q := by
    rcases hc with h | h
    · exact Nat.lt_of_lt_of_le (div_lt_base hn hu) h
    · have := est_gt hq h
      rw [← e] at this
      exact div_less hD this
  have hq0 : 0 < q := Nat.lt_of_le_of_lt (Nat.zero_le _) hlt
  obtain ⟨p, rfl⟩ : ∃ p, q = p + 1 := ⟨q - 1, by omega⟩
  have h3 : p * d1 + (r + d1) = n := by rw [← hq, Nat.add_mul]; omega
  refine ⟨p, rfl, h3, by omega, by omega, fun ho => ?_⟩
  have h4 := est_le h3 (est_over (u := u) (show p ≤ 4294967296 by omega) h0 ho)
  rw [← e] at h4
  exact div_is hD h4 (by omega)
theorem d64_sure {D d1 d0 n u : Nat} (e : D = d1 * 4294967296 + d0) (h1 : 2147483648 ≤ d1 ∧ d1 < 4294967296) (h0 : d0 < 4294967296) (hu : u < 4294967296) (hn : n < D) {q r : Nat} (hq : q * d1 + r = n) (hQ : (n * 4294967296 + u) / D ≤ q) (hc : ¬ 4294967296 * r + u < q * d0) : q = (n * 4294967296 + u) / D := by
  have hD : 0 < D := by omega
  have h4 := est_le (B := 4294967296) (u := u) hq (Nat.le_of_not_lt hc)
  rw [← e] at h4
  exact div_is hD h4 hQ
theorem d64_l0 {D s d1 d0 n u u0 : Nat} (e : D = d1 * 4294967296 + d0) (h1 : 2147483648 ≤ d1 ∧ d1 < 4294967296) (h0 : d0 < 4294967296) (hu : u < 4294967296) (hn : n < D) (R : Int × Int) (hR : Ev (fun k => bits_Div64.j2 k (D : Int) (s : Int) (d1 : Int) (d0 : Int) (n : Int) (u : Int) (u0 : Int) (((n * 4294967296 + u) / D : Nat) : Int)) R) :
    ∀ (m q r : Nat), q ≤ m → q * d1 + r = n → r < 4294967296 → (n * 4294967296 + u) / D ≤ q → q ≤ 4294967297 →
      Ev (fun k => bits_Div64.l0 k (D : Int) (s : Int) (d1 : Int) (d0 : Int) (n : Int) (u : Int) (u0 : Int) (q : Int) (r : Int)) R := by
  intro m
  induction m with
  | zero =>
    intro q r hm hq hr hQ hq1
    obtain rfl : q = 0 := by omega
    refine Ev.step (f := fun k => bits_Div64.j1 k (D : Int) (s : Int) (d1 : Int) (d0 : Int) (n : Int) (u : Int) (u0 : Int) ((0 : Nat) : Int) (r : Int) false) (fun k => ?_) ?_
    · simp only [bits_Div64.l0]
      rw [if_neg (by omega), d64_cond 0 d0 r u (by omega) h0 hr hu, decide_eq_false (by omega)]
    · refine Ev.step (f := fun k => bits_Div64.j2 k (D : Int) (s : Int) (d1 : Int) (d0 : Int) (n : Int) (u : Int) (u0 : Int) ((0 : Nat) : Int)) (fun k => by simp only [bits_Div64.j1]; rfl) ?_
      rw [Nat.le_zero.1 hQ] at hR
      exact hR
  | succ m ih =>
    intro q r hm hq hr hQ hq1
    have back : (4294967296 ≤ q ∨ 4294967296 * r + u < q * d0) → Ev (fun k => bits_Div64.j1 k (D : Int) (s : Int) (d1 : Int) (d0 : Int) (n : Int) (u : Int) (u0 : Int) (q : Int) (r : Int) true) R := by
      intro hc
      obtain ⟨p, rfl, hp1, hp2, hp3, hp4⟩ := d64_num e h1 h0 hu hn hq hQ hq1 hr hc
      have w1 : IntKind.u64.wrap ((r : Int) + (d1 : Int)) = ((r + d1 : Nat) : Int) := by rw [← Int.natCast_add]; exact u64_nat (by omega)
      have w2 : IntKind.u64.wrap (((p + 1 : Nat) : Int) - 1) = (p : Int) := by rw [show (((p + 1 : Nat) : Int) - 1) = (p : Int) by omega]; exact u64_nat (by omega)
      by_cases ho : 4294967296 ≤ r + d1
      · refine Ev.step (f := fun k => bits_Div64.j2 k (D : Int) (s : Int) (d1 : Int) (d0 : Int) (n : Int) (u : Int) (u0 : Int) (p : Int)) (fun k => ?_) ?_
        · simp only [bits_Div64.j1]
          rw [if_pos trivial, w1, w2, if_pos (by omega)]
        · rw [hp4 ho]; exact hR
      · refine Ev.step (f := fun k => bits_Div64.l0 k (D : Int) (s : Int) (d1 : Int) (d0 : Int) (n : Int) (u : Int) (u0 : Int) (p : Int) ((r + d1 : Nat) : Int)) (fun k => ?_) (ih p (r + d1) (by omega) hp1 (by omega) hp2 (by omega))
        simp only [bits_Div64.j1]
        rw [if_pos trivial, w1, w2, if_neg (by omega)]
    by_cases hb : 4294967296 ≤ q
    · refine Ev.step (fun k => ?_) (back (.inl hb))
      simp only [bits_Div64.l0]
      rw [if_pos (by omega)]
    · by_cases hc : 4294967296 * r + u < q * d0
      · refine Ev.step (fun k => ?_) (back (.inr hc))
        simp only [bits_Div64.l0]
        rw [if_neg (by omega), d64_cond q d0 r u (by omega) h0 hr hu, decide_eq_true hc]
      · refine Ev.step (f := fun k => bits_Div64.j1 k (D : Int) (s : Int) (d1 : Int) (d0 : Int) (n : Int) (u : Int) (u0 : Int) (q : Int) (r : Int) false) (fun k => ?_) ?_
        · simp only [bits_Div64.l0]
          rw [if_neg (by omega), d64_cond q d0 r u (by omega) h0 hr hu, decide_eq_false hc]
        · refine Ev.step (f := fun k => bits_Div64.j2 k (D : Int) (s : Int) (d1 : Int) (d0 : Int) (n : Int) (u : Int) (u0 : Int) (q : Int)) (fun k => by simp only [bits_Div64.j1]; rfl) ?_
          rw [d64_sure e h1 h0 hu hn hq hQ hc]
          exact hR
theorem d64_l1 {D s d1 d0 n u : Nat} (e : D = d1 * 4294967296 + d0) (h1 : 2147483648 ≤ d1 ∧ d1 < 4294967296) (h0 : d0 < 4294967296) (hu : u < 4294967296) (hn : n < D) (q1 : Nat) (R : Int × Int) (hR : R = (IntKind.u64.wrap ((IntKind.u64.wrap ((q1 : Int) * 4294967296)) + (((n * 4294967296 + u) / D : Nat) : Int)), shr .u64 (IntKind.u64.wrap ((IntKind.u64.wrap ((IntKind.u64.wrap ((n : Int) * 4294967296)) + (u : Int))) - (IntKind.u64.wrap ((((n * 4294967296 + u) / D : Nat) : Int) * (D : Int))))) (s : Int))) :
    ∀ (m q r : Nat), q ≤ m → q * d1 + r = n → r < 4294967296 → (n * 4294967296 + u) / D ≤ q → q ≤ 4294967297 →
      Ev (fun k => bits_Div64.l1 k (D : Int) (s : Int) (d1 : Int) (d0 : Int) (u : Int) (q1 : Int) (r : Int) (n : Int) (q : Int)) R := by
  intro m
  have done : ∀ (q r : Nat), q = (n * 4294967296 + u) / D → Ev (fun k => bits_Div64.j4 k (D : Int) (s : Int) (d1 : Int) (d0 : Int) (u : Int) (q1 : Int) (r : Int) (n : Int) (q : Int) false) R := by
    intro q r hq
    refine Ev.step (f := fun _ => some R) (fun k => ?_) (Ev.now _)
    simp only [bits_Div64.j4]
    rw [if_neg (by decide), if_pos (Int.natCast_nonneg _), hR, ← hq]
  induction m with
  | zero =>
    intro q r hm hq hr hQ hq1
    obtain rfl : q = 0 := by omega
    refine Ev.step (f := fun k => bits_Div64.j4 k (D : Int) (s : Int) (d1 : Int) (d0 : Int) (u : Int) (q1 : Int) (r : Int) (n : Int) ((0 : Nat) : Int) false) (fun k => ?_) (done 0 r (Nat.le_zero.1 hQ).symm)
    simp only [bits_Div64.l1]
    rw [if_neg (by omega), d64_cond 0 d0 r u (by omega) h0 hr hu, decide_eq_false (by omega)]
  | succ m ih =>
    intro q r hm hq hr hQ hq1
    have back : (4294967296 ≤ q ∨ 4294967296 * r + u < q * d0) → Ev (fun k => bits_Div64.j4 k (D : Int) (s : Int) (d1 : Int) (d0 : Int) (u : Int) (q1 : Int) (r : Int) (n : Int) (q : Int) true) R := by
      intro hc
      obtain ⟨p, rfl, hp1, hp2, hp3, hp4⟩ := d64_num e h1 h0 hu hn hq hQ hq1 hr hc
      have w1 : IntKind.u64.wrap ((r : Int) + (d1 : Int)) = ((r + d1 : Nat) : Int) := by rw [← Int.natCast_add]; exact u64_nat (by omega)
      have w2 : IntKind.u64.wrap (((p + 1 : Nat) : Int) - 1) = (p : Int) := by rw [show (((p + 1 : Nat) : Int) - 1) = (p : Int) by omega]; exact u64_nat (by omega)
      by_cases ho : 4294967296 ≤ r + d1
      · refine Ev.step (f := fun _ => some R) (fun k => ?_) (Ev.now _)
        simp only [bits_Div64.j4]
        rw [if_pos trivial, w1, w2, if_pos (by omega), if_pos (Int.natCast_nonneg _), hR, ← hp4 ho]
      · refine Ev.step (f := fun k => bits_Div64.l1 k (D : Int) (s : Int) (d1 : Int) (d0 : Int) (u : Int) (q1 : Int) ((r + d1 : Nat) : Int) (n : Int) (p : Int)) (fun k => ?_) (ih p (r + d1) (by omega) hp1 (by omega) hp2 (by omega))
        simp only [bits_Div64.j4]
        rw [if_pos trivial, w1, w2, if_neg (by omega)]
    by_cases hb : 4294967296 ≤ q
    · refine Ev.step (fun k => ?_) (back (.inl hb))
      simp only [bits_Div64.l1]
      rw [if_pos (by omega)]
    · by_cases hc : 4294967296 * r + u < q * d0
      · refine Ev.step (fun k => ?_) (back (.inr hc))
        simp only [bits_Div64.l1]
        rw [if_neg (by omega), d64_cond q d0 r u (by omega) h0 hr hu, decide_eq_true hc]
      · refine Ev.step (f := fun k => bits_Div64.j4 k (D : Int) (s : Int) (d1 : Int) (d0 : Int) (u : Int) (q1 : Int) (r : Int) (n : Int) (q : Int) false) (fun k => ?_) (done q r (d64_sure e h1 h0 hu hn hq hQ hc))
        simp only [bits_Div64.l1]
        rw [if_neg (by omega), d64_cond q d0 r u (by omega) h0 hr hu, decide_eq_false hc]
theorem two_steps {n u u0 D B : Nat} (hD : 0 < D) : ((n * B + u) * B + u0) / D = (n * B + u) / D * B + ((n * B + u) % D * B + u0) / D ∧ ((n * B + u) * B + u0) % D = ((n * B + u) % D * B + u0) % D := by
  generalize n * B + u = a
  have h := Nat.div_add_mod a D
  have e : a * B + u0 = (a % D * B + u0) + D * (a / D * B) := by
    conv => lhs; rw [← h]
    rw [Nat.add_mul, Nat.mul_assoc]; omega
  constructor
  · rw [e, Nat.add_mul_div_left _ _ hD]; omega
  · rw [e, Nat.add_mul_mod_self_left]
theorem norm_num64 {hi lo y s : Nat} (hs : s ≤ 63) (hlo : lo < 18446744073709551616) (hh : hi < y) (hy : y * 2 ^ s < 18446744073709551616) :
    hi * 2 ^ s < 18446744073709551616 ∧ lo / 2 ^ (64 - s) < 2 ^ s ∧ (hi * 18446744073709551616 + lo) * 2 ^ s = (hi * 2 ^ s + lo / 2 ^ (64 - s)) * 18446744073709551616 + lo * 2 ^ s % 18446744073709551616 ∧ hi * 2 ^ s + lo / 2 ^ (64 - s) < y * 2 ^ s := by
  have hp : 0 < 2 ^ s := Nat.pow_pos (by decide)
  have e64 : (18446744073709551616 : Nat) = 2 ^ (64 - s) * 2 ^ s := by rw [← Nat.pow_add, show 64 - s + s = 64 by omega]
  have h1 : hi * 2 ^ s < y * 2 ^ s := Nat.mul_lt_mul_of_pos_right hh hp
  have h2 : lo / 2 ^ (64 - s) < 2 ^ s := by
    rw [Nat.div_lt_iff_lt_mul (Nat.pow_pos (by decide)), Nat.mul_comm, ← e64]; exact hlo
  have h3 : lo * 2 ^ s / 18446744073709551616 = lo / 2 ^ (64 - s) := by
    rw [e64, Nat.mul_div_mul_right _ _ hp]
  have h4 := Nat.div_add_mod (lo * 2 ^ s) 18446744073709551616
  have h5 : (hi + 1) * 2 ^ s ≤ y * 2 ^ s := Nat.mul_le_mul_right _ hh
  rw [Nat.add_mul] at h5
  refine ⟨by omega, h2, ?_, by omega⟩
  rw [Nat.add_mul, Nat.add_mul, ← h3, Nat.mul_right_comm]
  omega
theorem d64_mid {D s d1 d0 n u u0 : Nat} (hDe : D = d1 * 4294967296 + d0) (hd1 : 2147483648 ≤ d1 ∧ d1 < 4294967296) (hd0 : d0 < 4294967296) (hu0 : u0 < 4294967296) (hs63 : s ≤ 63) (q1 m2 : Nat) (hr1 : m2 < D) (hq1 : q1 < 4294967296)
    (hr3 : IntKind.u64.wrap ((IntKind.u64.wrap ((IntKind.u64.wrap ((n : Int) * 4294967296)) + (u : Int))) - (IntKind.u64.wrap ((q1 : Int) * (D : Int)))) = (m2 : Int)) :
    Ev (fun k => bits_Div64.j2 k (D : Int) (s : Int) (d1 : Int) (d0 : Int) (n : Int) (u : Int) (u0 : Int) (q1 : Int)) (((q1 * 4294967296 + (m2 * 4294967296 + u0) / D : Nat) : Int), (((m2 * 4294967296 + u0) % D / 2 ^ s : Nat) : Int)) := by
  have hD1 : D < 18446744073709551616 := by omega
  have hD : 0 < D := by omega
  have q64 : ∀ a : Nat, a < D → a / d1 < 18446744073709551616 ∧ a / d1 * d1 < 18446744073709551616 ∧ a / d1 * d1 + a % d1 = a ∧ a % d1 < 4294967296 := fun a ha => by
    have h1 := Nat.div_le_self a d1
    have h2 := Nat.div_add_mod a d1
    have h3 := Nat.mod_lt a (show 0 < d1 by omega)
    rw [Nat.mul_comm] at h2
    exact ⟨by omega, by omega, h2, by omega⟩
  have qw : ∀ a : Nat, a < D → IntKind.u64.wrap (Int.tdiv (a : Int) (d1 : Int)) = ((a / d1 : Nat) : Int) ∧ IntKind.u64.wrap ((a : Int) - IntKind.u64.wrap (((a / d1 : Nat) : Int) * (d1 : Int))) = ((a % d1 : Nat) : Int) := fun a ha => by
    obtain ⟨h1, h2, h3, h4⟩ := q64 a ha
    refine ⟨by rw [tdiv_nat, u64_nat h1], ?_⟩
    rw [← Int.natCast_mul, u64_nat h2]
    rw [show ((a : Int) - ((a / d1 * d1 : Nat) : Int)) = ((a % d1 : Nat) : Int) by omega]
    exact u64_nat (by omega)
  obtain ⟨w1, w2, w3, w4⟩ := q64 m2 hr1
  refine Ev.step (f := fun k => bits_Div64.l1 k (D : Int) (s : Int) (d1 : Int) (d0 : Int) (u0 : Int) (q1 : Int) ((m2 % d1 : Nat) : Int) (m2 : Int) ((m2 / d1 : Nat) : Int)) (fun k => ?_) ?_
  · simp only [bits_Div64.j2]
    rw [if_neg (by omega), hr3, (qw m2 hr1).1, (qw m2 hr1).2]
  · refine d64_l1 hDe hd1 hd0 hu0 hr1 q1 _ ?_ (m2 / d1) (m2 / d1) (m2 % d1) (Nat.le_refl _) w3 w4 ?_ ?_
    · have v1 := Nat.mod_lt (m2 * 4294967296 + u0) hD
      have v2 := Nat.div_add_mod (m2 * 4294967296 + u0) D
      rw [Nat.mul_comm] at v2
      have v3 := d64_rest m2 u0 ((m2 * 4294967296 + u0) / D) D (by omega) (by omega)
      rw [show m2 * 4294967296 + u0 - (m2 * 4294967296 + u0) / D * D = (m2 * 4294967296 + u0) % D by omega] at v3
      have v4 : (m2 * 4294967296 + u0) / D < 4294967296 := div_lt_base hr1 hu0
      rw [v3, shr_nat _ _ (by omega), show ((q1 : Int) * 4294967296) = ((q1 * 4294967296 : Nat) : Int) by omega, u64_nat (by omega), ← Int.natCast_add, u64_nat (by omega)]
    · rw [hDe]; exact est_floor (by omega) hu0
    · exact est_start (B := 4294967296) (d0 := d0) (by omega) hd0 (by omega)
theorem d64_ev (hi lo y : Nat) (hlo : lo < 18446744073709551616) (hy : y < 18446744073709551616) (hh : hi < y) :
    Ev (fun k => bits_Div64.f k (hi : Int) (lo : Int) (y : Int)) ((((hi * 18446744073709551616 + lo) / y : Nat) : Int), (((hi * 18446744073709551616 + lo) % y : Nat) : Int)) := by
  unfold bits_Div64.f
  have c1 : ¬ (y : Int) = 0 := by omega
  have c2 : ¬ (y : Int) ≤ (hi : Int) := by omega
  simp only [if_neg c1, if_neg c2]
  by_cases hz : hi = 0
  · subst hz
    have c3 : ((0 : Nat) : Int) = 0 := rfl
    simp only [if_pos c3]
    rw [tdiv_nat, tmod_nat, u64_nat (Nat.lt_of_le_of_lt (Nat.div_le_self _ _) hlo), Nat.zero_mul, Nat.zero_add]
    exact Ev.now _
  have c3 : ¬ (hi : Int) = 0 := by omega
  simp only [if_neg c3]
  obtain ⟨m, hm, hm64, hlen⟩ := len64_ev y hy
  have hm0 : 0 < m := hm.pos (by omega)
  obtain ⟨s, hs⟩ : ∃ s, s = 64 - m := ⟨_, rfl⟩
  have hs63 : s ≤ 63 := by omega
  have hD1 : y * 2 ^ s < 18446744073709551616 := by
    have := Nat.mul_lt_mul_of_pos_right hm.1 (show 0 < 2 ^ s from Nat.pow_pos (by decide))
    rwa [← Nat.pow_add, show m + s = 64 by omega] at this
  have hD0 : 9223372036854775808 ≤ y * 2 ^ s := by
    have h0 : 2 ^ (m - 1) ≤ y := by rcases hm.2 with h | h <;> omega
    have := Nat.mul_le_mul_right (2 ^ s) h0
    rwa [← Nat.pow_add, show m - 1 + s = 63 by omega] at this
  obtain ⟨n1, n2, n3, n4⟩ := norm_num64 hs63 hlo hh hD1
  have f1 : (fun _ : Unit => wrap64 (64 - (m : Int))) = fun _ => (s : Int) := by funext _; rw [wrap64_id (by omega)]; omega
  have f2 : (fun _ : Unit => IntKind.u64.wrap (s : Int)) = fun _ => (s : Int) := by funext _; exact u64_nat (by omega)
  have f3 : (fun _ : Unit => IntKind.u64.wrap (64 - (s : Int))) = fun _ => ((64 - s : Nat) : Int) := by funext _; rw [show (64 - (s : Int)) = ((64 - s : Nat) : Int) by omega]; exact u64_nat (by omega)
  have g1 := congrFun f1 (); have g2 := congrFun f2 (); have g3 := congrFun f3 ()
  try dsimp only at g1 g2 g3
  have e1 : shl .u64 (y : Int) (s : Int) = ((y * 2 ^ s : Nat) : Int) := by rw [shl_nat _ _ (by omega), Nat.mod_eq_of_lt hD1]
  have e2 : shl .u64 (hi : Int) (s : Int) = ((hi * 2 ^ s : Nat) : Int) := by rw [shl_nat _ _ (by omega), Nat.mod_eq_of_lt n1]
  have e3 : shr .u64 (lo : Int) ((64 - s : Nat) : Int) = ((lo / 2 ^ (64 - s) : Nat) : Int) := shr_nat _ _ (by omega)
  have e4 : shl .u64 (lo : Int) (s : Int) = ((lo * 2 ^ s % 18446744073709551616 : Nat) : Int) := shl_nat _ _ (by omega)
  have e5 : bits .or .u64 ((hi * 2 ^ s : Nat) : Int) ((lo / 2 ^ (64 - s) : Nat) : Int) = ((hi * 2 ^ s + lo / 2 ^ (64 - s) : Nat) : Int) := or_nat s _ _ (by omega) n1 (Nat.dvd_mul_left _ _) n2
  have hX : (hi * 18446744073709551616 + lo) / y = (hi * 18446744073709551616 + lo) * 2 ^ s / (y * 2 ^ s) := (Nat.mul_div_mul_right _ _ (Nat.pow_pos (by decide))).symm
  have hX2 : (hi * 18446744073709551616 + lo) % y = (hi * 18446744073709551616 + lo) * 2 ^ s % (y * 2 ^ s) / 2 ^ s := by rw [Nat.mul_mod_mul_right, Nat.mul_div_cancel _ (Nat.pow_pos (by decide))]
  rw [hX, hX2, n3]
  clear hX hX2 n3
  unfold bits_LeadingZeros64.f
  refine Ev.bind (Ev.bind hlen (Ev.now _)) ?_
  refine Ev.congr (fun k => by rw [g1, g2, if_pos (Int.natCast_nonneg _), g3, if_pos (Int.natCast_nonneg _), e1, e2, e3, e4, e5]) ?_
  clear g1 g2 g3 e1 e2 e3 e4 e5 f1 f2 f3
  have hL : lo * 2 ^ s % 18446744073709551616 < 18446744073709551616 := Nat.mod_lt _ (by decide)
  generalize lo * 2 ^ s % 18446744073709551616 = L at *
  generalize hi * 2 ^ s + lo / 2 ^ (64 - s) = n at *
  generalize y * 2 ^ s = D at *
  clear n1 n2
  refine Ev.congr (fun k => by rw [low32_nat D hD1, low32_nat L hL, show ((D : Int) / 4294967296) = ((D / 4294967296 : Nat) : Int) from rfl, show ((L : Int) / 4294967296) = ((L / 4294967296 : Nat) : Int) from rfl]) ?_
  have hd1 : 2147483648 ≤ D / 4294967296 ∧ D / 4294967296 < 4294967296 := by omega
  have hd0 : D % 4294967296 < 4294967296 := by omega
  have hDe : D = D / 4294967296 * 4294967296 + D % 4294967296 := by omega
  have hu : L / 4294967296 < 4294967296 := by omega
  have hu0 : L % 4294967296 < 4294967296 := by omega
  have hLe : n * 18446744073709551616 + L = (n * 4294967296 + L / 4294967296) * 4294967296 + L % 4294967296 := by omega
  rw [hLe]
  clear hLe
  generalize D / 4294967296 = d1 at *
  generalize D % 4294967296 = d0 at *
  generalize L / 4294967296 = u at *
  generalize L % 4294967296 = u0 at *
  have hD : 0 < D := by omega
  obtain ⟨t1, t2⟩ := two_steps (n := n) (u := u) (u0 := u0) (B := 4294967296) hD
  rw [t1, t2]
  clear t1 t2
  have q64 : ∀ a : Nat, a < D → a / d1 < 18446744073709551616 ∧ a / d1 * d1 < 18446744073709551616 ∧ a / d1 * d1 + a % d1 = a ∧ a % d1 < 4294967296 := fun a ha => by
    have h1 := Nat.div_le_self a d1
    have h2 := Nat.div_add_mod a d1
    have h3 := Nat.mod_lt a (show 0 < d1 by omega)
    rw [Nat.mul_comm] at h2
    exact ⟨by omega, by omega, h2, by omega⟩
  have qw : ∀ a : Nat, a < D → IntKind.u64.wrap (Int.tdiv (a : Int) (d1 : Int)) = ((a / d1 : Nat) : Int) ∧ IntKind.u64.wrap ((a : Int) - IntKind.u64.wrap (((a / d1 : Nat) : Int) * (d1 : Int))) = ((a % d1 : Nat) : Int) := fun a ha => by
    obtain ⟨h1, h2, h3, h4⟩ := q64 a ha
    refine ⟨by rw [tdiv_nat, u64_nat h1], ?_⟩
    rw [← Int.natCast_mul, u64_nat h2]
    rw [show ((a : Int) - ((a / d1 * d1 : Nat) : Int)) = ((a % d1 : Nat) : Int) by omega]
    exact u64_nat (by omega)
  have c4 : ¬ (d1 : Int) = 0 := by omega
  refine Ev.congr (fun k => by rw [if_neg c4, (qw n n4).1, (qw n n4).2]) ?_
  obtain ⟨p1, p2, p3, p4⟩ := q64 n n4
  refine d64_l0 hDe hd1 hd0 hu n4 _ ?_ (n / d1) (n / d1) (n % d1) (Nat.le_refl _) p3 p4 ?_ ?_
  · have hr1 := Nat.mod_lt (n * 4294967296 + u) hD
    have hr2 := Nat.div_add_mod (n * 4294967296 + u) D
    rw [Nat.mul_comm] at hr2
    have hr3 := d64_rest n u ((n * 4294967296 + u) / D) D (by omega) (by omega)
    rw [show n * 4294967296 + u - (n * 4294967296 + u) / D * D = (n * 4294967296 + u) % D by omega] at hr3
    have hq1 : (n * 4294967296 + u) / D < 4294967296 := div_lt_base n4 hu
    exact d64_mid hDe hd1 hd0 hu0 hs63 _ _ hr1 hq1 hr3
  · rw [hDe]; exact est_floor (by omega) hu
  · exact est_start (B := 4294967296) (d0 := d0) (by omega) hd0 (by omega)
end Go.Proofs.Ytcbmdpecnmbhjaa.M
end
section
namespace Go.Proofs.Ytcbmdpecnmbhjaa.M
open Go.RowKit Go.Proofs.Ytcbmdpecnmbhjaa.G Go.Proofs.YtcbmdpecnmbhjaaV.PrintWords Go.Proofs.YtcbmdpecnmbhjaaV.PrintLast Go.Proofs.YtcbmdpecnmbhjaaV.PrintMore Go.Proofs.Ytcbmdpecnmbhjaa.PA
set_option linter.unusedVariables false
set_option linter.unusedSimpArgs false
theorem set_mid (acc r : List Int) (c y : Int) (p : Nat) (h : p = acc.length) : (acc ++ c :: r).set p y = acc ++ y :: r := by
  subst h
  rw [List.set_append_right _ _ (Nat.le_refl _), Nat.sub_self]
  rfl
theorem rd_mid (acc r : List Int) (c : Int) (p : Nat) (h : p = acc.length) : rd (acc ++ c :: r) (p : Int) = c := by
  subst h
  simp [rd_nat, List.getD_eq_getElem?_getD]
theorem sh64 (p : Nat) (hp : 0 < p ∧ p < 64) : IntKind.u64.wrap (64 - (p : Int)) = ((64 - p : Nat) : Int) := by
  rw [wrap_u64_id (by omega)]
  omega
theorem place_up (p x c : Nat) (hp : p < 64) (hx : x < B64) (hc : c < 2 ^ p) : bits .or .u64 (c : Int) (shl .u64 (x : Int) (p : Int)) = (((x * 2 ^ p + c) % B64 : Nat) : Int) := by
  have hs := pow_split 64 p (by omega)
  have hK : 0 < 2 ^ (64 - p) := Nat.pow_pos (by omega)
  have hmod : x * 2 ^ p % 18446744073709551616 = x % 2 ^ (64 - p) * 2 ^ p := by
    rw [show 18446744073709551616 = 2 ^ 64 from rfl, hs, Nat.mul_mod_mul_right]
  have hlt := Nat.mod_lt x hK
  have h1 := Nat.mul_le_mul_right (2 ^ p) (show x % 2 ^ (64 - p) + 1 ≤ 2 ^ (64 - p) from hlt)
  rw [Nat.add_mul, Nat.one_mul, ← hs] at h1
  have h2 : (2 : Nat) ^ 64 = 18446744073709551616 := rfl
  rw [h2] at h1
  have h3 : (x * 2 ^ p + c) % B64 = c + x % 2 ^ (64 - p) * 2 ^ p := by
    unfold B64
    rw [Nat.add_mod, hmod, Nat.mod_eq_of_lt (a := c) (by omega), Nat.mod_eq_of_lt (by omega), Nat.add_comm]
  rw [shl_nat _ _ (by omega), hmod, or_nat' p _ _ (by omega) (by omega) (Nat.dvd_mul_left _ _) hc, h3]
theorem up_carry (p x c : Nat) (hp : p < 64) (hc : c < 2 ^ p) : (x * 2 ^ p + c) / B64 = x / 2 ^ (64 - p) := by
  rw [B64_pow, pow_split 64 p (by omega), Nat.mul_comm (2 ^ (64 - p)), ← Nat.div_div_eq_div_mul, Nat.add_comm, Nat.add_mul_div_right _ _ (Nat.pow_pos (by omega)), Nat.div_eq_of_lt hc, Nat.zero_add]
theorem wadd (i d : Nat) (h : i + d ≤ 9223372036854775807) : wrap64 ((i : Int) + (d : Int)) = ((i + d : Nat) : Int) := by
  rw [wrap64_id (by omega)]
  omega
theorem ileft_loop (a : List Int) (ha : Dig B64 a) (la : a.length ≤ 1073741824) (N : Int) (d p : Nat) (hw : Unit → wrap64 (Int.tdiv N 64) = (d : Int)) (hd : d ≤ 1000000) (hp : p < 64) (rest : List Int) : ∀ (i : Nat) (acc : List Int) (c : Nat), a.drop i = rest → i ≤ a.length → c < 2 ^ p → acc.length = i + d →
    Ev (fun k => impl_nat_left.l0 k N (acc ++ (c : Int) :: List.replicate rest.length 0) (p : Int) a (a.length : Int) (i : Int)) (trimL (acc ++ sl B64 (2 ^ p) c rest)) := by
  induction rest with
  | nil =>
    intro i acc c hr hi hc hac
    have hlen := congrArg List.length hr
    rw [List.length_drop] at hlen
    simp at hlen
    refine Ev.step (f := fun _ => some (trimL (acc ++ sl B64 (2 ^ p) c []))) (fun k => ?_) (Ev.now _)
    simp only [impl_nat_left.l0]
    rw [if_neg (by omega)]
    rfl
  | cons x rest ih =>
    intro i acc c hr hi hc hac
    have hlen := congrArg List.length hr
    rw [List.length_drop] at hlen
    simp at hlen
    have hx : rd a (i : Int) = x := rd_of_drop hr
    have dx := ha.rd B64_pos (i : Int)
    rw [hx] at dx
    obtain ⟨y, rfl⟩ : ∃ y : Nat, x = (y : Int) := ⟨x.toNat, by omega⟩
    have hy : y < B64 := by omega
    have e1 := fun _ : Unit => wadd i d (by omega)
    have e5 := fun _ : Unit => wadd i 1 (by omega)
    have e6 := fun _ : Unit => wadd (i + d) 1 (by omega)
    have g1 : (i : Int) < (a.length : Int) := by omega
    have g2 : 0 ≤ (i : Int) := by omega
    have g3 : 0 ≤ ((i + d : Nat) : Int) := by omega
    have g4 : 0 ≤ (p : Int) := by omega
    have g6 : 0 ≤ ((i + d + 1 : Nat) : Int) := by omega
    have ll : ∀ z : Int, (acc ++ z :: List.replicate ((y : Int) :: rest).length 0).length = i + d + rest.length + 2 := by
      intro z
      simp
      omega
    have g5 : ((i + d : Nat) : Int) < ((i + d + rest.length + 2 : Nat) : Int) := by omega
    have g7 : ((i + d + 1 : Nat) : Int) < ((i + d + rest.length + 2 : Nat) : Int) := by omega
    have l2 : ∀ z : Int, i + d + 1 = (acc ++ [z]).length := by
      intro z
      simp
      omega
    have hi2 : i + 1 ≤ a.length := by omega
    have hac2 : ∀ z : Int, (acc ++ [z]).length = i + 1 + d := by
      intro z
      simp
      omega
    have hsp := fun h : 0 < p => sh64 p ⟨h, hp⟩
    have hc2 : (y * 2 ^ p + c) / B64 < 2 ^ p := carry_lt hy hc
    have huc := up_carry p y c hp hc
    have hpu := place_up p y c hp hy hc
    have hz : y / 2 ^ (64 - p) < B64 := Nat.lt_of_le_of_lt (Nat.div_le_self _ _) hy
    have e4 := or_nat' 0 (y / 2 ^ (64 - p)) 0 (by omega) (by unfold B64 at hz; exact hz) (by simp) (by omega)
    rw [Nat.zero_add] at e4
    have h64 : 64 - p ≤ 64 := Nat.sub_le _ _
    have h0 : p = 0 → (y * 2 ^ p + c) / B64 = 0 := by
      intro h0
      subst h0
      have : c = 0 := by omega
      rw [this, Nat.pow_zero, Nat.mul_one, Nat.add_zero, Nat.div_eq_of_lt hy]
    have hpp : ¬ p = 0 → (p : Int) > 0 := by omega
    have hpn : p = 0 → ¬ (p : Int) > 0 := by omega
    have hp0 : ¬ p = 0 → 0 < p := by omega
    have hpk : 0 ≤ ((64 - p : Nat) : Int) := by omega
    have hr0 : ∀ z : Int, acc ++ z :: List.replicate ((y : Int) :: rest).length 0 = (acc ++ [z]) ++ 0 :: List.replicate rest.length 0 := by
      intro z
      simp [List.replicate_succ]
    have hih := ih (i + 1) (acc ++ [(((y * 2 ^ p + c) % B64 : Nat) : Int)]) ((y * 2 ^ p + c) / B64) (drop_succ_of hr) hi2 hc2 (hac2 _)
    refine Ev.step (fun k => ?_) (ev_to hih (by simp [sl]))
    simp only [impl_nat_left.l0]
    rw [if_pos g1, if_pos g2, if_pos g1, hw (), e1 (), if_pos g3, if_pos (by rw [ll]; exact g5), if_pos g4, Option.bind_some, Int.toNat_natCast, rd_mid _ _ _ _ hac.symm, set_mid _ _ _ _ _ hac.symm, hx, hpu]
    by_cases hpz : p = 0
    · rw [if_neg (hpn hpz), show (1 : Int) = ((1 : Nat) : Int) from rfl, e5 (), h0 hpz, hr0]
      rfl
    · rw [if_pos (hpp hpz), show (1 : Int) = ((1 : Nat) : Int) from rfl, e6 (), e5 (), if_pos g6, if_pos (by rw [ll]; exact g7), sh64 _ ⟨hp0 hpz, hp⟩, if_pos hpk, shr_nat _ _ h64, Int.toNat_natCast, hr0, rd_mid _ _ _ _ (l2 _), set_mid _ _ _ _ _ (l2 _), huc]
      rw [show (0 : Int) = ((0 : Nat) : Int) from rfl, e4]
theorem rep_split (n m : Nat) : List.replicate (n + (m + 1)) (0 : Int) = List.replicate n 0 ++ ((0 : Nat) : Int) :: List.replicate m 0 := by
  induction n with
  | zero => rw [Nat.zero_add, List.replicate_succ]; rfl
  | succ n ih => rw [show n + 1 + (m + 1) = (n + (m + 1)) + 1 by omega, List.replicate_succ, ih, List.replicate_succ]; rfl
theorem ileft_ev (a : List Int) (ha : Dig B64 a) (la : a.length ≤ 1048576) (n : Nat) (hn : n ≤ 1000000) :
    ∃ r, Ev (fun k => impl_nat_left.f k a (n : Int)) r ∧ Dig B64 r ∧ Norm r ∧ val B64 r = val B64 a * 2 ^ n := by
  have hp : n % 64 < 64 := Nat.mod_lt _ (by omega)
  have hP : 2 ^ (n % 64) ≤ B64 := by rw [B64_pow]; exact Nat.pow_le_pow_right (by omega) (by omega)
  have hP0 : 0 < 2 ^ (n % 64) := Nat.pow_pos (by omega)
  have hd := Nat.div_le_self n 64
  unfold impl_nat_left.f
  by_cases h0 : (a.length : Int) = 0
  · have : a = [] := List.eq_nil_of_length_eq_zero (by omega)
    subst this
    refine ⟨[], ?_, Dig.nil _, norm_nil, by simp [val]⟩
    exact Ev.now _
  have h := ileft_loop a ha (by omega) (n : Int) (n / 64) (n % 64) (fun _ => wtdiv n 64 (by omega)) (by omega) hp a 0 (List.replicate (n / 64) 0) 0 rfl (by omega) hP0 (by simp)
  refine ⟨_, Ev.congr (fun k => ?_) h, ((Dig.zeros B64_pos _).append (sl_dig B64_pos hP _ _ ha hP0)).trim, norm_trim _, ?_⟩
  · rw [if_neg h0, show ((64 : Int)) = ((64 : Nat) : Int) from rfl, wtdiv n 64 (by omega), wtmod n 64 (by omega), wrap64_id (n := (a.length : Int) + ((n / 64 : Nat) : Int)) (by omega), wrap64_id (by omega), if_pos (by omega), if_pos (by omega)]
    rw [show ((a.length : Int) + ((n / 64 : Nat) : Int) + 1).toNat = n / 64 + (a.length + 1) by omega, rep_split]
    rfl
  · rw [val_trim, val_shl, sl_val, pow_mul_mod (val B64 a) 64 n, ← B64_pow]
    rfl
theorem place_down (p x y : Nat) (hp : 0 < p ∧ p < 64) (hx : x < B64) : bits .or .u64 ((x / 2 ^ p : Nat) : Int) (shl .u64 (y : Int) ((64 - p : Nat) : Int)) = (((x + B64 * (y % 2 ^ p)) / 2 ^ p : Nat) : Int) := by
  have hs := pow_split 64 (64 - p) (by omega)
  rw [show 64 - (64 - p) = p by omega] at hs
  have hP : 0 < 2 ^ p := Nat.pow_pos (by omega)
  have hmod : y * 2 ^ (64 - p) % 18446744073709551616 = y % 2 ^ p * 2 ^ (64 - p) := by
    rw [show 18446744073709551616 = 2 ^ 64 from rfl, hs, Nat.mul_mod_mul_right]
  have hlt := Nat.mod_lt y hP
  have h1 := Nat.mul_le_mul_right (2 ^ (64 - p)) (show y % 2 ^ p + 1 ≤ 2 ^ p from hlt)
  rw [Nat.add_mul, Nat.one_mul, ← hs] at h1
  have h2 : (2 : Nat) ^ 64 = 18446744073709551616 := rfl
  rw [h2] at h1
  have hK : 0 < 2 ^ (64 - p) := Nat.pow_pos (by omega)
  have hxd : x / 2 ^ p < 2 ^ (64 - p) := by
    refine Nat.div_lt_of_lt_mul ?_
    rw [← hs, h2]
    exact hx
  rw [shl_nat _ _ (by omega), hmod, or_nat' (64 - p) _ _ (by omega) (by omega) (Nat.dvd_mul_left _ _) hxd]
  congr 1
  rw [B64_pow, hs, Nat.mul_assoc, Nat.add_mul_div_left _ _ hP, Nat.mul_comm (2 ^ (64 - p))]
theorem iright_loop (l : List Int) (ha : Dig B64 l) (la : l.length ≤ 1073741824) (p : Nat) (hp : p < 64) (rest : List Int) : ∀ (i : Nat) (acc : List Int), l.drop i = rest → i ≤ l.length → acc.length = i →
    Ev (fun k => impl_nat_right.l0 k l (acc ++ List.replicate rest.length 0) (p : Int) (l.length : Int) (i : Int)) (trimL (acc ++ sr B64 (2 ^ p) rest)) := by
  have hP0 : 0 < 2 ^ p := Nat.pow_pos (by omega)
  induction rest with
  | nil =>
    intro i acc hr hi hac
    have hlen := congrArg List.length hr
    rw [List.length_drop] at hlen
    simp at hlen
    refine Ev.step (f := fun _ => some (trimL (acc ++ sr B64 (2 ^ p) []))) (fun k => ?_) (Ev.now _)
    simp only [impl_nat_right.l0]
    rw [if_neg (by omega)]
    rfl
  | cons x rest ih =>
    intro i acc hr hi hac
    have hlen := congrArg List.length hr
    rw [List.length_drop] at hlen
    simp at hlen
    have hx : rd l (i : Int) = x := rd_of_drop hr
    have dx := ha.rd B64_pos (i : Int)
    have dy := ha.rd B64_pos ((i : Int) + 1)
    rw [hx] at dx
    have hy : rd l ((i : Int) + 1) = rd rest 0 := by
      rw [← drop_succ_of hr]
      show l.getD _ 0 = (l.drop (i + 1)).getD 0 0
      simp [List.getD_eq_getElem?_getD]
    rw [hy] at dy
    obtain ⟨u, rfl⟩ : ∃ u : Nat, x = (u : Int) := ⟨x.toNat, by omega⟩
    obtain ⟨v, hv⟩ : ∃ v : Nat, rd rest 0 = (v : Int) := ⟨(rd rest 0).toNat, by omega⟩
    rw [hv] at dy hy
    have hu : u < B64 := by omega
    have e0 : acc ++ List.replicate ((u : Int) :: rest).length 0 = acc ++ (0 : Int) :: List.replicate rest.length 0 := by simp [List.replicate_succ]
    have l1 : (acc ++ (0 : Int) :: List.replicate rest.length 0).length = l.length := by simp; omega
    have g1 : (i : Int) < (l.length : Int) := by omega
    have g2 : 0 ≤ (i : Int) := by omega
    have g4 : 0 ≤ (p : Int) := by omega
    have g6 : 0 ≤ ((i + 1 : Nat) : Int) := by omega
    have hp64 : p ≤ 64 := by omega
    have hpp : ¬ p = 0 → (p : Int) > 0 := by omega
    have hp0 : ¬ p = 0 → 0 < p := by omega
    have hpk : 0 ≤ ((64 - p : Nat) : Int) := by omega
    have e5 := fun _ : Unit => wadd i 1 (by omega)
    rw [e0]
    refine Ev.step (fun k => ?_) (ev_to (ih (i + 1) (acc ++ [(((u + B64 * (v % 2 ^ p)) / 2 ^ p : Nat) : Int)]) (drop_succ_of hr) (by omega) (by simp; omega)) (by simp [sr, hv]))
    simp only [impl_nat_right.l0]
    rw [if_pos g1, if_pos g2, if_pos g1, if_pos g4, if_pos (by rw [l1]; exact g1), Option.bind_some, Int.toNat_natCast, set_mid _ _ _ _ _ hac.symm, hx, shr_nat _ _ hp64]
    by_cases h0 : p = 0
    · subst h0
      rw [if_neg (by decide), show (1 : Int) = ((1 : Nat) : Int) from rfl, e5 ()]
      simp [Nat.mod_one]
    · rw [if_pos (hpp h0), show (1 : Int) = ((1 : Nat) : Int) from rfl, e5 ()]
      by_cases h1 : ((i + 1 : Nat) : Int) < (l.length : Int)
      · rw [if_pos h1, if_pos g6, sh64 _ ⟨hp0 h0, hp⟩, if_pos hpk, rd_mid _ _ _ _ hac.symm, set_mid _ _ _ _ _ hac.symm, show ((i + 1 : Nat) : Int) = (i : Int) + 1 from rfl, hy, place_down p u v ⟨hp0 h0, hp⟩ hu]
        simp
      · rw [if_neg h1]
        have h2 : rest = [] := List.eq_nil_of_length_eq_zero (by omega)
        subst h2
        have h3 : v = 0 := by
          have : rd ([] : List Int) 0 = 0 := rfl
          omega
        subst h3
        simp
theorem iright_ev (a : List Int) (ha : Dig B64 a) (la : a.length ≤ 1048576) (n : Nat) (hn : n ≤ 1000000) :
    ∃ r, Ev (fun k => impl_nat_right.f k a (n : Int)) r ∧ Dig B64 r ∧ Norm r ∧ val B64 r = val B64 a / 2 ^ n := by
  have hp : n % 64 < 64 := Nat.mod_lt _ (by omega)
  have hP0 : 0 < 2 ^ (n % 64) := Nat.pow_pos (by omega)
  have hd := Nat.div_le_self n 64
  have hdv : 2 ^ (n % 64) ∣ B64 := by rw [B64_pow]; exact Nat.pow_dvd_pow 2 (by omega)
  unfold impl_nat_right.f
  simp only [show ((64 : Int)) = ((64 : Nat) : Int) from rfl, wtdiv n 64 (by omega), wtmod n 64 (by omega)]
  by_cases h0 : ((n / 64 : Nat) : Int) ≥ (a.length : Int)
  · simp only [if_pos h0]
    refine ⟨[], Ev.now _, Dig.nil _, norm_nil, ?_⟩
    rw [pow_div_mod _ 64 n, ← B64_pow, ← val_drop B64 B64_pos ha, List.drop_eq_nil_of_le (by omega)]
    simp [val]
  · simp only [if_neg h0]
    have h := iright_loop (a.drop (n / 64)) (ha.drop _) (by rw [List.length_drop]; omega) (n % 64) hp (a.drop (n / 64)) 0 [] rfl (by omega) rfl
    refine ⟨_, Ev.congr (fun k => ?_) h, ?_, norm_trim _, ?_⟩
    · rw [if_pos (by omega), if_pos (by omega), Option.bind_some, Int.toNat_natCast, if_pos (by omega), if_pos (by rw [List.length_drop]; omega)]
      rfl
    · rw [List.nil_append]
      exact (sr_dig hP0 _ (ha.drop _)).trim
    · rw [List.nil_append, val_trim, sr_val hP0 hdv, val_drop B64 B64_pos ha, pow_div_mod _ 64 n, ← B64_pow]
def shN (v : Nat) (n : Int) : Nat := if n ≥ 0 then v * 2 ^ n.toNat else v / 2 ^ (-n).toNat
def shOk (a : List Int) (n : Int) : Prop := a.length ≤ 1200 ∧ ¬ (n > 80000) ∧ ¬ (n < -80000)
instance (a : List Int) (n : Int) : Decidable (shOk a n) := by unfold shOk; infer_instance
theorem spec_NatShift_ev (a : List Int) (n : Int) (ha : Dig B64 a) (la : a.length ≤ 1048576) :
    ∃ r, Ev (fun k => spec_NatShift.f k a n) r ∧ IsNat r (if shOk a n then shN (val B64 a) n else 0) ∧ r.length ≤ 1048576 * 8 := by
  have hno : Ev (fun k => spec_NatShift.j0 k a n true) [] := Ev.step (f := fun _ => some []) (fun k => by simp [spec_NatShift.j0]) (Ev.now _)
  unfold spec_NatShift.f
  simp only [fits_eq, Option.bind_some]
  by_cases h : shOk a n
  · obtain ⟨h1, h2, h3⟩ := h
    simp only [h1, decide_true, if_true, if_neg h2, decide_eq_false h3]
    rw [if_pos (show shOk a n from ⟨h1, h2, h3⟩)]
    have l1 := inL_length a
    by_cases h4 : n ≥ 0
    · obtain ⟨m, rfl⟩ : ∃ m : Nat, n = (m : Int) := ⟨n.toNat, by omega⟩
      obtain ⟨r, hr, hd, hn, hv, hl⟩ := sleft_ev (inL a) (inL_dig ha) (by omega) m (by omega)
      rw [inL_val ha] at hv
      refine ⟨outL r, Ev.step (f := fun k => (spec_l1In.f k a).bind fun t395 => ((spec_l1Left.f k t395 (m : Int)).bind fun t398 => ((spec_l1Out.f k t398).bind fun t401 => (some t401)))) (fun k => ?_) (Ev.bind (in_ev a ha (by omega)) (Ev.bind hr (Ev.bind (out_ev r hd (by omega)) (Ev.now _)))), IsNat.out hd hn (by rw [hv]; unfold shN; rw [if_pos h4, Int.toNat_natCast]), ?_⟩
      · simp only [spec_NatShift.j0]
        rw [if_neg (by decide), if_pos h4]
      · have := outL_length r
        omega
    · obtain ⟨m, hm⟩ : ∃ m : Nat, -n = (m : Int) := ⟨(-n).toNat, by omega⟩
      obtain ⟨r, hr, hd, hn, hv, hl⟩ := sright_ev (inL a) (inL_dig ha) (by omega) m (by omega)
      rw [inL_val ha] at hv
      refine ⟨outL r, Ev.step (f := fun k => (spec_l1In.f k a).bind fun t395 => ((spec_l1Right.f k t395 (m : Int)).bind fun t398 => ((spec_l1Out.f k t398).bind fun t401 => (some t401)))) (fun k => ?_) (Ev.bind (in_ev a ha (by omega)) (Ev.bind hr (Ev.bind (out_ev r hd (by omega)) (Ev.now _)))), IsNat.out hd hn (by rw [hv]; unfold shN; rw [if_neg h4, hm, Int.toNat_natCast]), ?_⟩
      · simp only [spec_NatShift.j0]
        rw [if_neg (by decide), if_neg h4, wrap64_id (by omega), hm]
      · have := outL_length r
        omega
  · rw [if_neg h]
    refine ⟨[], ?_, IsNat.nil, by simp⟩
    by_cases h1 : a.length ≤ 1200
    · simp only [h1, decide_true, if_true]
      by_cases h2 : n > 80000
      · simp only [if_pos h2]
        exact hno
      · simp only [if_neg h2]
        rw [decide_eq_true (by
          rcases Decidable.em (n < -80000) with h3 | h3
          · exact h3
          · exact absurd ⟨h1, h2, h3⟩ h)]
        exact hno
    · simp only [h1, decide_false, Bool.false_eq_true, if_false]
      exact hno
end Go.Proofs.Ytcbmdpecnmbhjaa.M
end
section
namespace Go.Proofs.Ytcbmdpecnmbhjaa.M
open Go.RowKit Go.Proofs.Ytcbmdpecnmbhjaa.G Go.Proofs.YtcbmdpecnmbhjaaV.PrintWords Go.Proofs.YtcbmdpecnmbhjaaV.PrintLast Go.Proofs.YtcbmdpecnmbhjaaV.PrintMore Go.Proofs.Ytcbmdpecnmbhjaa.PA
set_option linter.unusedVariables false
set_option linter.unusedSimpArgs false
theorem bits_of (v : Nat) (hv : v < 18446744073709551616) : ∃ m : Nat, IsBits v m ∧ m ≤ 64 := by
  obtain ⟨m, h1, h2, _⟩ := len64_ev v hv
  exact ⟨m, h1, h2⟩
theorem sbits_gen (a : List Int) (ha : Dig B32 a) (na : Norm a) (la : a.length ≤ 1073741824) :
    ∃ m : Nat, Ev (fun k => spec_l1Bits.f k a) (m : Int) ∧ IsBits (val B32 a) m ∧ m ≤ 32 * a.length := by
  unfold spec_l1Bits.f
  rcases Nat.eq_zero_or_pos a.length with h | h
  · obtain rfl := List.eq_nil_of_length_eq_zero h
    exact ⟨0, Ev.congr (fun k => by simp) (Ev.now _), IsBits.zero, by simp⟩
  · obtain ⟨b, x, rfl⟩ := snoc_of h
    have hx := norm_snoc.1 na
    have hx0 := ha x (by simp)
    have hb : Dig B32 b := fun y hy => ha y (by simp [hy])
    have hl : (b ++ [x]).length = b.length + 1 := by simp
    rw [hl] at la
    obtain ⟨m, hm, hm64⟩ := bits_of x.toNat (by unfold B32 at hx0; omega)
    have hm32 : m ≤ 32 := hm.le (by unfold B32 at hx0; omega)
    have hv : val B32 (b ++ [x]) / 2 ^ (32 * b.length) = x.toNat := by
      rw [val_snoc, Nat.pow_mul, ← B32_pow, Nat.add_mul_div_left _ _ (Nat.pow_pos B32_pos), Nat.div_eq_of_lt (val_lt hb), Nat.zero_add]
    refine ⟨32 * b.length + m, ?_, IsBits.up (s := 32 * b.length) (by rw [hv]; exact hm) (by rw [hv]; omega), by rw [hl]; omega⟩
    have hr : rd (b ++ [x]) ((b.length : Nat) : Int) = ((x.toNat : Nat) : Int) := by
      rw [rd_nat]; simp; omega
    have w1 : wrap64 (((b ++ [x]).length : Int) - 1) = ((b.length : Nat) : Int) := by rw [hl, wrap64_id (by omega)]; omega
    have w2 : wrap64 (32 * ((b.length : Nat) : Int)) = ((32 * b.length : Nat) : Int) := by rw [wrap64_id (by omega)]; omega
    have g1 : ¬ ((b ++ [x]).length : Int) = 0 := by omega
    have g2 : ((b.length : Nat) : Int) < ((b ++ [x]).length : Int) := by omega
    refine Ev.congr (fun k => ?_) (sbits_loop m x.toNat (32 * b.length) hm (by omega))
    rw [if_neg g1, w1, w2, if_pos (Int.natCast_nonneg _), if_pos g2, hr]
theorem val_mid (B : Nat) {l : List Int} {p : Nat} (h : p < l.length) : val B l = val B (l.take p) + B ^ p * ((rd l (p : Int)).toNat + B * val B (l.drop (p + 1))) := by
  have h1 := val_split B l p (by omega)
  have h2 : l.drop p = rd l (p : Int) :: l.drop (p + 1) := by
    rw [List.drop_eq_getElem_cons h]
    congr 1
    simp [rd_nat, h]
  rw [h2, val_cons] at h1
  exact h1
theorem dvd_low {lo P x s M : Nat} (hs : M ∣ P) (hlo : lo < P) (hP : 0 < P) (h : P * s ∣ lo + P * x) : lo = 0 ∧ s ∣ x := by
  have h1 : P ∣ lo + P * x := Nat.dvd_trans (Nat.dvd_mul_right _ _) h
  have h2 : P ∣ lo := (Nat.dvd_add_left (Nat.dvd_mul_right _ _)).1 h1
  have h3 : lo = 0 := by
    rcases Nat.eq_zero_or_pos lo with h | h
    · exact h
    · have := Nat.le_of_dvd h h2
      omega
  refine ⟨h3, ?_⟩
  rw [h3, Nat.zero_add] at h
  exact Nat.dvd_of_mul_dvd_mul_left hP h
theorem bit_set {q : List Int} {i : Nat} (hq : Dig B32 q) (hi : i / 32 < q.length) (hd : 2 ^ (i + 1) ∣ val B32 q) :
    bits .or .u64 (rd q ((i / 32 : Nat) : Int)) (shl .u64 1 ((i % 32 : Nat) : Int)) = (((rd q ((i / 32 : Nat) : Int)).toNat + 2 ^ (i % 32) : Nat) : Int) ∧ (rd q ((i / 32 : Nat) : Int)).toNat + 2 ^ (i % 32) < B32 := by
  have hp : i % 32 < 32 := Nat.mod_lt _ (by decide)
  have hr := hq.rd B32_pos ((i / 32 : Nat) : Int)
  have hv := val_mid B32 hi
  have e : 2 ^ (i + 1) = B32 ^ (i / 32) * 2 ^ (i % 32 + 1) := by
    rw [B32_pow, ← Nat.pow_mul, ← Nat.pow_add]; congr 1; omega
  have hlow := val_lt (hq.take (i / 32))
  rw [List.length_take, Nat.min_eq_left (by omega)] at hlow
  rw [e, hv] at hd
  obtain ⟨_, h2⟩ := dvd_low (Nat.dvd_refl _) hlow (Nat.pow_pos B32_pos) hd
  have h3 : 2 ^ (i % 32 + 1) ∣ B32 * val B32 (q.drop (i / 32 + 1)) := Nat.dvd_trans (by rw [B32_pow]; exact Nat.pow_dvd_pow 2 (by omega)) (Nat.dvd_mul_right _ _)
  have h4 : 2 ^ (i % 32 + 1) ∣ (rd q ((i / 32 : Nat) : Int)).toNat := (Nat.dvd_add_left h3).1 h2
  generalize hx : (rd q ((i / 32 : Nat) : Int)).toNat = x at *
  have hxe : rd q ((i / 32 : Nat) : Int) = (x : Int) := by omega
  have hxb : x < B32 := by omega
  generalize i % 32 = p at *
  have hpp : 2 ^ p < 18446744073709551616 := Nat.lt_of_le_of_lt (Nat.pow_le_pow_right (by decide) (show p ≤ 32 by omega)) (by decide)
  have hs : shl .u64 1 (p : Int) = ((2 ^ p : Nat) : Int) := by
    have := shl_nat 1 p (by omega)
    rw [Nat.one_mul, Nat.mod_eq_of_lt hpp] at this
    exact this
  have hB : B32 = 2 ^ (p + 1) * 2 ^ (32 - (p + 1)) := by rw [B32_pow, ← Nat.pow_add]; congr 1; omega
  have h5 : x + 2 ^ (p + 1) ≤ B32 := by
    obtain ⟨c, rfl⟩ := h4
    rw [hB] at hxb ⊢
    have := Nat.lt_of_mul_lt_mul_left hxb
    have := Nat.mul_le_mul_left (2 ^ (p + 1)) (show c + 1 ≤ 2 ^ (32 - (p + 1)) from this)
    rw [Nat.mul_add] at this
    omega
  have h6 : 2 ^ p < 2 ^ (p + 1) := Nat.pow_lt_pow_right (by decide) (by omega)
  rw [hxe, hs]
  exact ⟨or_nat (p + 1) x (2 ^ p) (by omega) (by unfold B32 at hxb; omega) h4 h6, by omega⟩
theorem wtdiv32 (i : Nat) (h : i ≤ 9223372036854775807) : wrap64 (Int.tdiv (i : Int) 32) = ((i / 32 : Nat) : Int) := by
  have h1 := wtdiv i 32 h
  rw [show ((32 : Nat) : Int) = 32 from rfl] at h1
  exact h1
theorem wtmod32 (i : Nat) (h : i ≤ 9223372036854775807) : IntKind.u64.wrap (Int.tmod (i : Int) 32) = ((i % 32 : Nat) : Int) := by
  have h1 := wtmod i 32 h
  rw [show ((32 : Nat) : Int) = 32 from rfl] at h1
  exact h1
theorem wtdiv32s (c : Nat) (h : c ≤ 1000000) : wrap64 (wrap64 (Int.tdiv (c : Int) 32) + 1) = ((c / 32 + 1 : Nat) : Int) := by
  have b1 : c ≤ 9223372036854775807 := by omega
  have b2 : c / 32 ≤ c := Nat.div_le_self _ _
  rw [wtdiv32 c b1, show ((c / 32 : Nat) : Int) + 1 = ((c / 32 + 1 : Nat) : Int) from rfl]
  exact wrap64_id (by omega)
theorem wpred (i : Nat) (h : i ≤ 9223372036854775807) : wrap64 ((i : Int) - 1) = (i : Int) - 1 := wrap64_id (by omega)
theorem wdiff (m n : Nat) (h : m ≤ 9223372036854775807) (h2 : n ≤ m) : wrap64 ((m : Int) - (n : Int)) = ((m - n : Nat) : Int) := by rw [wrap64_id (by omega)]; omega
theorem wdiff_neg (m n : Nat) (h : n ≤ 9223372036854775807) (h2 : m < n) : wrap64 ((m : Int) - (n : Int)) < 0 := by rw [wrap64_id (by omega)]; omega
theorem at_cmp {f : Nat → Option Int} {r t : Int} {k : Nat} (hm : ∀ k, LeO (f k) (f (k + 1))) (h : Ev f r) (hk : f k = some t) : t = r := by
  obtain ⟨K, hK⟩ := h
  have h1 := at_rounds (g := f) hm (Nat.le_max_left k K) hk
  have h2 := hK (max k K) (Nat.le_max_right _ _)
  rw [h2] at h1
  exact (Option.some.inj h1).symm
theorem cmpN_ge {x y : Nat} (h : y ≤ x) : cmpN x y ≥ 0 := by
  unfold cmpN
  rw [if_neg (by omega)]
  split <;> omega
theorem cmpN_lt {x y : Nat} (h : x < y) : ¬ cmpN x y ≥ 0 := by
  unfold cmpN
  rw [if_pos h]
  omega
theorem sdiv_loop (b : Nat) (hb : 0 < b) (n : Nat) (hn : n ≤ 1000000) (a : Nat) : ∀ (i : Nat) (rest q d : List Int), i ≤ n + 1 → Dig B32 rest → Norm rest → rest.length ≤ 1000000 → Dig B32 q → q.length = n / 32 + 1 → Dig B32 d → Norm d → d.length ≤ 1073741824 →
    (0 < i → val B32 d = b * 2 ^ (i - 1)) → val B32 q * b + val B32 rest = a → val B32 rest < b * 2 ^ i → 2 ^ i ∣ val B32 q →
    ∃ q' r', Ev (fun k => spec_l1Div.l0 k rest q d ((i : Int) - 1)) (q', r') ∧ Dig B32 q' ∧ Norm q' ∧ val B32 q' = a / b ∧ q'.length ≤ n / 32 + 1 ∧ Dig B32 r' ∧ Norm r' ∧ val B32 r' = a % b ∧ r'.length ≤ rest.length := by
  intro i
  induction i with
  | zero =>
    intro rest q d hi hr nr lr hq lq hd nd ld hdv hsum hlt hdvd
    refine ⟨trimL q, rest, Ev.step (f := fun _ => some (trimL q, rest)) (fun k => ?_) (Ev.now _), hq.trim, norm_trim _, ?_, ?_, hr, nr, ?_, Nat.le_refl _⟩
    · simp only [spec_l1Div.l0]
      rw [if_neg (by omega), trim_eq _ (by omega)]
      rfl
    · rw [val_trim]
      exact (quot_of (show val B32 rest + val B32 q * b = a by omega) (by simpa using hlt)).1
    · have := trimL_length q; omega
    · exact (quot_of (show val B32 rest + val B32 q * b = a by omega) (by simpa using hlt)).2
  | succ i ih =>
    intro rest q d hi hr nr lr hq lq hd nd ld hdv hsum hlt hdvd
    have hdv1 : val B32 d = b * 2 ^ i := hdv (by omega)
    have hcmp := cmp_ev rest d hr hd (by omega) ld
    have e0 : ((i + 1 : Nat) : Int) - 1 = (i : Int) := by omega
    rw [e0]
    obtain ⟨d', hd', dd', nd', vd', ld'⟩ := sright_ev d hd ld 1 (by omega)
    have hd1 : 0 < i → val B32 d' = b * 2 ^ (i - 1) := fun h => by
      rw [vd', hdv1, show i = (i - 1) + 1 by omega, Nat.pow_succ, ← Nat.mul_assoc, Nat.pow_one, Nat.mul_div_cancel _ (by decide)]
      rfl
    by_cases hc : val B32 d ≤ val B32 rest
    · obtain ⟨s, hs, ds, ns, vs, ls⟩ := ssub_ev rest d hr hd (by omega) hc
      have hi32 : i / 32 < q.length := by rw [lq]; omega
      obtain ⟨b1, b2⟩ := bit_set hq hi32 hdvd
      have hset := val_set B32 q (i / 32) (((rd q ((i / 32 : Nat) : Int)).toNat + 2 ^ (i % 32) : Nat) : Int) hi32
      have hr0 := hq.rd B32_pos ((i / 32 : Nat) : Int)
      have hvq : val B32 (q.set (i / 32) (((rd q ((i / 32 : Nat) : Int)).toNat + 2 ^ (i % 32) : Nat) : Int)) = val B32 q + 2 ^ i := by
        rw [Int.toNat_natCast, Nat.mul_add] at hset
        have e4 : B32 ^ (i / 32) * 2 ^ (i % 32) = 2 ^ i := by rw [B32_pow, ← Nat.pow_mul, ← Nat.pow_add]; congr 1; omega
        omega
      have hpow : 2 ^ (i + 1) = 2 * 2 ^ i := by rw [Nat.pow_succ, Nat.mul_comm]
      have hbp : b * 2 ^ (i + 1) = b * 2 ^ i + b * 2 ^ i := by rw [hpow, Nat.mul_left_comm]; omega
      have hexp : (val B32 q + 2 ^ i) * b = val B32 q * b + b * 2 ^ i := by rw [Nat.add_mul, Nat.mul_comm (2 ^ i) b]
      obtain ⟨q', r', hE, p1, p2, p3, p4, p5, p6, p7, p8⟩ := ih s (q.set (i / 32) (((rd q ((i / 32 : Nat) : Int)).toNat + 2 ^ (i % 32) : Nat) : Int)) d' (by omega) ds ns (by omega) (hq.set _ (cast_dig b2)) (by rw [List.length_set, lq]) dd' nd' (by omega) hd1
        (by rw [hvq, hexp, vs, hdv1]; omega) (by rw [vs, hdv1]; omega)
        (by rw [hvq]; exact Nat.dvd_add (Nat.dvd_trans (by rw [hpow]; exact Nat.dvd_mul_left _ _) hdvd) (Nat.dvd_refl _))
      refine ⟨q', r', Ev.step (f := fun k => (spec_l1Cmp.f k rest d).bind fun t => (spec_l1Sub.f k rest d).bind fun t2 => (spec_l1Right.f k d 1).bind fun t3 => spec_l1Div.l0 k t2 (q.set (i / 32) (((rd q ((i / 32 : Nat) : Int)).toNat + 2 ^ (i % 32) : Nat) : Int)) t3 ((i : Int) - 1)) (fun k => ?_) (Ev.bind hcmp (Ev.bind hs (Ev.bind hd' hE))), p1, p2, p3, p4, p5, p6, p7, by omega⟩
      have hlt2 : ((i / 32 : Nat) : Int) < (q.length : Int) := by omega
      have hge : (i : Int) ≥ 0 := by omega
      have hi9 : i ≤ 9223372036854775807 := by omega
      simp only [spec_l1Div.l0]
      rw [if_pos hge, wpred i hi9, wtdiv32 i hi9, wtmod32 i hi9, b1]
      cases hcv : spec_l1Cmp.f k rest d with
      | none => rfl
      | some t =>
        simp only [Option.bind_some]
        have ht : t ≥ 0 := by rw [at_cmp (fun k => spec_l1Cmp.mono _ _ k) hcmp hcv]; exact cmpN_ge hc
        rw [if_pos ht]
        simp only [if_pos (Int.natCast_nonneg (i / 32)), if_pos hlt2, if_pos (Int.natCast_nonneg (i % 32)), Int.toNat_natCast]
    · obtain ⟨q', r', hE, p1, p2, p3, p4, p5, p6, p7, p8⟩ := ih rest q d' (by omega) hr nr lr hq lq dd' nd' (by omega) hd1 hsum (by omega) (Nat.dvd_trans (Nat.pow_dvd_pow 2 (by omega)) hdvd)
      refine ⟨q', r', Ev.step (f := fun k => (spec_l1Cmp.f k rest d).bind fun t => (spec_l1Right.f k d 1).bind fun t3 => spec_l1Div.l0 k rest q t3 ((i : Int) - 1)) (fun k => ?_) (Ev.bind hcmp (Ev.bind hd' hE)), p1, p2, p3, p4, p5, p6, p7, p8⟩
      have hge : (i : Int) ≥ 0 := by omega
      have hi9 : i ≤ 9223372036854775807 := by omega
      simp only [spec_l1Div.l0]
      rw [if_pos hge, wpred i hi9]
      cases hcv : spec_l1Cmp.f k rest d with
      | none => rfl
      | some t =>
        simp only [Option.bind_some]
        have ht : ¬ t ≥ 0 := by rw [at_cmp (fun k => spec_l1Cmp.mono _ _ k) hcmp hcv]; exact cmpN_lt (Nat.lt_of_not_le hc)
        rw [if_neg ht]
theorem sdiv_ev (a b : List Int) (ha : Dig B32 a) (na : Norm a) (hb : Dig B32 b) (nb : Norm b) (la : a.length ≤ 20000) (lb : b.length ≤ 20000) (h0 : 0 < val B32 b) :
    ∃ q r, Ev (fun k => spec_l1Div.f k a b) (q, r) ∧ Dig B32 q ∧ Norm q ∧ val B32 q = val B32 a / val B32 b ∧ q.length ≤ a.length + 1 ∧ Dig B32 r ∧ Norm r ∧ val B32 r = val B32 a % val B32 b ∧ r.length ≤ a.length := by
  obtain ⟨m, hm, bm, lm⟩ := sbits_gen a ha na (by omega)
  obtain ⟨n, hn, bn, ln⟩ := sbits_gen b hb nb (by omega)
  have lt := trimL_length a
  unfold spec_l1Div.f
  by_cases h : m < n
  · have hlt : val B32 a < val B32 b := by
      have h1 : 2 ^ m ≤ 2 ^ (n - 1) := Nat.pow_le_pow_right (by decide) (by omega)
      have h2 := bm.1
      rcases bn.2 with h3 | h3 <;> omega
    refine ⟨[], trimL a, Ev.bind hm (Ev.bind hn (Ev.congr (fun k => ?_) (Ev.now _))), Dig.nil _, norm_nil, ?_, by simp, ha.trim, norm_trim _, ?_, lt⟩
    · rw [if_pos (wdiff_neg m n (by omega) h), trim_eq a (by omega)]
      rfl
    · rw [Nat.div_eq_of_lt hlt]; rfl
    · rw [val_trim, Nat.mod_eq_of_lt hlt]
  · obtain ⟨c, hc⟩ : ∃ c, c = m - n := ⟨_, rfl⟩
    have hcb : c ≤ 640000 := by omega
    obtain ⟨d, hd, dd, nd, vd, ld⟩ := sleft_ev b hb (by omega) c (by omega)
    have hlt : val B32 a < val B32 b * 2 ^ (c + 1) := by
      have h1 : 2 ^ (n - 1) ≤ val B32 b := by
        rcases bn.2 with h3 | h3
        · subst h3; have := bn.1; simp at this; omega
        · exact h3
      have hn0 := bn.pos h0
      have h2 := Nat.mul_le_mul_right (2 ^ (c + 1)) h1
      rw [← Nat.pow_add, show n - 1 + (c + 1) = m by omega] at h2
      have := bm.1
      omega
    obtain ⟨q', r', hE, p1, p2, p3, p4, p5, p6, p7, p8⟩ := sdiv_loop (val B32 b) h0 c (by omega) (val B32 a) (c + 1) (trimL a) (List.replicate (c / 32 + 1) 0) d (Nat.le_refl _) ha.trim (norm_trim _) (by omega) (Dig.zeros B32_pos _) (by simp) dd nd (by omega)
      (fun _ => vd) (by rw [val_zeros, val_trim]; omega) (by rw [val_trim]; exact hlt) (by rw [val_zeros]; exact Nat.dvd_zero _)
    have e0 : ((c + 1 : Nat) : Int) - 1 = (c : Int) := by omega
    rw [e0] at hE
    have hcl : c / 32 + 1 ≤ a.length + 1 := by omega
    refine ⟨q', r', Ev.bind hm (Ev.bind hn (Ev.congr (f := fun k => (spec_l1Left.f k b (c : Int)).bind fun t => spec_l1Div.l0 k (trimL a) (List.replicate (c / 32 + 1) 0) t (c : Int)) (fun k => ?_) (Ev.bind hd hE))), p1, p2, p3, by omega, p5, p6, p7, by omega⟩
    have b1 : c / 32 + 1 ≤ 35184372088832 := by omega
    have b2 : m ≤ 9223372036854775807 := by omega
    have b3 : ¬ ((c : Nat) : Int) < 0 := by omega
    have b4 : n ≤ m := by omega
    have b5 : a.length ≤ 35184372088832 := by omega
    have b6 : c ≤ 1000000 := by omega
    rw [wdiff m n b2 b4, ← hc, if_neg b3, trim_eq a b5, Option.bind_some, wtdiv32s c b6, if_pos (Int.natCast_nonneg _), Int.toNat_natCast, if_pos b1]
end Go.Proofs.Ytcbmdpecnmbhjaa.M
end
section
namespace Go.Proofs.Ytcbmdpecnmbhjaa.M
open Go.RowKit Go.Proofs.Ytcbmdpecnmbhjaa.G Go.Proofs.YtcbmdpecnmbhjaaV.PrintWords Go.Proofs.YtcbmdpecnmbhjaaV.PrintLast Go.Proofs.YtcbmdpecnmbhjaaV.PrintMore Go.Proofs.Ytcbmdpecnmbhjaa.PA
set_option linter.unusedVariables false
set_option linter.unusedSimpArgs false
theorem ms_num {u' u u0 A T U c b d s cc bb lo hi B : Nat} (h1 : u + A = u0 + T * (c + b)) (h2 : u' + T * U = u + T * d) (h3 : s + B * cc = lo + c) (h4 : d + s + b = U + B * bb) :
    u' + (A + T * (lo + B * hi)) = u0 + T * B * (hi + cc + bb) := by
  have e3 := congrArg (T * ·) h3
  have e4 := congrArg (T * ·) h4
  simp only [Nat.mul_add, ← Nat.mul_assoc] at *
  omega
theorem ms_last {u' u u0 A T U c b d bb B : Nat} (h1 : u + A = u0 + T * (c + b)) (h2 : u' + T * U = u + T * d) (h4 : d + c + b = U + B * bb) :
    u' + A = u0 + T * B * bb := by
  have e4 := congrArg (T * ·) h4
  simp only [Nat.mul_add, ← Nat.mul_assoc] at *
  omega
theorem ab_num {u' u u0 A T U c d x cc B : Nat} (h1 : u + T * c = u0 + A) (h2 : u' + T * U = u + T * d) (h3 : d + B * cc = U + x + c) :
    u' + T * B * cc = u0 + (A + T * x) := by
  have e3 := congrArg (T * ·) h3
  simp only [Nat.mul_add, ← Nat.mul_assoc] at *
  omega
theorem cast_dig64 {x : Int} (h : 0 ≤ x ∧ x < (B64 : Int)) : ∃ n : Nat, x = (n : Int) ∧ n < B64 := ⟨x.toNat, by omega, by omega⟩
theorem ms_loop (K : Int) (v u0 q : List Int) (hv : Dig B64 v) (j top L : Nat) (ht : top < B64) (hj : j + v.length < L) (hL : L ≤ 1073741824) (R : List Int × List Int)
    (next : ∀ (u : List Int) (b c : Nat), u.length = L → Dig B64 u → b ≤ 1 → c < B64 → u.take j = u0.take j → u.drop (j + v.length) = u0.drop (j + v.length) →
      val B64 u + B64 ^ j * (top * val B64 v) = val B64 u0 + B64 ^ (j + v.length) * (c + b) →
      Ev (fun k => impl_nat_div.l2 k K v (v.length : Int) u q (j : Int) (top : Int) (b : Int) (c : Int) v (v.length : Int) ((v.length : Nat) : Int)) R) (d : Nat) :
    ∀ (i : Nat) (u : List Int) (b c : Nat), i + d = v.length → u.length = L → Dig B64 u → b ≤ 1 → c < B64 → u.take j = u0.take j → u.drop (j + v.length) = u0.drop (j + v.length) →
      val B64 u + B64 ^ j * (top * val B64 (v.take i)) = val B64 u0 + B64 ^ (j + i) * (c + b) →
      Ev (fun k => impl_nat_div.l2 k K v (v.length : Int) u q (j : Int) (top : Int) (b : Int) (c : Int) v (v.length : Int) (i : Int)) R := by
  induction d with
  | zero =>
    intro i u b c hi hl hd hb hc htk hdr hval
    obtain rfl : i = v.length := by omega
    exact next u b c hl hd hb hc htk hdr (by rw [List.take_length] at hval; exact hval)
  | succ d ih =>
    intro i u b c hi hl hd hb hc htk hdr hval
    have dy := hv.rd B64_pos (i : Int)
    have dz := hd.rd B64_pos ((i + j : Nat) : Int)
    obtain ⟨hi', lo, hm, m1, m2, m3, m4, m5, m6⟩ := mul64_eq (top : Int) _ (show 0 ≤ (top : Int) ∧ (top : Int) < (B64 : Int) by omega) dy
    obtain ⟨s1, s2, s3, s4, s5⟩ := add64_spec lo (c : Int) 0 ⟨m3, m4⟩ (by omega) (by omega)
    obtain ⟨t1, t2, t3, t4, t5⟩ := sub64_spec (rd u ((i + j : Nat) : Int)) (add64s lo (c : Int) 0) (b : Int) dz ⟨s1, s2⟩ (by omega)
    have hset := val_set B64 u (i + j) (sub64s (rd u ((i + j : Nat) : Int)) (add64s lo (c : Int) 0) (b : Int)) (by omega)
    have hc' : hi' + add64c lo (c : Int) 0 < (B64 : Int) := by unfold B64; omega
    have hprod : lo.toNat + B64 * hi'.toNat = top * (rd v (i : Int)).toNat := by
      have : (top : Int) * rd v (i : Int) = ((top * (rd v (i : Int)).toNat : Nat) : Int) := by rw [Int.natCast_mul, Int.toNat_of_nonneg dy.1]
      rw [this] at m5
      unfold B64
      omega
    have hij : i + j = j + i := Nat.add_comm _ _
    have key := ms_num (B := B64) (u := val B64 u) (u0 := val B64 u0) (A := B64 ^ j * (top * val B64 (v.take i))) (lo := lo.toNat) (hi := hi'.toNat) (c := c) (b := b) (s := (add64s lo (c : Int) 0).toNat) (cc := (add64c lo (c : Int) 0).toNat) (d := (sub64s (rd u ((i + j : Nat) : Int)) (add64s lo (c : Int) 0) (b : Int)).toNat) (bb := (sub64c (rd u ((i + j : Nat) : Int)) (add64s lo (c : Int) 0) (b : Int)).toNat) (T := B64 ^ (i + j)) (U := (rd u ((i + j : Nat) : Int)).toNat)
      (by rw [hij]; exact hval) hset (by simpa using s5) (by simpa using t5)
    rw [hprod] at key
    have hvs := val_take_succ B64 v i
    have e1 : B64 ^ j * (top * val B64 (v.take (i + 1))) = B64 ^ j * (top * val B64 (v.take i)) + B64 ^ (i + j) * (top * (rd v (i : Int)).toNat) := by
      rw [hvs, Nat.mul_add, Nat.mul_add, hij, Nat.pow_add, Nat.mul_left_comm top, Nat.mul_assoc]
    have e2 : B64 ^ (i + j) * B64 = B64 ^ (j + (i + 1)) := by rw [hij, ← Nat.pow_succ]; rfl
    rw [← e1, e2] at key
    have hcc : ((hi' + add64c lo (c : Int) 0).toNat) = hi'.toNat + (add64c lo (c : Int) 0).toNat := by omega
    have step := ih (i + 1) (u.set (i + j) (sub64s (rd u ((i + j : Nat) : Int)) (add64s lo (c : Int) 0) (b : Int))) (sub64c (rd u ((i + j : Nat) : Int)) (add64s lo (c : Int) 0) (b : Int)).toNat (hi' + add64c lo (c : Int) 0).toNat (by omega) (by simp [hl]) (hd.set _ ⟨t1, t2⟩) (by omega) (by omega) (by rw [List.take_set_of_le (by omega), htk]) (by rw [List.drop_set_of_lt (by omega), hdr]) (by rw [hcc]; exact key)
    refine Ev.step (fun k => ?_) step
    have g1 : (i : Int) < (v.length : Int) := by omega
    have g2 : ((i + j : Nat) : Int) < (u.length : Int) := by omega
    have g3 : ((b : Int)).toNat ≤ 1 := by omega
    have h6a : 0 ≤ hi' + add64c lo (c : Int) 0 := by omega
    have h6b : hi' + add64c lo (c : Int) 0 < 18446744073709551616 := by omega
    have h6c : hi' + add64c lo (c : Int) 0 = (((hi' + add64c lo (c : Int) 0).toNat : Nat) : Int) := by omega
    have h4 : i + j ≤ 9223372036854775807 := by omega
    have h5 : i + 1 ≤ 9223372036854775807 := by omega
    have g7 : sub64c (rd u ((i + j : Nat) : Int)) (add64s lo (c : Int) 0) (b : Int) = (((sub64c (rd u ((i + j : Nat) : Int)) (add64s lo (c : Int) 0) (b : Int)).toNat : Nat) : Int) := by omega
    have g6 : IntKind.u64.wrap (hi' + add64c lo (c : Int) 0) = (((hi' + add64c lo (c : Int) 0).toNat : Nat) : Int) := (wrap_u64_id ⟨h6a, h6b⟩).trans h6c
    have g4 := wadd i j h4
    have g5 := wadd i 1 h5
    rw [← g7]
    simp only [impl_nat_div.l2]
    rw [if_pos g1, if_pos (Int.natCast_nonneg i), if_pos g1, hm, Option.bind_some]
    dsimp only
    rw [g4, if_pos (Int.natCast_nonneg _), if_pos g2, if_pos g3, g6, Int.toNat_natCast, show (1 : Int) = ((1 : Nat) : Int) from rfl, g5]
theorem ab_loop (K : Int) (v u0 q : List Int) (hv : Dig B64 v) (j L : Nat) (hj : j + v.length < L) (hL : L ≤ 1073741824) (R : List Int × List Int)
    (next : ∀ (u : List Int) (c : Nat), u.length = L → Dig B64 u → c ≤ 1 → u.take j = u0.take j → u.drop (j + v.length) = u0.drop (j + v.length) →
      val B64 u + B64 ^ (j + v.length) * c = val B64 u0 + B64 ^ j * val B64 v →
      Ev (fun k => impl_nat_div.l3 k K v (v.length : Int) u q (j : Int) (c : Int) v (v.length : Int) ((v.length : Nat) : Int)) R) (d : Nat) :
    ∀ (i : Nat) (u : List Int) (c : Nat), i + d = v.length → u.length = L → Dig B64 u → c ≤ 1 → u.take j = u0.take j → u.drop (j + v.length) = u0.drop (j + v.length) →
      val B64 u + B64 ^ (j + i) * c = val B64 u0 + B64 ^ j * val B64 (v.take i) →
      Ev (fun k => impl_nat_div.l3 k K v (v.length : Int) u q (j : Int) (c : Int) v (v.length : Int) (i : Int)) R := by
  induction d with
  | zero =>
    intro i u c hi hl hd hc htk hdr hval
    obtain rfl : i = v.length := by omega
    exact next u c hl hd hc htk hdr (by rw [List.take_length] at hval; exact hval)
  | succ d ih =>
    intro i u c hi hl hd hc htk hdr hval
    have dy := hv.rd B64_pos (i : Int)
    have dz := hd.rd B64_pos ((i + j : Nat) : Int)
    obtain ⟨s1, s2, s3, s4, s5⟩ := add64_spec (rd u ((i + j : Nat) : Int)) (rd v (i : Int)) (c : Int) dz dy (by omega)
    have hset := val_set B64 u (i + j) (add64s (rd u ((i + j : Nat) : Int)) (rd v (i : Int)) (c : Int)) (by omega)
    have hij : i + j = j + i := Nat.add_comm _ _
    have key := ab_num (B := B64) (u := val B64 u) (u0 := val B64 u0) (A := B64 ^ j * val B64 (v.take i)) (T := B64 ^ (i + j)) (U := (rd u ((i + j : Nat) : Int)).toNat) (c := c) (x := (rd v (i : Int)).toNat) (cc := (add64c (rd u ((i + j : Nat) : Int)) (rd v (i : Int)) (c : Int)).toNat) (d := (add64s (rd u ((i + j : Nat) : Int)) (rd v (i : Int)) (c : Int)).toNat)
      (by rw [hij]; exact hval) hset (by simpa using s5)
    have hvs := val_take_succ B64 v i
    have e1 : B64 ^ j * val B64 (v.take (i + 1)) = B64 ^ j * val B64 (v.take i) + B64 ^ (i + j) * (rd v (i : Int)).toNat := by
      rw [hvs, Nat.mul_add, hij, Nat.pow_add, Nat.mul_assoc]
    have e2 : B64 ^ (i + j) * B64 = B64 ^ (j + (i + 1)) := by rw [hij, ← Nat.pow_succ]; rfl
    rw [← e1, e2] at key
    have step := ih (i + 1) (u.set (i + j) (add64s (rd u ((i + j : Nat) : Int)) (rd v (i : Int)) (c : Int))) (add64c (rd u ((i + j : Nat) : Int)) (rd v (i : Int)) (c : Int)).toNat (by omega) (by simp [hl]) (hd.set _ ⟨s1, s2⟩) (by omega) (by rw [List.take_set_of_le (by omega), htk]) (by rw [List.drop_set_of_lt (by omega), hdr]) key
    refine Ev.step (fun k => ?_) step
    have g1 : (i : Int) < (v.length : Int) := by omega
    have g2 : ((i + j : Nat) : Int) < (u.length : Int) := by omega
    have g3 : ((c : Int)).toNat ≤ 1 := by omega
    have h4 : i + j ≤ 9223372036854775807 := by omega
    have h5 : i + 1 ≤ 9223372036854775807 := by omega
    have g7 : add64c (rd u ((i + j : Nat) : Int)) (rd v (i : Int)) (c : Int) = (((add64c (rd u ((i + j : Nat) : Int)) (rd v (i : Int)) (c : Int)).toNat : Nat) : Int) := by omega
    have g4 := wadd i j h4
    have g5 := wadd i 1 h5
    rw [← g7]
    simp only [impl_nat_div.l3]
    rw [if_pos g1, if_pos (Int.natCast_nonneg i), if_pos g1, g4, if_pos (Int.natCast_nonneg _), if_pos g2, if_pos g3, Int.toNat_natCast, show (1 : Int) = ((1 : Nat) : Int) from rfl, g5]
end Go.Proofs.Ytcbmdpecnmbhjaa.M
end
section
namespace Go.Proofs.Ytcbmdpecnmbhjaa.M
open Go.RowKit Go.Proofs.Ytcbmdpecnmbhjaa.G Go.Proofs.YtcbmdpecnmbhjaaV.PrintWords Go.Proofs.YtcbmdpecnmbhjaaV.PrintLast Go.Proofs.YtcbmdpecnmbhjaaV.PrintMore Go.Proofs.Ytcbmdpecnmbhjaa.PA
set_option linter.unusedVariables false
set_option linter.unusedSimpArgs false
theorem val_drop_rd (B : Nat) {l : List Int} {p : Nat} (h : p < l.length) : val B (l.drop p) = (rd l (p : Int)).toNat + B * val B (l.drop (p + 1)) := by
  rw [List.drop_eq_getElem_cons h, val_cons]
  congr 2
  simp [rd_nat, h]
theorem wsub1 (a : Nat) (h : 1 ≤ a) (h2 : a ≤ 9223372036854775807) : wrap64 ((a : Int) - 1) = ((a - 1 : Nat) : Int) := by rw [wrap64_id (by omega)]; omega
theorem wsub2 (a : Nat) (h : 2 ≤ a) (h2 : a ≤ 9223372036854775807) : wrap64 ((a : Int) - 2) = ((a - 2 : Nat) : Int) := by rw [wrap64_id (by omega)]; omega
theorem u64_pred (t : Nat) (h : 1 ≤ t) (h2 : t < B64) : IntKind.u64.wrap ((t : Int) - 1) = ((t - 1 : Nat) : Int) := by
  unfold B64 at h2
  rw [wrap_u64_id (by omega)]
  omega
theorem u64_sum (a b : Nat) : IntKind.u64.wrap ((a : Int) + (b : Int)) = (((a + b) % B64 : Nat) : Int) := by
  rw [wrap_u64]
  unfold B64
  omega
theorem over_eq {a b : Nat} (ha : a < B64) (hb : b < B64) : ((((a + b) % B64 : Nat) : Int) < (b : Int)) ↔ B64 ≤ a + b := by
  unfold B64 at *
  omega
theorem over_dec {a b : Nat} (ha : a < B64) (hb : b < B64) : decide ((((a + b) % B64 : Nat) : Int) < (b : Int)) = decide (B64 ≤ a + b) := by
  rw [decide_eq_decide]
  exact over_eq ha hb
theorem est_loop (K : Int) (v u q : List Int) (hv : Dig B64 v) (hu : Dig B64 u) (j : Nat) (hn : 2 ≤ v.length) (ln : v.length ≤ 1048576) (hj : j + v.length < u.length) (lu : u.length ≤ 1073741824) (y x w w0 Q : Nat)
    (hy : rd v ((v.length - 1 : Nat) : Int) = (y : Int)) (hx : rd v ((v.length - 2 : Nat) : Int) = (x : Int)) (hw0 : rd u ((j + v.length - 2 : Nat) : Int) = (w0 : Int)) (yB : y < B64) (xB : x < B64) (w0B : w0 < B64)
    (hdec : ∀ top, w * B64 + w0 < top * (y * B64 + x) → Q + 1 ≤ top) (R : List Int × List Int)
    (hR : ∀ top : Nat, Q ≤ top → top * (y * B64 + x) ≤ w * B64 + w0 → top < B64 → Ev (fun k => impl_nat_div.j3 k K v (v.length : Int) u q (j : Int) (top : Int)) R) :
    ∀ (m top r : Nat), top ≤ m → top < B64 → top * y + r = w → Q ≤ top →
      Ev (fun k => impl_nat_div.l1 k K v (v.length : Int) u q (j : Int) (top : Int) ((r % B64 : Nat) : Int) (decide (B64 ≤ r))) R := by
  intro m
  induction m with
  | zero =>
    intro top r hm ht hq hQ
    obtain rfl : top = 0 := by omega
    have base := hR 0 hQ (by rw [Nat.zero_mul]; exact Nat.zero_le _) ht
    by_cases ho : B64 ≤ r
    · refine Ev.step (fun k => ?_) base
      simp only [impl_nat_div.l1]
      rw [decide_eq_true ho, if_pos rfl]
    · have hr : r % B64 = r := Nat.mod_eq_of_lt (by omega)
      obtain ⟨hi', lo, hm', m1, m2, m3, m4, m5, m6⟩ := mul64_eq ((0 : Nat) : Int) (x : Int) (by unfold B64; omega) (by omega)
      have z1 : hi' = 0 := by omega
      have z2 : lo = 0 := by omega
      subst z1
      subst z2
      have e1 := wsub2 v.length hn (by omega)
      have e2 : wrap64 (wrap64 ((j : Int) + (v.length : Int)) - 2) = ((j + v.length - 2 : Nat) : Int) := by
        have b1 : j + v.length ≤ 9223372036854775807 := by omega
        have b2 : 2 ≤ j + v.length := by omega
        rw [wadd j v.length b1, wsub2 _ b2 b1]
      refine Ev.step (fun k => ?_) base
      have c1 : ((v.length - 2 : Nat) : Int) < (v.length : Int) := by clear e1 e2; omega
      have c2 : ((j + v.length - 2 : Nat) : Int) < (u.length : Int) := by clear e1 e2; omega
      have c3 : (0 : Int) ≤ (w0 : Int) := Int.natCast_nonneg _
      simp only [impl_nat_div.l1]
      rw [decide_eq_false ho, if_neg (by decide), e1, if_pos (Int.natCast_nonneg _), if_pos c1, hx, hm', Option.bind_some, hr]
      dsimp only
      by_cases hz : (0 : Int) < (r : Int)
      · rw [if_pos hz]
      · have hz2 : (0 : Int) = (r : Int) := by clear e1 e2; omega
        rw [if_neg hz, if_pos hz2, e2, if_pos (Int.natCast_nonneg _), if_pos c2, hw0, if_pos c3]
  | succ m ih =>
    intro top r hm ht hq hQ
    by_cases ho : B64 ≤ r
    · refine Ev.step (fun k => ?_) (hR top hQ (est_le hq (est_over (Nat.le_of_lt ht) xB ho)) ht)
      simp only [impl_nat_div.l1]
      rw [decide_eq_true ho, if_pos rfl]
    · have hrB : r < B64 := Nat.lt_of_not_le ho
      have hr : r % B64 = r := Nat.mod_eq_of_lt hrB
      obtain ⟨hi', lo, hm', m1, m2, m3, m4, m5, m6⟩ := mul64_eq (top : Int) (x : Int) (by omega) (by omega)
      obtain ⟨hi, rfl⟩ : ∃ n : Nat, hi' = (n : Int) := ⟨hi'.toNat, by omega⟩
      obtain ⟨lw, rfl⟩ : ∃ n : Nat, lo = (n : Int) := ⟨lo.toNat, by omega⟩
      have hp : lw + B64 * hi = top * x := by
        rw [← Int.natCast_mul] at m5
        unfold B64
        omega
      have lB : lw < B64 := by omega
      clear m1 m2 m3 m4 m5 m6
      have exit : top * x ≤ B64 * r + w0 → Ev (fun k => impl_nat_div.j3 k K v (v.length : Int) u q (j : Int) (top : Int)) R := fun h => hR top hQ (est_le hq h) ht
      have dec : B64 * r + w0 < top * x → 1 ≤ top ∧ Ev (fun k => impl_nat_div.l1 k K v (v.length : Int) u q (j : Int) ((top - 1 : Nat) : Int) (((r + y) % B64 : Nat) : Int) (decide (B64 ≤ r + y))) R := fun h => by
        have h1 := hdec top (est_gt hq h)
        have h0 : 1 ≤ top := by omega
        refine ⟨h0, ih (top - 1) (r + y) (by omega) (by omega) ?_ (by omega)⟩
        obtain ⟨t, rfl⟩ : ∃ t, top = t + 1 := ⟨top - 1, by omega⟩
        rw [Nat.add_mul] at hq
        rw [Nat.add_sub_cancel]
        omega
      have c1 : ((v.length - 2 : Nat) : Int) < (v.length : Int) := by omega
      have c2 : ((j + v.length - 2 : Nat) : Int) < (u.length : Int) := by omega
      have c4 : ((v.length - 1 : Nat) : Int) < (v.length : Int) := by omega
      have b1 : j + v.length ≤ 9223372036854775807 := by omega
      have b2 : 2 ≤ j + v.length := by omega
      have b3 : v.length ≤ 9223372036854775807 := by omega
      have b4 : 1 ≤ v.length := by omega
      rcases Nat.lt_trichotomy hi r with hc | hc | hc
      · have hex : top * x ≤ B64 * r + w0 := by
          have := Nat.mul_le_mul_left B64 (show hi + 1 ≤ r from hc)
          rw [Nat.mul_add] at this
          omega
        refine Ev.step (fun k => ?_) (exit hex)
        have g1 : (hi : Int) < (r : Int) := by omega
        simp only [impl_nat_div.l1]
        rw [decide_eq_false ho, if_neg (by decide), wsub2 v.length hn b3, if_pos (Int.natCast_nonneg _), if_pos c1, hx, hm', Option.bind_some, hr]
        dsimp only
        rw [if_pos g1]
      · subst hc
        have g1 : ¬ (hi : Int) < (hi : Int) := by omega
        by_cases hl : lw ≤ w0
        · refine Ev.step (fun k => ?_) (exit (by omega))
          have g2 : (lw : Int) ≤ (w0 : Int) := by omega
          simp only [impl_nat_div.l1]
          rw [decide_eq_false ho, if_neg (by decide), wsub2 v.length hn b3, if_pos (Int.natCast_nonneg _), if_pos c1, hx, hm', Option.bind_some, hr]
          dsimp only
          rw [if_neg g1, if_pos rfl, wadd j v.length b1, wsub2 _ b2 b1, if_pos (Int.natCast_nonneg _), if_pos c2, hw0, if_pos g2]
        · obtain ⟨h0, hE⟩ := dec (by omega)
          refine Ev.step (fun k => ?_) hE
          have g2 : ¬ (lw : Int) ≤ (w0 : Int) := by omega
          simp only [impl_nat_div.l1]
          rw [decide_eq_false ho, if_neg (by decide), wsub2 v.length hn b3, if_pos (Int.natCast_nonneg _), if_pos c1, hx, hm', Option.bind_some, hr]
          dsimp only
          rw [if_neg g1, if_pos rfl, wadd j v.length b1, wsub2 _ b2 b1, if_pos (Int.natCast_nonneg _), if_pos c2, hw0, if_neg g2, wsub1 v.length b4 b3, if_pos (Int.natCast_nonneg _), if_pos c4, hy, u64_pred top h0 ht, u64_sum, over_dec hrB yB]
      · have hgt : B64 * r + w0 < top * x := by
          have := Nat.mul_le_mul_left B64 (show r + 1 ≤ hi from hc)
          rw [Nat.mul_add] at this
          omega
        obtain ⟨h0, hE⟩ := dec hgt
        refine Ev.step (fun k => ?_) hE
        have g1 : ¬ (hi : Int) < (r : Int) := by omega
        have g2 : ¬ (hi : Int) = (r : Int) := by omega
        simp only [impl_nat_div.l1]
        rw [decide_eq_false ho, if_neg (by decide), wsub2 v.length hn b3, if_pos (Int.natCast_nonneg _), if_pos c1, hx, hm', Option.bind_some, hr]
        dsimp only
        rw [if_neg g1, if_neg g2, wsub1 v.length b4 b3, if_pos (Int.natCast_nonneg _), if_pos c4, hy, u64_pred top h0 ht, u64_sum, over_dec hrB yB]
end Go.Proofs.Ytcbmdpecnmbhjaa.M
end
section
namespace Go.Proofs.Ytcbmdpecnmbhjaa.M
open Go.RowKit Go.Proofs.Ytcbmdpecnmbhjaa.G Go.Proofs.YtcbmdpecnmbhjaaV.PrintWords Go.Proofs.YtcbmdpecnmbhjaaV.PrintLast Go.Proofs.YtcbmdpecnmbhjaaV.PrintMore Go.Proofs.Ytcbmdpecnmbhjaa.PA
set_option linter.unusedVariables false
set_option linter.unusedSimpArgs false
theorem window_of {P lo W W' X Z : Nat} (hP : 0 < P) (h : lo + P * W' + P * X = lo + P * W + P * Z) : W' + X = W + Z := by
  have h2 : P * (W' + X) = P * (W + Z) := by rw [Nat.mul_add, Nat.mul_add]; omega
  exact Nat.eq_of_mul_eq_mul_left hP h2
theorem drop_small {B : Nat} (hB : 0 < B) {l : List Int} (h : Dig B l) (j m : Nat) (hz : val B (l.drop (j + m)) = 0) : val B (l.drop j) < B ^ m := by
  have h1 := val_drop B hB (h.drop j) m
  rw [List.drop_drop, hz] at h1
  rcases Nat.lt_or_ge (val B (l.drop j)) (B ^ m) with h2 | h2
  · exact h2
  · have := Nat.div_pos h2 (Nat.pow_pos hB)
    omega
theorem ab_last {u' u u2 A T D d c o B : Nat} (h1 : u + T * c = u2 + A) (h2 : u' + T * D = u + T * d) (h3 : D + c = d + B * o) : u' + T * B * o = u2 + A := by
  have e3 := congrArg (T * ·) h3
  simp only [Nat.mul_add, ← Nat.mul_assoc] at *
  omega
theorem back_step (K : Int) (v u u2 q : List Int) (hv : Dig B64 v) (hn : 2 ≤ v.length) (ln : v.length ≤ 1048576) (lu : u.length ≤ 1073741824) (h2 : Dig B64 u2) (l2 : u2.length = u.length) (j : Nat) (hj : j + v.length < u.length)
    (htk : u2.take j = u.take j) (hz : val B64 (u2.drop (j + v.length + 1)) = 0) (top : Nat) (hV : 0 < val B64 v) (hVM : val B64 v ≤ B64 ^ (v.length + 1)) (hq : top ≤ val B64 (u.drop j) / val B64 v + 1)
    (hw : val B64 (u2.drop j) + top * val B64 v = val B64 (u.drop j) + B64 ^ (v.length + 1)) (R : List Int × List Int)
    (next : ∀ u' : List Int, u'.length = u.length → Dig B64 u' → u'.take j = u.take j → val B64 (u'.drop j) + (val B64 (u.drop j) / val B64 v) * val B64 v = val B64 (u.drop j) → val B64 (u'.drop j) < val B64 v →
      Ev (fun k => impl_nat_div.l0 k K v (v.length : Int) u' q ((j : Int) - 1)) R) :
    top = val B64 (u.drop j) / val B64 v + 1 ∧ Ev (fun k => impl_nat_div.l3 k K v (v.length : Int) u2 q (j : Int) 0 v (v.length : Int) 0) R := by
  have hR : val B64 (u2.drop j) < B64 ^ (v.length + 1) := drop_small B64_pos h2 j (v.length + 1) hz
  obtain ⟨ht, _⟩ := knuth_back hV hVM hq hw hR rfl
  refine ⟨ht, ?_⟩
  refine ab_loop K v u2 q hv j u.length hj lu R ?_ v.length 0 u2 0 (by omega) l2 h2 (by omega) rfl rfl (by simp [val])
  intro u3 c3 l3 d3 hc3 tk3 dr3 hv3
  have dz := d3.rd B64_pos ((j + v.length : Nat) : Int)
  obtain ⟨D, hD⟩ : ∃ D : Nat, rd u3 ((j + v.length : Nat) : Int) = (D : Int) := ⟨(rd u3 ((j + v.length : Nat) : Int)).toNat, by omega⟩
  have hDB : D < B64 := by omega
  have hset := val_set B64 u3 (j + v.length) (((D + c3) % B64 : Nat) : Int) (by omega)
  rw [hD, Int.toNat_natCast, Int.toNat_natCast] at hset
  have hdm : D + c3 = (D + c3) % B64 + B64 * ((D + c3) / B64) := by have := Nat.mod_add_div (D + c3) B64; omega
  have hl := ab_last (B := B64) hv3 hset hdm
  have hmod : (D + c3) % B64 < B64 := Nat.mod_lt _ B64_pos
  have tk4 : (u3.set (j + v.length) (((D + c3) % B64 : Nat) : Int)).take j = u.take j := by rw [List.take_set_of_le (by omega), tk3, htk]
  have d4 : Dig B64 (u3.set (j + v.length) (((D + c3) % B64 : Nat) : Int)) := d3.set _ (cast_dig hmod)
  have dr4 : (u3.set (j + v.length) (((D + c3) % B64 : Nat) : Int)).drop (j + v.length + 1) = u2.drop (j + v.length + 1) := by
    rw [List.drop_set_of_lt (by omega)]
    have := congrArg (List.drop 1) dr3
    rw [List.drop_drop, List.drop_drop] at this
    exact this
  have l4 : (u3.set (j + v.length) (((D + c3) % B64 : Nat) : Int)).length = u.length := by simp [l3]
  have hs4 := val_split B64 (u3.set (j + v.length) (((D + c3) % B64 : Nat) : Int)) j (by omega)
  have hs2 := val_split B64 u2 j (by omega)
  rw [tk4] at hs4
  rw [htk] at hs2
  have R4 := drop_small B64_pos d4 j (v.length + 1) (by rw [show j + (v.length + 1) = j + v.length + 1 by omega, dr4]; exact hz)
  have hwin : val B64 ((u3.set (j + v.length) (((D + c3) % B64 : Nat) : Int)).drop j) + B64 ^ (v.length + 1) * ((D + c3) / B64) = val B64 (u2.drop j) + val B64 v := by
    have e1 : B64 ^ (j + v.length) * B64 * ((D + c3) / B64) = B64 ^ j * (B64 ^ (v.length + 1) * ((D + c3) / B64)) := by
      rw [← Nat.mul_assoc, ← Nat.pow_add, ← Nat.pow_succ]
      rfl
    rw [e1, hs4, hs2] at hl
    exact window_of (Nat.pow_pos B64_pos) hl
  have hmodw : val B64 ((u3.set (j + v.length) (((D + c3) % B64 : Nat) : Int)).drop j) = (val B64 (u2.drop j) + val B64 v) % B64 ^ (v.length + 1) := by
    rw [← hwin, Nat.add_mul_mod_self_left, Nat.mod_eq_of_lt R4]
  obtain ⟨_, k1, k2⟩ := knuth_back hV hVM hq hw hR hmodw
  have fin := next _ l4 d4 tk4 k1 k2
  refine Ev.step (fun k => ?_) fin
  have c1 : ¬ ((v.length : Nat) : Int) < (v.length : Int) := by omega
  have c2 : ((j + v.length : Nat) : Int) < (u3.length : Int) := by omega
  have b1 : j + v.length ≤ 9223372036854775807 := by omega
  have b2 : j ≤ 9223372036854775807 := by omega
  simp only [impl_nat_div.l3]
  rw [if_neg c1, wadd j v.length b1, if_pos (Int.natCast_nonneg _), if_pos c2, hD, u64_sum, Int.toNat_natCast, wpred j b2]
theorem div_place (K : Int) (v u q : List Int) (hv : Dig B64 v) (hu : Dig B64 u) (j : Nat) (hn : 2 ≤ v.length) (ln : v.length ≤ 1048576) (hj : j + v.length < u.length) (lu : u.length ≤ 1073741824) (hq : j < q.length) (hy0 : 0 < rd v ((v.length - 1 : Nat) : Int))
    (hlt : val B64 (u.drop (j + 1)) < val B64 v) (R : List Int × List Int)
    (next : ∀ u' q' : List Int, u'.length = u.length → Dig B64 u' → u'.take j = u.take j → val B64 (u'.drop j) + (val B64 (u.drop j) / val B64 v) * val B64 v = val B64 (u.drop j) → val B64 (u'.drop j) < val B64 v →
      val B64 (u.drop j) / val B64 v < B64 → q' = q.set j ((val B64 (u.drop j) / val B64 v : Nat) : Int) → Ev (fun k => impl_nat_div.l0 k K v (v.length : Int) u' q' ((j : Int) - 1)) R) :
    Ev (fun k => impl_nat_div.l0 k K v (v.length : Int) u q (j : Int)) R := by
  have hV : 0 < val B64 v := by omega
  -- the digits
  have ey := hv.rd B64_pos ((v.length - 1 : Nat) : Int)
  have ex := hv.rd B64_pos ((v.length - 2 : Nat) : Int)
  have e2 := hu.rd B64_pos ((j + v.length : Nat) : Int)
  have e1 := hu.rd B64_pos ((j + v.length - 1 : Nat) : Int)
  have e0 := hu.rd B64_pos ((j + v.length - 2 : Nat) : Int)
  have ej := hu.rd B64_pos (j : Int)
  obtain ⟨y, hy, yB⟩ := cast_dig64 ey
  obtain ⟨x, hx, xB⟩ := cast_dig64 ex
  obtain ⟨w2, hw2, w2B⟩ := cast_dig64 e2
  obtain ⟨w1, hw1, w1B⟩ := cast_dig64 e1
  obtain ⟨w0, hw0, w0B⟩ := cast_dig64 e0
  have hy1 : 0 < y := by omega
  -- the divisor's top
  have tv1 : val B64 (v.drop (v.length - 1)) = y := by
    have h := val_drop_rd B64 (l := v) (p := v.length - 1) (by omega)
    rw [show v.length - 1 + 1 = v.length by omega, List.drop_length, hy] at h
    simpa [val] using h
  have tv2 : val B64 (v.drop (v.length - 2)) = y * B64 + x := by
    have h := val_drop_rd B64 (l := v) (p := v.length - 2) (by omega)
    rw [show v.length - 2 + 1 = v.length - 1 by omega, tv1, hx, Int.toNat_natCast, Nat.mul_comm] at h
    omega
  have dv1 : val B64 v / B64 ^ (v.length - 1) = y := by rw [← val_drop B64 B64_pos hv, tv1]
  have dv2 : val B64 v / B64 ^ (v.length - 2) = y * B64 + x := by rw [← val_drop B64 B64_pos hv, tv2]
  have vlt := val_lt hv
  -- what lies above the window is zero
  have z1 : val B64 (u.drop (j + v.length + 1)) = 0 := by
    have h := val_drop B64 B64_pos (hu.drop (j + 1)) v.length
    rw [List.drop_drop, show j + 1 + v.length = j + v.length + 1 by omega] at h
    rw [h]
    exact Nat.div_eq_of_lt (by omega)
  have tu0 : val B64 (u.drop (j + v.length)) = w2 := by
    have h := val_drop_rd B64 (l := u) (p := j + v.length) (by omega)
    rw [z1, hw2] at h
    simpa using h
  have tu1 : val B64 (u.drop (j + (v.length - 1))) = w2 * B64 + w1 := by
    have h := val_drop_rd B64 (l := u) (p := j + v.length - 1) (by omega)
    rw [show j + v.length - 1 + 1 = j + v.length by omega, tu0, hw1, Int.toNat_natCast, Nat.mul_comm] at h
    rw [show j + (v.length - 1) = j + v.length - 1 by omega]
    omega
  have tu2 : val B64 (u.drop (j + (v.length - 2))) = (w2 * B64 + w1) * B64 + w0 := by
    have h := val_drop_rd B64 (l := u) (p := j + v.length - 2) (by omega)
    rw [show j + v.length - 2 + 1 = j + (v.length - 1) by omega, tu1, hw0, Int.toNat_natCast, Nat.mul_comm] at h
    rw [show j + (v.length - 2) = j + v.length - 2 by omega]
    omega
  have dw1 : val B64 (u.drop j) / B64 ^ (v.length - 1) = w2 * B64 + w1 := by rw [← val_drop B64 B64_pos (hu.drop j), List.drop_drop, tu1]
  have dw2 : val B64 (u.drop j) / B64 ^ (v.length - 2) = (w2 * B64 + w1) * B64 + w0 := by rw [← val_drop B64 B64_pos (hu.drop j), List.drop_drop, tu2]
  have w2y : w2 ≤ y := by
    have h := val_drop B64 B64_pos (hu.drop (j + 1)) (v.length - 1)
    rw [List.drop_drop, show j + 1 + (v.length - 1) = j + v.length by omega, tu0] at h
    rw [h, ← dv1]
    exact Nat.div_le_div_right (Nat.le_of_lt hlt)
  have hW : val B64 (u.drop j) < B64 * val B64 v := by
    have h := val_drop_rd B64 (l := u) (p := j) (by omega)
    have h2 := Nat.mul_le_mul_left B64 (show val B64 (u.drop (j + 1)) + 1 ≤ val B64 v from hlt)
    rw [Nat.mul_add] at h2
    omega
  have hQB : val B64 (u.drop j) / val B64 v < B64 := (Nat.div_lt_iff_lt_mul hV).2 hW
  have hBP : B64 * B64 ^ (v.length - 2) ≤ val B64 v := by
    rw [Nat.mul_comm, ← Nat.pow_succ, show (v.length - 2).succ = v.length - 1 by omega]
    have h := Nat.div_mul_le_self (val B64 v) (B64 ^ (v.length - 1))
    rw [dv1] at h
    have h2 := Nat.mul_le_mul_right (B64 ^ (v.length - 1)) (show 1 ≤ y from hy1)
    omega
  have hVM : val B64 v ≤ B64 ^ (v.length + 1) := Nat.le_trans (Nat.le_of_lt vlt) (Nat.pow_le_pow_right B64_pos (by omega))
  have P1 : 0 < B64 ^ (v.length - 1) := Nat.pow_pos B64_pos
  have P2 : 0 < B64 ^ (v.length - 2) := Nat.pow_pos B64_pos
  have hQ1 : val B64 (u.drop j) / val B64 v ≤ (w2 * B64 + w1) / y := by
    have h := knuth_start (W := val B64 (u.drop j)) (V := val B64 v) P1 (by rw [dv1]; exact hy1)
    rwa [dw1, dv1] at h
  have hdec : ∀ top, (w2 * B64 + w1) * B64 + w0 < top * (y * B64 + x) → val B64 (u.drop j) / val B64 v + 1 ≤ top := fun top h => knuth_dec P2 hV (by rw [dw2, dv2]; exact h)
  obtain ⟨Q, hQe⟩ : ∃ Q, Q = val B64 (u.drop j) / val B64 v := ⟨_, rfl⟩
  -- behind the estimate
  have after : ∀ top : Nat, Q ≤ top → top * (y * B64 + x) ≤ (w2 * B64 + w1) * B64 + w0 → top < B64 → Ev (fun k => impl_nat_div.j3 k K v (v.length : Int) u q (j : Int) (top : Int)) R := by
    intro top hQt hle htB
    rw [hQe] at hQt
    have hle2 := knuth_le P2 hBP htB (by rw [dw2, dv2]; exact hle)
    refine Ev.step (g := fun k => impl_nat_div.j3 k K v (v.length : Int) u q (j : Int) (top : Int)) (f := fun k => impl_nat_div.l2 k K v (v.length : Int) u q (j : Int) (top : Int) ((0 : Nat) : Int) ((0 : Nat) : Int) v (v.length : Int) ((0 : Nat) : Int)) (fun k => by simp only [impl_nat_div.j3]; rfl) ?_
    refine ms_loop K v u q hv j top u.length htB hj lu R ?_ v.length 0 u 0 0 (by omega) rfl hu (by omega) B64_pos rfl rfl (by simp [val])
    intro u1 b c l1 d1 hb hc tk1 dr1 hv1
    have dz := d1.rd B64_pos ((j + v.length : Nat) : Int)
    obtain ⟨t1, t2, t3, t4, t5⟩ := sub64_spec (rd u1 ((j + v.length : Nat) : Int)) (c : Int) (b : Int) dz (by omega) (by omega)
    have hset := val_set B64 u1 (j + v.length) (sub64s (rd u1 ((j + v.length : Nat) : Int)) (c : Int) (b : Int)) (by omega)
    rw [Int.toNat_natCast, Int.toNat_natCast] at t5
    have hl := ms_last (B := B64) hv1 hset t5
    have tk2 : (u1.set (j + v.length) (sub64s (rd u1 ((j + v.length : Nat) : Int)) (c : Int) (b : Int))).take j = u.take j := by rw [List.take_set_of_le (by omega), tk1]
    have d2 : Dig B64 (u1.set (j + v.length) (sub64s (rd u1 ((j + v.length : Nat) : Int)) (c : Int) (b : Int))) := d1.set _ ⟨t1, t2⟩
    have dr2 : (u1.set (j + v.length) (sub64s (rd u1 ((j + v.length : Nat) : Int)) (c : Int) (b : Int))).drop (j + v.length + 1) = u.drop (j + v.length + 1) := by
      rw [List.drop_set_of_lt (by omega)]
      have := congrArg (List.drop 1) dr1
      rw [List.drop_drop, List.drop_drop] at this
      exact this
    have l2 : (u1.set (j + v.length) (sub64s (rd u1 ((j + v.length : Nat) : Int)) (c : Int) (b : Int))).length = u.length := by simp [l1]
    have hz2 : val B64 ((u1.set (j + v.length) (sub64s (rd u1 ((j + v.length : Nat) : Int)) (c : Int) (b : Int))).drop (j + v.length + 1)) = 0 := by rw [dr2]; exact z1
    have hs2 := val_split B64 (u1.set (j + v.length) (sub64s (rd u1 ((j + v.length : Nat) : Int)) (c : Int) (b : Int))) j (by omega)
    have hs := val_split B64 u j (by omega)
    rw [tk2] at hs2
    have hwin : val B64 ((u1.set (j + v.length) (sub64s (rd u1 ((j + v.length : Nat) : Int)) (c : Int) (b : Int))).drop j) + top * val B64 v = val B64 (u.drop j) + B64 ^ (v.length + 1) * (sub64c (rd u1 ((j + v.length : Nat) : Int)) (c : Int) (b : Int)).toNat := by
      have e1 : B64 ^ (j + v.length) * B64 * (sub64c (rd u1 ((j + v.length : Nat) : Int)) (c : Int) (b : Int)).toNat = B64 ^ j * (B64 ^ (v.length + 1) * (sub64c (rd u1 ((j + v.length : Nat) : Int)) (c : Int) (b : Int)).toNat) := by
        rw [← Nat.mul_assoc, ← Nat.pow_add, ← Nat.pow_succ]
        rfl
      rw [e1, hs2, hs] at hl
      exact window_of (Nat.pow_pos B64_pos) hl
    have c1 : ¬ ((v.length : Nat) : Int) < (v.length : Int) := by omega
    have c2 : ((j + v.length : Nat) : Int) < (u1.length : Int) := by omega
    have c3 : ((b : Int)).toNat ≤ 1 := by rw [Int.toNat_natCast]; exact hb
    have c4 : (j : Int) < (q.length : Int) := by omega
    have b1 : j + v.length ≤ 9223372036854775807 := by omega
    have b2 : j ≤ 9223372036854775807 := by omega
    by_cases hbb : sub64c (rd u1 ((j + v.length : Nat) : Int)) (c : Int) (b : Int) = 0
    · rw [hbb, Int.toNat_zero, Nat.mul_zero, Nat.add_zero] at hwin
      obtain ⟨k1, k2⟩ := knuth_sure hV hQt hwin
      have fin := next _ (q.set j (top : Int)) l2 d2 tk2 (by rw [← k1]; exact hwin) k2 hQB (by rw [← k1])
      refine Ev.step (fun k => ?_) fin
      simp only [impl_nat_div.l2]
      rw [if_neg c1, wadd j v.length b1, if_pos (Int.natCast_nonneg _), if_pos c2, if_pos c3, Int.toNat_natCast, Option.bind_some, if_pos (Int.natCast_nonneg _), if_pos c4, Int.toNat_natCast, Option.bind_some, if_pos hbb, wpred j b2]
    · have hb1 : (sub64c (rd u1 ((j + v.length : Nat) : Int)) (c : Int) (b : Int)).toNat = 1 := by omega
      rw [hb1, Nat.mul_one] at hwin
      have h1t : 1 ≤ top := by
        rcases Nat.eq_zero_or_pos top with h | h
        · subst h
          have := drop_small B64_pos d2 j (v.length + 1) hz2
          omega
        · exact h
      obtain ⟨k1, hE⟩ := back_step K v u _ (q.set j ((top - 1 : Nat) : Int)) hv hn ln lu d2 l2 j hj tk2 hz2 top hV hVM hle2 hwin R
        (fun u' a1 a2 a3 a4 a5 => next u' _ a1 a2 a3 a4 a5 hQB (by rw [show top - 1 = val B64 (u.drop j) / val B64 v from by
          have := (knuth_back hV hVM hle2 hwin (drop_small B64_pos d2 j (v.length + 1) hz2) rfl).1
          rw [this, Nat.add_sub_cancel]]))
      refine Ev.step (fun k => ?_) hE
      have e5 : rd (q.set j (top : Int)) (j : Int) = (top : Int) := rd_set_self q j _ (by omega)
      simp only [impl_nat_div.l2]
      rw [if_neg c1, wadd j v.length b1, if_pos (Int.natCast_nonneg _), if_pos c2, if_pos c3, Int.toNat_natCast, Option.bind_some, if_pos (Int.natCast_nonneg _), if_pos c4, Int.toNat_natCast, Option.bind_some, if_neg hbb, e5, u64_pred top h1t htB, List.set_set]
  -- the estimate
  have est := est_loop K v u q hv hu j hn ln hj lu y x (w2 * B64 + w1) w0 Q hy hx hw0 yB xB w0B (by rw [hQe]; exact hdec) R after
  have c0 : (j : Int) ≥ 0 := Int.natCast_nonneg _
  have c1 : ((j + v.length : Nat) : Int) < (u.length : Int) := by omega
  have c2 : ((v.length - 1 : Nat) : Int) < (v.length : Int) := by omega
  have c3 : ((j + v.length - 1 : Nat) : Int) < (u.length : Int) := by omega
  have b1 : j + v.length ≤ 9223372036854775807 := by omega
  have b2 : 1 ≤ v.length := by omega
  have b3 : v.length ≤ 9223372036854775807 := by omega
  have b4 : 1 ≤ j + v.length := by omega
  by_cases hlt2 : w2 < y
  · have hmod : (w2 * B64 + w1) % y < y := Nat.mod_lt _ hy1
    have hdm := Nat.div_add_mod (w2 * B64 + w1) y
    rw [Nat.mul_comm] at hdm
    have hdB : (w2 * B64 + w1) / y < B64 := div_lt_base hlt2 w1B
    have h64 := d64_ev w2 w1 y (by unfold B64 at w1B; exact w1B) (by unfold B64 at yB; exact yB) hlt2
    have hE := est ((w2 * B64 + w1) / y) ((w2 * B64 + w1) / y) ((w2 * B64 + w1) % y) (Nat.le_refl _) hdB hdm (by rw [hQe]; exact hQ1)
    rw [decide_eq_false (by omega), Nat.mod_eq_of_lt (show (w2 * B64 + w1) % y < B64 by omega)] at hE
    have hE2 : Ev (fun k => impl_nat_div.j1 k K v (v.length : Int) u q (j : Int) (((w2 * B64 + w1) / y : Nat) : Int) (((w2 * B64 + w1) % y : Nat) : Int) false) R := Ev.step (fun k => by simp only [impl_nat_div.j1]) hE
    refine Ev.step (f := fun k => (bits_Div64.f k (w2 : Int) (w1 : Int) (y : Int)).bind fun t => impl_nat_div.j1 k K v (v.length : Int) u q (j : Int) t.1 t.2 false) (fun k => ?_) (Ev.bind h64 hE2)
    have c4 : (w2 : Int) < (y : Int) := by omega
    simp only [impl_nat_div.l0]
    rw [if_pos c0, wadd j v.length b1, if_pos (Int.natCast_nonneg _), if_pos c1, wsub1 v.length b2 b3, if_pos (Int.natCast_nonneg _), if_pos c2, hw2, hy, if_pos c4, wsub1 _ b4 b1, if_pos (Int.natCast_nonneg _), if_pos c3, hw1]
  · have hwy : w2 = y := by omega
    have hB1 : B64 - 1 < B64 := by have := B64_pos; omega
    have hsum : (B64 - 1) * y + (w1 + y) = w2 * B64 + w1 := by
      rw [hwy, Nat.sub_mul, Nat.one_mul, Nat.mul_comm y B64]
      have := Nat.le_mul_of_pos_left y B64_pos
      omega
    have hE := est (B64 - 1) (B64 - 1) (w1 + y) (Nat.le_refl _) hB1 hsum (by omega)
    have hE2 : Ev (fun k => impl_nat_div.j1 k K v (v.length : Int) u q (j : Int) ((B64 - 1 : Nat) : Int) (((w1 + y) % B64 : Nat) : Int) (decide (B64 ≤ w1 + y))) R := Ev.step (fun k => by simp only [impl_nat_div.j1]) hE
    refine Ev.step (fun k => ?_) hE2
    have c4 : ¬ (w2 : Int) < (y : Int) := by omega
    have e6 : add64s (w1 : Int) (y : Int) 0 = (((w1 + y) % B64 : Nat) : Int) := by unfold add64s B64; simp
    simp only [impl_nat_div.l0]
    rw [if_pos c0, wadd j v.length b1, if_pos (Int.natCast_nonneg _), if_pos c1, wsub1 v.length b2 b3, if_pos (Int.natCast_nonneg _), if_pos c2, hw2, hy, if_neg c4, wsub1 _ b4 b1, if_pos (Int.natCast_nonneg _), if_pos c3, hw1, e6, over_dec w1B yB]
    rfl
end Go.Proofs.Ytcbmdpecnmbhjaa.M
end
section
namespace Go.Proofs.Ytcbmdpecnmbhjaa.M
open Go.RowKit Go.Proofs.Ytcbmdpecnmbhjaa.G Go.Proofs.YtcbmdpecnmbhjaaV.PrintWords Go.Proofs.YtcbmdpecnmbhjaaV.PrintLast Go.Proofs.YtcbmdpecnmbhjaaV.PrintMore Go.Proofs.Ytcbmdpecnmbhjaa.PA
set_option linter.unusedVariables false
set_option linter.unusedSimpArgs false
theorem word_eq (v : Int) : impl_word.f v = some (trimL [v]) := rfl
theorem word_nat (v : Nat) (hv : v < 18446744073709551616) : IsNat (trimL [(v : Int)]) v ∧ (trimL [(v : Int)]).length ≤ 1 := by
  refine ⟨⟨(Dig.cons (by unfold B64; omega) (Dig.nil _)).trim, norm_trim _, by rw [val_trim, val_one]; simp⟩, ?_⟩
  have := trimL_length [(v : Int)]
  simpa using this
def powOk (m : Nat) (e : Int) : Prop := ¬ (e < 0) ∧ ¬ (e > 20000) ∧ ¬ (wrap64 ((m : Int) * e) > 76800)
instance (m : Nat) (e : Int) : Decidable (powOk m e) := by unfold powOk; infer_instance
end Go.Proofs.Ytcbmdpecnmbhjaa.M
end
section
namespace Go.Proofs.Ytcbmdpecnmbhjaa.M
open Go.RowKit Go.Proofs.Ytcbmdpecnmbhjaa.G Go.Proofs.YtcbmdpecnmbhjaaV.PrintWords Go.Proofs.YtcbmdpecnmbhjaaV.PrintLast Go.Proofs.YtcbmdpecnmbhjaaV.PrintMore Go.Proofs.Ytcbmdpecnmbhjaa.PA
set_option linter.unusedVariables false
set_option linter.unusedSimpArgs false
theorem exists_num (B : Nat) (hB : 1 < B) (n : Nat) : ∀ v : Nat, v ≤ n → ∃ l, Dig B l ∧ Norm l ∧ val B l = v := by
  induction n with
  | zero => intro v hv; exact ⟨[], Dig.nil _, norm_nil, by simp [val]; omega⟩
  | succ n ih =>
    intro v hv
    by_cases h0 : v = 0
    · exact ⟨[], Dig.nil _, norm_nil, by simp [val, h0]⟩
    · have hlt : v / B < v := Nat.div_lt_self (by omega) hB
      obtain ⟨l, h1, h2, h3⟩ := ih (v / B) (by omega)
      have hm := Nat.mod_lt v (show 0 < B by omega)
      have hdm := Nat.mod_add_div v B
      refine ⟨((v % B : Nat) : Int) :: l, Dig.cons (by omega) h1, ?_, by rw [val_cons, h3, Int.toNat_natCast]; exact hdm⟩
      rw [norm_iff]
      intro h
      cases l with
      | nil =>
        have h4 : v / B = 0 := by rw [← h3]; rfl
        rw [h4, Nat.mul_zero, Nat.add_zero] at hdm
        show ((v % B : Nat) : Int) ≠ 0
        omega
      | cons y l =>
        rw [List.getLast_cons (by simp)]
        exact (norm_iff _).1 h2 (by simp)
theorem exists_nat (v : Nat) : ∃ l, IsNat l v := by
  obtain ⟨l, h⟩ := exists_num B64 (by unfold B64; omega) v v (Nat.le_refl _)
  exact ⟨l, h⟩
theorem sum_step {P W W2 V Q u u2 lo vq vq2 U : Nat} (h1 : u = lo + P * W) (h2 : u2 = lo + P * W2) (h3 : W2 + Q * V = W) (h4 : vq2 = vq + P * Q) (h : vq * V + u = U) : vq2 * V + u2 = U := by
  subst h1 h2 h3 h4
  rw [Nat.add_mul, ← h, Nat.mul_add, Nat.mul_assoc]
  omega
theorem div_outer (K : Nat) (hK : K ≤ 63) (v : List Int) (hv : Dig B64 v) (hn : 2 ≤ v.length) (ln : v.length ≤ 1048576) (hy0 : 0 < rd v ((v.length - 1 : Nat) : Int)) (U : Nat) (q' r' : List Int) (hq' : IsNat q' (U / val B64 v)) (hr' : IsNat r' ((U % val B64 v) / 2 ^ K)) :
    ∀ (i : Nat) (u q : List Int), Dig B64 u → Dig B64 q → u.length ≤ 1048576 → (0 < i → i - 1 + v.length < u.length) → i ≤ q.length → (∀ m : Nat, m < i → rd q (m : Int) = 0) → val B64 (u.drop i) < val B64 v → val B64 q * val B64 v + val B64 u = U →
    Ev (fun k => impl_nat_div.l0 k (K : Int) v (v.length : Int) u q ((i : Int) - 1)) (q', r') := by
  intro i
  induction i with
  | zero =>
    intro u q hu hq lu hi hil hz hlt hsum
    obtain ⟨r, hr, dr, nr, vr⟩ := iright_ev (trimL u) hu.trim (by have := trimL_length u; omega) K (by omega)
    obtain ⟨e1, e2⟩ := quot_of (show val B64 u + val B64 q * val B64 v = U by omega) hlt
    have h1 : r = r' := IsNat.uniq (v := (U % val B64 v) / 2 ^ K) ⟨dr, nr, by rw [vr, val_trim, e2]⟩ hr'
    have h2 : trimL q = q' := IsNat.uniq (v := U / val B64 v) ⟨hq.trim, norm_trim _, by rw [val_trim, e1]⟩ hq'
    rw [h1] at hr
    refine Ev.step (f := fun k => (impl_nat_right.f k (trimL u) (K : Int)).bind fun t => some (q', t)) (fun k => ?_) (Ev.bind hr (Ev.now _))
    have c0 : ¬ (((0 : Nat) : Int) - 1 ≥ 0) := by omega
    simp only [impl_nat_div.l0]
    rw [if_neg c0, h2]
  | succ i ih =>
    intro u q hu hq lu hi hil hz hlt hsum
    have hj := hi (by omega)
    rw [Nat.add_sub_cancel] at hj
    have e0 : ((i + 1 : Nat) : Int) - 1 = (i : Int) := by omega
    rw [e0]
    refine div_place (K : Int) v u q hv hu i hn ln hj (by omega) (by omega) hy0 hlt (q', r') ?_
    intro u' q2 l' d' tk' hw' hlt' hQB hq2
    subst hq2
    have hset := val_set B64 q i ((val B64 (u.drop i) / val B64 v : Nat) : Int) (by omega)
    rw [hz i (by omega), Int.toNat_zero, Nat.mul_zero, Nat.add_zero, Int.toNat_natCast] at hset
    have hs := val_split B64 u i (by omega)
    have hs' := val_split B64 u' i (by omega)
    rw [tk'] at hs'
    exact ih u' (q.set i _) d' (hq.set _ (cast_dig hQB)) (by omega) (fun h => by omega) (by rw [List.length_set]; omega) (fun m hm => by rw [rd_set_ne _ _ _ _ (by omega)]; exact hz m (by omega)) hlt' (sum_step hs hs' hw' hset hsum)
theorem dw_num {q r vo d x rest B : Nat} (h : d * q + r = rest * B + x) : (q + B * vo) * d + r = x + B * (vo * d + rest) := by
  rw [Nat.add_mul, Nat.mul_add, Nat.mul_assoc, Nat.mul_comm q d, Nat.mul_comm B rest]
  omega
theorem dw_loop (a : List Int) (d : Nat) (ha : Dig B64 a) (la : a.length ≤ 1073741824) (hd : 0 < d) (hdB : d < B64) : ∀ (i : Nat) (out : List Int) (rest : Nat), i ≤ a.length → out.length = a.length → Dig B64 out → rest < d → val B64 (out.drop i) * d + rest = val B64 (a.drop i) →
    ∃ (q : List Int) (r : Nat), Ev (fun k => impl_nat_divWord.l0 k a (d : Int) out (rest : Int) ((i : Int) - 1)) (q, (r : Int)) ∧ Dig B64 q ∧ Norm q ∧ val B64 q = val B64 a / d ∧ r = val B64 a % d ∧ q.length ≤ a.length := by
  intro i
  induction i with
  | zero =>
    intro out rest hi lo ho hr hs
    rw [List.drop_zero, List.drop_zero] at hs
    obtain ⟨e1, e2⟩ := quot_of (show rest + val B64 out * d = val B64 a by omega) hr
    refine ⟨trimL out, rest, Ev.step (f := fun _ => some (trimL out, (rest : Int))) (fun k => ?_) (Ev.now _), ho.trim, norm_trim _, by rw [val_trim, e1], e2, by have := trimL_length out; omega⟩
    have c0 : ¬ (((0 : Nat) : Int) - 1 ≥ 0) := by omega
    simp only [impl_nat_divWord.l0]
    rw [if_neg c0]
  | succ i ih =>
    intro out rest hi lo ho hr hs
    have e0 : ((i + 1 : Nat) : Int) - 1 = (i : Int) := by omega
    rw [e0]
    obtain ⟨x, hx, xB⟩ := cast_dig64 (ha.rd B64_pos (i : Int))
    have h64 := d64_ev rest x d (by unfold B64 at xB; exact xB) (by unfold B64 at hdB; exact hdB) hr
    have hqB : (rest * B64 + x) / d < B64 := div_lt_base hr xB
    have hda := val_drop_rd B64 (l := a) (p := i) (by omega)
    rw [hx, Int.toNat_natCast] at hda
    have hl2 : (out.set i (((rest * B64 + x) / d : Nat) : Int)).length = a.length := by rw [List.length_set]; exact lo
    have hdo := val_drop_rd B64 (l := out.set i (((rest * B64 + x) / d : Nat) : Int)) (p := i) (by omega)
    have hil : i < out.length := by omega
    rw [rd_set_self out i _ hil, List.drop_set_of_lt (Nat.lt_succ_self i), Int.toNat_natCast] at hdo
    have hdm := Nat.div_add_mod (rest * B64 + x) d
    have hmod := Nat.mod_lt (rest * B64 + x) hd
    have hs2 : val B64 ((out.set i (((rest * B64 + x) / d : Nat) : Int)).drop i) * d + (rest * B64 + x) % d = val B64 (a.drop i) := by
      rw [hdo, hda, ← hs]
      exact dw_num hdm
    obtain ⟨q, r, hE, p⟩ := ih (out.set i (((rest * B64 + x) / d : Nat) : Int)) ((rest * B64 + x) % d) (by omega) hl2 (ho.set _ (cast_dig hqB)) hmod hs2
    refine ⟨q, r, Ev.step (f := fun k => (bits_Div64.f k (rest : Int) (x : Int) (d : Int)).bind fun t => impl_nat_divWord.l0 k a (d : Int) (out.set i t.1) t.2 ((i : Int) - 1)) (fun k => ?_) (Ev.bind h64 hE), p⟩
    have c0 : (i : Int) ≥ 0 := Int.natCast_nonneg _
    have c1 : (i : Int) < (a.length : Int) := by omega
    have c2 : (i : Int) < (out.length : Int) := by omega
    have b2 : i ≤ 9223372036854775807 := by omega
    simp only [impl_nat_divWord.l0]
    rw [if_pos c0, if_pos c0, if_pos c1, hx, wpred i b2]
    simp only [if_pos c2, Int.toNat_natCast]
theorem idw_ev (a : List Int) (d : Nat) (ha : Dig B64 a) (la : a.length ≤ 1073741824) (hd : 0 < d) (hdB : d < B64) :
    ∃ (q : List Int) (r : Nat), Ev (fun k => impl_nat_divWord.f k a (d : Int)) (q, (r : Int)) ∧ Dig B64 q ∧ Norm q ∧ val B64 q = val B64 a / d ∧ r = val B64 a % d ∧ q.length ≤ a.length := by
  obtain ⟨q, r, hE, p⟩ := dw_loop a d ha la hd hdB a.length (List.replicate a.length 0) 0 (Nat.le_refl _) (by simp) (Dig.zeros B64_pos _) hd (by rw [List.drop_length, List.drop_eq_nil_of_le (by simp)]; simp [val])
  refine ⟨q, r, Ev.congr (fun k => ?_) hE, p⟩
  have c1 : a.length ≤ 35184372088832 := by omega
  have b1 : a.length ≤ 9223372036854775807 := by omega
  unfold impl_nat_divWord.f
  rw [if_pos (Int.natCast_nonneg _), Int.toNat_natCast, if_pos c1, wpred _ b1]
  rfl
theorem copy_longer (xs ys : List Int) (h : ys.length ≤ xs.length) : copyL xs ys = ys ++ xs.drop ys.length := by
  unfold copyL
  rw [Nat.min_eq_left h, List.take_length]
theorem len_le_of_val {l : List Int} (hd : Dig B64 l) (hn : Norm l) {m : Nat} (h : val B64 l < B64 ^ m) : l.length ≤ m := by
  rcases Nat.lt_or_ge m l.length with h1 | h1
  · have h2 := val_ge hd hn (by omega)
    have h3 : B64 ^ m ≤ B64 ^ (l.length - 1) := Nat.pow_le_pow_right B64_pos (by omega)
    omega
  · exact h1
theorem wsub64 (m : Nat) (h : m ≤ 64) : wrap64 (64 - (m : Int)) = ((64 - m : Nat) : Int) := by rw [wrap64_id (by omega)]; omega
theorem waddo (a : Nat) (h : a + 1 ≤ 9223372036854775807) : wrap64 ((a : Int) + 1) = ((a + 1 : Nat) : Int) := by rw [wrap64_id (by omega)]; omega
theorem idiv_ev (a b : List Int) (ha : Dig B64 a) (hb : Dig B64 b) (na : Norm a) (nb : Norm b) (la : a.length ≤ 1000000) (lb : b.length ≤ 1000000) (h0 : 0 < val B64 b) :
    ∃ q r, Ev (fun k => impl_nat_div.f k a b) (q, r) ∧ IsNat q (val B64 a / val B64 b) ∧ IsNat r (val B64 a % val B64 b) := by
  have hcmp := icmp_ev a b ha hb na nb (by omega) (by omega)
  unfold impl_nat_div.f
  by_cases hlt : val B64 a < val B64 b
  · refine ⟨[], a, Ev.bind hcmp (Ev.congr (fun k => ?_) (Ev.now _)), by rw [Nat.div_eq_of_lt hlt]; exact IsNat.nil, ⟨ha, na, (Nat.mod_eq_of_lt hlt).symm⟩⟩
    have c1 : cmpN (val B64 a) (val B64 b) < 0 := by unfold cmpN; rw [if_pos hlt]; decide
    have c2 : ([] : List Int).length + a.length < 17592186044416 := by rw [List.length_nil]; omega
    rw [if_pos c1, Option.bind_some, if_pos c2]
    rfl
  · have hge : val B64 b ≤ val B64 a := Nat.le_of_not_lt hlt
    have c1 : ¬ cmpN (val B64 a) (val B64 b) < 0 := by
      unfold cmpN
      rw [if_neg hlt]
      split <;> decide
    have lb0 : 0 < b.length := by
      rcases Nat.eq_zero_or_pos b.length with h | h
      · rw [List.eq_nil_of_length_eq_zero h] at h0; exact absurd h0 (by decide)
      · exact h
    by_cases hb1 : b.length = 1
    · obtain ⟨x, rfl⟩ := List.length_eq_one_iff.1 hb1
      obtain ⟨d, hd, dB⟩ := cast_dig64 (hb x (by simp))
      subst hd
      have hv : val B64 [(d : Int)] = d := by rw [val_one, Int.toNat_natCast]
      rw [hv] at *
      obtain ⟨q, r, hE, dq, nq, vq, vr, lq⟩ := idw_ev a d ha (by omega) h0 dB
      have hrB : r < 18446744073709551616 := by
        have h9 : r < d := by rw [vr]; exact Nat.mod_lt _ h0
        clear vr vq hv hE lq
        unfold B64 at dB
        omega
      have hw := (word_nat r hrB).1
      refine ⟨q, trimL [(r : Int)], Ev.bind hcmp (Ev.congr (f := fun k => (impl_nat_divWord.f k a (d : Int)).bind fun t => (impl_word.f t.2).bind fun t2 => some (t.1, t2)) (fun k => ?_) (Ev.bind hE (ev_bindc (word_eq _) (Ev.now _)))), ⟨dq, nq, vq⟩, by rw [← vr]; exact hw⟩
      rw [if_neg c1]
      rfl
    · have hn : 2 ≤ b.length := by omega
      have hla : b.length ≤ a.length := by
        rcases Nat.lt_or_ge a.length b.length with h | h
        · have := val_lt_of_length B64_pos ha hb nb h; omega
        · exact h
      obtain ⟨z, hz, zB⟩ := cast_dig64 (hb.rd B64_pos ((b.length - 1 : Nat) : Int))
      have hz0 : 0 < z := by
        have h := norm_last nb lb0
        rw [show ((b.length : Int) - 1) = ((b.length - 1 : Nat) : Int) by omega, hz] at h
        omega
      obtain ⟨m, hm, hm64, hlen⟩ := len64_ev z (by unfold B64 at zB; exact zB)
      have hm0 := hm.pos hz0
      obtain ⟨s, hs⟩ : ∃ s, s = 64 - m := ⟨_, rfl⟩
      have hs63 : s ≤ 63 := by omega
      obtain ⟨v, hv, dv, nv, vv⟩ := ileft_ev b hb (by omega) s (by omega)
      obtain ⟨t, ht, dt, nt, vt⟩ := ileft_ev a ha (by omega) s (by omega)
      have hps : 0 < 2 ^ s := Nat.pow_pos (by decide)
      have h2s : 2 ^ s < B64 := by rw [B64_pow]; exact Nat.pow_lt_pow_right (by decide) (by omega)
      -- the divisor keeps its length, and its top is great
      have hzs : z * 2 ^ s < B64 ∧ 9223372036854775808 ≤ z * 2 ^ s := by
        constructor
        · have := Nat.mul_lt_mul_of_pos_right hm.1 hps
          rwa [← Nat.pow_add, show m + s = 64 by omega, ← B64_pow] at this
        · have h1 : 2 ^ (m - 1) ≤ z := by rcases hm.2 with h | h <;> omega
          have := Nat.mul_le_mul_right (2 ^ s) h1
          rwa [← Nat.pow_add, show m - 1 + s = 63 by omega] at this
      have hvb : val B64 b = val B64 (b.take (b.length - 1)) + B64 ^ (b.length - 1) * z := by
        have h := val_mid B64 (l := b) (p := b.length - 1) (by omega)
        rw [show b.length - 1 + 1 = b.length by omega, List.drop_length, hz, Int.toNat_natCast] at h
        simpa [val] using h
      have hlowb : val B64 (b.take (b.length - 1)) < B64 ^ (b.length - 1) := by
        have h := val_lt (hb.take (b.length - 1))
        rwa [List.length_take, Nat.min_eq_left (by omega)] at h
      have hpow : B64 ^ b.length = B64 ^ (b.length - 1) * B64 := by rw [← Nat.pow_succ, show (b.length - 1).succ = b.length by omega]
      have hvlt : val B64 v < B64 ^ b.length := by
        rw [vv, hpow]
        have h1 : val B64 b + 1 ≤ B64 ^ (b.length - 1) * (z + 1) := by rw [Nat.mul_add]; omega
        have h2 : (z + 1) * 2 ^ s ≤ B64 := by
          have h3 : z + 1 ≤ 2 ^ m := hm.1
          have := Nat.mul_le_mul_right (2 ^ s) h3
          rwa [← Nat.pow_add, show m + s = 64 by omega, ← B64_pow] at this
        have h3 := Nat.mul_le_mul_right (2 ^ s) h1
        have h4 := Nat.mul_le_mul_left (B64 ^ (b.length - 1)) h2
        rw [← Nat.mul_assoc] at h4
        rw [Nat.add_mul] at h3
        omega
      have hvge : B64 ^ (b.length - 1) * 9223372036854775808 ≤ val B64 v := by
        rw [vv, hvb, Nat.add_mul, Nat.mul_assoc]
        have := Nat.mul_le_mul_left (B64 ^ (b.length - 1)) hzs.2
        omega
      have hlv : v.length = b.length := by
        have h1 := len_le_of_val dv nv hvlt
        rcases Nat.lt_or_ge v.length b.length with h | h
        · have h2 := val_lt dv
          have h3 : B64 ^ v.length ≤ B64 ^ (b.length - 1) := Nat.pow_le_pow_right B64_pos (by omega)
          have h4 := Nat.mul_le_mul_left (B64 ^ (b.length - 1)) (show 1 ≤ 9223372036854775808 by decide)
          omega
        · omega
      have hvtop : 0 < rd v ((v.length - 1 : Nat) : Int) ∧ 9223372036854775808 * B64 ^ (v.length - 1) ≤ val B64 v := by
        have h := norm_last nv (by omega)
        rw [show ((v.length : Int) - 1) = ((v.length - 1 : Nat) : Int) by omega] at h
        have h2 := dv.rd B64_pos ((v.length - 1 : Nat) : Int)
        exact ⟨by omega, by rw [Nat.mul_comm, hlv]; exact hvge⟩
      -- the dividend, one limb longer
      have htlt : val B64 t < 2 ^ s * B64 ^ a.length := by
        rw [vt, Nat.mul_comm]
        exact Nat.mul_lt_mul_of_pos_left (val_lt ha) hps
      have hlt2 : t.length ≤ a.length + 1 := by
        refine len_le_of_val dt nt (Nat.lt_of_lt_of_le htlt ?_)
        rw [Nat.pow_succ, Nat.mul_comm]
        exact Nat.mul_le_mul_left _ (Nat.le_of_lt h2s)
      obtain ⟨u, hu⟩ : ∃ u, u = copyL (List.replicate (a.length + 1) 0) t := ⟨_, rfl⟩
      have hue : u = t ++ List.replicate (a.length + 1 - t.length) 0 := by rw [hu, copy_longer _ _ (by simpa using hlt2), List.drop_replicate]
      have hul : u.length = a.length + 1 := by rw [hue, List.length_append, List.length_replicate]; omega
      have hud : Dig B64 u := by rw [hue]; exact dt.append (Dig.zeros B64_pos _)
      have huv : val B64 u = val B64 a * 2 ^ s := by rw [hue, val_append, val_zeros, Nat.mul_zero, Nat.add_zero, vt]
      have hdl : val B64 (u.drop (a.length - v.length + 1)) < val B64 v := by
        rw [val_drop B64 B64_pos hud, huv, ← vt]
        have h1 : B64 ^ a.length = B64 ^ (a.length - v.length + 1) * B64 ^ (v.length - 1) := by rw [← Nat.pow_add]; congr 1; omega
        rw [Nat.div_lt_iff_lt_mul (Nat.pow_pos B64_pos)]
        have h2 : 2 ^ s ≤ 9223372036854775808 := by
          have : 2 ^ s ≤ 2 ^ 63 := Nat.pow_le_pow_right (by decide) hs63
          exact this
        have h3 := Nat.mul_le_mul_right (B64 ^ a.length) h2
        have h4 := Nat.mul_le_mul_right (B64 ^ (a.length - v.length + 1)) hvtop.2
        rw [Nat.mul_assoc, Nat.mul_comm (B64 ^ (v.length - 1)), ← h1] at h4
        omega
      obtain ⟨q', hq'⟩ := exists_nat (val B64 a * 2 ^ s / val B64 v)
      obtain ⟨r', hr'⟩ := exists_nat (val B64 a * 2 ^ s % val B64 v / 2 ^ s)
      have hE := div_outer s hs63 v dv (by omega) (by omega) hvtop.1 (val B64 a * 2 ^ s) q' r' hq' hr' (a.length - v.length + 1) u (List.replicate (a.length - v.length + 1) 0) hud (Dig.zeros B64_pos _) (by omega) (fun _ => by omega) (by simp)
        (fun m hm => by rw [rd_nat]; simp [List.getD_eq_getElem?_getD, List.getElem?_replicate]; split <;> rfl) hdl (by rw [val_zeros, huv]; omega)
      have e0 : ((a.length - v.length + 1 : Nat) : Int) - 1 = ((a.length - v.length : Nat) : Int) := by omega
      rw [e0, hu] at hE
      rw [vv, Nat.mul_div_mul_right _ _ hps] at hq'
      rw [vv, Nat.mul_mod_mul_right, Nat.mul_div_cancel _ hps] at hr'
      have c2 : ¬ (b.length : Int) = 1 := by omega
      have c3 : ((b.length - 1 : Nat) : Int) < (b.length : Int) := by omega
      have c4 : a.length + 1 ≤ 35184372088832 := by omega
      have c5 : a.length - v.length + 1 ≤ 35184372088832 := by omega
      have b1 : b.length ≤ 9223372036854775807 := by omega
      have b2 : a.length ≤ 9223372036854775807 := by omega
      have b3 : v.length ≤ a.length := by omega
      have b4 : a.length + 1 ≤ 9223372036854775807 := by omega
      have b5 : a.length - v.length + 1 ≤ 9223372036854775807 := by omega
      have b6 : m ≤ 64 := hm64
      refine ⟨q', r', Ev.bind hcmp ?_, hq', hr'⟩
      refine Ev.congr (fun k => by rw [if_neg c1, if_neg c2, wsub1 b.length lb0 b1, if_pos (Int.natCast_nonneg _), if_pos c3, hz]) ?_
      unfold bits_LeadingZeros64.f
      refine Ev.bind (Ev.bind hlen (ev_const (by rw [wsub64 m b6, ← hs]))) ?_
      refine Ev.bind hv ?_
      refine Ev.congr (fun k => by rw [waddo a.length b4, if_pos (Int.natCast_nonneg _), Int.toNat_natCast, if_pos c4]) ?_
      refine Ev.bind ht ?_
      refine Ev.congr (fun k => by rw [wdiff a.length v.length b2 b3, waddo (a.length - v.length) b5, if_pos (Int.natCast_nonneg _), Int.toNat_natCast, if_pos c5]) ?_
      exact hE
end Go.Proofs.Ytcbmdpecnmbhjaa.M
end
section
namespace Go.Proofs.Ytcbmdpecnmbhjaa.M
open Go.RowKit Go.Proofs.Ytcbmdpecnmbhjaa.G Go.Proofs.YtcbmdpecnmbhjaaV.PrintWords Go.Proofs.YtcbmdpecnmbhjaaV.PrintLast Go.Proofs.YtcbmdpecnmbhjaaV.PrintMore Go.Proofs.Ytcbmdpecnmbhjaa.PA
set_option linter.unusedVariables false
set_option linter.unusedSimpArgs false
def dmOk (a b : List Int) : Prop := (a.length ≤ 1200 ∧ b.length ≤ 1200) ∧ 0 < val B64 b
instance (a b : List Int) : Decidable (dmOk a b) := by unfold dmOk; infer_instance
theorem length_zero_iff {B : Nat} (hB : 0 < B) {l : List Int} (hd : Dig B l) (hn : Norm l) : ((l.length : Int) == 0) = decide (val B l = 0) := by
  have h := norm_zero hB hd hn
  by_cases h0 : val B l = 0
  · have := h.2 h0
    subst this
    rw [decide_eq_true h0]; rfl
  · have h1 : ¬ l = [] := fun e => h0 (h.1 e)
    have h2 : l.length ≠ 0 := fun e => h1 (List.eq_nil_of_length_eq_zero e)
    rw [decide_eq_false h0, beq_eq_false_iff_ne]
    omega
theorem len_le_le {l a : List Int} {m : Nat} (hd : Dig B64 l) (hn : Norm l) (ha : Dig B64 a) (hv : val B64 l ≤ val B64 a) (la : a.length ≤ m) : l.length ≤ m :=
  len_le_of_val hd hn (Nat.lt_of_le_of_lt hv (Nat.lt_of_lt_of_le (val_lt ha) (Nat.pow_le_pow_right B64_pos la)))
theorem impl_NatDivMod_ev (a b : List Int) (ha : Dig B64 a) (hb : Dig B64 b) (la : a.length ≤ 1048576) (lb : b.length ≤ 1048576) :
    ∃ q r, Ev (fun k => impl_NatDivMod.f k a b) (q, r, decide (dmOk a b)) ∧ IsNat q (if dmOk a b then val B64 a / val B64 b else 0) ∧ IsNat r (if dmOk a b then val B64 a % val B64 b else 0) ∧ q.length ≤ 1201 ∧ r.length ≤ 1201 := by
  have hno : Ev (fun k => impl_NatDivMod.j0 k a b true) ([], [], false) := Ev.step (f := fun _ => some ([], [], false)) (fun k => by simp [impl_NatDivMod.j0]) (Ev.now _)
  have ta := trimL_length a
  have tb := trimL_length b
  have hz := length_zero_iff B64_pos hb.trim (norm_trim b)
  rw [val_trim] at hz
  unfold impl_NatDivMod.f
  by_cases h : a.length ≤ 1200 ∧ b.length ≤ 1200
  · have hsh := short_two a b (by omega) (by omega)
    simp only [h.1, h.2, and_self, decide_true, Bool.and_self] at hsh
    by_cases h3 : 0 < val B64 b
    · obtain ⟨q, r, hE, hq, hr⟩ := idiv_ev (trimL a) (trimL b) ha.trim hb.trim (norm_trim a) (norm_trim b) (by omega) (by omega) (by rw [val_trim]; exact h3)
      rw [val_trim, val_trim] at hq hr
      have hok : dmOk a b := ⟨h, h3⟩
      have lq : q.length ≤ 1200 := len_le_le hq.1 hq.2.1 ha (by rw [hq.2.2]; exact Nat.div_le_self _ _) h.1
      have lr : r.length ≤ 1200 := len_le_le hr.1 hr.2.1 ha (by rw [hr.2.2]; exact Nat.mod_le _ _) h.1
      refine ⟨q, r, Ev.bind hsh ?_, by rw [if_pos hok]; exact hq, by rw [if_pos hok]; exact hr, by omega, by omega⟩
      rw [hz, decide_eq_false (by omega), decide_eq_true hok]
      refine Ev.congr (f := fun k => impl_NatDivMod.j0 k a b false) (fun k => by rw [if_pos rfl]) ?_
      refine Ev.step (f := fun k => (impl_nat_div.f k (trimL a) (trimL b)).bind fun t => some (t.1, t.2, true)) (fun k => ?_) (Ev.bind hE (Ev.now _))
      simp only [impl_NatDivMod.j0]
      rfl
    · have hok : ¬ dmOk a b := fun e => h3 e.2
      refine ⟨[], [], Ev.bind hsh ?_, by rw [if_neg hok]; exact IsNat.nil, by rw [if_neg hok]; exact IsNat.nil, by simp, by simp⟩
      rw [hz, decide_eq_true (by omega), decide_eq_false hok]
      exact Ev.congr (fun k => by rw [if_pos rfl]) hno
  · have h3 : ¬ ((decide (a.length ≤ 1200) && decide (b.length ≤ 1200)) = true) := by simpa using h
    have hok : ¬ dmOk a b := fun e => h e.1
    refine ⟨[], [], Ev.bind (short_two a b (by omega) (by omega)) ?_, by rw [if_neg hok]; exact IsNat.nil, by rw [if_neg hok]; exact IsNat.nil, by simp, by simp⟩
    rw [decide_eq_false hok]
    exact Ev.congr (fun k => by rw [if_neg h3]) hno
theorem spec_NatDivMod_ev (a b : List Int) (ha : Dig B64 a) (hb : Dig B64 b) (la : a.length ≤ 1048576) (lb : b.length ≤ 1048576) :
    ∃ q r, Ev (fun k => spec_NatDivMod.f k a b) (q, r, decide (dmOk a b)) ∧ IsNat q (if dmOk a b then val B64 a / val B64 b else 0) ∧ IsNat r (if dmOk a b then val B64 a % val B64 b else 0) := by
  have hno : Ev (fun k => spec_NatDivMod.j0 k a b true) ([], [], false) := Ev.step (f := fun _ => some ([], [], false)) (fun k => by simp [spec_NatDivMod.j0]) (Ev.now _)
  have ia := in_ev a ha (by omega)
  have ib := in_ev b hb (by omega)
  have lia := inL_length a
  have lib := inL_length b
  have hz := length_zero_iff B32_pos (inL_dig hb) (inL_norm b)
  rw [inL_val hb] at hz
  unfold spec_NatDivMod.f
  by_cases h : a.length ≤ 1200
  · by_cases h2 : b.length ≤ 1200
    · have h1 : Ev (fun k => (spec_l1Fits.f a).bind fun t => if t = true then (spec_l1Fits.f b).bind fun t2 => if t2 = true then (spec_l1In.f k b).bind fun t3 => spec_NatDivMod.j0 k a b ((t3.length : Int) == 0) else spec_NatDivMod.j0 k a b true else spec_NatDivMod.j0 k a b true) = Ev (fun k => (spec_l1In.f k b).bind fun t3 => spec_NatDivMod.j0 k a b ((t3.length : Int) == 0)) := by
        congr 1
        funext k
        rw [fits_eq, fits_eq, decide_eq_true h, decide_eq_true h2]
        rfl
      by_cases h3 : 0 < val B64 b
      · have hok : dmOk a b := ⟨⟨h, h2⟩, h3⟩
        obtain ⟨q, r, hE, dq, nq, vq, lq, dr, nr, vr, lr⟩ := sdiv_ev (inL a) (inL b) (inL_dig ha) (inL_norm a) (inL_dig hb) (inL_norm b) (by omega) (by omega) (by rw [inL_val hb]; exact h3)
        rw [inL_val ha, inL_val hb] at vq vr
        refine ⟨outL q, outL r, ?_, by rw [if_pos hok]; exact IsNat.out dq nq vq, by rw [if_pos hok]; exact IsNat.out dr nr vr⟩
        rw [h1]
        refine Ev.bind ib ?_
        rw [hz, decide_eq_false (by omega), decide_eq_true hok]
        refine Ev.step (f := fun k => (spec_l1In.f k a).bind fun t1 => (spec_l1In.f k b).bind fun t2 => (spec_l1Div.f k t1 t2).bind fun t3 => (spec_l1Out.f k t3.1).bind fun t4 => (spec_l1Out.f k t3.2).bind fun t5 => some (t4, t5, true)) (fun k => ?_) (Ev.bind ia (Ev.bind ib (Ev.bind hE (Ev.bind (out_ev q dq (by omega)) (Ev.bind (out_ev r dr (by omega)) (Ev.now _))))))
        simp only [spec_NatDivMod.j0]
        rfl
      · have hok : ¬ dmOk a b := fun e => h3 e.2
        refine ⟨[], [], ?_, by rw [if_neg hok]; exact IsNat.nil, by rw [if_neg hok]; exact IsNat.nil⟩
        rw [h1]
        refine Ev.bind ib ?_
        rw [hz, decide_eq_true (by omega), decide_eq_false hok]
        exact hno
    · have hok : ¬ dmOk a b := fun e => h2 e.1.2
      refine ⟨[], [], ?_, by rw [if_neg hok]; exact IsNat.nil, by rw [if_neg hok]; exact IsNat.nil⟩
      rw [decide_eq_false hok]
      refine Ev.congr (fun k => ?_) hno
      rw [fits_eq, fits_eq, decide_eq_true h, decide_eq_false h2]
      rfl
  · have hok : ¬ dmOk a b := fun e => h e.1.1
    refine ⟨[], [], ?_, by rw [if_neg hok]; exact IsNat.nil, by rw [if_neg hok]; exact IsNat.nil⟩
    rw [decide_eq_false hok]
    refine Ev.congr (fun k => ?_) hno
    rw [fits_eq a, decide_eq_false h]
    rfl
end Go.Proofs.Ytcbmdpecnmbhjaa.M
end
section
namespace Go.Proofs.Ytcbmdpecnmbhjaa.M
open Go.RowKit Go.Proofs.Ytcbmdpecnmbhjaa.G Go.Proofs.YtcbmdpecnmbhjaaV.PrintWords Go.Proofs.YtcbmdpecnmbhjaaV.PrintLast Go.Proofs.YtcbmdpecnmbhjaaV.PrintMore Go.Proofs.Ytcbmdpecnmbhjaa.PA
set_option linter.unusedVariables false
set_option linter.unusedSimpArgs false
theorem impl_NatMul_ev (a b : List Int) (ha : Dig B64 a) (hb : Dig B64 b) (la : a.length ≤ 1048576) (lb : b.length ≤ 1048576) :
    ∃ r, Ev (fun k => impl_NatMul.f k a b) r ∧ IsNat r (if a.length ≤ 1200 ∧ b.length ≤ 1200 then val B64 a * val B64 b else 0) := by
  unfold impl_NatMul.f
  by_cases h : a.length ≤ 1200 ∧ b.length ≤ 1200
  · obtain ⟨r, hr, hd, hn, hv, hl⟩ := imul_ev (trimL a) (trimL b) ha.trim hb.trim (by have := trimL_length a; omega) (by have := trimL_length b; omega)
    rw [val_trim, val_trim] at hv
    refine ⟨r, Ev.bind (short_two a b (by omega) (by omega)) ?_, ⟨hd, hn, by rw [if_pos h]; exact hv⟩⟩
    simp only [h.1, h.2, and_self, decide_true, Bool.and_self, if_true]
    exact Ev.bind hr (Ev.now _)
  · refine ⟨[], Ev.bind (short_two a b (by omega) (by omega)) ?_, ⟨Dig.nil _, norm_nil, by rw [if_neg h]; rfl⟩⟩
    have h3 : ¬ ((decide (a.length ≤ 1200) && decide (b.length ≤ 1200)) = true) := by simpa using h
    simp only [if_neg h3]
    exact Ev.now _
end Go.Proofs.Ytcbmdpecnmbhjaa.M
end
section
namespace Go.Proofs.Ytcbmdpecnmbhjaa.M
open Go.RowKit Go.Proofs.Ytcbmdpecnmbhjaa.G Go.Proofs.YtcbmdpecnmbhjaaV.PrintWords Go.Proofs.YtcbmdpecnmbhjaaV.PrintLast Go.Proofs.YtcbmdpecnmbhjaaV.PrintMore Go.Proofs.Ytcbmdpecnmbhjaa.PA
set_option linter.unusedVariables false
set_option linter.unusedSimpArgs false
theorem bits_or_range (x y : Int) : 0 ≤ Go.bits .or .u64 x y ∧ Go.bits .or .u64 x y < 18446744073709551616 := by
  unfold Go.bits
  simp only
  rw [wrap_u64]
  omega
theorem u64_range (x : Int) : 0 ≤ IntKind.u64.wrap x ∧ IntKind.u64.wrap x < (B64 : Int) := by
  rw [wrap_u64]
  unfold B64
  omega
theorem shl1_range (p : Int) : 0 ≤ shl .u64 1 p ∧ shl .u64 1 p < (B64 : Int) := by
  unfold shl
  rw [wrap_u64]
  unfold B64
  omega
theorem dig64_one (x : Int) (h : 0 ≤ x ∧ x < (B64 : Int)) {l : List Int} (hl : Dig B64 l) : Dig B64 (l ++ [x]) := hl.snoc h
theorem next_ev (b : List Int) (hb : Dig 256 b) (lb : b.length ≤ 1048576) (i : Nat) (hi : i ≤ b.length) : ∃ c i' : Nat, spec_l1Reader_next.f b (i : Int) = some ((c : Int), (i' : Int)) ∧ c < 256 ∧ i' ≤ b.length := by
  unfold spec_l1Reader_next.f
  by_cases h : i < b.length
  · have hd := hb.rd (by decide) (i : Int)
    have c1 : ¬ (i : Int) ≥ (b.length : Int) := by omega
    have c2 : (i : Int) < (b.length : Int) := by omega
    have b1 : i + 1 ≤ 9223372036854775807 := by omega
    refine ⟨(rd b (i : Int)).toNat, i + 1, ?_, by omega, by omega⟩
    have e1 : wrap64 (rd b (i : Int)) = (((rd b (i : Int)).toNat : Nat) : Int) := by rw [wrap64_id (by omega)]; omega
    have e2 : wrap64 ((i : Int) + 1) = ((i + 1 : Nat) : Int) := by rw [wrap64_id (by omega)]; rfl
    rw [if_neg c1, if_pos (Int.natCast_nonneg _), if_pos c2, e1, e2]
  · refine ⟨0, i, ?_, by decide, hi⟩
    rw [if_pos (by omega)]
    rfl
section
variable (b : List Int) (hb : Dig 256 b) (lb : b.length ≤ 1048576)
include hb lb
theorem wide_loop (d : Nat) : ∀ (j i : Nat) (x : Int), j + d = 8 → i ≤ b.length → 0 ≤ x ∧ x < (B64 : Int) → ∃ (y : Nat) (i' : Nat), Ev (fun k => spec_l1Reader_wide.l0 k x (j : Int) b (i : Int)) ((y : Int), (i' : Int)) ∧ y < B64 ∧ i' ≤ b.length := by
  induction d with
  | zero =>
    intro j i x hj hi hx
    obtain ⟨y, rfl, hy⟩ : ∃ n : Nat, x = (n : Int) ∧ n < B64 := ⟨x.toNat, by omega, by omega⟩
    refine ⟨y, i, Ev.step (f := fun _ => some ((y : Int), (i : Int))) (fun k => ?_) (Ev.now _), hy, hi⟩
    simp only [spec_l1Reader_wide.l0]
    rw [if_neg (by omega)]
  | succ d ih =>
    intro j i x hj hi hx
    obtain ⟨c, i2, hn, hc, hi2⟩ := next_ev b hb lb i hi
    have hr := bits_or_range (IntKind.u64.wrap (x * 256)) (IntKind.u64.wrap (c : Int))
    obtain ⟨y, i3, hE, hy, hi3⟩ := ih (j + 1) i2 (Go.bits .or .u64 (IntKind.u64.wrap (x * 256)) (IntKind.u64.wrap (c : Int))) (by omega) hi2 (by unfold B64; exact hr)
    refine ⟨y, i3, Ev.step (fun k => ?_) hE, hy, hi3⟩
    have c1 : (j : Int) < 8 := by omega
    have e2 : wrap64 ((j : Int) + 1) = ((j + 1 : Nat) : Int) := by rw [wrap64_id (by omega)]; rfl
    simp only [spec_l1Reader_wide.l0]
    rw [if_pos c1, hn, Option.bind_some, e2]
theorem wide_ev (i : Nat) (hi : i ≤ b.length) : ∃ (y : Nat) (i' : Nat), Ev (fun k => spec_l1Reader_wide.f k b (i : Int)) ((y : Int), (i' : Int)) ∧ y < B64 ∧ i' ≤ b.length := by
  unfold spec_l1Reader_wide.f
  exact wide_loop b hb lb 8 0 i 0 (by omega) hi (by unfold B64; omega)
theorem limbs_l1 (d : Nat) : ∀ (i : Nat) (l : List Int), i ≤ b.length → Dig B64 l → l.length ≤ 1201 → 1201 ≤ l.length + d → ∃ (r : List Int) (i' : Nat), Ev (fun k => spec_l1Reader_limbs.l1 k l b (i : Int)) (r, (i' : Int)) ∧ Dig B64 r ∧ r.length ≤ 1201 ∧ i' ≤ b.length := by
  induction d with
  | zero =>
    intro i l hi hl ll hd
    obtain ⟨c, i2, hn, hc, hi2⟩ := next_ev b hb lb i hi
    refine ⟨l, i2, Ev.step (f := fun _ => some (l, (i2 : Int))) (fun k => ?_) (Ev.now _), hl, ll, hi2⟩
    have hm : c % 2 ≤ 1 := by omega
    have e1 : wrap64 (1200 + ((c % 2 : Nat) : Int)) = ((1200 + c % 2 : Nat) : Int) := by rw [wrap64_id (by omega)]; rfl
    simp only [spec_l1Reader_limbs.l1]
    rw [hn, Option.bind_some]
    dsimp only
    rw [show (2 : Int) = ((2 : Nat) : Int) from rfl, tmod_nat, e1, if_neg (by clear e1; omega)]
  | succ d ih =>
    intro i l hi hl ll hd
    obtain ⟨c, i2, hn, hc, hi2⟩ := next_ev b hb lb i hi
    have hm : c % 2 ≤ 1 := by omega
    have e1 : wrap64 (1200 + ((c % 2 : Nat) : Int)) = ((1200 + c % 2 : Nat) : Int) := by rw [wrap64_id (by omega)]; rfl
    by_cases h : l.length < 1200 + c % 2
    · obtain ⟨r, i3, hE, p⟩ := ih i2 (l ++ [IntKind.u64.wrap (l.length : Int)]) hi2 (dig64_one _ (u64_range _) hl) (by simp; clear e1; omega) (by simp; clear e1; omega)
      refine ⟨r, i3, Ev.step (fun k => ?_) hE, p⟩
      have c1 : (l.length : Int) < ((1200 + c % 2 : Nat) : Int) := by clear e1; omega
      have c2 : l.length < 17592186044416 := by clear e1; omega
      simp only [spec_l1Reader_limbs.l1]
      rw [hn, Option.bind_some]
      dsimp only
      rw [show (2 : Int) = ((2 : Nat) : Int) from rfl, tmod_nat, e1, if_pos c1, if_pos c2]
    · refine ⟨l, i2, Ev.step (f := fun _ => some (l, (i2 : Int))) (fun k => ?_) (Ev.now _), hl, ll, hi2⟩
      have c1 : ¬ (l.length : Int) < ((1200 + c % 2 : Nat) : Int) := by clear e1; omega
      simp only [spec_l1Reader_limbs.l1]
      rw [hn, Option.bind_some]
      dsimp only
      rw [show (2 : Int) = ((2 : Nat) : Int) from rfl, tmod_nat, e1, if_neg c1]
theorem limbs_l0 (K : Int) (n : Nat) : ∀ (i : Nat) (l : List Int), i ≤ b.length → Dig B64 l → l.length + n ≤ 100 → ∃ (r : List Int) (i' : Nat), Ev (fun k => spec_l1Reader_limbs.l0 k K (n : Int) l b (i : Int)) (r, (i' : Int)) ∧ Dig B64 r ∧ r.length ≤ 1201 ∧ i' ≤ b.length := by
  induction n with
  | zero =>
    intro i l hi hl ll
    by_cases h : K = 255
    · obtain ⟨r, i3, hE, p⟩ := limbs_l1 b hb lb 1201 i l hi hl (by omega) (by omega)
      refine ⟨r, i3, Ev.step (fun k => ?_) hE, p⟩
      simp only [spec_l1Reader_limbs.l0]
      rw [if_neg (by decide), if_pos h]
    · refine ⟨l, i, Ev.step (f := fun _ => some (l, (i : Int))) (fun k => ?_) (Ev.now _), hl, by omega, hi⟩
      simp only [spec_l1Reader_limbs.l0]
      rw [if_neg (by decide), if_neg h]
  | succ n ih =>
    intro i l hi hl ll
    obtain ⟨c, i2, hn, hc, hi2⟩ := next_ev b hb lb i hi
    have c0 : ((n + 1 : Nat) : Int) > 0 := by omega
    have c2 : l.length < 17592186044416 := by omega
    have ew : wrap64 (((n + 1 : Nat) : Int) - 1) = (n : Int) := by rw [show (((n + 1 : Nat) : Int) - 1) = (n : Int) by omega]; exact wrap64_id (by omega)
    have e6 : Int.tmod (c : Int) 6 = ((c % 6 : Nat) : Int) := tmod_nat c 6
    have ll1 : ∀ x : Int, (l ++ [x]).length + n ≤ 100 := fun x => by rw [List.length_append, List.length_singleton]; clear ew; omega
    by_cases h0 : c % 6 = 0
    · obtain ⟨r, i3, hE, p⟩ := ih i2 (l ++ [0]) hi2 (dig64_one _ (by unfold B64; omega) hl) (ll1 _)
      refine ⟨r, i3, Ev.step (fun k => ?_) hE, p⟩
      simp only [spec_l1Reader_limbs.l0]
      rw [if_pos c0, hn, Option.bind_some]
      dsimp only
      rw [e6, h0, if_pos (show ((0 : Nat) : Int) = 0 from rfl), if_pos c2, ew]
    by_cases h1 : c % 6 = 1
    · obtain ⟨r, i3, hE, p⟩ := ih i2 (l ++ [18446744073709551615]) hi2 (dig64_one _ (by unfold B64; omega) hl) (ll1 _)
      refine ⟨r, i3, Ev.step (fun k => ?_) hE, p⟩
      simp only [spec_l1Reader_limbs.l0]
      rw [if_pos c0, hn, Option.bind_some]
      dsimp only
      rw [e6, h1, if_neg (by decide), if_pos (show ((1 : Nat) : Int) = 1 from rfl), if_pos c2, ew]
    by_cases h2 : c % 6 = 2
    · obtain ⟨r, i3, hE, p⟩ := ih i2 (l ++ [IntKind.u64.wrap (c : Int)]) hi2 (dig64_one _ (u64_range _) hl) (ll1 _)
      refine ⟨r, i3, Ev.step (fun k => ?_) hE, p⟩
      simp only [spec_l1Reader_limbs.l0]
      rw [if_pos c0, hn, Option.bind_some]
      dsimp only
      rw [e6, h2, if_neg (by decide), if_neg (by decide), if_pos (show ((2 : Nat) : Int) = 2 from rfl), if_pos c2, ew]
    have n0 : ¬ ((c % 6 : Nat) : Int) = 0 := by clear ew; omega
    have n1 : ¬ ((c % 6 : Nat) : Int) = 1 := by clear ew; omega
    have n2 : ¬ ((c % 6 : Nat) : Int) = 2 := by clear ew; omega
    by_cases h3 : c % 6 = 3
    · obtain ⟨c', i3, hn', hc', hi3⟩ := next_ev b hb lb i2 hi2
      obtain ⟨r, i4, hE, p⟩ := ih i3 (l ++ [shl .u64 1 (IntKind.u64.wrap (Int.tmod (c' : Int) 64))]) hi3 (dig64_one _ (shl1_range _) hl) (ll1 _)
      refine ⟨r, i4, Ev.step (fun k => ?_) hE, p⟩
      have g : 0 ≤ IntKind.u64.wrap (Int.tmod (c' : Int) 64) := (u64_range _).1
      simp only [spec_l1Reader_limbs.l0]
      rw [if_pos c0, hn, Option.bind_some]
      dsimp only
      rw [e6, if_neg n0, if_neg n1, if_neg n2, h3, if_pos (show ((3 : Nat) : Int) = 3 from rfl), hn', Option.bind_some]
      dsimp only
      rw [if_pos g, if_pos c2, ew]
    · have n3 : ¬ ((c % 6 : Nat) : Int) = 3 := by clear ew; omega
      obtain ⟨y, i3, hw, hy, hi3⟩ := wide_ev b hb lb i2 hi2
      obtain ⟨r, i4, hE, p⟩ := ih i3 (l ++ [(y : Int)]) hi3 (dig64_one _ (cast_dig hy) hl) (ll1 _)
      refine ⟨r, i4, Ev.step (f := fun k => (spec_l1Reader_wide.f k b (i2 : Int)).bind fun t => if l.length < 17592186044416 then spec_l1Reader_limbs.l0 k K (n : Int) (l ++ [t.1]) b t.2 else none) (fun k => ?_) (Ev.bind hw (Ev.congr (fun k => by rw [if_pos c2]) hE)), p⟩
      simp only [spec_l1Reader_limbs.l0]
      rw [if_pos c0, hn, Option.bind_some]
      dsimp only
      rw [e6, if_neg n0, if_neg n1, if_neg n2, if_neg n3, ew]
theorem limbs_ev (i : Nat) (hi : i ≤ b.length) : ∃ (r : List Int) (i' : Nat), Ev (fun k => spec_l1Reader_limbs.f k b (i : Int)) (r, (i' : Int)) ∧ Dig B64 r ∧ r.length ≤ 1201 ∧ i' ≤ b.length := by
  obtain ⟨c, i2, hn, hc, hi2⟩ := next_ev b hb lb i hi
  unfold spec_l1Reader_limbs.f
  have e7 : Int.tmod (c : Int) 7 = ((c % 7 : Nat) : Int) := tmod_nat c 7
  have e16 : Int.tmod (c : Int) 16 = ((c % 16 : Nat) : Int) := tmod_nat c 16
  by_cases h : 240 ≤ c
  · obtain ⟨r, i3, hE, p⟩ := limbs_l0 b hb lb (c : Int) (8 + c % 16 * 3) i2 [] hi2 (Dig.nil _) (by simp; omega)
    refine ⟨r, i3, ?_, p⟩
    have b1 : c % 16 * 3 ≤ 48 := by omega
    have f1 : wrap64 (((c % 16 : Nat) : Int) * 3) = ((c % 16 * 3 : Nat) : Int) := by rw [wrap64_id (by omega)]; rfl
    have f2 : wrap64 (8 + ((c % 16 * 3 : Nat) : Int)) = ((8 + c % 16 * 3 : Nat) : Int) := by rw [wrap64_id (by clear f1; omega)]; rfl
    have g : (c : Int) ≥ 240 := by clear f1 f2; omega
    have hE2 : Ev (fun k => spec_l1Reader_limbs.j0 k (c : Int) ((8 + c % 16 * 3 : Nat) : Int) b (i2 : Int)) (r, (i3 : Int)) := Ev.step (fun k => by simp only [spec_l1Reader_limbs.j0]) hE
    refine Ev.congr (fun k => ?_) hE2
    rw [hn, Option.bind_some]
    dsimp only
    rw [if_pos g, e16, f1, f2]
  · obtain ⟨r, i3, hE, p⟩ := limbs_l0 b hb lb (c : Int) (c % 7) i2 [] hi2 (Dig.nil _) (by simp; omega)
    refine ⟨r, i3, ?_, p⟩
    have g : ¬ (c : Int) ≥ 240 := by omega
    have hE2 : Ev (fun k => spec_l1Reader_limbs.j0 k (c : Int) ((c % 7 : Nat) : Int) b (i2 : Int)) (r, (i3 : Int)) := Ev.step (fun k => by simp only [spec_l1Reader_limbs.j0]) hE
    refine Ev.congr (fun k => ?_) hE2
    rw [hn, Option.bind_some]
    dsimp only
    rw [if_neg g, e7]
theorem DrawNatDivMod_ev : ∃ u v : List Int, Ev (fun k => spec_DrawNatDivMod.f k b) (u, v) ∧ Dig B64 u ∧ Dig B64 v ∧ u.length ≤ 5000 ∧ v.length ≤ 1201 := by
  obtain ⟨c, i1, hn, hc, hi1⟩ := next_ev b hb lb 0 (Nat.zero_le _)
  obtain ⟨x, i2, hx, dx, lx, hi2⟩ := limbs_ev b hb lb i1 hi1
  obtain ⟨y, i3, hy, dy, ly, hi3⟩ := limbs_ev b hb lb i2 hi2
  obtain ⟨z, i4, hz, dz, lz, hi4⟩ := limbs_ev b hb lb i3 hi3
  have lix := inL_length x
  have liy := inL_length y
  have liz := inL_length z
  have e3 : Int.tmod (c : Int) 3 = ((c % 3 : Nat) : Int) := tmod_nat c 3
  have hj : ∀ f : Bool, ∃ u v : List Int, Ev (fun k => spec_DrawNatDivMod.j0 k (c : Int) x y z f) (u, v) ∧ Dig B64 u ∧ Dig B64 v ∧ u.length ≤ 5000 ∧ v.length ≤ 1201 := by
    intro f
    cases f with
    | true => exact ⟨x, y, Ev.step (f := fun _ => some (x, y)) (fun k => by simp [spec_DrawNatDivMod.j0]) (Ev.now _), dx, dy, by omega, ly⟩
    | false =>
      obtain ⟨m, hm, dm, nm, vm, lm⟩ := smul_ev (inL x) (inL y) (inL_dig dx) (inL_dig dy) (by omega) (by omega)
      have ix := in_ev x dx (by omega)
      have iy := in_ev y dy (by omega)
      have iz := in_ev z dz (by omega)
      by_cases h1 : c % 3 = 1
      · obtain ⟨s, hs, ds, ns, vs, ls⟩ := sadd_ev m (inL z) dm (inL_dig dz) (by omega) (by omega)
        refine ⟨outL s, y, Ev.step (f := fun k => (spec_l1In.f k x).bind fun t1 => (spec_l1In.f k y).bind fun t2 => (spec_l1Mul.f k t1 t2).bind fun t3 => (spec_l1In.f k z).bind fun t4 => (spec_l1Add.f k t3 t4).bind fun t5 => (spec_l1Out.f k t5).bind fun t6 => some (t6, y)) (fun k => ?_) (Ev.bind ix (Ev.bind iy (Ev.bind hm (Ev.bind iz (Ev.bind hs (Ev.bind (out_ev s ds (by omega)) (Ev.now _))))))), outL_dig ds, dy, by have := outL_length s; omega, ly⟩
        simp only [spec_DrawNatDivMod.j0]
        rw [if_neg (by decide), e3, h1]
        rfl
      · have n1 : ¬ ((c % 3 : Nat) : Int) = 1 := by omega
        by_cases h2 : 0 < m.length
        · have h3 : 1 ≤ val B32 m := by
            have := val_ge dm nm h2
            have := Nat.pow_pos (n := m.length - 1) B32_pos
            omega
          have o1 := ofW_eq 1 (by decide)
          obtain ⟨s, hs, ds, ns, vs, ls⟩ := ssub_ev m (ofW 1) dm (ofW_dig 1 (by decide)) (by omega) (by rw [ofW_val]; exact h3)
          have c2 : (m.length : Int) > 0 := by omega
          refine ⟨outL s, y, Ev.step (f := fun k => (spec_l1In.f k x).bind fun t1 => (spec_l1In.f k y).bind fun t2 => (spec_l1Mul.f k t1 t2).bind fun t3 => if (t3.length : Int) > 0 then ((spec_l1Of.f 1).bind fun t4 => (spec_l1Sub.f k t3 t4).bind fun t5 => (spec_l1Out.f k t5).bind fun t6 => some (t6, y)) else (spec_l1Out.f k t3).bind fun t7 => some (t7, y)) (fun k => ?_) (Ev.bind ix (Ev.bind iy (Ev.bind hm (Ev.congr (f := fun k => (spec_l1Of.f 1).bind fun t4 => (spec_l1Sub.f k m t4).bind fun t5 => (spec_l1Out.f k t5).bind fun t6 => some (t6, y)) (fun k => by rw [if_pos c2]) (ev_bindc o1 (Ev.bind hs (Ev.bind (out_ev s ds (by omega)) (Ev.now _)))))))), outL_dig ds, dy, by have := outL_length s; omega, ly⟩
          simp only [spec_DrawNatDivMod.j0]
          rw [if_neg (by decide), e3]
          simp only [if_neg n1]
        · have c2 : ¬ (m.length : Int) > 0 := by omega
          refine ⟨outL m, y, Ev.step (f := fun k => (spec_l1In.f k x).bind fun t1 => (spec_l1In.f k y).bind fun t2 => (spec_l1Mul.f k t1 t2).bind fun t3 => if (t3.length : Int) > 0 then ((spec_l1Of.f 1).bind fun t4 => (spec_l1Sub.f k t3 t4).bind fun t5 => (spec_l1Out.f k t5).bind fun t6 => some (t6, y)) else (spec_l1Out.f k t3).bind fun t7 => some (t7, y)) (fun k => ?_) (Ev.bind ix (Ev.bind iy (Ev.bind hm (Ev.congr (f := fun k => (spec_l1Out.f k m).bind fun t7 => some (t7, y)) (fun k => by rw [if_neg c2]) (Ev.bind (out_ev m dm (by omega)) (Ev.now _)))))), outL_dig dm, dy, by have := outL_length m; omega, ly⟩
          simp only [spec_DrawNatDivMod.j0]
          rw [if_neg (by decide), e3]
          simp only [if_neg n1]
  by_cases h0 : c % 3 = 0
  · obtain ⟨u, v, hE, p⟩ := hj true
    refine ⟨u, v, Ev.congr (f := fun k => (spec_l1Reader_limbs.f k b (i1 : Int)).bind fun t1 => (spec_l1Reader_limbs.f k b t1.2).bind fun t2 => (spec_l1Reader_limbs.f k b t2.2).bind fun t3 => spec_DrawNatDivMod.j0 k (c : Int) t1.1 t2.1 t3.1 true) (fun k => ?_) (Ev.bind hx (Ev.bind hy (Ev.bind hz hE))), p⟩
    unfold spec_DrawNatDivMod.f
    rw [show (0 : Int) = ((0 : Nat) : Int) from rfl, hn, Option.bind_some]
    dsimp only
    rw [e3, h0]
    simp only [if_true]
  · obtain ⟨u, v, hE, p⟩ := hj (decide ((wrap64 ((wrap64 ((x.length : Int) + (y.length : Int))) + (z.length : Int))) > 600))
    have n0 : ¬ ((c % 3 : Nat) : Int) = ((0 : Nat) : Int) := by omega
    refine ⟨u, v, Ev.congr (f := fun k => (spec_l1Reader_limbs.f k b (i1 : Int)).bind fun t1 => (spec_l1Reader_limbs.f k b t1.2).bind fun t2 => (spec_l1Reader_limbs.f k b t2.2).bind fun t3 => spec_DrawNatDivMod.j0 k (c : Int) t1.1 t2.1 t3.1 (decide ((wrap64 ((wrap64 ((t1.1.length : Int) + (t2.1.length : Int))) + (t3.1.length : Int))) > 600))) (fun k => ?_) (Ev.bind hx (Ev.bind hy (Ev.bind hz hE))), p⟩
    unfold spec_DrawNatDivMod.f
    rw [show (0 : Int) = ((0 : Nat) : Int) from rfl, hn, Option.bind_some]
    dsimp only
    rw [e3]
    simp only [if_neg n0]
end
end Go.Proofs.Ytcbmdpecnmbhjaa.M
end
section
namespace Go.Proofs.Ytcbmdpecnmbhjaa.M
open Go.RowKit Go.Proofs.Ytcbmdpecnmbhjaa.G Go.Proofs.YtcbmdpecnmbhjaaV.PrintWords Go.Proofs.YtcbmdpecnmbhjaaV.PrintLast Go.Proofs.YtcbmdpecnmbhjaaV.PrintMore Go.Proofs.Ytcbmdpecnmbhjaa.PA
set_option linter.unusedVariables false
set_option linter.unusedSimpArgs false
theorem wf_u8 {l : List Int} (h : ∀ x ∈ l, (Lit.int .u8 x).wf = true) : Dig 256 l := by
  intro x hx
  have := h x hx
  simp [Lit.wf, IntKind.min, IntKind.max, IntKind.signed, IntKind.bits] at this
  omega
theorem same_loop (a : List Int) (hm : a.length ≤ 1073741824) (d : Nat) : ∀ i : Nat, i + d = a.length → Ev (fun k => laws_sameLimbs.l0 k a a (a.length : Int) (i : Int)) true := by
  induction d with
  | zero =>
    intro i hi
    refine Ev.step (f := fun _ => some true) (fun k => ?_) (Ev.now _)
    simp only [laws_sameLimbs.l0]
    rw [if_neg (by omega)]
  | succ d ih =>
    intro i hi
    refine Ev.step (fun k => ?_) (ih (i + 1) (by omega))
    have c1 : (i : Int) < (a.length : Int) := by omega
    have e2 : wrap64 ((i : Int) + 1) = ((i + 1 : Nat) : Int) := by rw [wrap64_id (by omega)]; rfl
    simp only [laws_sameLimbs.l0]
    rw [if_pos c1, if_pos (Int.natCast_nonneg _)]
    simp only [if_pos c1, if_true]
    rw [e2]
theorem same_ev (a : List Int) (hm : a.length ≤ 1073741824) : Ev (fun k => laws_sameLimbs.f k a a) true := by
  unfold laws_sameLimbs.f
  refine Ev.congr (fun k => ?_) (same_loop a hm a.length 0 (by omega))
  rw [if_pos rfl]
  rfl
end Go.Proofs.Ytcbmdpecnmbhjaa.M
end
section
namespace Go.Proofs.Ytcbmdpecnmbhjaa.Pure
open Go.RowKit Go.Proofs.Ytcbmdpecnmbhjaa.G Go.Proofs.Ytcbmdpecnmbhjaa.PA Go.Proofs.YtcbmdpecnmbhjaaV.PrintWords Go.Proofs.YtcbmdpecnmbhjaaV.PrintLast Go.Proofs.Ytcbmdpecnmbhjaa.M
set_option linter.unusedVariables false
set_option linter.unusedSimpArgs false
theorem FnDivMod : laws_FnDivMod.Pure := by
  intro l _ _ wl
  refine Ev.rounds (g := fun k => laws_FnDivMod.f k l) ?_
  have hd := wf_u8 wl
  unfold laws_FnDivMod.f
  by_cases h1 : (l.length : Int) > 1048576
  · simp only [if_pos h1]
    exact Ev.now _
  simp only [if_neg h1]
  obtain ⟨a, b, hdraw, da, db, la, lb⟩ := DrawNatDivMod_ev l hd (by omega)
  obtain ⟨q, r, hs, hq, hr⟩ := spec_NatDivMod_ev a b da db (by omega) (by omega)
  obtain ⟨q', r', hi, hq', hr', lq, lr⟩ := impl_NatDivMod_ev a b da db (by omega) (by omega)
  obtain rfl := hq.uniq hq'
  obtain rfl := hr.uniq hr'
  refine Ev.bind hdraw (Ev.bind hdraw (Ev.bind hi (Ev.bind hs ?_)))
  simp only [bne_self_eq_false, Bool.false_eq_true, if_false]
  by_cases hok : dmOk a b
  · rw [if_pos hok] at hq hr
    rw [decide_eq_true hok]
    simp only [if_true]
    obtain ⟨⟨l1, l2⟩, h0⟩ := hok
    obtain ⟨m, hm, hM⟩ := impl_NatMul_ev q b hq.1 db (by omega) (by omega)
    have hle : val B64 a / val B64 b * val B64 b ≤ val B64 a := Nat.div_mul_le_self _ _
    have lq2 : q.length ≤ 1200 := len_le_le hq.1 hq.2.1 da (by rw [hq.2.2]; exact Nat.div_le_self _ _) l1
    have lr2 : r.length ≤ 1200 := len_le_le hr.1 hr.2.1 da (by rw [hr.2.2]; exact Nat.mod_le _ _) l1
    rw [if_pos ⟨lq2, l2⟩, hq.2.2] at hM
    have lm : m.length ≤ 1200 := len_le_le hM.1 hM.2.1 da (by rw [hM.2.2]; exact hle) l1
    obtain ⟨s, hsum, hS⟩ := impl_NatAdd_ev m r hM.1 hr.1 (by omega) (by omega)
    rw [if_pos ⟨lm, lr2⟩, hM.2.2, hr.2.2] at hS
    obtain ⟨t, ht, hT, lt⟩ := spec_NatShift_ev a 0 da (by omega)
    have hsh : shOk a 0 := ⟨l1, by decide, by decide⟩
    have hv0 : shN (val B64 a) 0 = val B64 a := by unfold shN; rw [if_pos (by decide)]; simp
    rw [if_pos hsh, hv0] at hT
    have hst : s = t := by
      refine IsNat.uniq hS ?_
      have := Nat.div_add_mod (val B64 a) (val B64 b)
      rw [Nat.mul_comm] at this
      rw [this]
      exact hT
    subst hst
    have hc := impl_NatCmp_ev r b hr.1 db (by omega) (by omega)
    rw [if_pos ⟨lr2, l2⟩, hr.2.2] at hc
    have hcv : cmpN (val B64 a % val B64 b) (val B64 b) = -1 := by unfold cmpN; rw [if_pos (Nat.mod_lt _ h0)]
    rw [hcv] at hc
    have ls : s.length ≤ 1073741824 := by omega
    refine Ev.bind hm (Ev.bind hsum (Ev.bind ht (Ev.bind (same_ev s ls) ?_)))
    simp only [if_true]
    exact Ev.bind hc (Ev.now _)
  · rw [if_neg hok] at hq hr
    rw [decide_eq_false hok]
    simp only [Bool.false_eq_true, if_false]
    have e1 : q = [] := hq.uniq IsNat.nil
    have e2 : r = [] := hr.uniq IsNat.nil
    subst e1
    subst e2
    exact Ev.congr (fun k => by rw [if_pos (show ((([] : List Int).length : Nat) : Int) = 0 from rfl)]; rfl) (Ev.now true)
end Go.Proofs.Ytcbmdpecnmbhjaa.Pure
end
