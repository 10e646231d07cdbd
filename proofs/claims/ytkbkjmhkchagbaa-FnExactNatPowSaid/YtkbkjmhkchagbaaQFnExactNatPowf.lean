import Derived.IntWalk
import Derived.Test.YtkbkjmhkchagbaaQFnExactNatPowe
section
namespace Go.Proofs.Ytkbkjmhkchagbaa.M
open Go.RowKit Go.Proofs.Ytkbkjmhkchagbaa.G Go.Proofs.YtkbkjmhkchagbaaV.PrintWords Go.Proofs.YtkbkjmhkchagbaaV.PrintLast Go.Proofs.YtkbkjmhkchagbaaV.PrintMore
set_option linter.unusedVariables false
set_option linter.unusedSimpArgs false
def val (B : Nat) : List Int → Nat
  | [] => 0
  | x :: xs => x.toNat + B * val B xs
def Dig (B : Nat) (l : List Int) : Prop := ∀ x ∈ l, 0 ≤ x ∧ x < (B : Int)
def Norm (l : List Int) : Prop := trimL l = l
theorem val_nil (B : Nat) : val B [] = 0 := rfl
theorem val_cons (B : Nat) (x : Int) (l : List Int) : val B (x :: l) = x.toNat + B * val B l := rfl
theorem val_append (B : Nat) (a b : List Int) : val B (a ++ b) = val B a + B ^ a.length * val B b := by
  induction a with
  | nil => simp [val]
  | cons x a ih =>
    rw [List.cons_append, val_cons, val_cons, ih, List.length_cons, Nat.pow_succ, Nat.mul_add, Nat.add_assoc]
    congr 2
    rw [← Nat.mul_assoc, Nat.mul_comm B (B ^ a.length)]
theorem val_one (B : Nat) (x : Int) : val B [x] = x.toNat := by simp [val]
theorem val_snoc (B : Nat) (a : List Int) (x : Int) : val B (a ++ [x]) = val B a + B ^ a.length * x.toNat := by rw [val_append, val_one]
theorem val_zeros (B n : Nat) : val B (List.replicate n 0) = 0 := by
  induction n with
  | zero => rfl
  | succ n ih => rw [List.replicate_succ, val_cons, ih]; simp
theorem Dig.nil (B : Nat) : Dig B [] := fun x h => by cases h
theorem Dig.cons {B : Nat} {x : Int} {l : List Int} (hx : 0 ≤ x ∧ x < (B : Int)) (h : Dig B l) : Dig B (x :: l) := by
  intro y hy
  rcases List.mem_cons.1 hy with rfl | hy
  · exact hx
  · exact h y hy
theorem Dig.append {B : Nat} {a b : List Int} (ha : Dig B a) (hb : Dig B b) : Dig B (a ++ b) := by
  intro y hy
  rcases List.mem_append.1 hy with hy | hy
  · exact ha y hy
  · exact hb y hy
theorem Dig.snoc {B : Nat} {a : List Int} {x : Int} (ha : Dig B a) (hx : 0 ≤ x ∧ x < (B : Int)) : Dig B (a ++ [x]) := ha.append (Dig.cons hx (Dig.nil B))
theorem Dig.take {B : Nat} {l : List Int} (h : Dig B l) (k : Nat) : Dig B (l.take k) := fun x hx => h x (List.mem_of_mem_take hx)
theorem Dig.drop {B : Nat} {l : List Int} (h : Dig B l) (k : Nat) : Dig B (l.drop k) := fun x hx => h x (List.mem_of_mem_drop hx)
theorem Dig.trim {B : Nat} {l : List Int} (h : Dig B l) : Dig B (trimL l) := by rw [trimL_eq_take]; exact h.take _
theorem Dig.zeros {B : Nat} (hB : 0 < B) (n : Nat) : Dig B (List.replicate n 0) := fun x hx => by rw [List.eq_of_mem_replicate hx]; omega
theorem Dig.set {B : Nat} {l : List Int} (h : Dig B l) (p : Nat) {x : Int} (hx : 0 ≤ x ∧ x < (B : Int)) : Dig B (l.set p x) := by
  intro y hy
  rcases List.mem_or_eq_of_mem_set hy with hy | rfl
  · exact h y hy
  · exact hx
theorem Dig.rd {B : Nat} {l : List Int} (h : Dig B l) (hB : 0 < B) (i : Int) : 0 ≤ rd l i ∧ rd l i < (B : Int) := by
  show 0 ≤ l.getD i.toNat 0 ∧ l.getD i.toNat 0 < (B : Int)
  rw [List.getD_eq_getElem?_getD]
  cases hg : l[i.toNat]? with
  | none => simp; omega
  | some x => exact h x (List.mem_of_getElem? hg)
theorem val_lt {B : Nat} {l : List Int} (h : Dig B l) : val B l < B ^ l.length := by
  induction l with
  | nil => simp [val]
  | cons x l ih =>
    have h1 := ih (fun y hy => h y (List.mem_cons_of_mem _ hy))
    have hx := h x (List.mem_cons_self)
    rw [val_cons, List.length_cons, Nat.pow_succ]
    have h2 : val B l + 1 ≤ B ^ l.length := h1
    have h3 : B * (val B l + 1) ≤ B * B ^ l.length := Nat.mul_le_mul_left B h2
    rw [Nat.mul_comm B (B ^ l.length), Nat.mul_add] at h3
    omega
theorem snoc_of {l : List Int} (h : 0 < l.length) : ∃ a x, l = a ++ [x] := by
  refine ⟨l.dropLast, l.getLast (by intro hn; rw [hn] at h; simp at h), ?_⟩
  exact (List.dropLast_concat_getLast _).symm
theorem val_snoc_zero (B : Nat) (a : List Int) : val B (a ++ [0]) = val B a := by rw [val_snoc]; simp
theorem val_trim (B : Nat) (l : List Int) : val B (trimL l) = val B l := by
  induction h : l.length generalizing l with
  | zero => rw [List.eq_nil_of_length_eq_zero h]; rfl
  | succ n ih =>
    obtain ⟨a, x, rfl⟩ : ∃ a x, l = a ++ [x] := snoc_of (by omega)
    by_cases hx : x = 0
    · subst hx
      rw [trimL_snoc_zero, val_snoc_zero]
      exact ih a (by simpa using h)
    · rw [trimL_snoc_ne _ _ hx]
theorem norm_trim (l : List Int) : Norm (trimL l) := trimL_idem l
theorem norm_nil : Norm [] := rfl
theorem norm_snoc {a : List Int} {x : Int} : Norm (a ++ [x]) ↔ x ≠ 0 := by
  constructor
  · intro h hx
    subst hx
    unfold Norm at h
    rw [trimL_snoc_zero] at h
    have h1 := trimL_length a
    rw [h] at h1
    simp at h1
    omega
  · exact fun h => trimL_snoc_ne _ _ h
theorem val_ge {B : Nat} {l : List Int} (hd : Dig B l) (h : Norm l) (hl : 0 < l.length) : B ^ (l.length - 1) ≤ val B l := by
  obtain ⟨a, x, rfl⟩ : ∃ a x, l = a ++ [x] := snoc_of hl
  have hx := norm_snoc.1 h
  have hx0 := hd x (by simp)
  rw [val_snoc, List.length_append, List.length_singleton, Nat.add_sub_cancel]
  have : B ^ a.length * 1 ≤ B ^ a.length * x.toNat := Nat.mul_le_mul_left _ (by omega)
  omega
theorem val_inj {B : Nat} : ∀ {a b : List Int}, Dig B a → Dig B b → a.length = b.length → val B a = val B b → a = b
  | [], [], _, _, _, _ => rfl
  | [], y :: b, _, _, h, _ => by simp at h
  | x :: a, [], _, _, h, _ => by simp at h
  | x :: a, y :: b, ha, hb, hl, hv => by
    have hx := ha x (by simp)
    have hy := hb y (by simp)
    rw [val_cons, val_cons] at hv
    have hm : (x.toNat + B * val B a) % B = (y.toNat + B * val B b) % B := by rw [hv]
    rw [Nat.add_mul_mod_self_left, Nat.add_mul_mod_self_left, Nat.mod_eq_of_lt (by omega), Nat.mod_eq_of_lt (by omega)] at hm
    have hB : 0 < B := by omega
    have hv2 : val B a = val B b := by
      have h2 : B * val B a = B * val B b := by omega
      exact Nat.eq_of_mul_eq_mul_left hB h2
    rw [val_inj (fun z hz => ha z (List.mem_cons_of_mem _ hz)) (fun z hz => hb z (List.mem_cons_of_mem _ hz)) (by simpa using hl) hv2, show x = y by omega]
theorem val_lt_of_length {B : Nat} (hB : 0 < B) {a b : List Int} (ha : Dig B a) (hb : Dig B b) (hn : Norm b) (hl : a.length < b.length) : val B a < val B b := by
  have h1 := val_lt ha
  have h2 := val_ge hb hn (by omega)
  have h3 : B ^ a.length ≤ B ^ (b.length - 1) := Nat.pow_le_pow_right hB (by omega)
  omega
theorem norm_inj {B : Nat} (hB : 0 < B) {a b : List Int} (ha : Dig B a) (hb : Dig B b) (na : Norm a) (nb : Norm b) (hv : val B a = val B b) : a = b := by
  rcases Nat.lt_trichotomy a.length b.length with h | h | h
  · have := val_lt_of_length hB ha hb nb h; omega
  · exact val_inj ha hb h hv
  · have := val_lt_of_length hB hb ha na h; omega
theorem rd_nat (l : List Int) (k : Nat) : rd l (k : Int) = l.getD k 0 := rfl
theorem rd_of_ge (l : List Int) (i : Int) (h : l.length ≤ i.toNat) : rd l i = 0 := by simp [rd, List.getD_eq_getElem?_getD, List.getElem?_eq_none h]
theorem rd_of_drop {l r : List Int} {x : Int} {i : Nat} (h : l.drop i = x :: r) : rd l (i : Int) = x := by
  have h2 : l[i]? = some x := by
    have := congrArg (fun m : List Int => m[0]?) h
    simpa [List.getElem?_drop] using this
  rw [rd_nat, List.getD_eq_getElem?_getD, h2]
  rfl
theorem drop_succ_of {l r : List Int} {x : Int} {i : Nat} (h : l.drop i = x :: r) : l.drop (i + 1) = r := by
  have := congrArg (List.drop 1) h
  rw [List.drop_drop] at this
  simpa using this
theorem rd_append_left (a b : List Int) (i : Int) (h : i.toNat < a.length) : rd (a ++ b) i = rd a i := by simp [rd, List.getElem?_append_left h]
theorem val_take_succ (B : Nat) (l : List Int) (k : Nat) : val B (l.take (k + 1)) = val B (l.take k) + B ^ k * (rd l (k : Int)).toNat := by
  rcases Nat.lt_or_ge k l.length with h | h
  · rw [take_snoc_rd l k h, val_snoc, List.length_take, Nat.min_eq_left (Nat.le_of_lt h)]
  · rw [rd_of_ge l k (by simpa using h), List.take_of_length_le (by omega), List.take_of_length_le h]
    simp
theorem val_take_all (B : Nat) (l : List Int) (k : Nat) (h : l.length ≤ k) : val B (l.take k) = val B l := by rw [List.take_of_length_le h]
theorem val_set (B : Nat) : ∀ (l : List Int) (p : Nat) (x : Int), p < l.length → val B (l.set p x) + B ^ p * (rd l (p : Int)).toNat = val B l + B ^ p * x.toNat
  | [], p, x, h => by simp at h
  | y :: l, 0, x, h => by
    simp only [List.set_cons_zero, val_cons, Nat.pow_zero, Nat.one_mul]
    have : rd (y :: l) ((0 : Nat) : Int) = y := rfl
    rw [this]
    omega
  | y :: l, p + 1, x, h => by
    have ih := val_set B l p x (by simpa using h)
    have hr : rd (y :: l) ((p + 1 : Nat) : Int) = rd l (p : Int) := by rw [rd_nat, rd_nat]; rfl
    rw [List.set_cons_succ, val_cons, val_cons, hr, Nat.pow_succ, Nat.mul_comm (B ^ p) B, Nat.mul_assoc, Nat.mul_assoc]
    have h2 := congrArg (B * ·) ih
    simp only [Nat.mul_add] at h2
    omega
theorem rd_set_ne (l : List Int) (p q : Nat) (x : Int) (h : p ≠ q) : rd (l.set p x) (q : Int) = rd l (q : Int) := by simp [rd_nat, List.getD_eq_getElem?_getD, List.getElem?_set_ne h]
theorem wrap64_id {n : Int} (h : -9223372036854775808 ≤ n ∧ n ≤ 9223372036854775807) : wrap64 n = n := by unfold wrap64; omega
theorem wrap_u64 (n : Int) : IntKind.u64.wrap n = n % 18446744073709551616 := by simp [IntKind.wrap, IntKind.bits, IntKind.signed]
theorem wrap_u64_id {n : Int} (h : 0 ≤ n ∧ n < 18446744073709551616) : IntKind.u64.wrap n = n := by rw [wrap_u64]; omega
theorem wraps_u64 (n : Int) (h₀ : 0 ≤ n) (h₁ : n < 2 ^ 64) : IntKind.u64.wrap n = n := wrap_u64_id ⟨h₀, by simpa using h₁⟩
theorem and_mask (i : Nat) (hi : i ≤ 64) (x : Int) (h₀ : 0 ≤ x) (h₁ : x < 18446744073709551616) : bits .and .u64 x (2 ^ i - 1) = x % 2 ^ i :=
  bits_mask .u64 64 (by decide) wraps_u64 i hi x h₀ (by simpa using h₁)
theorem and_low32 (x : Int) (h₀ : 0 ≤ x) (h₁ : x < 18446744073709551616) : bits .and .u64 x 4294967295 = x % 4294967296 := by
  simpa using and_mask 32 (by decide) x h₀ h₁
theorem or_join (i : Nat) (x y : Int) (hx₀ : 0 ≤ x) (hx : x % 2 ^ i = 0) (hx₁ : x < 18446744073709551616) (hy₀ : 0 ≤ y) (hy : y < 2 ^ i) (hy₁ : y < 18446744073709551616) : bits .or .u64 x y = x + y :=
  bits_join .u64 64 (by decide) wraps_u64 i x y hx₀ hx (by simpa using hx₁) hy₀ hy (by simpa using hy₁)
theorem bits_or_comm (x y : Int) : bits .or .u64 x y = bits .or .u64 y x := by simp [bits, BitVec.or_comm]
theorem or_join' (i : Nat) (x y : Int) (hy₀ : 0 ≤ y) (hy : y % 2 ^ i = 0) (hy₁ : y < 18446744073709551616) (hx₀ : 0 ≤ x) (hx : x < 2 ^ i) (hx₁ : x < 18446744073709551616) : bits .or .u64 x y = x + y := by
  rw [bits_or_comm, or_join i y x hy₀ hy hy₁ hx₀ hx hx₁, Int.add_comm]
theorem ev_to {α : Type} {g : Nat → Option α} {r r' : α} (h : Ev g r) (e : r = r') : Ev g r' := e ▸ h
end Go.Proofs.Ytkbkjmhkchagbaa.M
end
section
namespace Go.Proofs.Ytkbkjmhkchagbaa.M
open Go.RowKit Go.Proofs.Ytkbkjmhkchagbaa.G Go.Proofs.YtkbkjmhkchagbaaV.PrintWords Go.Proofs.YtkbkjmhkchagbaaV.PrintLast Go.Proofs.YtkbkjmhkchagbaaV.PrintMore Go.Proofs.Ytkbkjmhkchagbaa.PA
set_option linter.unusedVariables false
set_option linter.unusedSimpArgs false
theorem eqU_loop (a b : List Int) (hl : a.length = b.length) (hm : a.length ≤ 1073741824) (d : Nat) : ∀ i : Nat, i + d = a.length → a.take i = b.take i →
    Ev (fun k => laws_eqUint64S.l0 k a b (i : Int)) (decide (a = b)) := by
  induction d with
  | zero =>
    intro i hi he
    refine Ev.step (f := fun _ => some (decide (a = b))) (fun k => ?_) (Ev.now _)
    simp only [laws_eqUint64S.l0]
    rw [if_neg (by omega)]
    rw [List.take_of_length_le (by omega), List.take_of_length_le (by omega)] at he
    simp [he]
  | succ d ih =>
    intro i hi he
    by_cases h : rd a (i : Int) = rd b (i : Int)
    · refine Ev.step (fun k => ?_) (ih (i + 1) (by omega) (by rw [take_snoc_rd a i (by omega), take_snoc_rd b i (by omega), he, h]))
      simp only [laws_eqUint64S.l0]
      rw [if_pos (by omega), if_pos (by omega), if_pos (by omega), if_pos h, wrap64_id (by omega)]
      rfl
    · refine Ev.step (f := fun _ => some (decide (a = b))) (fun k => ?_) (Ev.now _)
      simp only [laws_eqUint64S.l0]
      rw [if_pos (by omega), if_pos (by omega), if_pos (by omega), if_neg h]
      have : a ≠ b := fun e => h (by rw [e])
      simp [this]
theorem eqU_ev (a b : List Int) (hm : a.length ≤ 1073741824) : Ev (fun k => laws_eqUint64S.f k a b) (decide (a = b)) := by
  by_cases h : a.length = b.length
  · refine Ev.congr (fun k => ?_) (eqU_loop a b h hm a.length 0 (by omega) (by simp))
    unfold laws_eqUint64S.f
    rw [if_pos (by omega)]
    rfl
  · refine Ev.congr (f := fun _ => some (decide (a = b))) (fun k => ?_) (Ev.now _)
    unfold laws_eqUint64S.f
    rw [if_neg (by omega)]
    have : a ≠ b := fun e => h (by rw [e])
    simp [this]
theorem eqU_same (a : List Int) (hm : a.length ≤ 1073741824) : Ev (fun k => laws_eqUint64S.f k a a) true := ev_to (eqU_ev a a hm) (by simp)
def marks (m : Int) : Nat → List Int
  | 0 => []
  | n + 1 => marks m n ++ [IntKind.u64.wrap (m + n)]
theorem marks_length (m : Int) (n : Nat) : (marks m n).length = n := by
  induction n with
  | zero => rfl
  | succ n ih => rw [marks, List.length_append, ih]; rfl
theorem marks_rd (m : Int) (n i : Nat) (h : i < n) : rd (marks m n) (i : Int) = IntKind.u64.wrap (m + i) := by
  induction n with
  | zero => omega
  | succ n ih =>
    rw [marks]
    rcases Nat.lt_or_ge i n with h1 | h1
    · rw [rd_append_left _ _ _ (by rw [marks_length]; simpa using h1), ih h1]
    · obtain rfl : i = n := by omega
      simp [rd_nat, marks_length, List.getD_eq_getElem?_getD]
theorem mark_loop (m : Int) (hm : 0 ≤ m) (d : Nat) : ∀ (i : Nat) (rest : List Int), rest.length = d → m + i + d ≤ 4611686018427387904 →
    Ev (fun k => laws_markUint64S.l0 k (marks m i ++ rest) (m + i) (i : Int)) (m + (i + d : Nat), marks m (i + d)) := by
  induction d with
  | zero =>
    intro i rest hr hb
    refine Ev.step (f := fun _ => some (m + i, marks m i)) (fun k => ?_) (Ev.now _)
    simp only [laws_markUint64S.l0]
    have hl : (marks m i ++ rest).length = i := by rw [List.length_append, marks_length, hr]; rfl
    rw [if_neg (by rw [hl]; omega), List.eq_nil_of_length_eq_zero hr, List.append_nil]
  | succ d ih =>
    intro i rest hr hb
    obtain ⟨x, rest, rfl⟩ : ∃ x r, rest = x :: r := by cases rest with | nil => simp at hr | cons x r => exact ⟨x, r, rfl⟩
    have h2 := ih (i + 1) rest (by simpa using hr) (by omega)
    refine Ev.step (fun k => ?_) (ev_to h2 (by rw [show i + 1 + d = i + (d + 1) by omega]))
    simp only [laws_markUint64S.l0]
    have hl : (marks m i ++ x :: rest).length = i + (rest.length + 1) := by rw [List.length_append, marks_length]; rfl
    rw [if_pos (by rw [hl]; omega), if_pos (by omega), Int.toNat_natCast]
    rw [List.set_append_right _ _ (by rw [marks_length]; omega), marks_length, Nat.sub_self, List.set_cons_zero, wrap64_id (by omega), wrap64_id (by omega)]
    rw [marks, List.append_assoc]
    congr 1
    omega
theorem mark_ev (l : List Int) (m : Int) (hm : 0 ≤ m) (hb : m + l.length ≤ 4611686018427387904) : Ev (fun k => laws_markUint64S.f k l m) (m + l.length, marks m l.length) := by
  have h := mark_loop m hm l.length 0 l rfl (by omega)
  refine Ev.congr (fun k => ?_) (ev_to h (by simp))
  unfold laws_markUint64S.f
  simp [marks]
theorem held_loop (m : Int) (n : Nat) (hm : 0 ≤ m) (hb : m + n ≤ 4611686018427387904) (d : Nat) : ∀ i : Nat, i + d = n →
    Ev (fun k => laws_heldUint64S.l0 k (marks m n) (m + i) (i : Int)) (m + n) := by
  induction d with
  | zero =>
    intro i hi
    refine Ev.step (f := fun _ => some (m + n)) (fun k => ?_) (Ev.now _)
    simp only [laws_heldUint64S.l0]
    rw [if_neg (by rw [marks_length]; omega), show i = n by omega]
  | succ d ih =>
    intro i hi
    refine Ev.step (fun k => ?_) (ih (i + 1) (by omega))
    simp only [laws_heldUint64S.l0]
    rw [if_pos (by rw [marks_length]; omega), if_pos (by omega), if_pos (marks_rd m n i (by omega)), wrap64_id (by omega), wrap64_id (by omega)]
    congr 1
    omega
theorem held_ev (m : Int) (n : Nat) (hm : 0 ≤ m) (hb : m + n ≤ 4611686018427387904) : Ev (fun k => laws_heldUint64S.f k (marks m n) m) (m + n) := by
  have h := held_loop m n hm hb n 0 (by omega)
  refine Ev.congr (fun k => ?_) h
  unfold laws_heldUint64S.f
  simp
end Go.Proofs.Ytkbkjmhkchagbaa.M
end
section
namespace Go.Proofs.Ytkbkjmhkchagbaa.M
open Go.RowKit Go.Proofs.Ytkbkjmhkchagbaa.G Go.Proofs.YtkbkjmhkchagbaaV.PrintWords Go.Proofs.YtkbkjmhkchagbaaV.PrintLast Go.Proofs.YtkbkjmhkchagbaaV.PrintMore Go.Proofs.Ytkbkjmhkchagbaa.PA
set_option linter.unusedVariables false
set_option linter.unusedSimpArgs false
def B32 : Nat := 4294967296
def B64 : Nat := 18446744073709551616
theorem B32_pos : 0 < B32 := by unfold B32; omega
theorem B64_pos : 0 < B64 := by unfold B64; omega
theorem trim_eq (l : List Int) (h : l.length ≤ 35184372088832) : spec_l1Trim.f l = some (trimL l) := by
  unfold spec_l1Trim.f
  rw [if_pos h]
def outL : List Int → List Int
  | [] => []
  | [x] => [x]
  | x :: y :: l => (x + y * 4294967296) :: outL l
theorem outL_length : ∀ l : List Int, (outL l).length ≤ l.length
  | [] => Nat.le_refl _
  | [x] => Nat.le_refl _
  | x :: y :: l => by have := outL_length l; simp only [outL, List.length_cons]; omega
theorem outL_dig : ∀ {l : List Int}, Dig B32 l → Dig B64 (outL l)
  | [], _ => Dig.nil _
  | [x], h => by
    have hx := h x (by simp)
    unfold B32 at hx
    exact Dig.cons (by unfold B64; omega) (Dig.nil _)
  | x :: y :: l, h => by
    have hx := h x (by simp)
    have hy := h y (by simp)
    unfold B32 at hx hy
    exact Dig.cons (by unfold B64; omega) (outL_dig (fun z hz => h z (List.mem_cons_of_mem _ (List.mem_cons_of_mem _ hz))))
theorem outL_val : ∀ {l : List Int}, Dig B32 l → val B64 (outL l) = val B32 l
  | [], _ => rfl
  | [x], h => by simp [outL, val]
  | x :: y :: l, h => by
    have hx := h x (by simp)
    have hy := h y (by simp)
    have ih := outL_val (l := l) (fun z hz => h z (List.mem_cons_of_mem _ (List.mem_cons_of_mem _ hz)))
    simp only [outL, val_cons, ih]
    unfold B32 at hx hy
    unfold B32 B64
    omega
theorem norm_iff (l : List Int) : Norm l ↔ ∀ h : l ≠ [], l.getLast h ≠ 0 := by
  rcases Nat.eq_zero_or_pos l.length with h | h
  · have := List.eq_nil_of_length_eq_zero h
    subst this
    exact ⟨fun _ h => absurd rfl h, fun _ => rfl⟩
  · obtain ⟨a, x, rfl⟩ := snoc_of h
    rw [norm_snoc]
    simp
theorem outL_norm : ∀ {l : List Int}, Dig B32 l → Norm l → Norm (outL l)
  | [], _, _ => norm_nil
  | [x], _, h => h
  | [x, y], hd, h => by
    have hx := hd x (by simp)
    have h2 := (norm_iff _).1 h (by simp)
    simp at h2
    have hy := hd y (by simp)
    refine (norm_iff _).2 (fun _ => ?_)
    simp [outL]
    omega
  | x :: y :: z :: l, hd, h => by
    have h2 : Norm (z :: l) := by
      rw [norm_iff] at h ⊢
      intro hn
      have := h (by simp)
      simpa using this
    have ih := outL_norm (l := z :: l) (fun w hw => hd w (List.mem_cons_of_mem _ (List.mem_cons_of_mem _ hw))) h2
    rw [norm_iff] at ih ⊢
    intro hn
    have hne : outL (z :: l) ≠ [] := by cases l <;> simp [outL]
    have := ih hne
    simp only [outL]
    rw [List.getLast_cons hne]
    exact this
theorem out_loop (l : List Int) (hd : Dig B32 l) (hl : l.length ≤ 4294967296) (n : Nat) : ∀ (i : Nat) (acc rest : List Int), rest.length ≤ n → l.drop i = rest → i ≤ l.length → acc.length ≤ i →
    Ev (fun k => spec_l1Out.l0 k l acc (i : Int)) (acc ++ outL rest) := by
  induction n with
  | zero =>
    intro i acc rest hn hr hi ha
    have h0 : rest = [] := List.eq_nil_of_length_eq_zero (by omega)
    subst h0
    have hlen := congrArg List.length hr
    rw [List.length_drop] at hlen
    refine Ev.step (f := fun _ => some (acc ++ outL [])) (fun k => ?_) (Ev.now _)
    simp only [spec_l1Out.l0]
    rw [if_neg (by simp at hlen; omega)]
    simp [outL]
  | succ n ih =>
    intro i acc rest hn hr hi ha
    match rest, hn, hr with
    | [], hn, hr => exact ih i acc [] (by simp) hr hi ha
    | [x], hn, hr =>
      have hlen := congrArg List.length hr
      rw [List.length_drop] at hlen
      simp at hlen
      have hx : rd l (i : Int) = x := rd_of_drop hr
      refine Ev.step (f := fun k => spec_l1Out.l0 k l (acc ++ [x]) ((i + 2 : Nat) : Int)) (fun k => ?_) (Ev.step (f := fun _ => some (acc ++ outL [x])) (fun k => ?_) (Ev.now _))
      · simp only [spec_l1Out.l0]
        rw [if_pos (by omega), if_pos (by omega), wrap64_id (by omega), if_neg (by omega), if_pos (by omega), wrap64_id (by omega), hx]
        rfl
      · simp only [spec_l1Out.l0]
        rw [if_neg (by omega)]
        simp [outL]
    | x :: y :: r, hn, hr =>
      have hlen := congrArg List.length hr
      rw [List.length_drop] at hlen
      simp at hlen
      have hx : rd l (i : Int) = x := rd_of_drop hr
      have hy : rd l ((i : Int) + 1) = y := rd_of_drop (i := i + 1) (drop_succ_of hr)
      have hr2 : l.drop (i + 2) = r := drop_succ_of (drop_succ_of hr)
      have dx := hd.rd B32_pos (i : Int)
      have dy := hd.rd B32_pos ((i : Int) + 1)
      rw [hx] at dx
      rw [hy] at dy
      unfold B32 at dx dy
      have hor : bits .or .u64 x (IntKind.u64.wrap (y * 4294967296)) = x + y * 4294967296 := by
        rw [wrap_u64_id (by omega)]
        exact or_join' 32 x (y * 4294967296) (by omega) (by simp) (by omega) (by omega) (by simp; omega) (by omega)
      have hrl : r.length ≤ n := by simp at hn; omega
      refine Ev.step (fun k => ?_) (ev_to (ih (i + 2) (acc ++ [x + y * 4294967296]) r hrl hr2 (by omega) (by simp; omega)) (by simp [outL]))
      simp only [spec_l1Out.l0]
      rw [if_pos (by omega), if_pos (by omega), wrap64_id (by omega), if_pos (by omega), if_pos (by omega), if_pos (by omega), wrap64_id (by omega), hx, hy, hor]
      rfl
theorem out_ev (l : List Int) (hd : Dig B32 l) (hl : l.length ≤ 4294967296) : Ev (fun k => spec_l1Out.f k l) (outL l) := by
  have h := out_loop l hd hl l.length 0 [] l (Nat.le_refl _) rfl (by omega) (by simp)
  unfold spec_l1Out.f
  simpa using h
end Go.Proofs.Ytkbkjmhkchagbaa.M
end
section
namespace Go.Proofs.Ytkbkjmhkchagbaa.M
open Go.RowKit Go.Proofs.Ytkbkjmhkchagbaa.G Go.Proofs.YtkbkjmhkchagbaaV.PrintWords Go.Proofs.YtkbkjmhkchagbaaV.PrintLast Go.Proofs.YtkbkjmhkchagbaaV.PrintMore Go.Proofs.Ytkbkjmhkchagbaa.PA
set_option linter.unusedVariables false
set_option linter.unusedSimpArgs false
theorem add64_spec (a b c : Int) (ha : 0 ≤ a ∧ a < (B64 : Int)) (hb : 0 ≤ b ∧ b < (B64 : Int)) (hc : 0 ≤ c ∧ c ≤ 1) :
    0 ≤ add64s a b c ∧ add64s a b c < (B64 : Int) ∧ 0 ≤ add64c a b c ∧ add64c a b c ≤ 1 ∧ (add64s a b c).toNat + B64 * (add64c a b c).toNat = a.toNat + b.toNat + c.toNat := by
  unfold add64s add64c
  unfold B64 at *
  omega
end Go.Proofs.Ytkbkjmhkchagbaa.M
end
section
namespace Go.Proofs.Ytkbkjmhkchagbaa.M
open Go.RowKit Go.Proofs.Ytkbkjmhkchagbaa.G Go.Proofs.YtkbkjmhkchagbaaV.PrintWords Go.Proofs.YtkbkjmhkchagbaaV.PrintLast Go.Proofs.YtkbkjmhkchagbaaV.PrintMore Go.Proofs.Ytkbkjmhkchagbaa.PA
set_option linter.unusedVariables false
set_option linter.unusedSimpArgs false
def IsNat (l : List Int) (v : Nat) : Prop := Dig B64 l ∧ Norm l ∧ val B64 l = v
theorem IsNat.uniq {a b : List Int} {v : Nat} (h : IsNat a v) (k : IsNat b v) : a = b := norm_inj B64_pos h.1 k.1 h.2.1 k.2.1 (h.2.2.trans k.2.2.symm)
theorem IsNat.nil : IsNat [] 0 := ⟨Dig.nil _, norm_nil, rfl⟩
theorem IsNat.out {l : List Int} {v : Nat} (hd : Dig B32 l) (hn : Norm l) (hv : val B32 l = v) : IsNat (outL l) v := ⟨outL_dig hd, outL_norm hd hn, by rw [outL_val hd, hv]⟩
end Go.Proofs.Ytkbkjmhkchagbaa.M
end
section
namespace Go.Proofs.Ytkbkjmhkchagbaa.M
open Go.RowKit Go.Proofs.Ytkbkjmhkchagbaa.G Go.Proofs.YtkbkjmhkchagbaaV.PrintWords Go.Proofs.YtkbkjmhkchagbaaV.PrintLast Go.Proofs.YtkbkjmhkchagbaaV.PrintMore Go.Proofs.Ytkbkjmhkchagbaa.PA
set_option linter.unusedVariables false
set_option linter.unusedSimpArgs false
theorem mul_step {B : Nat} {a b out : List Int} {i j : Nat} {ai c x c' : Int} (hp : i + j < out.length)
    (hv : val B out + B ^ (i + j) * c.toNat = val B (a.take i) * val B b + B ^ i * (ai.toNat * val B (b.take j)))
    (hx : x.toNat + B * c'.toNat = ai.toNat * (rd b (j : Int)).toNat + (rd out ((i + j : Nat) : Int)).toNat + c.toNat) :
    val B (out.set (i + j) x) + B ^ (i + (j + 1)) * c'.toNat = val B (a.take i) * val B b + B ^ i * (ai.toNat * val B (b.take (j + 1))) := by
  have h1 := val_set B out (i + j) x hp
  rw [val_take_succ, Nat.mul_add, Nat.mul_add, ← Nat.add_assoc i j 1, Nat.pow_succ]
  have h2 := congrArg (B ^ (i + j) * ·) hx
  simp only [Nat.mul_add] at h2
  have h3 : B ^ (i + j) * (B * c'.toNat) = B ^ (i + j) * B * c'.toNat := (Nat.mul_assoc _ _ _).symm
  have h4 : B ^ (i + j) * (ai.toNat * (rd b (j : Int)).toNat) = B ^ i * (ai.toNat * (B ^ j * (rd b (j : Int)).toNat)) := by
    rw [Nat.pow_add]
    simp only [Nat.mul_assoc, Nat.mul_left_comm]
  omega
theorem mul_carry {B : Nat} (hB : 0 < B) {x c' p q o c : Nat} (hp : p < B) (hq : q < B) (ho : o < B) (hc : c < B) (hx : x + B * c' = p * q + o + c) : c' < B := by
  have h1 : p * q ≤ (B - 1) * (B - 1) := Nat.mul_le_mul (by omega) (by omega)
  rcases Nat.lt_or_ge c' B with h | h
  · exact h
  · have h2 : B * B ≤ B * c' := Nat.mul_le_mul_left B h
    obtain ⟨m, rfl⟩ : ∃ m, B = m + 1 := ⟨B - 1, by omega⟩
    simp only [Nat.add_sub_cancel] at h1
    have h3 : (m + 1) * (m + 1) = m * m + 2 * m + 1 := by
      rw [Nat.add_mul, Nat.mul_add, Nat.mul_one, Nat.one_mul]
      omega
    omega
theorem mul_end {B : Nat} {a b out : List Int} {i : Nat} {c : Int} (hp : i + b.length < out.length) (h0 : rd out ((i + b.length : Nat) : Int) = 0)
    (hv : val B out + B ^ (i + b.length) * c.toNat = val B (a.take i) * val B b + B ^ i * ((rd a (i : Int)).toNat * val B (b.take b.length))) :
    val B (out.set (i + b.length) c) = val B (a.take (i + 1)) * val B b := by
  have h1 := val_set B out (i + b.length) c hp
  rw [h0] at h1
  rw [List.take_length] at hv
  rw [val_take_succ, Nat.add_mul]
  have h2 : B ^ i * (rd a (i : Int)).toNat * val B b = B ^ i * ((rd a (i : Int)).toNat * val B b) := Nat.mul_assoc _ _ _
  simp at h1
  omega
def Clear (l : List Int) (n : Nat) : Prop := ∀ m : Nat, n ≤ m → rd l (m : Int) = 0
theorem Clear.set {l : List Int} {n p : Nat} {x : Int} (h : Clear l n) (hp : p < n) : Clear (l.set p x) n := fun m hm => by rw [rd_set_ne _ _ _ _ (by omega)]; exact h m hm
theorem Clear.more {l : List Int} {n : Nat} (h : Clear l n) (x : Int) : Clear (l.set n x) (n + 1) := fun m hm => by rw [rd_set_ne _ _ _ _ (by omega)]; exact h m (by omega)
theorem Clear.zeros (n m : Nat) : Clear (List.replicate n 0) m := fun k hk => by
  rw [rd_nat, List.getD_eq_getElem?_getD, List.getElem?_replicate]
  split <;> rfl
theorem smul_inner (a b : List Int) (ha : Dig B32 a) (hb : Dig B32 b) (la : a.length ≤ 1073741824) (lb : b.length ≤ 1073741824) (i : Nat) (hi : i < a.length)
    (R : List Int → Prop) (next : ∀ out : List Int, out.length = a.length + b.length + 1 → Dig B32 out → Clear out (i + 1 + b.length) → val B32 out = val B32 (a.take (i + 1)) * val B32 b → ∃ r, Ev (fun k => spec_l1Mul.l0 k a b out ((i + 1 : Nat) : Int)) r ∧ R r) (d : Nat) :
    ∀ (j : Nat) (out : List Int) (c : Int), j + d = b.length → out.length = a.length + b.length + 1 → Dig B32 out → Clear out (i + b.length) → 0 ≤ c ∧ c < (B32 : Int) →
    val B32 out + B32 ^ (i + j) * c.toNat = val B32 (a.take i) * val B32 b + B32 ^ i * ((rd a (i : Int)).toNat * val B32 (b.take j)) →
    ∃ r, Ev (fun k => spec_l1Mul.l1 k a b out (i : Int) c (j : Int)) r ∧ R r := by
  induction d with
  | zero =>
    intro j out c hj hl hd hcl hc hv
    obtain rfl : j = b.length := by omega
    have h1 := mul_end (by omega) (hcl _ (Nat.le_refl _)) hv
    obtain ⟨r, hr, hR⟩ := next (out.set (i + b.length) c) (by simp [hl]) (hd.set _ hc) (by have := hcl.more c; rwa [show i + b.length + 1 = i + 1 + b.length by omega] at this) h1
    refine ⟨r, Ev.step (fun k => ?_) hr, hR⟩
    simp only [spec_l1Mul.l1]
    rw [if_neg (by omega), wrap64_id (by omega), if_pos (by omega), if_pos (by omega), wrap64_id (by omega), show ((i : Int) + (b.length : Int)).toNat = i + b.length by omega]
    rfl
  | succ d ih =>
    intro j out c hj hl hd hcl hc hv
    have dx := ha.rd B32_pos (i : Int)
    have dy := hb.rd B32_pos (j : Int)
    have dz := hd.rd B32_pos ((i + j : Nat) : Int)
    have hb32 : (B32 : Int) = 4294967296 := rfl
    have hb32n : B32 = 4294967296 := rfl
    have hij : ((i : Int) + (j : Int)) = ((i + j : Nat) : Int) := by omega
    have hprod : rd a (i : Int) * rd b (j : Int) = (((rd a (i : Int)).toNat * (rd b (j : Int)).toNat : Nat) : Int) := by
      rw [Int.natCast_mul, Int.toNat_of_nonneg dx.1, Int.toNat_of_nonneg dy.1]
    have hple : (rd a (i : Int)).toNat * (rd b (j : Int)).toNat ≤ 4294967295 * 4294967295 := Nat.mul_le_mul (by omega) (by omega)
    have hs := mul_step (B := B32) (a := a) (b := b) (out := out) (i := i) (j := j) (ai := rd a (i : Int)) (c := c) (x := (rd a (i : Int) * rd b (j : Int) + rd out ((i + j : Nat) : Int) + c) % 4294967296) (c' := (rd a (i : Int) * rd b (j : Int) + rd out ((i + j : Nat) : Int) + c) / 4294967296) (by omega) hv (by rw [hprod, hb32n]; omega)
    obtain ⟨r, hr, hR⟩ := ih (j + 1) _ _ (by omega) (by simp [hl]) (hd.set (i + j) (x := (rd a (i : Int) * rd b (j : Int) + rd out ((i + j : Nat) : Int) + c) % 4294967296) (by omega)) (hcl.set (by omega)) (by rw [hprod]; omega) hs
    refine ⟨r, Ev.step (fun k => ?_) hr, hR⟩
    simp only [spec_l1Mul.l1]
    rw [if_pos (by omega), if_pos (by omega), if_pos (by omega), if_pos (by omega), wrap64_id (by omega), if_pos (by omega), if_pos (by omega), hij, Int.toNat_natCast]
    rw [wrap_u64_id (n := rd a (i : Int) * rd b (j : Int)) (by rw [hprod]; omega), wrap_u64_id (n := rd a (i : Int) * rd b (j : Int) + rd out ((i + j : Nat) : Int)) (by rw [hprod]; omega), wrap_u64_id (n := rd a (i : Int) * rd b (j : Int) + rd out ((i + j : Nat) : Int) + c) (by rw [hprod]; omega), and_low32 _ (by rw [hprod]; omega) (by rw [hprod]; omega), wrap64_id (by omega)]
    rfl
theorem smul_outer (a b : List Int) (ha : Dig B32 a) (hb : Dig B32 b) (la : a.length ≤ 1073741824) (lb : b.length ≤ 1073741824) (d : Nat) : ∀ (i : Nat) (out : List Int), i + d = a.length → out.length = a.length + b.length + 1 → Dig B32 out → Clear out (i + b.length) →
    val B32 out = val B32 (a.take i) * val B32 b →
    ∃ r, Ev (fun k => spec_l1Mul.l0 k a b out (i : Int)) r ∧ Dig B32 r ∧ Norm r ∧ val B32 r = val B32 a * val B32 b ∧ r.length ≤ a.length + b.length + 1 := by
  induction d with
  | zero =>
    intro i out hi hl hd hcl hv
    refine ⟨trimL out, Ev.step (f := fun _ => some (trimL out)) (fun k => ?_) (Ev.now _), hd.trim, norm_trim _, ?_, ?_⟩
    · simp only [spec_l1Mul.l0]
      rw [if_neg (by omega), trim_eq _ (by omega)]
      rfl
    · rw [val_trim, hv, val_take_all _ _ _ (by omega)]
    · have := trimL_length out
      omega
  | succ d ih =>
    intro i out hi hl hd hcl hv
    obtain ⟨r, hr, hR⟩ := smul_inner a b ha hb la lb i (by omega) (fun r => Dig B32 r ∧ Norm r ∧ val B32 r = val B32 a * val B32 b ∧ r.length ≤ a.length + b.length + 1)
      (fun out' h1 h2 h3 h4 => ih (i + 1) out' (by omega) h1 h2 h3 h4) b.length 0 out 0 (by omega) hl hd hcl (by unfold B32; omega) (by simp [val, hv])
    refine ⟨r, Ev.step (fun k => ?_) hr, hR⟩
    simp only [spec_l1Mul.l0]
    rw [if_pos (by omega)]
    rfl
theorem smul_ev (a b : List Int) (ha : Dig B32 a) (hb : Dig B32 b) (la : a.length ≤ 1073741824) (lb : b.length ≤ 1073741824) :
    ∃ r, Ev (fun k => spec_l1Mul.f k a b) r ∧ Dig B32 r ∧ Norm r ∧ val B32 r = val B32 a * val B32 b ∧ r.length ≤ a.length + b.length + 1 := by
  obtain ⟨r, hr, hR⟩ := smul_outer a b ha hb la lb a.length 0 (List.replicate (a.length + b.length + 1) 0) (by omega) (by simp) (Dig.zeros B32_pos _) (Clear.zeros _ _) (by rw [val_zeros]; simp [val])
  refine ⟨r, Ev.congr (fun k => ?_) hr, hR⟩
  unfold spec_l1Mul.f
  rw [wrap64_id (n := (a.length : Int) + (b.length : Int)) (by omega), wrap64_id (by omega), if_pos (by omega), if_pos (by omega), show ((a.length : Int) + (b.length : Int) + 1).toNat = a.length + b.length + 1 by omega]
  rfl
theorem split_mul (x y : Int) (hx : 0 ≤ x) (hy : 0 ≤ y) (M : Int) (hM : 0 < M) : x * y = (x / M * (y / M)) * (M * M) + ((x / M * (y % M)) + (x % M * (y / M))) * M + (x % M * (y % M)) := by
  have h1 := Int.mul_ediv_add_emod x M
  have h2 := Int.mul_ediv_add_emod y M
  generalize x / M = x1 at *
  generalize x % M = x0 at *
  generalize y / M = y1 at *
  generalize y % M = y0 at *
  subst h1
  subst h2
  simp only [Int.add_mul, Int.mul_add]
  have e1 : M * x1 * (M * y1) = x1 * y1 * (M * M) := by simp only [Int.mul_assoc, Int.mul_left_comm, Int.mul_comm]
  have e2 : M * x1 * y0 = x1 * y0 * M := by simp only [Int.mul_assoc, Int.mul_left_comm, Int.mul_comm]
  have e3 : x0 * (M * y1) = x0 * y1 * M := by simp only [Int.mul_assoc, Int.mul_left_comm, Int.mul_comm]
  rw [e1, e2, e3]
  omega
theorem prod_bound {a b A B : Int} (ha : 0 ≤ a ∧ a ≤ A) (hb : 0 ≤ b ∧ b ≤ B) : 0 ≤ a * b ∧ a * b ≤ A * B :=
  ⟨Int.mul_nonneg ha.1 hb.1, Int.mul_le_mul ha.2 hb.2 hb.1 (by omega)⟩
theorem mul64_eq (x y : Int) (hx : 0 ≤ x ∧ x < (B64 : Int)) (hy : 0 ≤ y ∧ y < (B64 : Int)) :
    ∃ hi lo : Int, bits_Mul64.f x y = some (hi, lo) ∧ 0 ≤ hi ∧ hi < (B64 : Int) ∧ 0 ≤ lo ∧ lo < (B64 : Int) ∧ lo + 18446744073709551616 * hi = x * y ∧ hi ≤ 18446744073709551614 := by
  unfold B64 at hx hy ⊢
  have hsp := split_mul x y hx.1 hy.1 4294967296 (by omega)
  have b1 := prod_bound (a := x / 4294967296) (b := y / 4294967296) (A := 4294967295) (B := 4294967295) (by omega) (by omega)
  have b2 := prod_bound (a := x / 4294967296) (b := y % 4294967296) (A := 4294967295) (B := 4294967295) (by omega) (by omega)
  have b3 := prod_bound (a := x % 4294967296) (b := y / 4294967296) (A := 4294967295) (B := 4294967295) (by omega) (by omega)
  have b4 := prod_bound (a := x % 4294967296) (b := y % 4294967296) (A := 4294967295) (B := 4294967295) (by omega) (by omega)
  have hbig := prod_bound (a := x) (b := y) (A := 18446744073709551615) (B := 18446744073709551615) (by omega) (by omega)
  unfold bits_Mul64.f
  rw [and_low32 x hx.1 hx.2, and_low32 y hy.1 hy.2]
  generalize x / 4294967296 * (y / 4294967296) = p11 at *
  generalize x / 4294967296 * (y % 4294967296) = p10 at *
  generalize x % 4294967296 * (y / 4294967296) = p01 at *
  generalize x % 4294967296 * (y % 4294967296) = p00 at *
  generalize x * y = xy at *
  refine ⟨_, _, rfl, ?_⟩
  rw [wrap_u64_id (n := p11) (by omega), wrap_u64_id (n := p10) (by omega), wrap_u64_id (n := p00) (by omega), wrap_u64_id (n := p01) (by omega)]
  rw [wrap_u64_id (n := p10 + p00 / 4294967296) (by omega), and_low32 _ (by omega) (by omega)]
  rw [wrap_u64_id (n := p11 + (p10 + p00 / 4294967296) / 4294967296) (by omega), wrap_u64_id (n := (p10 + p00 / 4294967296) % 4294967296 + p01) (by omega), wrap_u64_id (by omega), wrap_u64]
  omega
theorem dig64 {x : Int} (h : 0 ≤ x ∧ x < (B64 : Int)) : 0 ≤ x ∧ x < 18446744073709551616 := by unfold B64 at h; omega
theorem toNat_lt64 {x : Int} (h : 0 ≤ x ∧ x < (B64 : Int)) : x.toNat < B64 := by unfold B64 at *; omega
theorem mul_place {lo hi x c s1 c1 s2 c2 : Int} {pq : Nat} (hlo : 0 ≤ lo) (hhi : 0 ≤ hi) (hx : 0 ≤ x) (hc : 0 ≤ c) (h1 : 0 ≤ c1) (h2 : 0 ≤ c2) (g1 : 0 ≤ s1)
    (m : lo + 18446744073709551616 * hi = (pq : Int)) (a1 : s1.toNat + B64 * c1.toNat = lo.toNat + x.toNat + (0 : Int).toNat) (a2 : s2.toNat + B64 * c2.toNat = s1.toNat + c.toNat + (0 : Int).toNat) :
    s2.toNat + B64 * (hi + c1 + c2).toNat = pq + x.toNat + c.toNat := by
  unfold B64 at *
  omega
end Go.Proofs.Ytkbkjmhkchagbaa.M
end
section
namespace Go.Proofs.Ytkbkjmhkchagbaa.M
open Go.RowKit Go.Proofs.Ytkbkjmhkchagbaa.G Go.Proofs.YtkbkjmhkchagbaaV.PrintWords Go.Proofs.YtkbkjmhkchagbaaV.PrintLast Go.Proofs.YtkbkjmhkchagbaaV.PrintMore Go.Proofs.Ytkbkjmhkchagbaa.PA
set_option linter.unusedVariables false
set_option linter.unusedSimpArgs false
theorem imul_inner (a b : List Int) (ha : Dig B64 a) (hb : Dig B64 b) (la : a.length ≤ 1073741824) (lb : b.length ≤ 1073741824) (i : Nat) (hi : i < a.length)
    (R : List Int → Prop) (next : ∀ out : List Int, out.length = a.length + b.length → Dig B64 out → Clear out (i + 1 + b.length) → val B64 out = val B64 (a.take (i + 1)) * val B64 b → ∃ r, Ev (fun k => impl_nat_mul.l0 k b out a (a.length : Int) ((i + 1 : Nat) : Int)) r ∧ R r) (d : Nat) :
    ∀ (j : Nat) (out : List Int) (c : Int), j + d = b.length → out.length = a.length + b.length → Dig B64 out → Clear out (i + b.length) → 0 ≤ c ∧ c < (B64 : Int) →
    val B64 out + B64 ^ (i + j) * c.toNat = val B64 (a.take i) * val B64 b + B64 ^ i * ((rd a (i : Int)).toNat * val B64 (b.take j)) →
    ∃ r, Ev (fun k => impl_nat_mul.l1 k b out (i : Int) (rd a (i : Int)) c a (a.length : Int) (i : Int) b (b.length : Int) (j : Int)) r ∧ R r := by
  induction d with
  | zero =>
    intro j out c hj hl hd hcl hc hv
    obtain rfl : j = b.length := by omega
    have h1 := mul_end (by omega) (hcl _ (Nat.le_refl _)) hv
    obtain ⟨r, hr, hR⟩ := next (out.set (i + b.length) c) (by simp [hl]) (hd.set _ hc) (by have := hcl.more c; rwa [show i + b.length + 1 = i + 1 + b.length by omega] at this) h1
    refine ⟨r, Ev.step (fun k => ?_) hr, hR⟩
    simp only [impl_nat_mul.l1]
    rw [if_neg (by omega), wrap64_id (by omega), if_pos (by omega), if_pos (by omega), wrap64_id (by omega), show ((i : Int) + (b.length : Int)).toNat = i + b.length by omega]
    rfl
  | succ d ih =>
    intro j out c hj hl hd hcl hc hv
    have dx := ha.rd B64_pos (i : Int)
    have dy := hb.rd B64_pos (j : Int)
    have dz := hd.rd B64_pos ((i + j : Nat) : Int)
    have hij : ((i : Int) + (j : Int)) = ((i + j : Nat) : Int) := by omega
    obtain ⟨hi', lo, hm, m1, m2, m3, m4, m5, m6⟩ := mul64_eq _ _ dx dy
    have hprod : rd a (i : Int) * rd b (j : Int) = (((rd a (i : Int)).toNat * (rd b (j : Int)).toNat : Nat) : Int) := by
      rw [Int.natCast_mul, Int.toNat_of_nonneg dx.1, Int.toNat_of_nonneg dy.1]
    rw [hprod] at m5
    obtain ⟨s1, s2, s3, s4, s5⟩ := add64_spec lo (rd out ((i + j : Nat) : Int)) 0 ⟨m3, m4⟩ dz (by omega)
    obtain ⟨q1, q2, q3, q4, q5⟩ := add64_spec (add64s lo (rd out ((i + j : Nat) : Int)) 0) c 0 ⟨s1, s2⟩ hc (by omega)
    have hxv := mul_place m3 m1 dz.1 hc.1 s3 q3 s1 m5 s5 q5
    have hcar := mul_carry B64_pos (toNat_lt64 dx) (toNat_lt64 dy) (toNat_lt64 dz) (toNat_lt64 hc) hxv
    have hs := mul_step (B := B64) (a := a) (b := b) (out := out) (i := i) (j := j) (ai := rd a (i : Int)) (c := c) (by omega) hv hxv
    have hi0 : 0 ≤ hi' + add64c lo (rd out ((i + j : Nat) : Int)) 0 := by omega
    have hi1 : hi' + add64c lo (rd out ((i + j : Nat) : Int)) 0 < 18446744073709551616 := by omega
    have hi2 : 0 ≤ hi' + add64c lo (rd out ((i + j : Nat) : Int)) 0 + add64c (add64s lo (rd out ((i + j : Nat) : Int)) 0) c 0 ∧ hi' + add64c lo (rd out ((i + j : Nat) : Int)) 0 + add64c (add64s lo (rd out ((i + j : Nat) : Int)) 0) c 0 < (B64 : Int) := by omega
    obtain ⟨r, hr, hR⟩ := ih (j + 1) _ _ (by omega) (by simp [hl]) (hd.set (i + j) ⟨q1, q2⟩) (hcl.set (by omega)) hi2 hs
    refine ⟨r, Ev.step (fun k => ?_) hr, hR⟩
    simp only [impl_nat_mul.l1]
    rw [if_pos (by omega), if_pos (by omega), if_pos (by omega), hm, Option.bind_some]
    rw [wrap64_id (n := (i : Int) + (j : Int)) (by omega), if_pos (by omega), if_pos (by omega), hij, Int.toNat_natCast]
    rw [wrap_u64_id ⟨hi0, hi1⟩, wrap_u64_id (dig64 hi2), wrap64_id (by omega)]
    rfl
theorem imul_outer (a b : List Int) (ha : Dig B64 a) (hb : Dig B64 b) (la : a.length ≤ 1073741824) (lb : b.length ≤ 1073741824) (d : Nat) : ∀ (i : Nat) (out : List Int), i + d = a.length → out.length = a.length + b.length → Dig B64 out → Clear out (i + b.length) →
    val B64 out = val B64 (a.take i) * val B64 b →
    ∃ r, Ev (fun k => impl_nat_mul.l0 k b out a (a.length : Int) (i : Int)) r ∧ Dig B64 r ∧ Norm r ∧ val B64 r = val B64 a * val B64 b ∧ r.length ≤ a.length + b.length := by
  induction d with
  | zero =>
    intro i out hi hl hd hcl hv
    refine ⟨trimL out, Ev.step (f := fun _ => some (trimL out)) (fun k => ?_) (Ev.now _), hd.trim, norm_trim _, ?_, ?_⟩
    · simp only [impl_nat_mul.l0]
      rw [if_neg (by omega)]
    · rw [val_trim, hv, val_take_all _ _ _ (by omega)]
    · have := trimL_length out
      omega
  | succ d ih =>
    intro i out hi hl hd hcl hv
    obtain ⟨r, hr, hR⟩ := imul_inner a b ha hb la lb i (by omega) (fun r => Dig B64 r ∧ Norm r ∧ val B64 r = val B64 a * val B64 b ∧ r.length ≤ a.length + b.length)
      (fun out' h1 h2 h3 h4 => ih (i + 1) out' (by omega) h1 h2 h3 h4) b.length 0 out 0 (by omega) hl hd hcl (by unfold B64; omega) (by simp [val, hv])
    refine ⟨r, Ev.step (fun k => ?_) hr, hR⟩
    simp only [impl_nat_mul.l0]
    rw [if_pos (by omega), if_pos (by omega), if_pos (by omega)]
    rfl
theorem imul_ev (a b : List Int) (ha : Dig B64 a) (hb : Dig B64 b) (la : a.length ≤ 1073741824) (lb : b.length ≤ 1073741824) :
    ∃ r, Ev (fun k => impl_nat_mul.f k a b) r ∧ Dig B64 r ∧ Norm r ∧ val B64 r = val B64 a * val B64 b ∧ r.length ≤ a.length + b.length := by
  obtain ⟨r, hr, hR⟩ := imul_outer a b ha hb la lb a.length 0 (List.replicate (a.length + b.length) 0) (by omega) (by simp) (Dig.zeros B64_pos _) (Clear.zeros _ _) (by rw [val_zeros]; simp [val])
  refine ⟨r, Ev.congr (fun k => ?_) hr, hR⟩
  unfold impl_nat_mul.f
  rw [wrap64_id (n := (a.length : Int) + (b.length : Int)) (by omega), if_pos (by omega), if_pos (by omega), show ((a.length : Int) + (b.length : Int)).toNat = a.length + b.length by omega]
  rfl
end Go.Proofs.Ytkbkjmhkchagbaa.M
end
section
namespace Go.Proofs.Ytkbkjmhkchagbaa.M
open Go.RowKit Go.Proofs.Ytkbkjmhkchagbaa.G Go.Proofs.YtkbkjmhkchagbaaV.PrintWords Go.Proofs.YtkbkjmhkchagbaaV.PrintLast Go.Proofs.YtkbkjmhkchagbaaV.PrintMore Go.Proofs.Ytkbkjmhkchagbaa.PA
set_option linter.unusedVariables false
set_option linter.unusedSimpArgs false
def IsBits (v n : Nat) : Prop := v < 2 ^ n ∧ (n = 0 ∨ 2 ^ (n - 1) ≤ v)
instance (v n : Nat) : Decidable (IsBits v n) := by unfold IsBits; infer_instance
theorem IsBits.uniq {v n m : Nat} (h : IsBits v n) (k : IsBits v m) : n = m := by
  have one : ∀ a b : Nat, IsBits v a → IsBits v b → a ≤ b := by
    intro a b h k
    rcases h.2 with h2 | h2
    · omega
    · rcases Nat.lt_or_ge b a with h3 | h3
      · have := Nat.pow_le_pow_right (n := 2) (by omega) (show b ≤ a - 1 by omega)
        have := k.1
        omega
      · exact h3
  exact Nat.le_antisymm (one n m h k) (one m n k h)
theorem IsBits.zero : IsBits 0 0 := ⟨by decide, Or.inl rfl⟩
theorem IsBits.pos {v n : Nat} (h : IsBits v n) (hv : 0 < v) : 0 < n := by
  rcases Nat.eq_zero_or_pos n with h2 | h2
  · subst h2
    have := h.1
    simp at this
    omega
  · exact h2
theorem IsBits.up {v m s : Nat} (h : IsBits (v / 2 ^ s) m) (hv : 0 < v / 2 ^ s) : IsBits v (s + m) := by
  have hp : 0 < 2 ^ s := Nat.pow_pos (by omega)
  have hm := h.pos hv
  refine ⟨?_, Or.inr ?_⟩
  · rw [Nat.pow_add, Nat.mul_comm]
    exact (Nat.div_lt_iff_lt_mul hp).1 h.1
  · rcases h.2 with h2 | h2
    · omega
    · rw [show s + m - 1 = s + (m - 1) by omega, Nat.pow_add, Nat.mul_comm]
      exact (Nat.le_div_iff_mul_le hp).1 h2
theorem IsBits.le {v n w : Nat} (h : IsBits v n) (hv : v < 2 ^ w) : n ≤ w := by
  rcases h.2 with h2 | h2
  · omega
  · rcases Nat.lt_or_ge w n with h3 | h3
    · have := Nat.pow_le_pow_right (n := 2) (by omega) (show w ≤ n - 1 by omega)
      omega
    · exact h3
theorem lenT : ∀ i : Nat, i < 256 → IsBits i (bt (⟨#[0, 1, 2, 2, 3, 3, 3, 3, 4, 4, 4, 4, 4, 4, 4, 4, 5, 5, 5, 5, 5, 5, 5, 5, 5, 5, 5, 5, 5, 5, 5, 5, 6, 6, 6, 6, 6, 6, 6, 6, 6, 6, 6, 6, 6, 6, 6, 6, 6, 6, 6, 6, 6, 6, 6, 6, 6, 6, 6, 6, 6, 6, 6, 6, 7, 7, 7, 7, 7, 7, 7, 7, 7, 7, 7, 7, 7, 7, 7, 7, 7, 7, 7, 7, 7, 7, 7, 7, 7, 7, 7, 7, 7, 7, 7, 7, 7, 7, 7, 7, 7, 7, 7, 7, 7, 7, 7, 7, 7, 7, 7, 7, 7, 7, 7, 7, 7, 7, 7, 7, 7, 7, 7, 7, 7, 7, 7, 7, 8, 8, 8, 8, 8, 8, 8, 8, 8, 8, 8, 8, 8, 8, 8, 8, 8, 8, 8, 8, 8, 8, 8, 8, 8, 8, 8, 8, 8, 8, 8, 8, 8, 8, 8, 8, 8, 8, 8, 8, 8, 8, 8, 8, 8, 8, 8, 8, 8, 8, 8, 8, 8, 8, 8, 8, 8, 8, 8, 8, 8, 8, 8, 8, 8, 8, 8, 8, 8, 8, 8, 8, 8, 8, 8, 8, 8, 8, 8, 8, 8, 8, 8, 8, 8, 8, 8, 8, 8, 8, 8, 8, 8, 8, 8, 8, 8, 8, 8, 8, 8, 8, 8, 8, 8, 8, 8, 8, 8, 8, 8, 8, 8, 8, 8, 8, 8, 8, 8, 8, 8, 8, 8, 8, 8, 8, 8, 8]⟩ : ByteArray) (i : Int)).toNat ∧ 0 ≤ bt (⟨#[0, 1, 2, 2, 3, 3, 3, 3, 4, 4, 4, 4, 4, 4, 4, 4, 5, 5, 5, 5, 5, 5, 5, 5, 5, 5, 5, 5, 5, 5, 5, 5, 6, 6, 6, 6, 6, 6, 6, 6, 6, 6, 6, 6, 6, 6, 6, 6, 6, 6, 6, 6, 6, 6, 6, 6, 6, 6, 6, 6, 6, 6, 6, 6, 7, 7, 7, 7, 7, 7, 7, 7, 7, 7, 7, 7, 7, 7, 7, 7, 7, 7, 7, 7, 7, 7, 7, 7, 7, 7, 7, 7, 7, 7, 7, 7, 7, 7, 7, 7, 7, 7, 7, 7, 7, 7, 7, 7, 7, 7, 7, 7, 7, 7, 7, 7, 7, 7, 7, 7, 7, 7, 7, 7, 7, 7, 7, 7, 8, 8, 8, 8, 8, 8, 8, 8, 8, 8, 8, 8, 8, 8, 8, 8, 8, 8, 8, 8, 8, 8, 8, 8, 8, 8, 8, 8, 8, 8, 8, 8, 8, 8, 8, 8, 8, 8, 8, 8, 8, 8, 8, 8, 8, 8, 8, 8, 8, 8, 8, 8, 8, 8, 8, 8, 8, 8, 8, 8, 8, 8, 8, 8, 8, 8, 8, 8, 8, 8, 8, 8, 8, 8, 8, 8, 8, 8, 8, 8, 8, 8, 8, 8, 8, 8, 8, 8, 8, 8, 8, 8, 8, 8, 8, 8, 8, 8, 8, 8, 8, 8, 8, 8, 8, 8, 8, 8, 8, 8, 8, 8, 8, 8, 8, 8, 8, 8, 8, 8, 8, 8, 8, 8, 8, 8, 8, 8]⟩ : ByteArray) (i : Int) := by decide +kernel
theorem len_top (c x2 : Nat) (hc : c < 256) (h2 : x2 ≤ 1000) : ∃ m : Nat, IsBits c m ∧ m ≤ 8 ∧ (fun _ : Unit => wrap64 ((x2 : Int) + wrap64 (bt (⟨#[0, 1, 2, 2, 3, 3, 3, 3, 4, 4, 4, 4, 4, 4, 4, 4, 5, 5, 5, 5, 5, 5, 5, 5, 5, 5, 5, 5, 5, 5, 5, 5, 6, 6, 6, 6, 6, 6, 6, 6, 6, 6, 6, 6, 6, 6, 6, 6, 6, 6, 6, 6, 6, 6, 6, 6, 6, 6, 6, 6, 6, 6, 6, 6, 7, 7, 7, 7, 7, 7, 7, 7, 7, 7, 7, 7, 7, 7, 7, 7, 7, 7, 7, 7, 7, 7, 7, 7, 7, 7, 7, 7, 7, 7, 7, 7, 7, 7, 7, 7, 7, 7, 7, 7, 7, 7, 7, 7, 7, 7, 7, 7, 7, 7, 7, 7, 7, 7, 7, 7, 7, 7, 7, 7, 7, 7, 7, 7, 8, 8, 8, 8, 8, 8, 8, 8, 8, 8, 8, 8, 8, 8, 8, 8, 8, 8, 8, 8, 8, 8, 8, 8, 8, 8, 8, 8, 8, 8, 8, 8, 8, 8, 8, 8, 8, 8, 8, 8, 8, 8, 8, 8, 8, 8, 8, 8, 8, 8, 8, 8, 8, 8, 8, 8, 8, 8, 8, 8, 8, 8, 8, 8, 8, 8, 8, 8, 8, 8, 8, 8, 8, 8, 8, 8, 8, 8, 8, 8, 8, 8, 8, 8, 8, 8, 8, 8, 8, 8, 8, 8, 8, 8, 8, 8, 8, 8, 8, 8, 8, 8, 8, 8, 8, 8, 8, 8, 8, 8, 8, 8, 8, 8, 8, 8, 8, 8, 8, 8, 8, 8, 8, 8, 8, 8, 8, 8]⟩ : ByteArray) (c : Int)))) = (fun _ => ((x2 + m : Nat) : Int)) := by
  obtain ⟨h1, h0⟩ := lenT c hc
  have h8 := h1.le (w := 8) hc
  refine ⟨_, h1, h8, funext fun _ => ?_⟩
  generalize bt (⟨#[0, 1, 2, 2, 3, 3, 3, 3, 4, 4, 4, 4, 4, 4, 4, 4, 5, 5, 5, 5, 5, 5, 5, 5, 5, 5, 5, 5, 5, 5, 5, 5, 6, 6, 6, 6, 6, 6, 6, 6, 6, 6, 6, 6, 6, 6, 6, 6, 6, 6, 6, 6, 6, 6, 6, 6, 6, 6, 6, 6, 6, 6, 6, 6, 7, 7, 7, 7, 7, 7, 7, 7, 7, 7, 7, 7, 7, 7, 7, 7, 7, 7, 7, 7, 7, 7, 7, 7, 7, 7, 7, 7, 7, 7, 7, 7, 7, 7, 7, 7, 7, 7, 7, 7, 7, 7, 7, 7, 7, 7, 7, 7, 7, 7, 7, 7, 7, 7, 7, 7, 7, 7, 7, 7, 7, 7, 7, 7, 8, 8, 8, 8, 8, 8, 8, 8, 8, 8, 8, 8, 8, 8, 8, 8, 8, 8, 8, 8, 8, 8, 8, 8, 8, 8, 8, 8, 8, 8, 8, 8, 8, 8, 8, 8, 8, 8, 8, 8, 8, 8, 8, 8, 8, 8, 8, 8, 8, 8, 8, 8, 8, 8, 8, 8, 8, 8, 8, 8, 8, 8, 8, 8, 8, 8, 8, 8, 8, 8, 8, 8, 8, 8, 8, 8, 8, 8, 8, 8, 8, 8, 8, 8, 8, 8, 8, 8, 8, 8, 8, 8, 8, 8, 8, 8, 8, 8, 8, 8, 8, 8, 8, 8, 8, 8, 8, 8, 8, 8, 8, 8, 8, 8, 8, 8, 8, 8, 8, 8, 8, 8, 8, 8, 8, 8, 8, 8]⟩ : ByteArray) (c : Int) = z at *
  rw [wrap64_id (n := z) (by omega), wrap64_id (by omega)]
  omega
set_option maxRecDepth 20000 in
theorem len_j0 (x x2 : Nat) (hx : x < 4294967296) (h2 : x2 ≤ 100) : ∃ m : Nat, IsBits x m ∧ m ≤ 32 ∧ Ev (fun k => bits_Len64.j0 k (x : Int) (x2 : Int)) ((x2 + m : Nat) : Int) := by
  have wr : ∀ a b : Nat, a ≤ 1000 → b ≤ 1000 → wrap64 ((a : Int) + (b : Int)) = ((a + b : Nat) : Int) := by
    intro a b ha hb
    rw [wrap64_id (by omega)]
    omega
  by_cases c1 : 65536 ≤ x
  · by_cases c2 : 256 ≤ x / 65536
    · obtain ⟨m, hm, h8, he⟩ := len_top (x / 65536 / 256) (x2 + 16 + 8) (by omega) (by omega)
      have hb : IsBits x (24 + m) := by
        refine IsBits.up (s := 24) ?_ (by omega)
        rw [show x / 2 ^ 24 = x / 65536 / 256 by omega]
        exact hm
      refine ⟨24 + m, hb, by omega, Ev.step (f := fun _ => some ((x2 + (24 + m) : Nat) : Int)) (fun k => ?_) (Ev.now _)⟩
      have e1 : ((x : Int) / 65536 / 256 % 256) = ((x / 65536 / 256 : Nat) : Int) := by omega
      rw [bits_Len64.j0]
      rw [if_pos (by omega), if_pos (by omega), if_pos (by omega), if_pos (by omega), e1, show (16 : Int) = ((16 : Nat) : Int) from rfl, wr _ _ (by omega) (by omega), show (8 : Int) = ((8 : Nat) : Int) from rfl, wr _ _ (by omega) (by omega), congrFun he ()]
      congr 2
      omega
    · obtain ⟨m, hm, h8, he⟩ := len_top (x / 65536) (x2 + 16) (by omega) (by omega)
      have hb : IsBits x (16 + m) := by
        refine IsBits.up (s := 16) ?_ (by omega)
        exact hm
      refine ⟨16 + m, hb, by omega, Ev.step (f := fun _ => some ((x2 + (16 + m) : Nat) : Int)) (fun k => ?_) (Ev.now _)⟩
      have e1 : ((x : Int) / 65536 % 256) = ((x / 65536 : Nat) : Int) := by omega
      rw [bits_Len64.j0]
      rw [if_pos (by omega), if_neg (by omega), if_pos (by omega), if_pos (by omega), e1, show (16 : Int) = ((16 : Nat) : Int) from rfl, wr _ _ (by omega) (by omega), congrFun he ()]
      congr 2
      omega
  · by_cases c2 : 256 ≤ x
    · obtain ⟨m, hm, h8, he⟩ := len_top (x / 256) (x2 + 8) (by omega) (by omega)
      have hb : IsBits x (8 + m) := by
        refine IsBits.up (s := 8) ?_ (by omega)
        exact hm
      refine ⟨8 + m, hb, by omega, Ev.step (f := fun _ => some ((x2 + (8 + m) : Nat) : Int)) (fun k => ?_) (Ev.now _)⟩
      have e1 : ((x : Int) / 256 % 256) = ((x / 256 : Nat) : Int) := by omega
      rw [bits_Len64.j0]
      rw [if_neg (by omega), if_pos (by omega), if_pos (by omega), if_pos (by omega), e1, show (8 : Int) = ((8 : Nat) : Int) from rfl, wr _ _ (by omega) (by omega), congrFun he ()]
      congr 2
      omega
    · obtain ⟨m, hm, h8, he⟩ := len_top x x2 (by omega) (by omega)
      refine ⟨m, hm, by omega, Ev.step (f := fun _ => some ((x2 + m : Nat) : Int)) (fun k => ?_) (Ev.now _)⟩
      have e1 : ((x : Int) % 256) = (x : Int) := by omega
      rw [bits_Len64.j0]
      rw [if_neg (by omega), if_neg (by omega), if_pos (by omega), if_pos (by omega), e1, congrFun he ()]
theorem len64_ev (x : Nat) (hx : x < 18446744073709551616) : ∃ m : Nat, IsBits x m ∧ m ≤ 64 ∧ Ev (fun k => bits_Len64.f k (x : Int)) (m : Int) := by
  unfold bits_Len64.f
  by_cases c : 4294967296 ≤ x
  · obtain ⟨m, hm, h1, h2⟩ := len_j0 (x / 4294967296) 32 (by omega) (by omega)
    refine ⟨32 + m, IsBits.up (s := 32) hm (by omega), by omega, Ev.congr (fun k => ?_) h2⟩
    rw [if_pos (by omega)]
    rfl
  · obtain ⟨m, hm, h1, h2⟩ := len_j0 x 0 (by omega) (by omega)
    refine ⟨m, hm, by omega, Ev.congr (fun k => ?_) (ev_to h2 (by simp))⟩
    rw [if_neg (by omega)]
    rfl
theorem sbits_loop (m : Nat) : ∀ (u n : Nat), IsBits u m → n + m ≤ 4611686018427387904 → Ev (fun k => spec_l1Bits.l0 k (n : Int) (u : Int)) ((n + m : Nat) : Int) := by
  induction m with
  | zero =>
    intro u n h hb
    have := h.1
    refine Ev.step (f := fun _ => some ((n + 0 : Nat) : Int)) (fun k => ?_) (Ev.now _)
    simp only [spec_l1Bits.l0]
    rw [if_neg (by omega)]
    rfl
  | succ m ih =>
    intro u n h hb
    have hu : 2 ^ m ≤ u := by
      rcases h.2 with h2 | h2
      · omega
      · simpa using h2
    have hp : 0 < 2 ^ m := Nat.pow_pos (by omega)
    have h1 := h.1
    rw [Nat.pow_succ] at h1
    have hh : IsBits (u / 2) m := by
      refine ⟨by omega, ?_⟩
      rcases Nat.eq_zero_or_pos m with h3 | h3
      · exact Or.inl h3
      · right
        rw [show m = (m - 1) + 1 by omega, Nat.pow_succ] at hu
        omega
    refine Ev.step (fun k => ?_) (ev_to (ih (u / 2) (n + 1) hh (by omega)) (by congr 1; omega))
    simp only [spec_l1Bits.l0]
    rw [if_pos (by omega), wrap64_id (by omega)]
    rfl
def ofW (v : Nat) : List Int := trimL [((v % 4294967296 : Nat) : Int), ((v / 4294967296 : Nat) : Int)]
theorem ofW_cases (v : Nat) : (v / 4294967296 ≠ 0 ∧ ofW v = [((v % 4294967296 : Nat) : Int), ((v / 4294967296 : Nat) : Int)]) ∨ (v / 4294967296 = 0 ∧ v ≠ 0 ∧ ofW v = [(v : Int)]) ∨ (v = 0 ∧ ofW v = []) := by
  have e2 : ∀ x y : Int, [x, y] = [x] ++ [y] := fun _ _ => rfl
  have e1 : ∀ x : Int, [x] = [] ++ [x] := fun _ => rfl
  unfold ofW
  by_cases h : v / 4294967296 = 0
  · have e3 : trimL [((v % 4294967296 : Nat) : Int), ((v / 4294967296 : Nat) : Int)] = trimL [(v : Int)] := by
      rw [h, show v % 4294967296 = v by omega, e2, show (((0 : Nat)) : Int) = 0 from rfl, trimL_snoc_zero]
    by_cases h0 : v = 0
    · exact Or.inr (Or.inr ⟨h0, by rw [e3, h0, e1, show (((0 : Nat)) : Int) = 0 from rfl, trimL_snoc_zero]; rfl⟩)
    · exact Or.inr (Or.inl ⟨h, h0, by rw [e3, e1, trimL_snoc_ne _ _ (by omega)]⟩)
  · exact Or.inl ⟨h, by rw [e2, trimL_snoc_ne _ _ (by omega)]⟩
theorem ofW_eq (v : Nat) (hv : v < 18446744073709551616) : spec_l1Of.f (v : Int) = some (ofW v) := by
  unfold spec_l1Of.f
  rw [trim_eq _ (by simp), Option.bind_some, and_low32 _ (by omega) (by omega)]
  rfl
theorem ofW_dig (v : Nat) (hv : v < 18446744073709551616) : Dig B32 (ofW v) := by
  unfold ofW
  exact (Dig.cons (by unfold B32; omega) (Dig.cons (by unfold B32; omega) (Dig.nil _))).trim
theorem ofW_val (v : Nat) : val B32 (ofW v) = v := by
  unfold ofW
  rw [val_trim]
  simp only [val_cons, val_nil]
  unfold B32
  omega
theorem ofW_length (v : Nat) : (ofW v).length ≤ 2 := by
  unfold ofW
  have := trimL_length [((v % 4294967296 : Nat) : Int), ((v / 4294967296 : Nat) : Int)]
  simpa using this
theorem sbits_ev (v m : Nat) (hv : v < 18446744073709551616) (hm : IsBits v m) : Ev (fun k => spec_l1Bits.f k (ofW v)) (m : Int) := by
  have w0 : wrap64 0 = 0 := wrap64_id (by omega)
  have w1 : wrap64 1 = 1 := wrap64_id (by omega)
  have w32 : wrap64 32 = 32 := wrap64_id (by omega)
  unfold spec_l1Bits.f
  rcases ofW_cases v with ⟨h, e⟩ | ⟨h, h0, e⟩ | ⟨h0, e⟩
  · rw [e]
    obtain ⟨q, hq, _, _⟩ := len64_ev (v / 4294967296) (by omega)
    have hb : IsBits v (32 + q) := IsBits.up (s := 32) hq (by omega)
    have := hm.uniq hb
    subst this
    have hq8 := hq.le (w := 64) (by omega)
    refine Ev.congr (fun k => ?_) (sbits_loop q (v / 4294967296) 32 hq (by omega))
    rw [show (([((v % 4294967296 : Nat) : Int), ((v / 4294967296 : Nat) : Int)].length : Int)) = 2 from rfl, show (2 : Int) - 1 = 1 from rfl, w1, if_neg (by decide), if_pos (by decide), if_pos (by decide), show (32 : Int) * 1 = 32 from rfl, w32]
    rfl
  · rw [e]
    refine Ev.congr (fun k => ?_) (ev_to (sbits_loop m v 0 hm (by have := hm.le (w := 64) hv; omega)) (by simp))
    rw [show (([(v : Int)].length : Int)) = 1 from rfl, show (1 : Int) - 1 = 0 from rfl, w0, if_neg (by decide), if_pos (by decide), if_pos (by decide), show (32 : Int) * 0 = 0 from rfl, w0]
    rfl
  · rw [e]
    subst h0
    obtain rfl := hm.uniq IsBits.zero
    exact Ev.congr (fun k => by simp) (Ev.now _)
end Go.Proofs.Ytkbkjmhkchagbaa.M
end
section
namespace Go.Proofs.Ytkbkjmhkchagbaa.M
open Go.RowKit Go.Proofs.Ytkbkjmhkchagbaa.G Go.Proofs.YtkbkjmhkchagbaaV.PrintWords Go.Proofs.YtkbkjmhkchagbaaV.PrintLast Go.Proofs.YtkbkjmhkchagbaaV.PrintMore Go.Proofs.Ytkbkjmhkchagbaa.PA
set_option linter.unusedVariables false
set_option linter.unusedSimpArgs false
theorem spow_loop (b : List Int) (hb : Dig B32 b) (lb : b.length ≤ 2) (d : Nat) : ∀ (out : List Int), d ≤ 20000 → Dig B32 out → Norm out → out.length + 3 * d ≤ 100000 →
    ∃ r, Ev (fun k => spec_NatPow.l0 k (d : Int) b out) r ∧ IsNat r (val B32 out * val B32 b ^ d) ∧ r.length ≤ 100000 := by
  induction d with
  | zero =>
    intro out hd ho hn hl
    refine ⟨outL out, Ev.step (f := fun k => (spec_l1Out.f k out).bind fun t617 => (some t617)) (fun k => ?_) (Ev.bind (out_ev out ho (by omega)) (Ev.now _)), IsNat.out ho hn (by simp), ?_⟩
    · simp only [spec_NatPow.l0]
      rw [if_neg (by omega)]
    · have := outL_length out
      omega
  | succ d ih =>
    intro out hd ho hn hl
    obtain ⟨m, hm, md, mn, mv, ml⟩ := smul_ev out b ho hb (by omega) (by omega)
    obtain ⟨r, hr, h2, h3⟩ := ih m (by omega) md mn (by omega)
    refine ⟨r, Ev.step (f := fun k => (spec_l1Mul.f k out b).bind fun t => spec_NatPow.l0 k (d : Int) b t) (fun k => ?_) (Ev.bind hm hr), ?_, h3⟩
    · simp only [spec_NatPow.l0]
      rw [if_pos (by omega), wrap64_id (by omega), show (((d + 1 : Nat) : Int) - 1) = (d : Int) by omega]
    · rw [mv] at h2
      rw [Nat.pow_succ, Nat.mul_comm (val B32 b ^ d), ← Nat.mul_assoc]
      exact h2
theorem and_one (x : Nat) (h : x ≤ 20000) : bits .and .i64 (x : Int) 1 = ((x % 2 : Nat) : Int) := by
  have := bits_mask .i64 15 (by decide) (fun n h0 h1 => by simp only [IntKind.wrap, IntKind.bits, IntKind.signed] at *; simp at *; omega) 1 (by decide) (x : Int) (by omega) (by simp; omega)
  simp at this
  rw [this]
  omega
theorem len_half {l x : Nat} (h : l * x ≤ 100000) : (l + l) * (x / 2) ≤ 100000 ∧ (x > 1 → l ≤ 100000) := by
  constructor
  · have h1 : (l + l) * (x / 2) = l * (2 * (x / 2)) := by rw [← Nat.two_mul, Nat.mul_assoc, Nat.mul_left_comm]
    have h2 : l * (2 * (x / 2)) ≤ l * x := Nat.mul_le_mul_left l (by omega)
    omega
  · intro h1
    have : l * 1 ≤ l * x := Nat.mul_le_mul_left l (by omega)
    omega
theorem len_split (l x : Nat) : l * x = (l + l) * (x / 2) + l * (x % 2) := by
  have h1 : (l + l) * (x / 2) = l * (2 * (x / 2)) := by rw [← Nat.two_mul, Nat.mul_assoc, Nat.mul_left_comm]
  rw [h1, ← Nat.mul_add, Nat.div_add_mod]
theorem pow_half (b x : Nat) : b ^ x = b ^ (x % 2) * (b * b) ^ (x / 2) := by
  rw [← Nat.pow_two, ← Nat.pow_mul, ← Nat.pow_add]
  congr 1
  omega
theorem ipow_loop (n : Nat) : ∀ (x : Nat) (base out : List Int), x ≤ n → x ≤ 20000 → Dig B64 base → Dig B64 out → Norm out → base.length * x ≤ 100000 → base.length ≤ 200000 → out.length + base.length * x ≤ 200000 →
    ∃ r, Ev (fun k => impl_pow.l0 k base (x : Int) out) r ∧ IsNat r (val B64 out * val B64 base ^ x) := by
  induction n with
  | zero =>
    intro x base out hx h2 hb ho hn hlb hb2 hlo
    have : x = 0 := by omega
    subst this
    refine ⟨out, Ev.step (f := fun _ => some out) (fun k => ?_) (Ev.now _), ho, hn, by simp⟩
    simp only [impl_pow.l0]
    rw [if_neg (by omega)]
  | succ n ih =>
    intro x base out hx h2 hb ho hn hlb hb2 hlo
    rcases Nat.eq_zero_or_pos x with h0 | h0
    · exact ih x base out (by omega) h2 hb ho hn hlb hb2 hlo
    have hmul : ∃ out' : List Int, (x % 2 = 1 → Ev (fun k => impl_nat_mul.f k out base) out') ∧ (x % 2 = 0 → out' = out) ∧ Dig B64 out' ∧ Norm out' ∧ val B64 out' = val B64 out * val B64 base ^ (x % 2) ∧ out'.length ≤ out.length + base.length * (x % 2) := by
      by_cases h : x % 2 = 1
      · obtain ⟨m, hm, md, mn, mv, ml⟩ := imul_ev out base ho hb (by omega) (by omega)
        exact ⟨m, fun _ => hm, by omega, md, mn, by rw [mv, h, Nat.pow_one], by rw [h, Nat.mul_one]; omega⟩
      · exact ⟨out, fun e => absurd e h, fun _ => rfl, ho, hn, by rw [show x % 2 = 0 by omega]; simp, by omega⟩
    obtain ⟨out', e1, e0, od, on, ov, ol⟩ := hmul
    have hsq : ∃ base' : List Int, (x > 1 → Ev (fun k => impl_nat_mul.f k base base) base') ∧ (¬ x > 1 → base' = base) ∧ Dig B64 base' ∧ val B64 base' ^ (x / 2) = (val B64 base * val B64 base) ^ (x / 2) ∧ base'.length * (x / 2) ≤ 100000 ∧ base'.length ≤ 200000 ∧ base'.length * (x / 2) ≤ (base.length + base.length) * (x / 2) := by
      obtain ⟨l1, l2⟩ := len_half hlb
      by_cases h : x > 1
      · have := l2 h
        obtain ⟨m, hm, md, mn, mv, ml⟩ := imul_ev base base hb hb (by omega) (by omega)
        refine ⟨m, fun _ => hm, fun e => absurd h e, md, by rw [mv], ?_, by omega, Nat.mul_le_mul_right (x / 2) ml⟩
        have := Nat.mul_le_mul_right (x / 2) ml
        omega
      · refine ⟨base, fun e => absurd e h, fun _ => rfl, hb, ?_, ?_, hb2, Nat.mul_le_mul_right _ (by omega)⟩
        · rw [show x / 2 = 0 by omega]
          simp
        · rw [show x / 2 = 0 by omega]
          simp
    obtain ⟨base', s1, s0, bd, bv, bl, bl2, bl3⟩ := hsq
    have hsplit := len_split base.length x
    obtain ⟨r, hr, hR⟩ := ih (x / 2) base' out' (by omega) (by omega) bd od on bl bl2 (by omega)
    rw [ov, bv, Nat.mul_assoc, ← pow_half] at hR
    refine ⟨r, ?_, hR⟩
    have hand := and_one x h2
    have hx0 : (x : Int) > 0 := by omega
    have hdiv : (x : Int) / 2 = ((x / 2 : Nat) : Int) := by omega
    by_cases h : x % 2 = 1
    · have hone : ((x % 2 : Nat) : Int) = 1 := by omega
      by_cases h1 : x > 1
      · refine Ev.step (f := fun k => (impl_nat_mul.f k out base).bind fun t629 => ((impl_nat_mul.f k base base).bind fun t632 => (impl_pow.l0 k t632 ((x / 2 : Nat) : Int) t629))) (fun k => ?_) (Ev.bind (e1 h) (Ev.bind (s1 h1) hr))
        simp only [impl_pow.l0]
        rw [if_pos hx0, hand, if_pos hone, hdiv]
        have : (x : Int) > 1 := by omega
        simp only [if_pos this]
      · have hbb := s0 h1
        subst hbb
        refine Ev.step (f := fun k => (impl_nat_mul.f k out base').bind fun t629 => (impl_pow.l0 k base' ((x / 2 : Nat) : Int) t629)) (fun k => ?_) (Ev.bind (e1 h) hr)
        simp only [impl_pow.l0]
        rw [if_pos hx0, hand, if_pos hone, hdiv]
        have : ¬ (x : Int) > 1 := by omega
        simp only [if_neg this]
    · have hone : ¬ ((x % 2 : Nat) : Int) = 1 := by omega
      have hoo := e0 (by omega)
      subst hoo
      have h1 : x > 1 := by omega
      refine Ev.step (f := fun k => ((impl_nat_mul.f k base base).bind fun t632 => (impl_pow.l0 k t632 ((x / 2 : Nat) : Int) out'))) (fun k => ?_) (Ev.bind (s1 h1) hr)
      simp only [impl_pow.l0]
      have h3 : (x : Int) > 1 := by omega
      rw [if_pos hx0, hand, if_neg hone, hdiv, if_pos h3]
theorem word_eq (v : Int) : impl_word.f v = some (trimL [v]) := rfl
theorem word_nat (v : Nat) (hv : v < 18446744073709551616) : IsNat (trimL [(v : Int)]) v ∧ (trimL [(v : Int)]).length ≤ 1 := by
  refine ⟨⟨(Dig.cons (by unfold B64; omega) (Dig.nil _)).trim, norm_trim _, by rw [val_trim, val_one]; simp⟩, ?_⟩
  have := trimL_length [(v : Int)]
  simpa using this
theorem ipow_ev (b : List Int) (hb : Dig B64 b) (lb : b.length ≤ 2) (x : Nat) (hx : x ≤ 20000) : ∃ r, Ev (fun k => impl_pow.f k b (x : Int)) r ∧ IsNat r (val B64 b ^ x) := by
  obtain ⟨⟨w1, w2, w3⟩, wl⟩ := word_nat 1 (by omega)
  have hlb : b.length * x ≤ 100000 := by
    have := Nat.mul_le_mul lb hx
    omega
  obtain ⟨r, hr, hR⟩ := ipow_loop x x b (trimL [((1 : Nat) : Int)]) (Nat.le_refl _) hx hb w1 w2 hlb (by omega) (by omega)
  rw [w3, Nat.one_mul] at hR
  refine ⟨r, Ev.congr (fun k => ?_) hr, hR⟩
  unfold impl_pow.f
  rw [word_eq, Option.bind_some]
  rfl
def powOk (m : Nat) (e : Int) : Prop := ¬ (e < 0) ∧ ¬ (e > 20000) ∧ ¬ (wrap64 ((m : Int) * e) > 76800)
instance (m : Nat) (e : Int) : Decidable (powOk m e) := by unfold powOk; infer_instance
theorem spec_NatPow_ev (v m : Nat) (e : Int) (hv : v < 18446744073709551616) (hm : IsBits v m) :
    ∃ r, Ev (fun k => spec_NatPow.f k (v : Int) e) r ∧ IsNat r (if powOk m e then v ^ e.toNat else 0) ∧ r.length ≤ 1048576 * 8 := by
  have hno : ∀ b, Ev (fun k => spec_NatPow.j0 k e b true) [] := fun b => Ev.step (f := fun _ => some []) (fun k => by simp [spec_NatPow.j0]) (Ev.now _)
  unfold spec_NatPow.f
  simp only [ofW_eq v hv, Option.bind_some]
  by_cases h1 : e < 0
  · simp only [if_pos h1]
    rw [if_neg (fun h : powOk m e => h.1 h1)]
    exact ⟨[], hno _, IsNat.nil, by simp⟩
  by_cases h2 : e > 20000
  · simp only [if_neg h1, if_pos h2]
    rw [if_neg (fun h : powOk m e => h.2.1 h2)]
    exact ⟨[], hno _, IsNat.nil, by simp⟩
  simp only [if_neg h1, if_neg h2]
  by_cases h3 : wrap64 ((m : Int) * e) > 76800
  · rw [if_neg (fun h : powOk m e => h.2.2 h3)]
    refine ⟨[], Ev.bind (sbits_ev v m hv hm) ?_, IsNat.nil, by simp⟩
    rw [decide_eq_true h3]
    exact hno _
  · rw [if_pos (show powOk m e from ⟨h1, h2, h3⟩)]
    obtain ⟨x, rfl⟩ : ∃ x : Nat, e = (x : Int) := ⟨e.toNat, by omega⟩
    have l1 := ofW_length 1
    have l2 := ofW_length v
    obtain ⟨r, hr, hR, hl⟩ := spow_loop (ofW v) (ofW_dig v hv) l2 x (ofW 1) (by omega) (ofW_dig 1 (by omega)) (norm_trim _) (by omega)
    rw [ofW_val, ofW_val, Nat.one_mul] at hR
    refine ⟨r, Ev.bind (sbits_ev v m hv hm) ?_, by rw [Int.toNat_natCast]; exact hR, by omega⟩
    rw [decide_eq_false h3]
    refine Ev.step (f := fun k => spec_NatPow.l0 k (x : Int) (ofW v) (ofW 1)) (fun k => ?_) hr
    simp only [spec_NatPow.j0]
    rw [if_neg (by decide), show (1 : Int) = ((1 : Nat) : Int) from rfl, ofW_eq 1 (by omega), Option.bind_some]
theorem impl_NatPow_ev (v m : Nat) (e : Int) (hv : v < 18446744073709551616) (hm : IsBits v m) :
    ∃ r, Ev (fun k => impl_NatPow.f k (v : Int) e) r ∧ IsNat r (if powOk m e then v ^ e.toNat else 0) := by
  have hno : Ev (fun k => impl_NatPow.j0 k (v : Int) e true) [] := Ev.step (f := fun _ => some []) (fun k => by simp [impl_NatPow.j0]) (Ev.now _)
  obtain ⟨m', hm', _, hlen⟩ := len64_ev v hv
  obtain rfl := hm.uniq hm'
  unfold impl_NatPow.f
  by_cases h1 : e < 0
  · simp only [if_pos h1]
    rw [if_neg (fun h : powOk m e => h.1 h1)]
    exact ⟨[], hno, IsNat.nil⟩
  by_cases h2 : e > 20000
  · simp only [if_neg h1, if_pos h2]
    rw [if_neg (fun h : powOk m e => h.2.1 h2)]
    exact ⟨[], hno, IsNat.nil⟩
  simp only [if_neg h1, if_neg h2]
  by_cases h3 : wrap64 ((m : Int) * e) > 76800
  · rw [if_neg (fun h : powOk m e => h.2.2 h3)]
    refine ⟨[], Ev.bind hlen ?_, IsNat.nil⟩
    rw [decide_eq_true h3]
    exact hno
  · rw [if_pos (show powOk m e from ⟨h1, h2, h3⟩)]
    obtain ⟨x, rfl⟩ : ∃ x : Nat, e = (x : Int) := ⟨e.toNat, by omega⟩
    obtain ⟨⟨w1, w2, w3⟩, wl⟩ := word_nat v hv
    obtain ⟨r, hr, hR⟩ := ipow_ev (trimL [(v : Int)]) w1 (by omega) x (by omega)
    rw [w3] at hR
    refine ⟨r, Ev.bind hlen ?_, by rw [Int.toNat_natCast]; exact hR⟩
    rw [decide_eq_false h3]
    refine Ev.step (f := fun k => (impl_pow.f k (trimL [(v : Int)]) (x : Int)).bind fun t642 => (some t642)) (fun k => ?_) (Ev.bind hr (Ev.now _))
    simp only [impl_NatPow.j0]
    rw [if_neg (by decide), word_eq, Option.bind_some]
end Go.Proofs.Ytkbkjmhkchagbaa.M
end
section
namespace Go.Proofs.Ytkbkjmhkchagbaa.Pure
open Go.RowKit Go.Proofs.Ytkbkjmhkchagbaa.G Go.Proofs.Ytkbkjmhkchagbaa.PA Go.Proofs.YtkbkjmhkchagbaaV.PrintWords Go.Proofs.YtkbkjmhkchagbaaV.PrintLast Go.Proofs.Ytkbkjmhkchagbaa.M
set_option linter.unusedVariables false
set_option linter.unusedSimpArgs false
theorem FnExactNatPow : laws_FnExactNatPow.Pure := by
  intro b e wb _
  refine Ev.rounds (g := fun k => laws_FnExactNatPow.f k b e) ?_
  simp [Lit.wf, IntKind.min, IntKind.max, IntKind.signed, IntKind.bits] at wb
  obtain ⟨v, rfl⟩ : ∃ v : Nat, b = (v : Int) := ⟨b.toNat, by omega⟩
  have hv : v < 18446744073709551616 := by omega
  obtain ⟨m, hm, _, _⟩ := len64_ev v hv
  unfold laws_FnExactNatPow.f
  obtain ⟨r, hs, hr, hl⟩ := spec_NatPow_ev v m e hv hm
  obtain ⟨r', hi, hr'⟩ := impl_NatPow_ev v m e hv hm
  obtain rfl := hr.uniq hr'
  refine Ev.bind hs (Ev.bind hi (Ev.bind (eqU_same r (by omega)) ?_))
  simp only [if_true]
  refine Ev.bind (mark_ev r 1 (by omega) (by omega)) (Ev.bind (held_ev 1 r.length (by omega) (by omega)) ?_)
  simp only [if_neg (show ¬ ((1 : Int) + r.length < 0) by omega), if_true]
  refine Ev.bind hi (Ev.bind (eqU_same r (by omega)) ?_)
  simp only [if_true]
  refine Ev.bind (held_ev 1 r.length (by omega) (by omega)) ?_
  simp only [if_neg (show ¬ ((1 : Int) + r.length < 0) by omega), if_true]
  exact Ev.now _
end Go.Proofs.Ytkbkjmhkchagbaa.Pure
end
