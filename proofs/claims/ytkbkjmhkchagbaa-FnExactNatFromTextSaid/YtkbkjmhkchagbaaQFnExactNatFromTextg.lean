import Derived.IntWalk
import Derived.Test.YtkbkjmhkchagbaaQFnExactNatFromTextf
section
namespace Go.Proofs.Ytkbkjmhkchagbaa.M
open Go.RowKit Go.Proofs.Ytkbkjmhkchagbaa.G Go.Proofs.YtkbkjmhkchagbaaV.PrintWords Go.Proofs.YtkbkjmhkchagbaaV.PrintLast Go.Proofs.YtkbkjmhkchagbaaV.PrintMore
set_option linter.unusedVariables false
set_option linter.unusedSimpArgs false
def val (B : Nat) : List Int → Nat
  | [] => 0
  | x :: xs => x.toNat + B * val B xs
def Dig (B : Nat) (l : List Int) : Prop := ∀ x ∈ l, 0 ≤ x ∧ x < (B : Int)
def Norm (l : List Int) : Prop := trimL l = l
theorem val_nil (B : Nat) : val B [] = 0 := rfl
theorem val_cons (B : Nat) (x : Int) (l : List Int) : val B (x :: l) = x.toNat + B * val B l := rfl
theorem val_append (B : Nat) (a b : List Int) : val B (a ++ b) = val B a + B ^ a.length * val B b := by
  induction a with
  | nil => simp [val]
  | cons x a ih =>
    rw [List.cons_append, val_cons, val_cons, ih, List.length_cons, Nat.pow_succ, Nat.mul_add, Nat.add_assoc]
    congr 2
    rw [← Nat.mul_assoc, Nat.mul_comm B (B ^ a.length)]
theorem val_one (B : Nat) (x : Int) : val B [x] = x.toNat := by simp [val]
theorem val_snoc (B : Nat) (a : List Int) (x : Int) : val B (a ++ [x]) = val B a + B ^ a.length * x.toNat := by rw [val_append, val_one]
theorem val_zeros (B n : Nat) : val B (List.replicate n 0) = 0 := by
  induction n with
  | zero => rfl
  | succ n ih => rw [List.replicate_succ, val_cons, ih]; simp
theorem Dig.nil (B : Nat) : Dig B [] := fun x h => by cases h
theorem Dig.cons {B : Nat} {x : Int} {l : List Int} (hx : 0 ≤ x ∧ x < (B : Int)) (h : Dig B l) : Dig B (x :: l) := by
  intro y hy
  rcases List.mem_cons.1 hy with rfl | hy
  · exact hx
  · exact h y hy
theorem Dig.append {B : Nat} {a b : List Int} (ha : Dig B a) (hb : Dig B b) : Dig B (a ++ b) := by
  intro y hy
  rcases List.mem_append.1 hy with hy | hy
  · exact ha y hy
  · exact hb y hy
theorem Dig.snoc {B : Nat} {a : List Int} {x : Int} (ha : Dig B a) (hx : 0 ≤ x ∧ x < (B : Int)) : Dig B (a ++ [x]) := ha.append (Dig.cons hx (Dig.nil B))
theorem Dig.take {B : Nat} {l : List Int} (h : Dig B l) (k : Nat) : Dig B (l.take k) := fun x hx => h x (List.mem_of_mem_take hx)
theorem Dig.drop {B : Nat} {l : List Int} (h : Dig B l) (k : Nat) : Dig B (l.drop k) := fun x hx => h x (List.mem_of_mem_drop hx)
theorem Dig.trim {B : Nat} {l : List Int} (h : Dig B l) : Dig B (trimL l) := by rw [trimL_eq_take]; exact h.take _
theorem Dig.zeros {B : Nat} (hB : 0 < B) (n : Nat) : Dig B (List.replicate n 0) := fun x hx => by rw [List.eq_of_mem_replicate hx]; omega
theorem Dig.set {B : Nat} {l : List Int} (h : Dig B l) (p : Nat) {x : Int} (hx : 0 ≤ x ∧ x < (B : Int)) : Dig B (l.set p x) := by
  intro y hy
  rcases List.mem_or_eq_of_mem_set hy with hy | rfl
  · exact h y hy
  · exact hx
theorem Dig.rd {B : Nat} {l : List Int} (h : Dig B l) (hB : 0 < B) (i : Int) : 0 ≤ rd l i ∧ rd l i < (B : Int) := by
  show 0 ≤ l.getD i.toNat 0 ∧ l.getD i.toNat 0 < (B : Int)
  rw [List.getD_eq_getElem?_getD]
  cases hg : l[i.toNat]? with
  | none => simp; omega
  | some x => exact h x (List.mem_of_getElem? hg)
theorem val_lt {B : Nat} {l : List Int} (h : Dig B l) : val B l < B ^ l.length := by
  induction l with
  | nil => simp [val]
  | cons x l ih =>
    have h1 := ih (fun y hy => h y (List.mem_cons_of_mem _ hy))
    have hx := h x (List.mem_cons_self)
    rw [val_cons, List.length_cons, Nat.pow_succ]
    have h2 : val B l + 1 ≤ B ^ l.length := h1
    have h3 : B * (val B l + 1) ≤ B * B ^ l.length := Nat.mul_le_mul_left B h2
    rw [Nat.mul_comm B (B ^ l.length), Nat.mul_add] at h3
    omega
theorem snoc_of {l : List Int} (h : 0 < l.length) : ∃ a x, l = a ++ [x] := by
  refine ⟨l.dropLast, l.getLast (by intro hn; rw [hn] at h; simp at h), ?_⟩
  exact (List.dropLast_concat_getLast _).symm
theorem val_snoc_zero (B : Nat) (a : List Int) : val B (a ++ [0]) = val B a := by rw [val_snoc]; simp
theorem val_trim (B : Nat) (l : List Int) : val B (trimL l) = val B l := by
  induction h : l.length generalizing l with
  | zero => rw [List.eq_nil_of_length_eq_zero h]; rfl
  | succ n ih =>
    obtain ⟨a, x, rfl⟩ : ∃ a x, l = a ++ [x] := snoc_of (by omega)
    by_cases hx : x = 0
    · subst hx
      rw [trimL_snoc_zero, val_snoc_zero]
      exact ih a (by simpa using h)
    · rw [trimL_snoc_ne _ _ hx]
theorem norm_trim (l : List Int) : Norm (trimL l) := trimL_idem l
theorem norm_nil : Norm [] := rfl
theorem norm_snoc {a : List Int} {x : Int} : Norm (a ++ [x]) ↔ x ≠ 0 := by
  constructor
  · intro h hx
    subst hx
    unfold Norm at h
    rw [trimL_snoc_zero] at h
    have h1 := trimL_length a
    rw [h] at h1
    simp at h1
    omega
  · exact fun h => trimL_snoc_ne _ _ h
theorem val_ge {B : Nat} {l : List Int} (hd : Dig B l) (h : Norm l) (hl : 0 < l.length) : B ^ (l.length - 1) ≤ val B l := by
  obtain ⟨a, x, rfl⟩ : ∃ a x, l = a ++ [x] := snoc_of hl
  have hx := norm_snoc.1 h
  have hx0 := hd x (by simp)
  rw [val_snoc, List.length_append, List.length_singleton, Nat.add_sub_cancel]
  have : B ^ a.length * 1 ≤ B ^ a.length * x.toNat := Nat.mul_le_mul_left _ (by omega)
  omega
theorem val_inj {B : Nat} : ∀ {a b : List Int}, Dig B a → Dig B b → a.length = b.length → val B a = val B b → a = b
  | [], [], _, _, _, _ => rfl
  | [], y :: b, _, _, h, _ => by simp at h
  | x :: a, [], _, _, h, _ => by simp at h
  | x :: a, y :: b, ha, hb, hl, hv => by
    have hx := ha x (by simp)
    have hy := hb y (by simp)
    rw [val_cons, val_cons] at hv
    have hm : (x.toNat + B * val B a) % B = (y.toNat + B * val B b) % B := by rw [hv]
    rw [Nat.add_mul_mod_self_left, Nat.add_mul_mod_self_left, Nat.mod_eq_of_lt (by omega), Nat.mod_eq_of_lt (by omega)] at hm
    have hB : 0 < B := by omega
    have hv2 : val B a = val B b := by
      have h2 : B * val B a = B * val B b := by omega
      exact Nat.eq_of_mul_eq_mul_left hB h2
    rw [val_inj (fun z hz => ha z (List.mem_cons_of_mem _ hz)) (fun z hz => hb z (List.mem_cons_of_mem _ hz)) (by simpa using hl) hv2, show x = y by omega]
theorem val_lt_of_length {B : Nat} (hB : 0 < B) {a b : List Int} (ha : Dig B a) (hb : Dig B b) (hn : Norm b) (hl : a.length < b.length) : val B a < val B b := by
  have h1 := val_lt ha
  have h2 := val_ge hb hn (by omega)
  have h3 : B ^ a.length ≤ B ^ (b.length - 1) := Nat.pow_le_pow_right hB (by omega)
  omega
theorem norm_inj {B : Nat} (hB : 0 < B) {a b : List Int} (ha : Dig B a) (hb : Dig B b) (na : Norm a) (nb : Norm b) (hv : val B a = val B b) : a = b := by
  rcases Nat.lt_trichotomy a.length b.length with h | h | h
  · have := val_lt_of_length hB ha hb nb h; omega
  · exact val_inj ha hb h hv
  · have := val_lt_of_length hB hb ha na h; omega
theorem rd_nat (l : List Int) (k : Nat) : rd l (k : Int) = l.getD k 0 := rfl
theorem rd_of_ge (l : List Int) (i : Int) (h : l.length ≤ i.toNat) : rd l i = 0 := by simp [rd, List.getD_eq_getElem?_getD, List.getElem?_eq_none h]
theorem rd_of_drop {l r : List Int} {x : Int} {i : Nat} (h : l.drop i = x :: r) : rd l (i : Int) = x := by
  have h2 : l[i]? = some x := by
    have := congrArg (fun m : List Int => m[0]?) h
    simpa [List.getElem?_drop] using this
  rw [rd_nat, List.getD_eq_getElem?_getD, h2]
  rfl
theorem drop_succ_of {l r : List Int} {x : Int} {i : Nat} (h : l.drop i = x :: r) : l.drop (i + 1) = r := by
  have := congrArg (List.drop 1) h
  rw [List.drop_drop] at this
  simpa using this
theorem rd_append_left (a b : List Int) (i : Int) (h : i.toNat < a.length) : rd (a ++ b) i = rd a i := by simp [rd, List.getElem?_append_left h]
theorem val_take_succ (B : Nat) (l : List Int) (k : Nat) : val B (l.take (k + 1)) = val B (l.take k) + B ^ k * (rd l (k : Int)).toNat := by
  rcases Nat.lt_or_ge k l.length with h | h
  · rw [take_snoc_rd l k h, val_snoc, List.length_take, Nat.min_eq_left (Nat.le_of_lt h)]
  · rw [rd_of_ge l k (by simpa using h), List.take_of_length_le (by omega), List.take_of_length_le h]
    simp
theorem val_take_all (B : Nat) (l : List Int) (k : Nat) (h : l.length ≤ k) : val B (l.take k) = val B l := by rw [List.take_of_length_le h]
theorem val_set (B : Nat) : ∀ (l : List Int) (p : Nat) (x : Int), p < l.length → val B (l.set p x) + B ^ p * (rd l (p : Int)).toNat = val B l + B ^ p * x.toNat
  | [], p, x, h => by simp at h
  | y :: l, 0, x, h => by
    simp only [List.set_cons_zero, val_cons, Nat.pow_zero, Nat.one_mul]
    have : rd (y :: l) ((0 : Nat) : Int) = y := rfl
    rw [this]
    omega
  | y :: l, p + 1, x, h => by
    have ih := val_set B l p x (by simpa using h)
    have hr : rd (y :: l) ((p + 1 : Nat) : Int) = rd l (p : Int) := by rw [rd_nat, rd_nat]; rfl
    rw [List.set_cons_succ, val_cons, val_cons, hr, Nat.pow_succ, Nat.mul_comm (B ^ p) B, Nat.mul_assoc, Nat.mul_assoc]
    have h2 := congrArg (B * ·) ih
    simp only [Nat.mul_add] at h2
    omega
theorem rd_set_ne (l : List Int) (p q : Nat) (x : Int) (h : p ≠ q) : rd (l.set p x) (q : Int) = rd l (q : Int) := by simp [rd_nat, List.getD_eq_getElem?_getD, List.getElem?_set_ne h]
theorem wrap64_id {n : Int} (h : -9223372036854775808 ≤ n ∧ n ≤ 9223372036854775807) : wrap64 n = n := by unfold wrap64; omega
theorem wrap_u64 (n : Int) : IntKind.u64.wrap n = n % 18446744073709551616 := by simp [IntKind.wrap, IntKind.bits, IntKind.signed]
theorem wrap_u64_id {n : Int} (h : 0 ≤ n ∧ n < 18446744073709551616) : IntKind.u64.wrap n = n := by rw [wrap_u64]; omega
theorem wraps_u64 (n : Int) (h₀ : 0 ≤ n) (h₁ : n < 2 ^ 64) : IntKind.u64.wrap n = n := wrap_u64_id ⟨h₀, by simpa using h₁⟩
theorem and_mask (i : Nat) (hi : i ≤ 64) (x : Int) (h₀ : 0 ≤ x) (h₁ : x < 18446744073709551616) : bits .and .u64 x (2 ^ i - 1) = x % 2 ^ i :=
  bits_mask .u64 64 (by decide) wraps_u64 i hi x h₀ (by simpa using h₁)
theorem and_low32 (x : Int) (h₀ : 0 ≤ x) (h₁ : x < 18446744073709551616) : bits .and .u64 x 4294967295 = x % 4294967296 := by
  simpa using and_mask 32 (by decide) x h₀ h₁
theorem or_join (i : Nat) (x y : Int) (hx₀ : 0 ≤ x) (hx : x % 2 ^ i = 0) (hx₁ : x < 18446744073709551616) (hy₀ : 0 ≤ y) (hy : y < 2 ^ i) (hy₁ : y < 18446744073709551616) : bits .or .u64 x y = x + y :=
  bits_join .u64 64 (by decide) wraps_u64 i x y hx₀ hx (by simpa using hx₁) hy₀ hy (by simpa using hy₁)
theorem bits_or_comm (x y : Int) : bits .or .u64 x y = bits .or .u64 y x := by simp [bits, BitVec.or_comm]
theorem or_join' (i : Nat) (x y : Int) (hy₀ : 0 ≤ y) (hy : y % 2 ^ i = 0) (hy₁ : y < 18446744073709551616) (hx₀ : 0 ≤ x) (hx : x < 2 ^ i) (hx₁ : x < 18446744073709551616) : bits .or .u64 x y = x + y := by
  rw [bits_or_comm, or_join i y x hy₀ hy hy₁ hx₀ hx hx₁, Int.add_comm]
theorem ev_const {α : Type} {g : Option α} {r : α} (h : g = some r) : Ev (fun _ => g) r := ⟨0, fun _ _ => h⟩
theorem ev_to {α : Type} {g : Nat → Option α} {r r' : α} (h : Ev g r) (e : r = r') : Ev g r' := e ▸ h
theorem ev_bindc {α β : Type} {g : Option α} {f : Nat → α → Option β} {a : α} {r : β} (h : g = some a) (k : Ev (fun n => f n a) r) : Ev (fun n => g.bind (f n)) r := Ev.bind (g := fun _ => g) (ev_const h) k
end Go.Proofs.Ytkbkjmhkchagbaa.M
end
section
namespace Go.Proofs.Ytkbkjmhkchagbaa.M
open Go.RowKit Go.Proofs.Ytkbkjmhkchagbaa.G Go.Proofs.YtkbkjmhkchagbaaV.PrintWords Go.Proofs.YtkbkjmhkchagbaaV.PrintLast Go.Proofs.YtkbkjmhkchagbaaV.PrintMore Go.Proofs.Ytkbkjmhkchagbaa.PA
set_option linter.unusedVariables false
set_option linter.unusedSimpArgs false
theorem set_fill (l : List Int) (i : Nat) (h : i < l.length) : (l.take i ++ List.replicate (l.length - i) 0).set i (rd l (i : Int)) = l.take (i + 1) ++ List.replicate (l.length - (i + 1)) 0 := by
  obtain ⟨m, hm⟩ : ∃ m, l.length - i = m + 1 := ⟨l.length - i - 1, by omega⟩
  have hl : (l.take i).length = i := by rw [List.length_take]; omega
  rw [hm, show l.length - (i + 1) = m by omega, List.replicate_succ, take_snoc_rd l i h]
  rw [List.set_append_right _ _ (by omega), hl, Nat.sub_self]
  simp
theorem eqU_loop (a b : List Int) (hl : a.length = b.length) (hm : a.length ≤ 1073741824) (d : Nat) : ∀ i : Nat, i + d = a.length → a.take i = b.take i →
    Ev (fun k => laws_eqUint64S.l0 k a b (i : Int)) (decide (a = b)) := by
  induction d with
  | zero =>
    intro i hi he
    refine Ev.step (f := fun _ => some (decide (a = b))) (fun k => ?_) (Ev.now _)
    simp only [laws_eqUint64S.l0]
    rw [if_neg (by omega)]
    rw [List.take_of_length_le (by omega), List.take_of_length_le (by omega)] at he
    simp [he]
  | succ d ih =>
    intro i hi he
    by_cases h : rd a (i : Int) = rd b (i : Int)
    · refine Ev.step (fun k => ?_) (ih (i + 1) (by omega) (by rw [take_snoc_rd a i (by omega), take_snoc_rd b i (by omega), he, h]))
      simp only [laws_eqUint64S.l0]
      rw [if_pos (by omega), if_pos (by omega), if_pos (by omega), if_pos h, wrap64_id (by omega)]
      rfl
    · refine Ev.step (f := fun _ => some (decide (a = b))) (fun k => ?_) (Ev.now _)
      simp only [laws_eqUint64S.l0]
      rw [if_pos (by omega), if_pos (by omega), if_pos (by omega), if_neg h]
      have : a ≠ b := fun e => h (by rw [e])
      simp [this]
theorem eqU_ev (a b : List Int) (hm : a.length ≤ 1073741824) : Ev (fun k => laws_eqUint64S.f k a b) (decide (a = b)) := by
  by_cases h : a.length = b.length
  · refine Ev.congr (fun k => ?_) (eqU_loop a b h hm a.length 0 (by omega) (by simp))
    unfold laws_eqUint64S.f
    rw [if_pos (by omega)]
    rfl
  · refine Ev.congr (f := fun _ => some (decide (a = b))) (fun k => ?_) (Ev.now _)
    unfold laws_eqUint64S.f
    rw [if_neg (by omega)]
    have : a ≠ b := fun e => h (by rw [e])
    simp [this]
theorem eqU_same (a : List Int) (hm : a.length ≤ 1073741824) : Ev (fun k => laws_eqUint64S.f k a a) true := ev_to (eqU_ev a a hm) (by simp)
def marks (m : Int) : Nat → List Int
  | 0 => []
  | n + 1 => marks m n ++ [IntKind.u64.wrap (m + n)]
theorem marks_length (m : Int) (n : Nat) : (marks m n).length = n := by
  induction n with
  | zero => rfl
  | succ n ih => rw [marks, List.length_append, ih]; rfl
theorem marks_rd (m : Int) (n i : Nat) (h : i < n) : rd (marks m n) (i : Int) = IntKind.u64.wrap (m + i) := by
  induction n with
  | zero => omega
  | succ n ih =>
    rw [marks]
    rcases Nat.lt_or_ge i n with h1 | h1
    · rw [rd_append_left _ _ _ (by rw [marks_length]; simpa using h1), ih h1]
    · obtain rfl : i = n := by omega
      simp [rd_nat, marks_length, List.getD_eq_getElem?_getD]
theorem mark_loop (m : Int) (hm : 0 ≤ m) (d : Nat) : ∀ (i : Nat) (rest : List Int), rest.length = d → m + i + d ≤ 4611686018427387904 →
    Ev (fun k => laws_markUint64S.l0 k (marks m i ++ rest) (m + i) (i : Int)) (m + (i + d : Nat), marks m (i + d)) := by
  induction d with
  | zero =>
    intro i rest hr hb
    refine Ev.step (f := fun _ => some (m + i, marks m i)) (fun k => ?_) (Ev.now _)
    simp only [laws_markUint64S.l0]
    have hl : (marks m i ++ rest).length = i := by rw [List.length_append, marks_length, hr]; rfl
    rw [if_neg (by rw [hl]; omega), List.eq_nil_of_length_eq_zero hr, List.append_nil]
  | succ d ih =>
    intro i rest hr hb
    obtain ⟨x, rest, rfl⟩ : ∃ x r, rest = x :: r := by cases rest with | nil => simp at hr | cons x r => exact ⟨x, r, rfl⟩
    have h2 := ih (i + 1) rest (by simpa using hr) (by omega)
    refine Ev.step (fun k => ?_) (ev_to h2 (by rw [show i + 1 + d = i + (d + 1) by omega]))
    simp only [laws_markUint64S.l0]
    have hl : (marks m i ++ x :: rest).length = i + (rest.length + 1) := by rw [List.length_append, marks_length]; rfl
    rw [if_pos (by rw [hl]; omega), if_pos (by omega), Int.toNat_natCast]
    rw [List.set_append_right _ _ (by rw [marks_length]; omega), marks_length, Nat.sub_self, List.set_cons_zero, wrap64_id (by omega), wrap64_id (by omega)]
    rw [marks, List.append_assoc]
    congr 1
    omega
theorem mark_ev (l : List Int) (m : Int) (hm : 0 ≤ m) (hb : m + l.length ≤ 4611686018427387904) : Ev (fun k => laws_markUint64S.f k l m) (m + l.length, marks m l.length) := by
  have h := mark_loop m hm l.length 0 l rfl (by omega)
  refine Ev.congr (fun k => ?_) (ev_to h (by simp))
  unfold laws_markUint64S.f
  simp [marks]
theorem held_loop (m : Int) (n : Nat) (hm : 0 ≤ m) (hb : m + n ≤ 4611686018427387904) (d : Nat) : ∀ i : Nat, i + d = n →
    Ev (fun k => laws_heldUint64S.l0 k (marks m n) (m + i) (i : Int)) (m + n) := by
  induction d with
  | zero =>
    intro i hi
    refine Ev.step (f := fun _ => some (m + n)) (fun k => ?_) (Ev.now _)
    simp only [laws_heldUint64S.l0]
    rw [if_neg (by rw [marks_length]; omega), show i = n by omega]
  | succ d ih =>
    intro i hi
    refine Ev.step (fun k => ?_) (ih (i + 1) (by omega))
    simp only [laws_heldUint64S.l0]
    rw [if_pos (by rw [marks_length]; omega), if_pos (by omega), if_pos (marks_rd m n i (by omega)), wrap64_id (by omega), wrap64_id (by omega)]
    congr 1
    omega
theorem held_ev (m : Int) (n : Nat) (hm : 0 ≤ m) (hb : m + n ≤ 4611686018427387904) : Ev (fun k => laws_heldUint64S.f k (marks m n) m) (m + n) := by
  have h := held_loop m n hm hb n 0 (by omega)
  refine Ev.congr (fun k => ?_) h
  unfold laws_heldUint64S.f
  simp
end Go.Proofs.Ytkbkjmhkchagbaa.M
end
section
namespace Go.Proofs.Ytkbkjmhkchagbaa.M
open Go.RowKit Go.Proofs.Ytkbkjmhkchagbaa.G Go.Proofs.YtkbkjmhkchagbaaV.PrintWords Go.Proofs.YtkbkjmhkchagbaaV.PrintLast Go.Proofs.YtkbkjmhkchagbaaV.PrintMore Go.Proofs.Ytkbkjmhkchagbaa.PA
set_option linter.unusedVariables false
set_option linter.unusedSimpArgs false
def B32 : Nat := 4294967296
def B64 : Nat := 18446744073709551616
theorem B32_pos : 0 < B32 := by unfold B32; omega
theorem B64_pos : 0 < B64 := by unfold B64; omega
theorem at_eq (l : List Int) (i : Int) (h : 0 ≤ i) : spec_l1At.f l i = some (rd l i) := by
  unfold spec_l1At.f
  by_cases h1 : i < (l.length : Int)
  · rw [if_pos h1, if_pos h]
  · rw [if_neg h1, rd_of_ge l i (by omega)]
theorem trim_eq (l : List Int) (h : l.length ≤ 35184372088832) : spec_l1Trim.f l = some (trimL l) := by
  unfold spec_l1Trim.f
  rw [if_pos h]
def outL : List Int → List Int
  | [] => []
  | [x] => [x]
  | x :: y :: l => (x + y * 4294967296) :: outL l
theorem outL_length : ∀ l : List Int, (outL l).length ≤ l.length
  | [] => Nat.le_refl _
  | [x] => Nat.le_refl _
  | x :: y :: l => by have := outL_length l; simp only [outL, List.length_cons]; omega
theorem outL_dig : ∀ {l : List Int}, Dig B32 l → Dig B64 (outL l)
  | [], _ => Dig.nil _
  | [x], h => by
    have hx := h x (by simp)
    unfold B32 at hx
    exact Dig.cons (by unfold B64; omega) (Dig.nil _)
  | x :: y :: l, h => by
    have hx := h x (by simp)
    have hy := h y (by simp)
    unfold B32 at hx hy
    exact Dig.cons (by unfold B64; omega) (outL_dig (fun z hz => h z (List.mem_cons_of_mem _ (List.mem_cons_of_mem _ hz))))
theorem outL_val : ∀ {l : List Int}, Dig B32 l → val B64 (outL l) = val B32 l
  | [], _ => rfl
  | [x], h => by simp [outL, val]
  | x :: y :: l, h => by
    have hx := h x (by simp)
    have hy := h y (by simp)
    have ih := outL_val (l := l) (fun z hz => h z (List.mem_cons_of_mem _ (List.mem_cons_of_mem _ hz)))
    simp only [outL, val_cons, ih]
    unfold B32 at hx hy
    unfold B32 B64
    omega
theorem norm_iff (l : List Int) : Norm l ↔ ∀ h : l ≠ [], l.getLast h ≠ 0 := by
  rcases Nat.eq_zero_or_pos l.length with h | h
  · have := List.eq_nil_of_length_eq_zero h
    subst this
    exact ⟨fun _ h => absurd rfl h, fun _ => rfl⟩
  · obtain ⟨a, x, rfl⟩ := snoc_of h
    rw [norm_snoc]
    simp
theorem outL_norm : ∀ {l : List Int}, Dig B32 l → Norm l → Norm (outL l)
  | [], _, _ => norm_nil
  | [x], _, h => h
  | [x, y], hd, h => by
    have hx := hd x (by simp)
    have h2 := (norm_iff _).1 h (by simp)
    simp at h2
    have hy := hd y (by simp)
    refine (norm_iff _).2 (fun _ => ?_)
    simp [outL]
    omega
  | x :: y :: z :: l, hd, h => by
    have h2 : Norm (z :: l) := by
      rw [norm_iff] at h ⊢
      intro hn
      have := h (by simp)
      simpa using this
    have ih := outL_norm (l := z :: l) (fun w hw => hd w (List.mem_cons_of_mem _ (List.mem_cons_of_mem _ hw))) h2
    rw [norm_iff] at ih ⊢
    intro hn
    have hne : outL (z :: l) ≠ [] := by cases l <;> simp [outL]
    have := ih hne
    simp only [outL]
    rw [List.getLast_cons hne]
    exact this
theorem out_loop (l : List Int) (hd : Dig B32 l) (hl : l.length ≤ 4294967296) (n : Nat) : ∀ (i : Nat) (acc rest : List Int), rest.length ≤ n → l.drop i = rest → i ≤ l.length → acc.length ≤ i →
    Ev (fun k => spec_l1Out.l0 k l acc (i : Int)) (acc ++ outL rest) := by
  induction n with
  | zero =>
    intro i acc rest hn hr hi ha
    have h0 : rest = [] := List.eq_nil_of_length_eq_zero (by omega)
    subst h0
    have hlen := congrArg List.length hr
    rw [List.length_drop] at hlen
    refine Ev.step (f := fun _ => some (acc ++ outL [])) (fun k => ?_) (Ev.now _)
    simp only [spec_l1Out.l0]
    rw [if_neg (by simp at hlen; omega)]
    simp [outL]
  | succ n ih =>
    intro i acc rest hn hr hi ha
    match rest, hn, hr with
    | [], hn, hr => exact ih i acc [] (by simp) hr hi ha
    | [x], hn, hr =>
      have hlen := congrArg List.length hr
      rw [List.length_drop] at hlen
      simp at hlen
      have hx : rd l (i : Int) = x := rd_of_drop hr
      refine Ev.step (f := fun k => spec_l1Out.l0 k l (acc ++ [x]) ((i + 2 : Nat) : Int)) (fun k => ?_) (Ev.step (f := fun _ => some (acc ++ outL [x])) (fun k => ?_) (Ev.now _))
      · simp only [spec_l1Out.l0]
        rw [if_pos (by omega), if_pos (by omega), wrap64_id (by omega), if_neg (by omega), if_pos (by omega), wrap64_id (by omega), hx]
        rfl
      · simp only [spec_l1Out.l0]
        rw [if_neg (by omega)]
        simp [outL]
    | x :: y :: r, hn, hr =>
      have hlen := congrArg List.length hr
      rw [List.length_drop] at hlen
      simp at hlen
      have hx : rd l (i : Int) = x := rd_of_drop hr
      have hy : rd l ((i : Int) + 1) = y := rd_of_drop (i := i + 1) (drop_succ_of hr)
      have hr2 : l.drop (i + 2) = r := drop_succ_of (drop_succ_of hr)
      have dx := hd.rd B32_pos (i : Int)
      have dy := hd.rd B32_pos ((i : Int) + 1)
      rw [hx] at dx
      rw [hy] at dy
      unfold B32 at dx dy
      have hor : bits .or .u64 x (IntKind.u64.wrap (y * 4294967296)) = x + y * 4294967296 := by
        rw [wrap_u64_id (by omega)]
        exact or_join' 32 x (y * 4294967296) (by omega) (by simp) (by omega) (by omega) (by simp; omega) (by omega)
      have hrl : r.length ≤ n := by simp at hn; omega
      refine Ev.step (fun k => ?_) (ev_to (ih (i + 2) (acc ++ [x + y * 4294967296]) r hrl hr2 (by omega) (by simp; omega)) (by simp [outL]))
      simp only [spec_l1Out.l0]
      rw [if_pos (by omega), if_pos (by omega), wrap64_id (by omega), if_pos (by omega), if_pos (by omega), if_pos (by omega), wrap64_id (by omega), hx, hy, hor]
      rfl
theorem out_ev (l : List Int) (hd : Dig B32 l) (hl : l.length ≤ 4294967296) : Ev (fun k => spec_l1Out.f k l) (outL l) := by
  have h := out_loop l hd hl l.length 0 [] l (Nat.le_refl _) rfl (by omega) (by simp)
  unfold spec_l1Out.f
  simpa using h
end Go.Proofs.Ytkbkjmhkchagbaa.M
end
section
namespace Go.Proofs.Ytkbkjmhkchagbaa.M
open Go.RowKit Go.Proofs.Ytkbkjmhkchagbaa.G Go.Proofs.YtkbkjmhkchagbaaV.PrintWords Go.Proofs.YtkbkjmhkchagbaaV.PrintLast Go.Proofs.YtkbkjmhkchagbaaV.PrintMore Go.Proofs.Ytkbkjmhkchagbaa.PA
set_option linter.unusedVariables false
set_option linter.unusedSimpArgs false
theorem sadd_loop (a b : List Int) (ha : Dig B32 a) (hb : Dig B32 b) (n : Nat) (hn : a.length ≤ n ∧ b.length ≤ n) (hm : n ≤ 1073741824) (d : Nat) : ∀ (i : Nat) (acc : List Int) (c : Int), i + d = n + 1 → acc.length = i → Dig B32 acc → 0 ≤ c ∧ c ≤ 1 → (i = n + 1 → c = 0) →
    val B32 acc + B32 ^ i * c.toNat = val B32 (a.take i) + val B32 (b.take i) →
    ∃ r, Ev (fun k => spec_l1Add.l0 k a b (n : Int) acc c (i : Int)) r ∧ Dig B32 r ∧ Norm r ∧ val B32 r = val B32 a + val B32 b ∧ r.length ≤ n + 1 := by
  induction d with
  | zero =>
    intro i acc c hi hac hd hc hz hv
    refine ⟨trimL acc, Ev.step (f := fun _ => some (trimL acc)) (fun k => ?_) (Ev.now _), hd.trim, norm_trim _, ?_, ?_⟩
    · simp only [spec_l1Add.l0]
      rw [if_neg (by omega), trim_eq _ (by omega)]
      rfl
    · rw [hz (by omega), val_take_all _ a _ (by omega), val_take_all _ b _ (by omega)] at hv
      rw [val_trim]
      simpa using hv
    · have := trimL_length acc
      omega
  | succ d ih =>
    intro i acc c hi hac hd hc hz hv
    have dx := ha.rd B32_pos (i : Int)
    have dy := hb.rd B32_pos (i : Int)
    have hrx : i = n → rd a (i : Int) = 0 := fun h => rd_of_ge a _ (by simp; omega)
    have hry : i = n → rd b (i : Int) = 0 := fun h => rd_of_ge b _ (by simp; omega)
    have hb32 : (B32 : Int) = 4294967296 := rfl
    have hb32n : B32 = 4294967296 := rfl
    have hsum : ((rd a (i : Int) + rd b (i : Int) + c) % 4294967296).toNat + B32 * ((rd a (i : Int) + rd b (i : Int) + c) / 4294967296).toNat = (rd a (i : Int)).toNat + (rd b (i : Int)).toNat + c.toNat := by
      rw [hb32n]
      omega
    obtain ⟨r, hr, h2⟩ := ih (i + 1) (acc ++ [(rd a (i : Int) + rd b (i : Int) + c) % 4294967296]) ((rd a (i : Int) + rd b (i : Int) + c) / 4294967296) (by omega) (by simp [hac]) (hd.snoc (by omega)) (by omega) (by
        intro h
        rw [hrx (by omega), hry (by omega)]
        omega) (by
      rw [val_snoc, hac, val_take_succ, val_take_succ, Nat.pow_succ, Nat.mul_assoc, Nat.add_assoc, ← Nat.mul_add, hsum, Nat.mul_add, Nat.mul_add]
      omega)
    refine ⟨r, Ev.step (fun k => ?_) hr, h2⟩
    simp only [spec_l1Add.l0]
    rw [if_pos (by omega), at_eq _ _ (by omega), at_eq _ _ (by omega)]
    simp only [Option.bind_some]
    rw [if_pos (by omega), wrap_u64_id (n := rd a (i : Int) + rd b (i : Int)) (by omega), wrap_u64_id (by omega), and_low32 _ (by omega) (by omega), wrap64_id (by omega)]
    rfl
theorem sadd_ev (a b : List Int) (ha : Dig B32 a) (hb : Dig B32 b) (la : a.length ≤ 1073741824) (lb : b.length ≤ 1073741824) :
    ∃ r, Ev (fun k => spec_l1Add.f k a b) r ∧ Dig B32 r ∧ Norm r ∧ val B32 r = val B32 a + val B32 b ∧ r.length ≤ max a.length b.length + 1 := by
  by_cases h : (b.length : Int) > (a.length : Int)
  · obtain ⟨r, hr, h1, h2, h3, h4⟩ := sadd_loop a b ha hb b.length (by omega) (by omega) (b.length + 1) 0 [] 0 (by omega) rfl (Dig.nil _) (by omega) (by omega) (by simp [val])
    refine ⟨r, Ev.congr (fun k => ?_) (Ev.step (g := fun k => spec_l1Add.j0 k a b (b.length : Int)) (fun k => ?_) hr), h1, h2, h3, by omega⟩
    · unfold spec_l1Add.f
      rw [if_pos h]
    · simp only [spec_l1Add.j0]
      rfl
  · obtain ⟨r, hr, h1, h2, h3, h4⟩ := sadd_loop a b ha hb a.length (by omega) (by omega) (a.length + 1) 0 [] 0 (by omega) rfl (Dig.nil _) (by omega) (by omega) (by simp [val])
    refine ⟨r, Ev.congr (fun k => ?_) (Ev.step (g := fun k => spec_l1Add.j0 k a b (a.length : Int)) (fun k => ?_) hr), h1, h2, h3, by omega⟩
    · unfold spec_l1Add.f
      rw [if_neg h]
    · simp only [spec_l1Add.j0]
      rfl
end Go.Proofs.Ytkbkjmhkchagbaa.M
end
section
namespace Go.Proofs.Ytkbkjmhkchagbaa.M
open Go.RowKit Go.Proofs.Ytkbkjmhkchagbaa.G Go.Proofs.YtkbkjmhkchagbaaV.PrintWords Go.Proofs.YtkbkjmhkchagbaaV.PrintLast Go.Proofs.YtkbkjmhkchagbaaV.PrintMore Go.Proofs.Ytkbkjmhkchagbaa.PA
set_option linter.unusedVariables false
set_option linter.unusedSimpArgs false
theorem add64_spec (a b c : Int) (ha : 0 ≤ a ∧ a < (B64 : Int)) (hb : 0 ≤ b ∧ b < (B64 : Int)) (hc : 0 ≤ c ∧ c ≤ 1) :
    0 ≤ add64s a b c ∧ add64s a b c < (B64 : Int) ∧ 0 ≤ add64c a b c ∧ add64c a b c ≤ 1 ∧ (add64s a b c).toNat + B64 * (add64c a b c).toNat = a.toNat + b.toNat + c.toNat := by
  unfold add64s add64c
  unfold B64 at *
  omega
theorem fill_set (acc : List Int) (n i : Nat) (x : Int) (hi : acc.length = i) (h : i < n) : (acc ++ List.replicate (n - i) 0).set i x = (acc ++ [x]) ++ List.replicate (n - (i + 1)) 0 := by
  obtain ⟨m, hm⟩ : ∃ m, n - i = m + 1 := ⟨n - i - 1, by omega⟩
  rw [hm, show n - (i + 1) = m by omega, List.replicate_succ, List.set_append_right _ _ (by omega), hi, Nat.sub_self]
  simp
theorem iadd_loop (a b : List Int) (ha : Dig B64 a) (hb : Dig B64 b) (hl : b.length ≤ a.length) (hm : a.length ≤ 1073741824) (d : Nat) : ∀ (i : Nat) (acc : List Int) (c : Int), i + d = a.length → acc.length = i → Dig B64 acc → 0 ≤ c ∧ c ≤ 1 →
    val B64 acc + B64 ^ i * c.toNat = val B64 (a.take i) + val B64 (b.take i) →
    ∃ r, Ev (fun k => impl_nat_add.l0 k a b (acc ++ List.replicate (a.length + 1 - i) 0) c (a.length : Int) (i : Int)) r ∧ Dig B64 r ∧ Norm r ∧ val B64 r = val B64 a + val B64 b ∧ r.length ≤ a.length + 1 := by
  induction d with
  | zero =>
    intro i acc c hi hac hd hc hv
    refine ⟨trimL (acc ++ [c]), Ev.step (f := fun _ => some (trimL (acc ++ [c]))) (fun k => ?_) (Ev.now _), (hd.snoc ?_).trim, norm_trim _, ?_, ?_⟩
    · have hlen : (acc ++ List.replicate (a.length + 1 - i) 0).length = a.length + 1 := by rw [List.length_append, List.length_replicate]; omega
      simp only [impl_nat_add.l0]
      rw [if_neg (by omega), if_pos (by omega), if_pos (by rw [hlen]; omega), Int.toNat_natCast, show a.length = i by omega, fill_set acc (i + 1) i c hac (by omega)]
      simp
    · unfold B64; omega
    · rw [val_trim, val_snoc, hac, hv, val_take_all _ a _ (by omega), val_take_all _ b _ (by omega)]
    · have := trimL_length (acc ++ [c])
      rw [List.length_append, List.length_singleton] at this
      omega
  | succ d ih =>
    intro i acc c hi hac hd hc hv
    have dx := ha.rd B64_pos (i : Int)
    have dy := hb.rd B64_pos (i : Int)
    have hlen : (acc ++ List.replicate (a.length + 1 - i) 0).length = a.length + 1 := by rw [List.length_append, List.length_replicate]; omega
    obtain ⟨s1, s2, s3, s4, s5⟩ := add64_spec _ _ _ dx dy hc
    obtain ⟨r, hr, h2⟩ := ih (i + 1) (acc ++ [add64s (rd a (i : Int)) (rd b (i : Int)) c]) (add64c (rd a (i : Int)) (rd b (i : Int)) c) (by omega) (by simp [hac]) (hd.snoc ⟨s1, s2⟩) ⟨s3, s4⟩ (by
      rw [val_snoc, hac, val_take_succ, val_take_succ, Nat.pow_succ, Nat.mul_assoc, Nat.add_assoc, ← Nat.mul_add, s5, Nat.mul_add, Nat.mul_add]
      omega)
    refine ⟨r, Ev.step (fun k => ?_) hr, h2⟩
    simp only [impl_nat_add.l0]
    rw [if_pos (by omega)]
    by_cases h : (i : Int) < (b.length : Int)
    · rw [if_pos h, if_pos (by omega), if_pos (by omega), if_pos (by omega), if_pos (by rw [hlen]; omega), Int.toNat_natCast, fill_set acc _ i _ hac (by omega), wrap64_id (by omega)]
      rfl
    · have h0 : rd b (i : Int) = 0 := rd_of_ge b _ (by omega)
      rw [h0]
      rw [if_neg h, if_pos (by omega), if_pos (by omega), if_pos (by omega), if_pos (by rw [hlen]; omega), Int.toNat_natCast, fill_set acc _ i _ hac (by omega), wrap64_id (by omega)]
      rfl
theorem iadd_ev (a b : List Int) (ha : Dig B64 a) (hb : Dig B64 b) (la : a.length ≤ 1073741824) (lb : b.length ≤ 1073741824) :
    ∃ r, Ev (fun k => impl_nat_add.f k a b) r ∧ Dig B64 r ∧ Norm r ∧ val B64 r = val B64 a + val B64 b ∧ r.length ≤ max a.length b.length + 1 := by
  have key : ∀ x y : List Int, Dig B64 x → Dig B64 y → y.length ≤ x.length → x.length ≤ 1073741824 →
      ∃ r, Ev (fun k => impl_nat_add.j0 k x y) r ∧ Dig B64 r ∧ Norm r ∧ val B64 r = val B64 x + val B64 y ∧ r.length ≤ x.length + 1 := by
    intro x y hx hy hl hm
    obtain ⟨r, hr, h2⟩ := iadd_loop x y hx hy hl hm x.length 0 [] 0 (by omega) rfl (Dig.nil _) (by omega) (by simp [val])
    refine ⟨r, Ev.step (fun k => ?_) hr, h2⟩
    simp only [impl_nat_add.j0]
    rw [wrap64_id (by omega), if_pos (by omega), if_pos (by omega)]
    rfl
  by_cases h : (a.length : Int) < (b.length : Int)
  · obtain ⟨r, hr, h1, h2, h3, h4⟩ := key b a hb ha (by omega) (by omega)
    refine ⟨r, Ev.congr (fun k => ?_) hr, h1, h2, by omega, by omega⟩
    unfold impl_nat_add.f
    rw [if_pos h]
  · obtain ⟨r, hr, h1, h2, h3, h4⟩ := key a b ha hb (by omega) (by omega)
    refine ⟨r, Ev.congr (fun k => ?_) hr, h1, h2, by omega, by omega⟩
    unfold impl_nat_add.f
    rw [if_neg h]
end Go.Proofs.Ytkbkjmhkchagbaa.M
end
section
namespace Go.Proofs.Ytkbkjmhkchagbaa.M
open Go.RowKit Go.Proofs.Ytkbkjmhkchagbaa.G Go.Proofs.YtkbkjmhkchagbaaV.PrintWords Go.Proofs.YtkbkjmhkchagbaaV.PrintLast Go.Proofs.YtkbkjmhkchagbaaV.PrintMore Go.Proofs.Ytkbkjmhkchagbaa.PA
set_option linter.unusedVariables false
set_option linter.unusedSimpArgs false
def IsNat (l : List Int) (v : Nat) : Prop := Dig B64 l ∧ Norm l ∧ val B64 l = v
theorem IsNat.uniq {a b : List Int} {v : Nat} (h : IsNat a v) (k : IsNat b v) : a = b := norm_inj B64_pos h.1 k.1 h.2.1 k.2.1 (h.2.2.trans k.2.2.symm)
theorem IsNat.nil : IsNat [] 0 := ⟨Dig.nil _, norm_nil, rfl⟩
theorem IsNat.out {l : List Int} {v : Nat} (hd : Dig B32 l) (hn : Norm l) (hv : val B32 l = v) : IsNat (outL l) v := ⟨outL_dig hd, outL_norm hd hn, by rw [outL_val hd, hv]⟩
end Go.Proofs.Ytkbkjmhkchagbaa.M
end
section
namespace Go.Proofs.Ytkbkjmhkchagbaa.M
open Go.RowKit Go.Proofs.Ytkbkjmhkchagbaa.G Go.Proofs.YtkbkjmhkchagbaaV.PrintWords Go.Proofs.YtkbkjmhkchagbaaV.PrintLast Go.Proofs.YtkbkjmhkchagbaaV.PrintMore Go.Proofs.Ytkbkjmhkchagbaa.PA
set_option linter.unusedVariables false
set_option linter.unusedSimpArgs false
theorem mul_step {B : Nat} {a b out : List Int} {i j : Nat} {ai c x c' : Int} (hp : i + j < out.length)
    (hv : val B out + B ^ (i + j) * c.toNat = val B (a.take i) * val B b + B ^ i * (ai.toNat * val B (b.take j)))
    (hx : x.toNat + B * c'.toNat = ai.toNat * (rd b (j : Int)).toNat + (rd out ((i + j : Nat) : Int)).toNat + c.toNat) :
    val B (out.set (i + j) x) + B ^ (i + (j + 1)) * c'.toNat = val B (a.take i) * val B b + B ^ i * (ai.toNat * val B (b.take (j + 1))) := by
  have h1 := val_set B out (i + j) x hp
  rw [val_take_succ, Nat.mul_add, Nat.mul_add, ← Nat.add_assoc i j 1, Nat.pow_succ]
  have h2 := congrArg (B ^ (i + j) * ·) hx
  simp only [Nat.mul_add] at h2
  have h3 : B ^ (i + j) * (B * c'.toNat) = B ^ (i + j) * B * c'.toNat := (Nat.mul_assoc _ _ _).symm
  have h4 : B ^ (i + j) * (ai.toNat * (rd b (j : Int)).toNat) = B ^ i * (ai.toNat * (B ^ j * (rd b (j : Int)).toNat)) := by
    rw [Nat.pow_add]
    simp only [Nat.mul_assoc, Nat.mul_left_comm]
  omega
theorem mul_carry {B : Nat} (hB : 0 < B) {x c' p q o c : Nat} (hp : p < B) (hq : q < B) (ho : o < B) (hc : c < B) (hx : x + B * c' = p * q + o + c) : c' < B := by
  have h1 : p * q ≤ (B - 1) * (B - 1) := Nat.mul_le_mul (by omega) (by omega)
  rcases Nat.lt_or_ge c' B with h | h
  · exact h
  · have h2 : B * B ≤ B * c' := Nat.mul_le_mul_left B h
    obtain ⟨m, rfl⟩ : ∃ m, B = m + 1 := ⟨B - 1, by omega⟩
    simp only [Nat.add_sub_cancel] at h1
    have h3 : (m + 1) * (m + 1) = m * m + 2 * m + 1 := by
      rw [Nat.add_mul, Nat.mul_add, Nat.mul_one, Nat.one_mul]
      omega
    omega
theorem mul_end {B : Nat} {a b out : List Int} {i : Nat} {c : Int} (hp : i + b.length < out.length) (h0 : rd out ((i + b.length : Nat) : Int) = 0)
    (hv : val B out + B ^ (i + b.length) * c.toNat = val B (a.take i) * val B b + B ^ i * ((rd a (i : Int)).toNat * val B (b.take b.length))) :
    val B (out.set (i + b.length) c) = val B (a.take (i + 1)) * val B b := by
  have h1 := val_set B out (i + b.length) c hp
  rw [h0] at h1
  rw [List.take_length] at hv
  rw [val_take_succ, Nat.add_mul]
  have h2 : B ^ i * (rd a (i : Int)).toNat * val B b = B ^ i * ((rd a (i : Int)).toNat * val B b) := Nat.mul_assoc _ _ _
  simp at h1
  omega
def Clear (l : List Int) (n : Nat) : Prop := ∀ m : Nat, n ≤ m → rd l (m : Int) = 0
theorem Clear.set {l : List Int} {n p : Nat} {x : Int} (h : Clear l n) (hp : p < n) : Clear (l.set p x) n := fun m hm => by rw [rd_set_ne _ _ _ _ (by omega)]; exact h m hm
theorem Clear.more {l : List Int} {n : Nat} (h : Clear l n) (x : Int) : Clear (l.set n x) (n + 1) := fun m hm => by rw [rd_set_ne _ _ _ _ (by omega)]; exact h m (by omega)
theorem Clear.zeros (n m : Nat) : Clear (List.replicate n 0) m := fun k hk => by
  rw [rd_nat, List.getD_eq_getElem?_getD, List.getElem?_replicate]
  split <;> rfl
theorem split_mul (x y : Int) (hx : 0 ≤ x) (hy : 0 ≤ y) (M : Int) (hM : 0 < M) : x * y = (x / M * (y / M)) * (M * M) + ((x / M * (y % M)) + (x % M * (y / M))) * M + (x % M * (y % M)) := by
  have h1 := Int.mul_ediv_add_emod x M
  have h2 := Int.mul_ediv_add_emod y M
  generalize x / M = x1 at *
  generalize x % M = x0 at *
  generalize y / M = y1 at *
  generalize y % M = y0 at *
  subst h1
  subst h2
  simp only [Int.add_mul, Int.mul_add]
  have e1 : M * x1 * (M * y1) = x1 * y1 * (M * M) := by simp only [Int.mul_assoc, Int.mul_left_comm, Int.mul_comm]
  have e2 : M * x1 * y0 = x1 * y0 * M := by simp only [Int.mul_assoc, Int.mul_left_comm, Int.mul_comm]
  have e3 : x0 * (M * y1) = x0 * y1 * M := by simp only [Int.mul_assoc, Int.mul_left_comm, Int.mul_comm]
  rw [e1, e2, e3]
  omega
theorem prod_bound {a b A B : Int} (ha : 0 ≤ a ∧ a ≤ A) (hb : 0 ≤ b ∧ b ≤ B) : 0 ≤ a * b ∧ a * b ≤ A * B :=
  ⟨Int.mul_nonneg ha.1 hb.1, Int.mul_le_mul ha.2 hb.2 hb.1 (by omega)⟩
theorem mul64_eq (x y : Int) (hx : 0 ≤ x ∧ x < (B64 : Int)) (hy : 0 ≤ y ∧ y < (B64 : Int)) :
    ∃ hi lo : Int, bits_Mul64.f x y = some (hi, lo) ∧ 0 ≤ hi ∧ hi < (B64 : Int) ∧ 0 ≤ lo ∧ lo < (B64 : Int) ∧ lo + 18446744073709551616 * hi = x * y ∧ hi ≤ 18446744073709551614 := by
  unfold B64 at hx hy ⊢
  have hsp := split_mul x y hx.1 hy.1 4294967296 (by omega)
  have b1 := prod_bound (a := x / 4294967296) (b := y / 4294967296) (A := 4294967295) (B := 4294967295) (by omega) (by omega)
  have b2 := prod_bound (a := x / 4294967296) (b := y % 4294967296) (A := 4294967295) (B := 4294967295) (by omega) (by omega)
  have b3 := prod_bound (a := x % 4294967296) (b := y / 4294967296) (A := 4294967295) (B := 4294967295) (by omega) (by omega)
  have b4 := prod_bound (a := x % 4294967296) (b := y % 4294967296) (A := 4294967295) (B := 4294967295) (by omega) (by omega)
  have hbig := prod_bound (a := x) (b := y) (A := 18446744073709551615) (B := 18446744073709551615) (by omega) (by omega)
  unfold bits_Mul64.f
  rw [and_low32 x hx.1 hx.2, and_low32 y hy.1 hy.2]
  generalize x / 4294967296 * (y / 4294967296) = p11 at *
  generalize x / 4294967296 * (y % 4294967296) = p10 at *
  generalize x % 4294967296 * (y / 4294967296) = p01 at *
  generalize x % 4294967296 * (y % 4294967296) = p00 at *
  generalize x * y = xy at *
  refine ⟨_, _, rfl, ?_⟩
  rw [wrap_u64_id (n := p11) (by omega), wrap_u64_id (n := p10) (by omega), wrap_u64_id (n := p00) (by omega), wrap_u64_id (n := p01) (by omega)]
  rw [wrap_u64_id (n := p10 + p00 / 4294967296) (by omega), and_low32 _ (by omega) (by omega)]
  rw [wrap_u64_id (n := p11 + (p10 + p00 / 4294967296) / 4294967296) (by omega), wrap_u64_id (n := (p10 + p00 / 4294967296) % 4294967296 + p01) (by omega), wrap_u64_id (by omega), wrap_u64]
  omega
theorem dig64 {x : Int} (h : 0 ≤ x ∧ x < (B64 : Int)) : 0 ≤ x ∧ x < 18446744073709551616 := by unfold B64 at h; omega
theorem toNat_lt64 {x : Int} (h : 0 ≤ x ∧ x < (B64 : Int)) : x.toNat < B64 := by unfold B64 at *; omega
theorem mul_place {lo hi x c s1 c1 s2 c2 : Int} {pq : Nat} (hlo : 0 ≤ lo) (hhi : 0 ≤ hi) (hx : 0 ≤ x) (hc : 0 ≤ c) (h1 : 0 ≤ c1) (h2 : 0 ≤ c2) (g1 : 0 ≤ s1)
    (m : lo + 18446744073709551616 * hi = (pq : Int)) (a1 : s1.toNat + B64 * c1.toNat = lo.toNat + x.toNat + (0 : Int).toNat) (a2 : s2.toNat + B64 * c2.toNat = s1.toNat + c.toNat + (0 : Int).toNat) :
    s2.toNat + B64 * (hi + c1 + c2).toNat = pq + x.toNat + c.toNat := by
  unfold B64 at *
  omega
end Go.Proofs.Ytkbkjmhkchagbaa.M
end
section
namespace Go.Proofs.Ytkbkjmhkchagbaa.M
open Go.RowKit Go.Proofs.Ytkbkjmhkchagbaa.G Go.Proofs.YtkbkjmhkchagbaaV.PrintWords Go.Proofs.YtkbkjmhkchagbaaV.PrintLast Go.Proofs.YtkbkjmhkchagbaaV.PrintMore Go.Proofs.Ytkbkjmhkchagbaa.PA
set_option linter.unusedVariables false
set_option linter.unusedSimpArgs false
theorem imul_inner (a b : List Int) (ha : Dig B64 a) (hb : Dig B64 b) (la : a.length ≤ 1073741824) (lb : b.length ≤ 1073741824) (i : Nat) (hi : i < a.length)
    (R : List Int → Prop) (next : ∀ out : List Int, out.length = a.length + b.length → Dig B64 out → Clear out (i + 1 + b.length) → val B64 out = val B64 (a.take (i + 1)) * val B64 b → ∃ r, Ev (fun k => impl_nat_mul.l0 k b out a (a.length : Int) ((i + 1 : Nat) : Int)) r ∧ R r) (d : Nat) :
    ∀ (j : Nat) (out : List Int) (c : Int), j + d = b.length → out.length = a.length + b.length → Dig B64 out → Clear out (i + b.length) → 0 ≤ c ∧ c < (B64 : Int) →
    val B64 out + B64 ^ (i + j) * c.toNat = val B64 (a.take i) * val B64 b + B64 ^ i * ((rd a (i : Int)).toNat * val B64 (b.take j)) →
    ∃ r, Ev (fun k => impl_nat_mul.l1 k b out (i : Int) (rd a (i : Int)) c a (a.length : Int) (i : Int) b (b.length : Int) (j : Int)) r ∧ R r := by
  induction d with
  | zero =>
    intro j out c hj hl hd hcl hc hv
    obtain rfl : j = b.length := by omega
    have h1 := mul_end (by omega) (hcl _ (Nat.le_refl _)) hv
    obtain ⟨r, hr, hR⟩ := next (out.set (i + b.length) c) (by simp [hl]) (hd.set _ hc) (by have := hcl.more c; rwa [show i + b.length + 1 = i + 1 + b.length by omega] at this) h1
    refine ⟨r, Ev.step (fun k => ?_) hr, hR⟩
    simp only [impl_nat_mul.l1]
    rw [if_neg (by omega), wrap64_id (by omega), if_pos (by omega), if_pos (by omega), wrap64_id (by omega), show ((i : Int) + (b.length : Int)).toNat = i + b.length by omega]
    rfl
  | succ d ih =>
    intro j out c hj hl hd hcl hc hv
    have dx := ha.rd B64_pos (i : Int)
    have dy := hb.rd B64_pos (j : Int)
    have dz := hd.rd B64_pos ((i + j : Nat) : Int)
    have hij : ((i : Int) + (j : Int)) = ((i + j : Nat) : Int) := by omega
    obtain ⟨hi', lo, hm, m1, m2, m3, m4, m5, m6⟩ := mul64_eq _ _ dx dy
    have hprod : rd a (i : Int) * rd b (j : Int) = (((rd a (i : Int)).toNat * (rd b (j : Int)).toNat : Nat) : Int) := by
      rw [Int.natCast_mul, Int.toNat_of_nonneg dx.1, Int.toNat_of_nonneg dy.1]
    rw [hprod] at m5
    obtain ⟨s1, s2, s3, s4, s5⟩ := add64_spec lo (rd out ((i + j : Nat) : Int)) 0 ⟨m3, m4⟩ dz (by omega)
    obtain ⟨q1, q2, q3, q4, q5⟩ := add64_spec (add64s lo (rd out ((i + j : Nat) : Int)) 0) c 0 ⟨s1, s2⟩ hc (by omega)
    have hxv := mul_place m3 m1 dz.1 hc.1 s3 q3 s1 m5 s5 q5
    have hcar := mul_carry B64_pos (toNat_lt64 dx) (toNat_lt64 dy) (toNat_lt64 dz) (toNat_lt64 hc) hxv
    have hs := mul_step (B := B64) (a := a) (b := b) (out := out) (i := i) (j := j) (ai := rd a (i : Int)) (c := c) (by omega) hv hxv
    have hi0 : 0 ≤ hi' + add64c lo (rd out ((i + j : Nat) : Int)) 0 := by omega
    have hi1 : hi' + add64c lo (rd out ((i + j : Nat) : Int)) 0 < 18446744073709551616 := by omega
    have hi2 : 0 ≤ hi' + add64c lo (rd out ((i + j : Nat) : Int)) 0 + add64c (add64s lo (rd out ((i + j : Nat) : Int)) 0) c 0 ∧ hi' + add64c lo (rd out ((i + j : Nat) : Int)) 0 + add64c (add64s lo (rd out ((i + j : Nat) : Int)) 0) c 0 < (B64 : Int) := by omega
    obtain ⟨r, hr, hR⟩ := ih (j + 1) _ _ (by omega) (by simp [hl]) (hd.set (i + j) ⟨q1, q2⟩) (hcl.set (by omega)) hi2 hs
    refine ⟨r, Ev.step (fun k => ?_) hr, hR⟩
    simp only [impl_nat_mul.l1]
    rw [if_pos (by omega), if_pos (by omega), if_pos (by omega), hm, Option.bind_some]
    rw [wrap64_id (n := (i : Int) + (j : Int)) (by omega), if_pos (by omega), if_pos (by omega), hij, Int.toNat_natCast]
    rw [wrap_u64_id ⟨hi0, hi1⟩, wrap_u64_id (dig64 hi2), wrap64_id (by omega)]
    rfl
theorem imul_outer (a b : List Int) (ha : Dig B64 a) (hb : Dig B64 b) (la : a.length ≤ 1073741824) (lb : b.length ≤ 1073741824) (d : Nat) : ∀ (i : Nat) (out : List Int), i + d = a.length → out.length = a.length + b.length → Dig B64 out → Clear out (i + b.length) →
    val B64 out = val B64 (a.take i) * val B64 b →
    ∃ r, Ev (fun k => impl_nat_mul.l0 k b out a (a.length : Int) (i : Int)) r ∧ Dig B64 r ∧ Norm r ∧ val B64 r = val B64 a * val B64 b ∧ r.length ≤ a.length + b.length := by
  induction d with
  | zero =>
    intro i out hi hl hd hcl hv
    refine ⟨trimL out, Ev.step (f := fun _ => some (trimL out)) (fun k => ?_) (Ev.now _), hd.trim, norm_trim _, ?_, ?_⟩
    · simp only [impl_nat_mul.l0]
      rw [if_neg (by omega)]
    · rw [val_trim, hv, val_take_all _ _ _ (by omega)]
    · have := trimL_length out
      omega
  | succ d ih =>
    intro i out hi hl hd hcl hv
    obtain ⟨r, hr, hR⟩ := imul_inner a b ha hb la lb i (by omega) (fun r => Dig B64 r ∧ Norm r ∧ val B64 r = val B64 a * val B64 b ∧ r.length ≤ a.length + b.length)
      (fun out' h1 h2 h3 h4 => ih (i + 1) out' (by omega) h1 h2 h3 h4) b.length 0 out 0 (by omega) hl hd hcl (by unfold B64; omega) (by simp [val, hv])
    refine ⟨r, Ev.step (fun k => ?_) hr, hR⟩
    simp only [impl_nat_mul.l0]
    rw [if_pos (by omega), if_pos (by omega), if_pos (by omega)]
    rfl
theorem imul_ev (a b : List Int) (ha : Dig B64 a) (hb : Dig B64 b) (la : a.length ≤ 1073741824) (lb : b.length ≤ 1073741824) :
    ∃ r, Ev (fun k => impl_nat_mul.f k a b) r ∧ Dig B64 r ∧ Norm r ∧ val B64 r = val B64 a * val B64 b ∧ r.length ≤ a.length + b.length := by
  obtain ⟨r, hr, hR⟩ := imul_outer a b ha hb la lb a.length 0 (List.replicate (a.length + b.length) 0) (by omega) (by simp) (Dig.zeros B64_pos _) (Clear.zeros _ _) (by rw [val_zeros]; simp [val])
  refine ⟨r, Ev.congr (fun k => ?_) hr, hR⟩
  unfold impl_nat_mul.f
  rw [wrap64_id (n := (a.length : Int) + (b.length : Int)) (by omega), if_pos (by omega), if_pos (by omega), show ((a.length : Int) + (b.length : Int)).toNat = a.length + b.length by omega]
  rfl
end Go.Proofs.Ytkbkjmhkchagbaa.M
end
section
namespace Go.Proofs.Ytkbkjmhkchagbaa.M
open Go.RowKit Go.Proofs.Ytkbkjmhkchagbaa.G Go.Proofs.YtkbkjmhkchagbaaV.PrintWords Go.Proofs.YtkbkjmhkchagbaaV.PrintLast Go.Proofs.YtkbkjmhkchagbaaV.PrintMore Go.Proofs.Ytkbkjmhkchagbaa.PA
set_option linter.unusedVariables false
set_option linter.unusedSimpArgs false
def IsBits (v n : Nat) : Prop := v < 2 ^ n ∧ (n = 0 ∨ 2 ^ (n - 1) ≤ v)
instance (v n : Nat) : Decidable (IsBits v n) := by unfold IsBits; infer_instance
theorem IsBits.uniq {v n m : Nat} (h : IsBits v n) (k : IsBits v m) : n = m := by
  have one : ∀ a b : Nat, IsBits v a → IsBits v b → a ≤ b := by
    intro a b h k
    rcases h.2 with h2 | h2
    · omega
    · rcases Nat.lt_or_ge b a with h3 | h3
      · have := Nat.pow_le_pow_right (n := 2) (by omega) (show b ≤ a - 1 by omega)
        have := k.1
        omega
      · exact h3
  exact Nat.le_antisymm (one n m h k) (one m n k h)
theorem IsBits.zero : IsBits 0 0 := ⟨by decide, Or.inl rfl⟩
def ofW (v : Nat) : List Int := trimL [((v % 4294967296 : Nat) : Int), ((v / 4294967296 : Nat) : Int)]
theorem ofW_eq (v : Nat) (hv : v < 18446744073709551616) : spec_l1Of.f (v : Int) = some (ofW v) := by
  unfold spec_l1Of.f
  rw [trim_eq _ (by simp), Option.bind_some, and_low32 _ (by omega) (by omega)]
  rfl
theorem ofW_dig (v : Nat) (hv : v < 18446744073709551616) : Dig B32 (ofW v) := by
  unfold ofW
  exact (Dig.cons (by unfold B32; omega) (Dig.cons (by unfold B32; omega) (Dig.nil _))).trim
theorem ofW_val (v : Nat) : val B32 (ofW v) = v := by
  unfold ofW
  rw [val_trim]
  simp only [val_cons, val_nil]
  unfold B32
  omega
theorem ofW_length (v : Nat) : (ofW v).length ≤ 2 := by
  unfold ofW
  have := trimL_length [((v % 4294967296 : Nat) : Int), ((v / 4294967296 : Nat) : Int)]
  simpa using this
end Go.Proofs.Ytkbkjmhkchagbaa.M
end
section
namespace Go.Proofs.Ytkbkjmhkchagbaa.M
open Go.RowKit Go.Proofs.Ytkbkjmhkchagbaa.G Go.Proofs.YtkbkjmhkchagbaaV.PrintWords Go.Proofs.YtkbkjmhkchagbaaV.PrintLast Go.Proofs.YtkbkjmhkchagbaaV.PrintMore Go.Proofs.Ytkbkjmhkchagbaa.PA
set_option linter.unusedVariables false
set_option linter.unusedSimpArgs false
theorem and_one (x : Nat) (h : x ≤ 20000) : bits .and .i64 (x : Int) 1 = ((x % 2 : Nat) : Int) := by
  have := bits_mask .i64 15 (by decide) (fun n h0 h1 => by simp only [IntKind.wrap, IntKind.bits, IntKind.signed] at *; simp at *; omega) 1 (by decide) (x : Int) (by omega) (by simp; omega)
  simp at this
  rw [this]
  omega
theorem len_half {l x : Nat} (h : l * x ≤ 100000) : (l + l) * (x / 2) ≤ 100000 ∧ (x > 1 → l ≤ 100000) := by
  constructor
  · have h1 : (l + l) * (x / 2) = l * (2 * (x / 2)) := by rw [← Nat.two_mul, Nat.mul_assoc, Nat.mul_left_comm]
    have h2 : l * (2 * (x / 2)) ≤ l * x := Nat.mul_le_mul_left l (by omega)
    omega
  · intro h1
    have : l * 1 ≤ l * x := Nat.mul_le_mul_left l (by omega)
    omega
theorem len_split (l x : Nat) : l * x = (l + l) * (x / 2) + l * (x % 2) := by
  have h1 : (l + l) * (x / 2) = l * (2 * (x / 2)) := by rw [← Nat.two_mul, Nat.mul_assoc, Nat.mul_left_comm]
  rw [h1, ← Nat.mul_add, Nat.div_add_mod]
theorem pow_half (b x : Nat) : b ^ x = b ^ (x % 2) * (b * b) ^ (x / 2) := by
  rw [← Nat.pow_two, ← Nat.pow_mul, ← Nat.pow_add]
  congr 1
  omega
theorem ipow_loop (n : Nat) : ∀ (x : Nat) (base out : List Int), x ≤ n → x ≤ 20000 → Dig B64 base → Dig B64 out → Norm out → base.length * x ≤ 100000 → base.length ≤ 200000 → out.length + base.length * x ≤ 200000 →
    ∃ r, Ev (fun k => impl_pow.l0 k base (x : Int) out) r ∧ IsNat r (val B64 out * val B64 base ^ x) := by
  induction n with
  | zero =>
    intro x base out hx h2 hb ho hn hlb hb2 hlo
    have : x = 0 := by omega
    subst this
    refine ⟨out, Ev.step (f := fun _ => some out) (fun k => ?_) (Ev.now _), ho, hn, by simp⟩
    simp only [impl_pow.l0]
    rw [if_neg (by omega)]
  | succ n ih =>
    intro x base out hx h2 hb ho hn hlb hb2 hlo
    rcases Nat.eq_zero_or_pos x with h0 | h0
    · exact ih x base out (by omega) h2 hb ho hn hlb hb2 hlo
    have hmul : ∃ out' : List Int, (x % 2 = 1 → Ev (fun k => impl_nat_mul.f k out base) out') ∧ (x % 2 = 0 → out' = out) ∧ Dig B64 out' ∧ Norm out' ∧ val B64 out' = val B64 out * val B64 base ^ (x % 2) ∧ out'.length ≤ out.length + base.length * (x % 2) := by
      by_cases h : x % 2 = 1
      · obtain ⟨m, hm, md, mn, mv, ml⟩ := imul_ev out base ho hb (by omega) (by omega)
        exact ⟨m, fun _ => hm, by omega, md, mn, by rw [mv, h, Nat.pow_one], by rw [h, Nat.mul_one]; omega⟩
      · exact ⟨out, fun e => absurd e h, fun _ => rfl, ho, hn, by rw [show x % 2 = 0 by omega]; simp, by omega⟩
    obtain ⟨out', e1, e0, od, on, ov, ol⟩ := hmul
    have hsq : ∃ base' : List Int, (x > 1 → Ev (fun k => impl_nat_mul.f k base base) base') ∧ (¬ x > 1 → base' = base) ∧ Dig B64 base' ∧ val B64 base' ^ (x / 2) = (val B64 base * val B64 base) ^ (x / 2) ∧ base'.length * (x / 2) ≤ 100000 ∧ base'.length ≤ 200000 ∧ base'.length * (x / 2) ≤ (base.length + base.length) * (x / 2) := by
      obtain ⟨l1, l2⟩ := len_half hlb
      by_cases h : x > 1
      · have := l2 h
        obtain ⟨m, hm, md, mn, mv, ml⟩ := imul_ev base base hb hb (by omega) (by omega)
        refine ⟨m, fun _ => hm, fun e => absurd h e, md, by rw [mv], ?_, by omega, Nat.mul_le_mul_right (x / 2) ml⟩
        have := Nat.mul_le_mul_right (x / 2) ml
        omega
      · refine ⟨base, fun e => absurd e h, fun _ => rfl, hb, ?_, ?_, hb2, Nat.mul_le_mul_right _ (by omega)⟩
        · rw [show x / 2 = 0 by omega]
          simp
        · rw [show x / 2 = 0 by omega]
          simp
    obtain ⟨base', s1, s0, bd, bv, bl, bl2, bl3⟩ := hsq
    have hsplit := len_split base.length x
    obtain ⟨r, hr, hR⟩ := ih (x / 2) base' out' (by omega) (by omega) bd od on bl bl2 (by omega)
    rw [ov, bv, Nat.mul_assoc, ← pow_half] at hR
    refine ⟨r, ?_, hR⟩
    have hand := and_one x h2
    have hx0 : (x : Int) > 0 := by omega
    have hdiv : (x : Int) / 2 = ((x / 2 : Nat) : Int) := by omega
    by_cases h : x % 2 = 1
    · have hone : ((x % 2 : Nat) : Int) = 1 := by omega
      by_cases h1 : x > 1
      · refine Ev.step (f := fun k => (impl_nat_mul.f k out base).bind fun t629 => ((impl_nat_mul.f k base base).bind fun t632 => (impl_pow.l0 k t632 ((x / 2 : Nat) : Int) t629))) (fun k => ?_) (Ev.bind (e1 h) (Ev.bind (s1 h1) hr))
        simp only [impl_pow.l0]
        rw [if_pos hx0, hand, if_pos hone, hdiv]
        have : (x : Int) > 1 := by omega
        simp only [if_pos this]
      · have hbb := s0 h1
        subst hbb
        refine Ev.step (f := fun k => (impl_nat_mul.f k out base').bind fun t629 => (impl_pow.l0 k base' ((x / 2 : Nat) : Int) t629)) (fun k => ?_) (Ev.bind (e1 h) hr)
        simp only [impl_pow.l0]
        rw [if_pos hx0, hand, if_pos hone, hdiv]
        have : ¬ (x : Int) > 1 := by omega
        simp only [if_neg this]
    · have hone : ¬ ((x % 2 : Nat) : Int) = 1 := by omega
      have hoo := e0 (by omega)
      subst hoo
      have h1 : x > 1 := by omega
      refine Ev.step (f := fun k => ((impl_nat_mul.f k base base).bind fun t632 => (impl_pow.l0 k t632 ((x / 2 : Nat) : Int) out'))) (fun k => ?_) (Ev.bind (s1 h1) hr)
      simp only [impl_pow.l0]
      have h3 : (x : Int) > 1 := by omega
      rw [if_pos hx0, hand, if_neg hone, hdiv, if_pos h3]
theorem word_eq (v : Int) : impl_word.f v = some (trimL [v]) := rfl
theorem word_nat (v : Nat) (hv : v < 18446744073709551616) : IsNat (trimL [(v : Int)]) v ∧ (trimL [(v : Int)]).length ≤ 1 := by
  refine ⟨⟨(Dig.cons (by unfold B64; omega) (Dig.nil _)).trim, norm_trim _, by rw [val_trim, val_one]; simp⟩, ?_⟩
  have := trimL_length [(v : Int)]
  simpa using this
theorem ipow_ev (b : List Int) (hb : Dig B64 b) (lb : b.length ≤ 2) (x : Nat) (hx : x ≤ 20000) : ∃ r, Ev (fun k => impl_pow.f k b (x : Int)) r ∧ IsNat r (val B64 b ^ x) := by
  obtain ⟨⟨w1, w2, w3⟩, wl⟩ := word_nat 1 (by omega)
  have hlb : b.length * x ≤ 100000 := by
    have := Nat.mul_le_mul lb hx
    omega
  obtain ⟨r, hr, hR⟩ := ipow_loop x x b (trimL [((1 : Nat) : Int)]) (Nat.le_refl _) hx hb w1 w2 hlb (by omega) (by omega)
  rw [w3, Nat.one_mul] at hR
  refine ⟨r, Ev.congr (fun k => ?_) hr, hR⟩
  unfold impl_pow.f
  rw [word_eq, Option.bind_some]
  rfl
def powOk (m : Nat) (e : Int) : Prop := ¬ (e < 0) ∧ ¬ (e > 20000) ∧ ¬ (wrap64 ((m : Int) * e) > 76800)
instance (m : Nat) (e : Int) : Decidable (powOk m e) := by unfold powOk; infer_instance
end Go.Proofs.Ytkbkjmhkchagbaa.M
end
section
namespace Go.Proofs.Ytkbkjmhkchagbaa.M
open Go.RowKit Go.Proofs.Ytkbkjmhkchagbaa.G Go.Proofs.YtkbkjmhkchagbaaV.PrintWords Go.Proofs.YtkbkjmhkchagbaaV.PrintLast Go.Proofs.YtkbkjmhkchagbaaV.PrintMore Go.Proofs.Ytkbkjmhkchagbaa.PA
set_option linter.unusedVariables false
set_option linter.unusedSimpArgs false
def sl (B P : Nat) : Nat → List Int → List Int
  | c, [] => [(c : Int)]
  | c, x :: l => (((x.toNat * P + c) % B : Nat) : Int) :: sl B P ((x.toNat * P + c) / B) l
theorem sl_val (B P : Nat) : ∀ (l : List Int) (c : Nat), val B (sl B P c l) = val B l * P + c
  | [], c => by simp [sl, val]
  | x :: l, c => by
    simp only [sl, val_cons, Int.toNat_natCast]
    rw [sl_val B P l, Nat.mul_add, Nat.add_mul, Nat.mul_assoc]
    have h := Nat.mod_add_div (x.toNat * P + c) B
    generalize (x.toNat * P + c) % B = m at *
    generalize B * ((x.toNat * P + c) / B) = q at *
    omega
theorem carry_lt {B P x c : Nat} (hx : x < B) (hc : c < P) : (x * P + c) / B < P := by
  have hB : 0 < B := by omega
  refine Nat.div_lt_of_lt_mul ?_
  have h := Nat.mul_le_mul_right P (show x + 1 ≤ B from hx)
  rw [Nat.add_mul, Nat.one_mul] at h
  omega
theorem sl_dig {B P : Nat} (hB : 0 < B) (hP : P ≤ B) : ∀ (l : List Int) (c : Nat), Dig B l → c < P → Dig B (sl B P c l)
  | [], c, _, hc => Dig.cons (by omega) (Dig.nil _)
  | x :: l, c, h, hc => by
    have hx := h x (by simp)
    have h1 := Nat.mod_lt (x.toNat * P + c) hB
    exact Dig.cons (by omega) (sl_dig hB hP l _ (fun y hy => h y (List.mem_cons_of_mem _ hy)) (carry_lt (by omega) hc))
theorem sl_length (B P : Nat) : ∀ (l : List Int) (c : Nat), (sl B P c l).length = l.length + 1
  | [], c => rfl
  | x :: l, c => by simp only [sl, List.length_cons, sl_length B P l]
end Go.Proofs.Ytkbkjmhkchagbaa.M
end
section
namespace Go.Proofs.Ytkbkjmhkchagbaa.M
open Go.RowKit Go.Proofs.Ytkbkjmhkchagbaa.G Go.Proofs.YtkbkjmhkchagbaaV.PrintWords Go.Proofs.YtkbkjmhkchagbaaV.PrintLast Go.Proofs.YtkbkjmhkchagbaaV.PrintMore Go.Proofs.Ytkbkjmhkchagbaa.PA
set_option linter.unusedVariables false
set_option linter.unusedSimpArgs false
def dv (v : Nat) : List Int → Nat
  | [] => v
  | c :: l => dv (v * 10 + (c - 48).toNat) l
def IsDig (l : List Int) : Prop := ∀ c ∈ l, 48 ≤ c ∧ c ≤ 57
theorem dv_append (a b : List Int) : ∀ v, dv v (a ++ b) = dv (dv v a) b := by
  induction a with
  | nil => intro v; rfl
  | cons c a ih => intro v; exact ih _
theorem dv_pow (l : List Int) : ∀ v, dv v l = v * 10 ^ l.length + dv 0 l := by
  induction l with
  | nil => intro v; simp [dv]
  | cons c l ih =>
    intro v
    simp only [dv, List.length_cons]
    rw [ih, ih (0 * 10 + (c - 48).toNat), Nat.add_mul, Nat.pow_succ, Nat.mul_assoc, Nat.mul_comm 10 (10 ^ l.length)]
    simp
    omega
theorem dv_lt (l : List Int) (h : IsDig l) : dv 0 l < 10 ^ l.length := by
  induction l with
  | nil => simp [dv]
  | cons c l ih =>
    have h1 := ih (fun x hx => h x (List.mem_cons_of_mem _ hx))
    have hc := h c (by simp)
    simp only [dv, List.length_cons]
    rw [dv_pow, Nat.pow_succ]
    have h2 := Nat.mul_le_mul_right (10 ^ l.length) (show 0 * 10 + (c - 48).toNat ≤ 9 by omega)
    omega
theorem IsDig.take {l : List Int} (h : IsDig l) (k : Nat) : IsDig (l.take k) := fun x hx => h x (List.mem_of_mem_take hx)
theorem IsDig.drop {l : List Int} (h : IsDig l) (k : Nat) : IsDig (l.drop k) := fun x hx => h x (List.mem_of_mem_drop hx)
theorem IsDig.rd {l : List Int} (h : IsDig l) (i : Nat) (hi : i < l.length) : 48 ≤ rd l (i : Int) ∧ rd l (i : Int) ≤ 57 := by
  rw [rd_nat, List.getD_eq_getElem?_getD, List.getElem?_eq_getElem hi]
  exact h _ (List.getElem_mem hi)
theorem dv_take_succ (v : Nat) (l : List Int) (i : Nat) (hi : i < l.length) : dv v (l.take (i + 1)) = dv v (l.take i) * 10 + (rd l (i : Int) - 48).toNat := by
  rw [take_snoc_rd l i hi, dv_append]
  rfl
theorem dv_split (l : List Int) (k : Nat) : dv 0 l = dv 0 (l.take k) * 10 ^ (l.length - k) + dv 0 (l.drop k) := by
  conv => lhs; rw [← List.take_append_drop k l]
  rw [dv_append, dv_pow, List.length_drop]
theorem isnat_length {l : List Int} {v n : Nat} (h : IsNat l v) (hv : v < B64 ^ n) : l.length ≤ n := by
  rcases Nat.lt_or_ge n l.length with h1 | h1
  · have h2 := val_ge h.1 h.2.1 (by omega)
    have h3 : B64 ^ n ≤ B64 ^ (l.length - 1) := Nat.pow_le_pow_right B64_pos (by omega)
    have := h.2.2
    omega
  · exact h1
theorem ten_le (n : Nat) : 10 ^ n ≤ B64 ^ n := Nat.pow_le_pow_left (by unfold B64; omega) n
theorem stimes_end (acc : List Int) (c : Nat) (hc : c < 4294967296) (ha : acc.length ≤ 1073741824) : Ev (fun k => spec_l1Times.l1 k acc (c : Int)) (trimL (acc ++ [(c : Int)])) := by
  by_cases h : c = 0
  · subst h
    refine Ev.step (f := fun _ => some (trimL (acc ++ [((0 : Nat) : Int)]))) (fun k => ?_) (Ev.now _)
    simp only [spec_l1Times.l1]
    rw [if_neg (by omega), trim_eq _ (by omega), Option.bind_some, show ((0 : Nat) : Int) = 0 from rfl, trimL_snoc_zero]
  · refine Ev.step (f := fun k => spec_l1Times.l1 k (acc ++ [(c : Int)]) 0) (fun k => ?_) (Ev.step (f := fun _ => some (trimL (acc ++ [(c : Int)]))) (fun k => ?_) (Ev.now _))
    · simp only [spec_l1Times.l1]
      rw [if_pos (by omega), if_pos (by omega), and_low32 _ (by omega) (by omega), show (c : Int) % 4294967296 = (c : Int) by omega, show (c : Int) / 4294967296 = 0 by omega]
    · simp only [spec_l1Times.l1]
      rw [if_neg (by omega), trim_eq _ (by simp; omega)]
      rfl
theorem stimes_loop (a : List Int) (ha : Dig B32 a) (la : a.length ≤ 1000000) (P : Nat) (hP : P ≤ 4294967295) (rest : List Int) : ∀ (i : Nat) (acc : List Int) (c : Nat), a.drop i = rest → i ≤ a.length → c < P → acc.length = i →
    Ev (fun k => spec_l1Times.l0 k a (P : Int) acc (c : Int) (i : Int)) (trimL (acc ++ sl B32 P c rest)) := by
  induction rest with
  | nil =>
    intro i acc c hr hi hc hac
    have hlen := congrArg List.length hr
    rw [List.length_drop] at hlen
    simp at hlen
    refine Ev.step (fun k => ?_) (stimes_end acc c (by omega) (by omega))
    simp only [spec_l1Times.l0]
    rw [if_neg (by omega)]
  | cons x rest ih =>
    intro i acc c hr hi hc hac
    have hlen := congrArg List.length hr
    rw [List.length_drop] at hlen
    simp at hlen
    have hx : rd a (i : Int) = x := rd_of_drop hr
    have dx := ha.rd B32_pos (i : Int)
    rw [hx] at dx
    unfold B32 at dx
    obtain ⟨y, rfl⟩ : ∃ y : Nat, x = (y : Int) := ⟨x.toNat, by omega⟩
    have hc2 : (y * P + c) / B32 < P := carry_lt (by unfold B32; omega) hc
    have hm : y * P ≤ 4294967295 * 4294967295 := Nat.mul_le_mul (by omega) hP
    have e1 : (y : Int) * (P : Int) = ((y * P : Nat) : Int) := by simp
    have hih := ih (i + 1) (acc ++ [(((y * P + c) % B32 : Nat) : Int)]) ((y * P + c) / B32) (drop_succ_of hr) (by omega) hc2 (by simp; omega)
    have e2 : ((y * P : Nat) : Int) + (c : Int) = ((y * P + c : Nat) : Int) := by omega
    have hfin : trimL ((acc ++ [(((y * P + c) % B32 : Nat) : Int)]) ++ sl B32 P ((y * P + c) / B32) rest) = trimL (acc ++ sl B32 P c ((y : Int) :: rest)) := by simp [sl]
    refine Ev.step (fun k => ?_) (ev_to hih hfin)
    have e3 : ((((y * P + c) / B32 : Nat)) : Int) = ((y * P + c : Nat) : Int) / 4294967296 := by unfold B32; rfl
    have e4 : ((((y * P + c) % B32 : Nat)) : Int) = ((y * P + c : Nat) : Int) % 4294967296 := by unfold B32; rfl
    have hs : y * P + c < 18446744073709551616 := by omega
    generalize y * P = q at *
    simp only [spec_l1Times.l0]
    rw [if_pos (by omega), if_pos (by omega), if_pos (by omega), hx, e1, wrap_u64_id (n := (q : Int)) (by omega), e2, wrap_u64_id (by omega), and_low32 _ (by omega) (by omega), wrap64_id (by omega), e3, e4]
    rfl
theorem stimes_ev (a : List Int) (ha : Dig B32 a) (la : a.length ≤ 1000000) (P : Nat) (hP : P ≤ 4294967295) (hP0 : 0 < P) :
    ∃ r, Ev (fun k => spec_l1Times.f k a (P : Int)) r ∧ Dig B32 r ∧ Norm r ∧ val B32 r = val B32 a * P ∧ r.length ≤ a.length + 1 := by
  refine ⟨_, stimes_loop a ha la P hP a 0 [] 0 rfl (by omega) hP0 rfl, ?_, norm_trim _, ?_, ?_⟩
  · rw [List.nil_append]
    exact (sl_dig B32_pos (by unfold B32; omega) _ _ ha hP0).trim
  · rw [List.nil_append, val_trim, sl_val, Nat.add_zero]
  · rw [List.nil_append]
    have := trimL_length (sl B32 P 0 a)
    rw [sl_length] at this
    exact this
theorem sdig_step (t : List Int) (hd : IsDig t) (out : List Int) (ho : Dig B32 out) (i0 i j : Nat) (hi0 : i = i0 + j) (hj : j ≤ 9) (hi : i ≤ t.length) (ht : t.length ≤ 20000) (hl : out.length ≤ 3 * i0) (hj0 : 0 < j)
    (hv : val B32 out = dv 0 (t.take i0)) (R : List Int → Prop)
    (next : ∀ out', Dig B32 out' → Norm out' → out'.length ≤ 3 * i → val B32 out' = dv 0 (t.take i) → ∃ r, Ev (fun k => spec_l1Digits.l0 k t out' (i : Int)) r ∧ R r) :
    ∃ r, Ev (fun k => (spec_l1Times.f k out ((10 ^ j : Nat) : Int)).bind fun t674 => ((spec_l1Of.f ((dv 0 ((t.take i).drop i0) : Nat) : Int)).bind fun t677 => ((spec_l1Add.f k t674 t677).bind fun t680 => (spec_l1Digits.l0 k t t680 (i : Int))))) r ∧ R r := by
  have hp : 10 ^ j ≤ 10 ^ 9 := Nat.pow_le_pow_right (by omega) hj
  have hp0 : 0 < 10 ^ j := Nat.pow_pos (by omega)
  have hlen : ((t.take i).drop i0).length = j := by rw [List.length_drop, List.length_take]; omega
  have hx := dv_lt ((t.take i).drop i0) ((hd.take i).drop i0)
  rw [hlen] at hx
  have hw : dv 0 ((t.take i).drop i0) < 18446744073709551616 := by omega
  obtain ⟨m, hm, md, mn, mv, ml⟩ := stimes_ev out ho (by omega) (10 ^ j) (by omega) hp0
  have l2 := ofW_length (dv 0 ((t.take i).drop i0))
  obtain ⟨s, hs, sd, sn, sv, sll⟩ := sadd_ev m (ofW (dv 0 ((t.take i).drop i0))) md (ofW_dig _ hw) (by omega) (by omega)
  have hsv : val B32 s = dv 0 (t.take i) := by
    rw [sv, mv, ofW_val, hv]
    have := dv_split (t.take i) i0
    rw [List.length_take, List.take_take, Nat.min_eq_left (show i0 ≤ i by omega), show min i t.length - i0 = j by omega] at this
    exact this.symm
  obtain ⟨r, hr, hR⟩ := next s sd sn (by omega) hsv
  refine ⟨r, Ev.bind hm (ev_bindc (ofW_eq _ hw) (Ev.bind hs hr)), hR⟩
theorem sdig_inner (t : List Int) (hd : IsDig t) (out : List Int) (ho : Dig B32 out) (i0 : Nat) (ht : t.length ≤ 20000) (hl : out.length ≤ 3 * i0) (hi00 : i0 < t.length)
    (hv : val B32 out = dv 0 (t.take i0)) (R : List Int → Prop)
    (next : ∀ i out', i0 < i → i ≤ t.length → Dig B32 out' → Norm out' → out'.length ≤ 3 * i → val B32 out' = dv 0 (t.take i) → ∃ r, Ev (fun k => spec_l1Digits.l0 k t out' (i : Int)) r ∧ R r) (d : Nat) :
    ∀ j i : Nat, j + d = 9 → i = i0 + j → i ≤ t.length → ∃ r, Ev (fun k => spec_l1Digits.l1 k t out (i : Int) ((dv 0 ((t.take i).drop i0) : Nat) : Int) ((10 ^ j : Nat) : Int) (j : Int)) r ∧ R r := by
  induction d with
  | zero =>
    intro j i hj hi hit
    obtain ⟨r, hr, hR⟩ := sdig_step t hd out ho i0 i j hi (by omega) hit ht hl (by omega) hv R (fun o h1 h2 h3 h4 => next i o (by omega) hit h1 h2 h3 h4)
    refine ⟨r, Ev.step (fun k => ?_) hr, hR⟩
    simp only [spec_l1Digits.l1]
    rw [if_neg (by omega)]
  | succ d ih =>
    intro j i hj hi hit
    by_cases h : i < t.length
    · have hc := hd.rd i h
      obtain ⟨r, hr, hR⟩ := ih (j + 1) (i + 1) (by omega) (by omega) (by omega)
      have hlen : ((t.take i).drop i0).length = j := by rw [List.length_drop, List.length_take]; omega
      have hx := dv_lt ((t.take i).drop i0) ((hd.take i).drop i0)
      rw [hlen] at hx
      have hp : 10 ^ j ≤ 10 ^ 8 := Nat.pow_le_pow_right (by omega) (by omega)
      have e1 : dv 0 ((t.take (i + 1)).drop i0) = dv 0 ((t.take i).drop i0) * 10 + (rd t (i : Int) - 48).toNat := by
        rw [take_snoc_rd t i h, List.drop_append_of_le_length (by rw [List.length_take]; omega), dv_append]
        rfl
      rw [e1, Nat.pow_succ] at hr
      generalize dv 0 ((t.take i).drop i0) = x at *
      generalize 10 ^ j = p at *
      refine ⟨r, Ev.step (fun k => ?_) hr, hR⟩
      simp only [spec_l1Digits.l1]
      rw [if_pos (by omega), if_pos (by omega), if_pos (by omega), wrap_u64_id (n := (x : Int) * 10) (by omega), wrap_u64_id (by omega), wrap_u64_id (by omega), wrap64_id (by omega), wrap64_id (by omega)]
      congr 1 <;> omega
    · obtain ⟨r, hr, hR⟩ := sdig_step t hd out ho i0 i j hi (by omega) hit ht hl (by omega) hv R (fun o h1 h2 h3 h4 => next i o (by omega) hit h1 h2 h3 h4)
      refine ⟨r, Ev.step (fun k => ?_) hr, hR⟩
      simp only [spec_l1Digits.l1]
      rw [if_pos (by omega), if_neg (by omega)]
theorem sdig_outer (t : List Int) (hd : IsDig t) (ht : t.length ≤ 20000) (n : Nat) : ∀ (i : Nat) (out : List Int), t.length - i ≤ n → i ≤ t.length → Dig B32 out → Norm out → out.length ≤ 3 * i → val B32 out = dv 0 (t.take i) →
    ∃ r, Ev (fun k => spec_l1Digits.l0 k t out (i : Int)) r ∧ (Dig B32 r ∧ Norm r ∧ val B32 r = dv 0 t ∧ r.length ≤ 3 * t.length) := by
  induction n with
  | zero =>
    intro i out hn hi ho hno hl hv
    refine ⟨out, Ev.step (f := fun _ => some out) (fun k => ?_) (Ev.now _), ho, hno, by rw [hv, List.take_of_length_le (by omega)], by omega⟩
    simp only [spec_l1Digits.l0]
    rw [if_neg (by omega)]
  | succ n ih =>
    intro i out hn hi ho hno hl hv
    by_cases h : i < t.length
    · obtain ⟨r, hr, hR⟩ := sdig_inner t hd out ho i ht hl h hv (fun r => Dig B32 r ∧ Norm r ∧ val B32 r = dv 0 t ∧ r.length ≤ 3 * t.length)
        (fun i' o h1 h2 h3 h4 h5 h6 => ih i' o (by omega) h2 h3 h4 h5 h6) 9 0 i (by omega) (by omega) hi
      have e : (t.take i).drop i = [] := List.drop_eq_nil_of_le (by rw [List.length_take]; omega)
      rw [e] at hr
      refine ⟨r, Ev.step (fun k => ?_) hr, hR⟩
      simp only [spec_l1Digits.l0]
      rw [if_pos (by omega)]
      rfl
    · exact ih i out (by omega) hi ho hno hl hv
theorem sdigits_ev (t : List Int) (hd : IsDig t) (ht : t.length ≤ 20000) : ∃ r, Ev (fun k => spec_l1Digits.f k t) r ∧ (Dig B32 r ∧ Norm r ∧ val B32 r = dv 0 t ∧ r.length ≤ 3 * t.length) :=
  sdig_outer t hd ht t.length 0 [] (by omega) (by omega) (Dig.nil _) norm_nil (by simp) rfl
end Go.Proofs.Ytkbkjmhkchagbaa.M
end
section
namespace Go.Proofs.Ytkbkjmhkchagbaa.M
open Go.RowKit Go.Proofs.Ytkbkjmhkchagbaa.G Go.Proofs.YtkbkjmhkchagbaaV.PrintWords Go.Proofs.YtkbkjmhkchagbaaV.PrintLast Go.Proofs.YtkbkjmhkchagbaaV.PrintMore Go.Proofs.Ytkbkjmhkchagbaa.PA
set_option linter.unusedVariables false
set_option linter.unusedSimpArgs false
theorem wadd (i d : Nat) (h : i + d ≤ 9223372036854775807) : wrap64 ((i : Int) + (d : Int)) = ((i + d : Nat) : Int) := by
  rw [wrap64_id (by omega)]
  omega
theorem fd_loop (t : List Int) (hd : IsDig t) (ht : t.length ≤ 40) (d : Nat) : ∀ (i : Nat) (out : List Int), i + d = t.length → IsNat out (dv 0 (t.take i)) →
    ∃ r, Ev (fun k => impl_fromDigits.l0 k out t (t.length : Int) (i : Int)) r ∧ IsNat r (dv 0 t) := by
  induction d with
  | zero =>
    intro i out hi ho
    rw [List.take_of_length_le (by omega)] at ho
    refine ⟨out, Ev.step (f := fun _ => some out) (fun k => ?_) (Ev.now _), ho⟩
    simp only [impl_fromDigits.l0]
    rw [if_neg (by omega)]
  | succ d ih =>
    intro i out hi ho
    have hc := hd.rd i (by omega)
    have g1 : (i : Int) < (t.length : Int) := by omega
    have g2 : 0 ≤ (i : Int) := by omega
    have g3 : (rd t (i : Int) - 48) % 256 = (((rd t (i : Int) - 48).toNat : Nat) : Int) := by omega
    have g4 : wrap64 ((i : Int) + 1) = ((i + 1 : Nat) : Int) := wadd i 1 (by omega)
    have g5 : i < t.length := by omega
    have g6 : i + 1 + d = t.length := by omega
    have hlen : out.length ≤ i := by
      refine isnat_length ho (Nat.lt_of_lt_of_le (dv_lt _ (hd.take i)) ?_)
      rw [List.length_take, Nat.min_eq_left (by omega)]
      exact ten_le i
    have hw10 := word_nat 10 (by omega)
    have hwc := word_nat (rd t (i : Int) - 48).toNat (by omega)
    rw [show ((10 : Nat) : Int) = 10 from rfl] at hw10
    rw [← g3] at hwc
    obtain ⟨⟨w1, w2, w3⟩, wl⟩ := hw10
    obtain ⟨⟨c1, c2, c3⟩, cl⟩ := hwc
    have lo : out.length ≤ 1073741824 := by omega
    obtain ⟨m, hm, md, mn, mv, ml⟩ := imul_ev out _ ho.1 w1 lo (by omega)
    have lm : m.length ≤ 1073741824 := by omega
    obtain ⟨s, hs, sd, sn, sv, sl⟩ := iadd_ev m _ md c1 lm (by omega)
    have hsn : IsNat s (dv 0 (t.take (i + 1))) := ⟨sd, sn, by rw [sv, mv, w3, c3, ho.2.2, dv_take_succ _ _ _ g5]⟩
    obtain ⟨r, hr, hR⟩ := ih (i + 1) s g6 hsn
    refine ⟨r, Ev.step (f := fun k => ((impl_word.f 10).bind fun t732 => ((impl_nat_mul.f k out t732).bind fun t735 => ((impl_word.f (((rd t (i : Int)) - 48) % 256)).bind fun t738 => ((impl_nat_add.f k t735 t738).bind fun t741 => (impl_fromDigits.l0 k t741 t (t.length : Int) ((i + 1 : Nat) : Int))))))) (fun k => ?_) ?_, hR⟩
    · simp only [impl_fromDigits.l0]
      rw [if_pos g1, if_pos g2, if_pos g1, g4]
    · refine ev_bindc (word_eq 10) ?_
      refine Ev.bind hm ?_
      refine ev_bindc (word_eq _) ?_
      exact Ev.bind hs hr
theorem wrapn {q : Nat} (h : q ≤ 9223372036854775807) : wrap64 (q : Int) = (q : Int) := wrap64_id (by omega)
theorem fd_step (t : List Int) (ht : t.length ≤ 20000) (hd : IsDig t) (h : ¬ t.length ≤ 40) (ih : ∀ u : List Int, u.length < t.length → u.length ≤ 20000 → IsDig u → ∃ r, Ev (fun k => impl_fromDigits.f k u) r ∧ IsNat r (dv 0 u)) :
    ∃ r, Ev (fun k => impl_fromDigits.f k t) r ∧ IsNat r (dv 0 t) := by
  obtain ⟨n, hn⟩ : ∃ n, n = t.length := ⟨_, rfl⟩
  obtain ⟨q, hq⟩ : ∃ q, q = n / 2 := ⟨_, rfl⟩
  obtain ⟨p, hp⟩ : ∃ p, p = n - q := ⟨_, rfl⟩
  have h1 : (t.take p).length = p := by rw [List.length_take]; omega
  have h2 : (t.drop p).length = q := by rw [List.length_drop]; omega
  have b1 : p < t.length := by omega
  have b2 : q < t.length := by omega
  have b3 : p ≤ 20000 := by omega
  have b4 : q ≤ 20000 := by omega
  have b5 : q ≠ 0 := by omega
  have b6 : t.length - p = q := by omega
  have g1 : (t.length : Int) > 40 := by omega
  have g2 : (p : Int) ≤ (t.length : Int) := by omega
  have e0 : (t.length : Int) / 2 = (q : Int) := by omega
  have e3 : (t.length : Int) - (q : Int) = (p : Int) := by omega
  have b7 : p ≤ 9223372036854775807 := by omega
  have b8 : q ≤ 9223372036854775807 := by omega
  have hsplit := dv_split t p
  rw [b6] at hsplit
  obtain ⟨a, ha, hA⟩ := ih (t.take p) (by rw [h1]; exact b1) (by rw [h1]; exact b3) (hd.take _)
  obtain ⟨b, hb, hB⟩ := ih (t.drop p) (by rw [h2]; exact b2) (by rw [h2]; exact b4) (hd.drop _)
  have da := dv_lt _ (hd.take p)
  have db := dv_lt _ (hd.drop p)
  rw [h1] at da
  rw [h2] at db
  have la := isnat_length hA (Nat.lt_of_lt_of_le da (ten_le p))
  have lb := isnat_length hB (Nat.lt_of_lt_of_le db (ten_le q))
  have hw10 := word_nat 10 (by omega)
  rw [show ((10 : Nat) : Int) = 10 from rfl] at hw10
  obtain ⟨⟨w1, w2, w3⟩, wl⟩ := hw10
  obtain ⟨z, hz, hZ⟩ := ipow_ev _ w1 (Nat.le_trans wl (by decide)) q b4
  rw [w3] at hZ
  have lz := isnat_length hZ (Nat.pow_lt_pow_left (show 10 < B64 by unfold B64; omega) b5)
  have la2 : a.length ≤ 1073741824 := by clear hZ hA hB hsplit w3; omega
  have lb2 : b.length ≤ 1073741824 := by clear hZ hA hB hsplit w3; omega
  have lz2 : z.length ≤ 1073741824 := by clear hZ hA hB hsplit w3; omega
  obtain ⟨m, hm, md, mn, mv, ml⟩ := imul_ev a z hA.1 hZ.1 la2 lz2
  have lm2 : m.length ≤ 1073741824 := by clear hZ hA hB hsplit w3 mv; omega
  obtain ⟨s, hs, sd, sn, sv, sl⟩ := iadd_ev m b md hB.1 lm2 lb2
  have hten : Ev (fun k => impl_ten.f k (q : Int)) z := by
    unfold impl_ten.f
    refine ev_bindc (word_eq 10) ?_
    exact Ev.bind hz (Ev.now _)
  refine ⟨s, Ev.step (f := fun k => ((impl_fromDigits.f k (t.take p)).bind fun t712 => ((impl_ten.f k (q : Int)).bind fun t715 => ((impl_nat_mul.f k t712 t715).bind fun t718 => ((impl_fromDigits.f k (t.drop p)).bind fun t725 => ((impl_nat_add.f k t718 t725).bind fun t728 => (some t728))))))) (fun k => ?_) (Ev.bind ha (Ev.bind hten (Ev.bind hm (Ev.bind hb (Ev.bind hs (Ev.now _)))))), sd, sn, by rw [sv, mv, hA.2.2, hZ.2.2, hB.2.2, hsplit]⟩
  have e1 : wrap64 (q : Int) = (q : Int) := wrapn b8
  have e2 : wrap64 (p : Int) = (p : Int) := wrapn b7
  simp only [impl_fromDigits.f]
  rw [if_pos g1, e0, e1, e3, e2, if_pos (Int.natCast_nonneg _), if_pos g2, Int.toNat_natCast]
theorem fd_ev (n : Nat) : ∀ t : List Int, t.length ≤ n → t.length ≤ 20000 → IsDig t → ∃ r, Ev (fun k => impl_fromDigits.f k t) r ∧ IsNat r (dv 0 t) := by
  induction n with
  | zero =>
    intro t hn ht hd
    obtain ⟨r, hr, hR⟩ := fd_loop t hd (by omega) t.length 0 [] (by omega) IsNat.nil
    refine ⟨r, Ev.step (fun k => ?_) hr, hR⟩
    simp only [impl_fromDigits.f]
    rw [if_neg (by omega)]
    rfl
  | succ n ih =>
    intro t hn ht hd
    by_cases h : t.length ≤ 40
    · obtain ⟨r, hr, hR⟩ := fd_loop t hd h t.length 0 [] (by omega) IsNat.nil
      refine ⟨r, Ev.step (fun k => ?_) hr, hR⟩
      simp only [impl_fromDigits.f]
      rw [if_neg (by omega)]
      rfl
    · exact fd_step t ht hd h (fun u hu hu2 hdu => ih u (by omega) hu2 hdu)
instance (l : List Int) : Decidable (IsDig l) := by unfold IsDig; infer_instance
theorem all_loop (t : List Int) (ht : t.length ≤ 1073741824) (rest : List Int) : ∀ i : Nat, t.drop i = rest → i ≤ t.length →
    Ev (fun k => impl_allDigits.l0 k t t (t.length : Int) (i : Int)) (decide (IsDig rest ∧ 0 < t.length)) := by
  induction rest with
  | nil =>
    intro i hr hi
    have hlen := congrArg List.length hr
    rw [List.length_drop] at hlen
    simp at hlen
    refine Ev.step (f := fun _ => some (decide (IsDig [] ∧ 0 < t.length))) (fun k => ?_) (Ev.now _)
    simp only [impl_allDigits.l0]
    rw [if_neg (by omega)]
    congr 1
    have h0 : IsDig [] := fun c hc => by cases hc
    simp [h0]
  | cons x rest ih =>
    intro i hr hi
    have hlen := congrArg List.length hr
    rw [List.length_drop] at hlen
    simp at hlen
    have hx : rd t (i : Int) = x := rd_of_drop hr
    by_cases h : 48 ≤ x ∧ x ≤ 57
    · refine Ev.step (fun k => ?_) (ev_to (ih (i + 1) (drop_succ_of hr) (by omega)) ?_)
      · simp only [impl_allDigits.l0]
        rw [if_pos (by omega), if_pos (by omega), if_pos (by omega), hx, if_neg (by omega), if_neg (by omega), wrap64_id (by omega)]
        rfl
      · have : IsDig (x :: rest) ↔ IsDig rest := ⟨fun g c hc => g c (List.mem_cons_of_mem _ hc), fun g c hc => by
          rcases List.mem_cons.1 hc with rfl | hc
          · exact h
          · exact g c hc⟩
        simp only [this]
    · have hno : ¬ IsDig (x :: rest) := fun g => h (g x (by simp))
      refine Ev.step (f := fun _ => some (decide (IsDig (x :: rest) ∧ 0 < t.length))) (fun k => ?_) (Ev.now _)
      simp only [impl_allDigits.l0]
      rw [if_pos (by omega), if_pos (by omega), if_pos (by omega), hx]
      by_cases h1 : x < 48
      · rw [if_pos h1]
        simp [hno]
      · rw [if_neg h1, if_pos (by omega)]
        simp [hno]
theorem impl_NatFromText_ev (t : List Int) (ht : t.length ≤ 1048576) :
    ∃ r, Ev (fun k => impl_NatFromText.f k t) (r, decide (0 < t.length ∧ t.length ≤ 20000 ∧ IsDig t)) ∧ IsNat r (if 0 < t.length ∧ t.length ≤ 20000 ∧ IsDig t then dv 0 t else 0) := by
  unfold impl_NatFromText.f
  by_cases h : (t.length : Int) > 20000
  · have hno : ¬ (0 < t.length ∧ t.length ≤ 20000 ∧ IsDig t) := fun g => by omega
    simp only [if_pos h, hno, decide_false, if_false]
    exact ⟨[], Ev.now _, IsNat.nil⟩
  · simp only [if_neg h]
    have hall : Ev (fun k => impl_allDigits.f k t) (decide (IsDig t ∧ 0 < t.length)) := by
      unfold impl_allDigits.f
      exact all_loop t (by omega) t 0 rfl (by omega)
    by_cases h2 : IsDig t ∧ 0 < t.length
    · have hyes : 0 < t.length ∧ t.length ≤ 20000 ∧ IsDig t := ⟨h2.2, by omega, h2.1⟩
      obtain ⟨r, hr, hR⟩ := fd_ev t.length t (by omega) (by omega) h2.1
      refine ⟨r, Ev.bind hall ?_, by rw [if_pos hyes]; exact hR⟩
      rw [decide_eq_true h2, decide_eq_true hyes]
      simp only [if_true]
      exact Ev.bind hr (Ev.now _)
    · have hno : ¬ (0 < t.length ∧ t.length ≤ 20000 ∧ IsDig t) := fun g => h2 ⟨g.2.2, g.1⟩
      refine ⟨[], Ev.bind hall ?_, by rw [if_neg hno]; exact IsNat.nil⟩
      rw [decide_eq_false h2, decide_eq_false hno]
      simp only [Bool.false_eq_true, if_false]
      exact Ev.now _
theorem sall_loop (t : List Int) (ht : t.length ≤ 1073741824) (r : List Int × Bool) (hyes : IsDig t → Ev (fun k => (spec_l1Digits.f k t).bind fun t693 => ((spec_l1Out.f k t693).bind fun t696 => (some (t696, true)))) r) (hno : ¬ IsDig t → r = ([], false)) (rest : List Int) : ∀ i : Nat, t.drop i = rest → i ≤ t.length → IsDig (t.take i) →
    Ev (fun k => spec_NatFromText.l0 k t t (t.length : Int) (i : Int)) r := by
  induction rest with
  | nil =>
    intro i hr hi hp
    have hlen := congrArg List.length hr
    rw [List.length_drop] at hlen
    simp at hlen
    rw [List.take_of_length_le (by omega)] at hp
    refine Ev.step (fun k => ?_) (hyes hp)
    simp only [spec_NatFromText.l0]
    rw [if_neg (by omega)]
  | cons x rest ih =>
    intro i hr hi hp
    have hlen := congrArg List.length hr
    rw [List.length_drop] at hlen
    simp at hlen
    have hx : rd t (i : Int) = x := rd_of_drop hr
    by_cases h : 48 ≤ x ∧ x ≤ 57
    · refine Ev.step (fun k => ?_) (ih (i + 1) (drop_succ_of hr) (by omega) ?_)
      · simp only [spec_NatFromText.l0]
        rw [if_pos (by omega), if_pos (by omega), if_pos (by omega), hx, if_neg (by omega), if_neg (by omega), wrap64_id (by omega)]
        rfl
      · rw [take_snoc_rd t i (by omega), hx]
        intro c hc
        rcases List.mem_append.1 hc with hc | hc
        · exact hp c hc
        · rw [List.mem_singleton.1 hc]
          exact h
    · have hd : ¬ IsDig t := fun g => h (by
        have := g.rd i (by omega)
        rw [hx] at this
        exact this)
      rw [hno hd]
      refine Ev.step (f := fun _ => some ([], false)) (fun k => ?_) (Ev.now _)
      simp only [spec_NatFromText.l0]
      rw [if_pos (by omega), if_pos (by omega), if_pos (by omega), hx]
      by_cases h1 : x < 48
      · rw [if_pos h1]
      · rw [if_neg h1, if_pos (by omega)]
theorem spec_NatFromText_ev (t : List Int) (ht : t.length ≤ 1048576) :
    ∃ r, Ev (fun k => spec_NatFromText.f k t) (r, decide (0 < t.length ∧ t.length ≤ 20000 ∧ IsDig t)) ∧ IsNat r (if 0 < t.length ∧ t.length ≤ 20000 ∧ IsDig t then dv 0 t else 0) ∧ r.length ≤ 1048576 := by
  have hn : Ev (fun k => spec_NatFromText.j0 k t true) ([], false) := Ev.step (f := fun _ => some ([], false)) (fun k => by simp [spec_NatFromText.j0]) (Ev.now _)
  unfold spec_NatFromText.f
  by_cases h0 : (t.length : Int) = 0
  · have hno : ¬ (0 < t.length ∧ t.length ≤ 20000 ∧ IsDig t) := fun g => by omega
    simp only [if_pos h0, hno, decide_false, if_false]
    exact ⟨[], hn, IsNat.nil, by simp⟩
  · simp only [if_neg h0]
    by_cases h : (t.length : Int) > 20000
    · have hno : ¬ (0 < t.length ∧ t.length ≤ 20000 ∧ IsDig t) := fun g => by omega
      simp only [decide_eq_true h, hno, decide_false, if_false]
      exact ⟨[], hn, IsNat.nil, by simp⟩
    · simp only [decide_eq_false h]
      by_cases h2 : IsDig t
      · have hyes : 0 < t.length ∧ t.length ≤ 20000 ∧ IsDig t := ⟨by omega, by omega, h2⟩
        obtain ⟨r, hr, rd', rn, rv, rl⟩ := sdigits_ev t h2 (by omega)
        have l1 := outL_length r
        refine ⟨outL r, ?_, by rw [if_pos hyes]; exact IsNat.out rd' rn rv, by omega⟩
        refine Ev.step (f := fun k => spec_NatFromText.l0 k t t (t.length : Int) ((0 : Nat) : Int)) (fun k => by simp [spec_NatFromText.j0]) (sall_loop t (by omega) _ (fun _ => ?_) (fun g => absurd h2 g) t 0 rfl (by omega) (fun c hc => by simp at hc))
        rw [decide_eq_true hyes]
        exact Ev.bind hr (Ev.bind (out_ev r rd' (by omega)) (Ev.now _))
      · have hno : ¬ (0 < t.length ∧ t.length ≤ 20000 ∧ IsDig t) := fun g => h2 g.2.2
        refine ⟨[], ?_, by rw [if_neg hno]; exact IsNat.nil, by simp⟩
        rw [decide_eq_false hno]
        exact Ev.step (f := fun k => spec_NatFromText.l0 k t t (t.length : Int) ((0 : Nat) : Int)) (fun k => by simp [spec_NatFromText.j0]) (sall_loop t (by omega) _ (fun g => absurd g h2) (fun _ => rfl) t 0 rfl (by omega) (fun c hc => by simp at hc))
end Go.Proofs.Ytkbkjmhkchagbaa.M
end
section
namespace Go.Proofs.Ytkbkjmhkchagbaa.M
open Go.RowKit Go.Proofs.Ytkbkjmhkchagbaa.G Go.Proofs.YtkbkjmhkchagbaaV.PrintWords Go.Proofs.YtkbkjmhkchagbaaV.PrintLast Go.Proofs.YtkbkjmhkchagbaaV.PrintMore Go.Proofs.Ytkbkjmhkchagbaa.PA
set_option linter.unusedVariables false
set_option linter.unusedSimpArgs false
theorem toB_loop (l : List Int) (hl : l.length ≤ 1073741824) (d : Nat) : ∀ i : Nat, i + d = l.length →
    Ev (fun k => laws_toByteS.l0 k l (l.take i ++ List.replicate (l.length - i) 0) (i : Int)) l := by
  induction d with
  | zero =>
    intro i hi
    refine Ev.step (f := fun _ => some l) (fun k => ?_) (Ev.now l)
    have h1 : ¬ ((i : Int) < (l.length : Int)) := by omega
    simp only [laws_toByteS.l0]
    rw [if_neg h1, show l.length - i = 0 by omega, List.take_of_length_le (by omega)]
    simp
  | succ d ih =>
    intro i hi
    refine Ev.step (fun k => ?_) (ih (i + 1) (by omega))
    have hxl : (l.take i ++ List.replicate (l.length - i) 0).length = l.length := by simp; omega
    simp only [laws_toByteS.l0]
    rw [if_pos (by omega), if_pos (by omega), if_pos (by rw [hxl]; omega), Int.toNat_natCast, set_fill l i (by omega), wrap64_id (by omega)]
    rfl
theorem toB_ev (l : List Int) (hl : l.length ≤ 1073741824) : Ev (fun k => laws_toByteS.f k l) l := by
  refine Ev.congr (fun k => ?_) (toB_loop l hl l.length 0 (by omega))
  unfold laws_toByteS.f
  rw [if_pos (by omega), if_pos (by simp; omega)]
  simp
theorem eqB_loop (a b : List Int) (hl : a.length = b.length) (hm : a.length ≤ 1073741824) (d : Nat) : ∀ i : Nat, i + d = a.length → a.take i = b.take i →
    Ev (fun k => laws_eqByteS.l0 k a b (i : Int)) (decide (a = b)) := by
  induction d with
  | zero =>
    intro i hi he
    refine Ev.step (f := fun _ => some (decide (a = b))) (fun k => ?_) (Ev.now _)
    simp only [laws_eqByteS.l0]
    rw [if_neg (by omega)]
    rw [List.take_of_length_le (by omega), List.take_of_length_le (by omega)] at he
    simp [he]
  | succ d ih =>
    intro i hi he
    by_cases h : rd a (i : Int) = rd b (i : Int)
    · refine Ev.step (fun k => ?_) (ih (i + 1) (by omega) (by rw [take_snoc_rd a i (by omega), take_snoc_rd b i (by omega), he, h]))
      simp only [laws_eqByteS.l0]
      rw [if_pos (by omega), if_pos (by omega), if_pos (by omega), if_pos h, wrap64_id (by omega)]
      rfl
    · refine Ev.step (f := fun _ => some (decide (a = b))) (fun k => ?_) (Ev.now _)
      simp only [laws_eqByteS.l0]
      rw [if_pos (by omega), if_pos (by omega), if_pos (by omega), if_neg h]
      have : a ≠ b := fun e => h (by rw [e])
      simp [this]
theorem eqB_ev (a b : List Int) (hm : a.length ≤ 1073741824) : Ev (fun k => laws_eqByteS.f k a b) (decide (a = b)) := by
  by_cases h : a.length = b.length
  · refine Ev.congr (fun k => ?_) (eqB_loop a b h hm a.length 0 (by omega) (by simp))
    unfold laws_eqByteS.f
    rw [if_pos (by omega)]
    rfl
  · refine Ev.congr (f := fun _ => some (decide (a = b))) (fun k => ?_) (Ev.now _)
    unfold laws_eqByteS.f
    rw [if_neg (by omega)]
    have : a ≠ b := fun e => h (by rw [e])
    simp [this]
theorem eqB_same (a : List Int) (hm : a.length ≤ 1073741824) : Ev (fun k => laws_eqByteS.f k a a) true := ev_to (eqB_ev a a hm) (by simp)
theorem markB_loop (m : Int) (hm : 0 ≤ m) (n : Nat) (d : Nat) : ∀ (i : Nat) (l : List Int), l.length = n → i + d = n → m + i + d ≤ 4611686018427387904 →
    ∃ l', Ev (fun k => laws_markByteS.l0 k l (m + i) (i : Int)) (m + (i + d : Nat), l') := by
  induction d with
  | zero =>
    intro i l hl hi hb
    refine ⟨l, Ev.step (f := fun _ => some (m + i, l)) (fun k => ?_) (Ev.now _)⟩
    simp only [laws_markByteS.l0]
    rw [if_neg (by omega)]
  | succ d ih =>
    intro i l hl hi hb
    obtain ⟨l', h⟩ := ih (i + 1) (l.set i ((m + i) % 256)) (by simp [hl]) (by omega) (by omega)
    refine ⟨l', Ev.step (fun k => ?_) (ev_to h (by rw [show i + 1 + d = i + (d + 1) by omega]))⟩
    simp only [laws_markByteS.l0]
    rw [if_pos (by omega), if_pos (by omega), Int.toNat_natCast, wrap64_id (by omega), wrap64_id (by omega)]
    congr 1
    omega
theorem markB_ev (l : List Int) (m : Int) (hm : 0 ≤ m) (hb : m + l.length ≤ 4611686018427387904) : ∃ l', Ev (fun k => laws_markByteS.f k l m) (m + l.length, l') := by
  obtain ⟨l', h⟩ := markB_loop m hm l.length l.length 0 l rfl (by omega) (by omega)
  refine ⟨l', Ev.congr (fun k => ?_) (ev_to h (by simp))⟩
  unfold laws_markByteS.f
  simp
end Go.Proofs.Ytkbkjmhkchagbaa.M
end
section
namespace Go.Proofs.Ytkbkjmhkchagbaa.Pure
open Go.RowKit Go.Proofs.Ytkbkjmhkchagbaa.G Go.Proofs.Ytkbkjmhkchagbaa.PA Go.Proofs.YtkbkjmhkchagbaaV.PrintWords Go.Proofs.YtkbkjmhkchagbaaV.PrintLast Go.Proofs.Ytkbkjmhkchagbaa.M
set_option linter.unusedVariables false
set_option linter.unusedSimpArgs false
theorem FnExactNatFromText : laws_FnExactNatFromText.Pure := by
  intro a _ _ wa
  refine Ev.rounds (g := fun k => laws_FnExactNatFromText.f k a) ?_
  unfold laws_FnExactNatFromText.f
  by_cases h1 : (a.length : Int) > 1048576
  · simp only [if_pos h1]
    exact Ev.now _
  simp only [if_neg h1]
  have ta := toB_ev a (by omega)
  obtain ⟨r, hs, hr, hl⟩ := spec_NatFromText_ev a (by omega)
  obtain ⟨r', hi, hr'⟩ := impl_NatFromText_ev a (by omega)
  obtain rfl := hr.uniq hr'
  generalize decide (0 < a.length ∧ a.length ≤ 20000 ∧ IsDig a) = ok at *
  refine Ev.bind ta (Ev.bind hs (Ev.bind ta (Ev.bind hi (Ev.bind (eqU_same r (by omega)) ?_))))
  simp only [if_true]
  refine Ev.step (fun k => by simp only [laws_FnExactNatFromText.j0]; exact rfl) ?_
  simp only [bne_self_eq_false, Bool.false_eq_true, if_false]
  refine Ev.bind ta (Ev.bind (eqB_same a (by omega)) ?_)
  simp only [if_true]
  obtain ⟨l', hmk⟩ := markB_ev a 1 (by omega) (by omega)
  refine Ev.bind hmk ?_
  simp only [if_neg (show ¬ ((1 : Int) + a.length < 0) by omega)]
  refine Ev.bind (eqU_same r (by omega)) ?_
  simp only [if_true]
  refine Ev.step (fun k => by simp only [laws_FnExactNatFromText.j1]; exact rfl) ?_
  simp only [bne_self_eq_false, Bool.false_eq_true, if_false]
  refine Ev.bind (mark_ev r 1 (by omega) (by omega)) (Ev.bind (held_ev 1 r.length (by omega) (by omega)) ?_)
  simp only [if_neg (show ¬ ((1 : Int) + r.length < 0) by omega), if_true]
  refine Ev.bind ta (Ev.bind hi (Ev.bind (eqU_same r (by omega)) ?_))
  simp only [if_true]
  refine Ev.step (fun k => by simp only [laws_FnExactNatFromText.j2]; exact rfl) ?_
  simp only [bne_self_eq_false, Bool.false_eq_true, if_false]
  refine Ev.bind (held_ev 1 r.length (by omega) (by omega)) ?_
  simp only [if_neg (show ¬ ((1 : Int) + r.length < 0) by omega), if_true]
  exact Ev.now _
end Go.Proofs.Ytkbkjmhkchagbaa.Pure
end
