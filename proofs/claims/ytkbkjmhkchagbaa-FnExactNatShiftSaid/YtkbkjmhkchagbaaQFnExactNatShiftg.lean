import Derived.IntWalk
import Derived.Test.YtkbkjmhkchagbaaQFnExactNatShiftf
section
namespace Go.Proofs.Ytkbkjmhkchagbaa.M
open Go.RowKit Go.Proofs.Ytkbkjmhkchagbaa.G Go.Proofs.YtkbkjmhkchagbaaV.PrintWords Go.Proofs.YtkbkjmhkchagbaaV.PrintLast Go.Proofs.YtkbkjmhkchagbaaV.PrintMore
set_option linter.unusedVariables false
set_option linter.unusedSimpArgs false
def val (B : Nat) : List Int → Nat
  | [] => 0
  | x :: xs => x.toNat + B * val B xs
def Dig (B : Nat) (l : List Int) : Prop := ∀ x ∈ l, 0 ≤ x ∧ x < (B : Int)
def Norm (l : List Int) : Prop := trimL l = l
theorem val_cons (B : Nat) (x : Int) (l : List Int) : val B (x :: l) = x.toNat + B * val B l := rfl
theorem val_append (B : Nat) (a b : List Int) : val B (a ++ b) = val B a + B ^ a.length * val B b := by
  induction a with
  | nil => simp [val]
  | cons x a ih =>
    rw [List.cons_append, val_cons, val_cons, ih, List.length_cons, Nat.pow_succ, Nat.mul_add, Nat.add_assoc]
    congr 2
    rw [← Nat.mul_assoc, Nat.mul_comm B (B ^ a.length)]
theorem val_one (B : Nat) (x : Int) : val B [x] = x.toNat := by simp [val]
theorem val_snoc (B : Nat) (a : List Int) (x : Int) : val B (a ++ [x]) = val B a + B ^ a.length * x.toNat := by rw [val_append, val_one]
theorem val_zeros (B n : Nat) : val B (List.replicate n 0) = 0 := by
  induction n with
  | zero => rfl
  | succ n ih => rw [List.replicate_succ, val_cons, ih]; simp
theorem Dig.nil (B : Nat) : Dig B [] := fun x h => by cases h
theorem Dig.cons {B : Nat} {x : Int} {l : List Int} (hx : 0 ≤ x ∧ x < (B : Int)) (h : Dig B l) : Dig B (x :: l) := by
  intro y hy
  rcases List.mem_cons.1 hy with rfl | hy
  · exact hx
  · exact h y hy
theorem Dig.append {B : Nat} {a b : List Int} (ha : Dig B a) (hb : Dig B b) : Dig B (a ++ b) := by
  intro y hy
  rcases List.mem_append.1 hy with hy | hy
  · exact ha y hy
  · exact hb y hy
theorem Dig.snoc {B : Nat} {a : List Int} {x : Int} (ha : Dig B a) (hx : 0 ≤ x ∧ x < (B : Int)) : Dig B (a ++ [x]) := ha.append (Dig.cons hx (Dig.nil B))
theorem Dig.take {B : Nat} {l : List Int} (h : Dig B l) (k : Nat) : Dig B (l.take k) := fun x hx => h x (List.mem_of_mem_take hx)
theorem Dig.drop {B : Nat} {l : List Int} (h : Dig B l) (k : Nat) : Dig B (l.drop k) := fun x hx => h x (List.mem_of_mem_drop hx)
theorem Dig.trim {B : Nat} {l : List Int} (h : Dig B l) : Dig B (trimL l) := by rw [trimL_eq_take]; exact h.take _
theorem Dig.zeros {B : Nat} (hB : 0 < B) (n : Nat) : Dig B (List.replicate n 0) := fun x hx => by rw [List.eq_of_mem_replicate hx]; omega
theorem Dig.set {B : Nat} {l : List Int} (h : Dig B l) (p : Nat) {x : Int} (hx : 0 ≤ x ∧ x < (B : Int)) : Dig B (l.set p x) := by
  intro y hy
  rcases List.mem_or_eq_of_mem_set hy with hy | rfl
  · exact h y hy
  · exact hx
theorem Dig.rd {B : Nat} {l : List Int} (h : Dig B l) (hB : 0 < B) (i : Int) : 0 ≤ rd l i ∧ rd l i < (B : Int) := by
  show 0 ≤ l.getD i.toNat 0 ∧ l.getD i.toNat 0 < (B : Int)
  rw [List.getD_eq_getElem?_getD]
  cases hg : l[i.toNat]? with
  | none => simp; omega
  | some x => exact h x (List.mem_of_getElem? hg)
theorem val_lt {B : Nat} {l : List Int} (h : Dig B l) : val B l < B ^ l.length := by
  induction l with
  | nil => simp [val]
  | cons x l ih =>
    have h1 := ih (fun y hy => h y (List.mem_cons_of_mem _ hy))
    have hx := h x (List.mem_cons_self)
    rw [val_cons, List.length_cons, Nat.pow_succ]
    have h2 : val B l + 1 ≤ B ^ l.length := h1
    have h3 : B * (val B l + 1) ≤ B * B ^ l.length := Nat.mul_le_mul_left B h2
    rw [Nat.mul_comm B (B ^ l.length), Nat.mul_add] at h3
    omega
theorem snoc_of {l : List Int} (h : 0 < l.length) : ∃ a x, l = a ++ [x] := by
  refine ⟨l.dropLast, l.getLast (by intro hn; rw [hn] at h; simp at h), ?_⟩
  exact (List.dropLast_concat_getLast _).symm
theorem val_snoc_zero (B : Nat) (a : List Int) : val B (a ++ [0]) = val B a := by rw [val_snoc]; simp
theorem val_trim (B : Nat) (l : List Int) : val B (trimL l) = val B l := by
  induction h : l.length generalizing l with
  | zero => rw [List.eq_nil_of_length_eq_zero h]; rfl
  | succ n ih =>
    obtain ⟨a, x, rfl⟩ : ∃ a x, l = a ++ [x] := snoc_of (by omega)
    by_cases hx : x = 0
    · subst hx
      rw [trimL_snoc_zero, val_snoc_zero]
      exact ih a (by simpa using h)
    · rw [trimL_snoc_ne _ _ hx]
theorem norm_trim (l : List Int) : Norm (trimL l) := trimL_idem l
theorem norm_nil : Norm [] := rfl
theorem norm_snoc {a : List Int} {x : Int} : Norm (a ++ [x]) ↔ x ≠ 0 := by
  constructor
  · intro h hx
    subst hx
    unfold Norm at h
    rw [trimL_snoc_zero] at h
    have h1 := trimL_length a
    rw [h] at h1
    simp at h1
    omega
  · exact fun h => trimL_snoc_ne _ _ h
theorem val_ge {B : Nat} {l : List Int} (hd : Dig B l) (h : Norm l) (hl : 0 < l.length) : B ^ (l.length - 1) ≤ val B l := by
  obtain ⟨a, x, rfl⟩ : ∃ a x, l = a ++ [x] := snoc_of hl
  have hx := norm_snoc.1 h
  have hx0 := hd x (by simp)
  rw [val_snoc, List.length_append, List.length_singleton, Nat.add_sub_cancel]
  have : B ^ a.length * 1 ≤ B ^ a.length * x.toNat := Nat.mul_le_mul_left _ (by omega)
  omega
theorem val_inj {B : Nat} : ∀ {a b : List Int}, Dig B a → Dig B b → a.length = b.length → val B a = val B b → a = b
  | [], [], _, _, _, _ => rfl
  | [], y :: b, _, _, h, _ => by simp at h
  | x :: a, [], _, _, h, _ => by simp at h
  | x :: a, y :: b, ha, hb, hl, hv => by
    have hx := ha x (by simp)
    have hy := hb y (by simp)
    rw [val_cons, val_cons] at hv
    have hm : (x.toNat + B * val B a) % B = (y.toNat + B * val B b) % B := by rw [hv]
    rw [Nat.add_mul_mod_self_left, Nat.add_mul_mod_self_left, Nat.mod_eq_of_lt (by omega), Nat.mod_eq_of_lt (by omega)] at hm
    have hB : 0 < B := by omega
    have hv2 : val B a = val B b := by
      have h2 : B * val B a = B * val B b := by omega
      exact Nat.eq_of_mul_eq_mul_left hB h2
    rw [val_inj (fun z hz => ha z (List.mem_cons_of_mem _ hz)) (fun z hz => hb z (List.mem_cons_of_mem _ hz)) (by simpa using hl) hv2, show x = y by omega]
theorem val_lt_of_length {B : Nat} (hB : 0 < B) {a b : List Int} (ha : Dig B a) (hb : Dig B b) (hn : Norm b) (hl : a.length < b.length) : val B a < val B b := by
  have h1 := val_lt ha
  have h2 := val_ge hb hn (by omega)
  have h3 : B ^ a.length ≤ B ^ (b.length - 1) := Nat.pow_le_pow_right hB (by omega)
  omega
theorem norm_inj {B : Nat} (hB : 0 < B) {a b : List Int} (ha : Dig B a) (hb : Dig B b) (na : Norm a) (nb : Norm b) (hv : val B a = val B b) : a = b := by
  rcases Nat.lt_trichotomy a.length b.length with h | h | h
  · have := val_lt_of_length hB ha hb nb h; omega
  · exact val_inj ha hb h hv
  · have := val_lt_of_length hB hb ha na h; omega
theorem rd_nat (l : List Int) (k : Nat) : rd l (k : Int) = l.getD k 0 := rfl
theorem rd_of_ge (l : List Int) (i : Int) (h : l.length ≤ i.toNat) : rd l i = 0 := by simp [rd, List.getD_eq_getElem?_getD, List.getElem?_eq_none h]
theorem rd_of_drop {l r : List Int} {x : Int} {i : Nat} (h : l.drop i = x :: r) : rd l (i : Int) = x := by
  have h2 : l[i]? = some x := by
    have := congrArg (fun m : List Int => m[0]?) h
    simpa [List.getElem?_drop] using this
  rw [rd_nat, List.getD_eq_getElem?_getD, h2]
  rfl
theorem drop_succ_of {l r : List Int} {x : Int} {i : Nat} (h : l.drop i = x :: r) : l.drop (i + 1) = r := by
  have := congrArg (List.drop 1) h
  rw [List.drop_drop] at this
  simpa using this
theorem rd_append_left (a b : List Int) (i : Int) (h : i.toNat < a.length) : rd (a ++ b) i = rd a i := by simp [rd, List.getElem?_append_left h]
theorem val_split (B : Nat) (l : List Int) (k : Nat) (h : k ≤ l.length) : val B l = val B (l.take k) + B ^ k * val B (l.drop k) := by
  have := val_append B (l.take k) (l.drop k)
  rw [List.take_append_drop, List.length_take, Nat.min_eq_left h] at this
  exact this
theorem wrap64_id {n : Int} (h : -9223372036854775808 ≤ n ∧ n ≤ 9223372036854775807) : wrap64 n = n := by unfold wrap64; omega
theorem wrap_u64 (n : Int) : IntKind.u64.wrap n = n % 18446744073709551616 := by simp [IntKind.wrap, IntKind.bits, IntKind.signed]
theorem wrap_u64_id {n : Int} (h : 0 ≤ n ∧ n < 18446744073709551616) : IntKind.u64.wrap n = n := by rw [wrap_u64]; omega
theorem wraps_u64 (n : Int) (h₀ : 0 ≤ n) (h₁ : n < 2 ^ 64) : IntKind.u64.wrap n = n := wrap_u64_id ⟨h₀, by simpa using h₁⟩
theorem and_mask (i : Nat) (hi : i ≤ 64) (x : Int) (h₀ : 0 ≤ x) (h₁ : x < 18446744073709551616) : bits .and .u64 x (2 ^ i - 1) = x % 2 ^ i :=
  bits_mask .u64 64 (by decide) wraps_u64 i hi x h₀ (by simpa using h₁)
theorem and_low32 (x : Int) (h₀ : 0 ≤ x) (h₁ : x < 18446744073709551616) : bits .and .u64 x 4294967295 = x % 4294967296 := by
  simpa using and_mask 32 (by decide) x h₀ h₁
theorem or_join (i : Nat) (x y : Int) (hx₀ : 0 ≤ x) (hx : x % 2 ^ i = 0) (hx₁ : x < 18446744073709551616) (hy₀ : 0 ≤ y) (hy : y < 2 ^ i) (hy₁ : y < 18446744073709551616) : bits .or .u64 x y = x + y :=
  bits_join .u64 64 (by decide) wraps_u64 i x y hx₀ hx (by simpa using hx₁) hy₀ hy (by simpa using hy₁)
theorem bits_or_comm (x y : Int) : bits .or .u64 x y = bits .or .u64 y x := by simp [bits, BitVec.or_comm]
theorem or_join' (i : Nat) (x y : Int) (hy₀ : 0 ≤ y) (hy : y % 2 ^ i = 0) (hy₁ : y < 18446744073709551616) (hx₀ : 0 ≤ x) (hx : x < 2 ^ i) (hx₁ : x < 18446744073709551616) : bits .or .u64 x y = x + y := by
  rw [bits_or_comm, or_join i y x hy₀ hy hy₁ hx₀ hx hx₁, Int.add_comm]
theorem ev_to {α : Type} {g : Nat → Option α} {r r' : α} (h : Ev g r) (e : r = r') : Ev g r' := e ▸ h
end Go.Proofs.Ytkbkjmhkchagbaa.M
end
section
namespace Go.Proofs.Ytkbkjmhkchagbaa.M
open Go.RowKit Go.Proofs.Ytkbkjmhkchagbaa.G Go.Proofs.YtkbkjmhkchagbaaV.PrintWords Go.Proofs.YtkbkjmhkchagbaaV.PrintLast Go.Proofs.YtkbkjmhkchagbaaV.PrintMore Go.Proofs.Ytkbkjmhkchagbaa.PA
set_option linter.unusedVariables false
set_option linter.unusedSimpArgs false
theorem set_fill (l : List Int) (i : Nat) (h : i < l.length) : (l.take i ++ List.replicate (l.length - i) 0).set i (rd l (i : Int)) = l.take (i + 1) ++ List.replicate (l.length - (i + 1)) 0 := by
  obtain ⟨m, hm⟩ : ∃ m, l.length - i = m + 1 := ⟨l.length - i - 1, by omega⟩
  have hl : (l.take i).length = i := by rw [List.length_take]; omega
  rw [hm, show l.length - (i + 1) = m by omega, List.replicate_succ, take_snoc_rd l i h]
  rw [List.set_append_right _ _ (by omega), hl, Nat.sub_self]
  simp
theorem toU_loop (l : List Int) (hl : l.length ≤ 1073741824) (d : Nat) : ∀ i : Nat, i + d = l.length →
    Ev (fun k => laws_toUint64S.l0 k l (l.take i ++ List.replicate (l.length - i) 0) (i : Int)) l := by
  induction d with
  | zero =>
    intro i hi
    refine Ev.step (f := fun _ => some l) (fun k => ?_) (Ev.now l)
    have h1 : ¬ ((i : Int) < (l.length : Int)) := by omega
    simp only [laws_toUint64S.l0]
    rw [if_neg h1, show l.length - i = 0 by omega, List.take_of_length_le (by omega)]
    simp
  | succ d ih =>
    intro i hi
    refine Ev.step (fun k => ?_) (ih (i + 1) (by omega))
    have hxl : (l.take i ++ List.replicate (l.length - i) 0).length = l.length := by simp; omega
    simp only [laws_toUint64S.l0]
    rw [if_pos (by omega), if_pos (by omega), if_pos (by rw [hxl]; omega), Int.toNat_natCast, set_fill l i (by omega), wrap64_id (by omega)]
    rfl
theorem toU_ev (l : List Int) (hl : l.length ≤ 1073741824) : Ev (fun k => laws_toUint64S.f k l) l := by
  refine Ev.congr (fun k => ?_) (toU_loop l hl l.length 0 (by omega))
  unfold laws_toUint64S.f
  rw [if_pos (by omega), if_pos (by simp; omega)]
  simp
theorem eqU_loop (a b : List Int) (hl : a.length = b.length) (hm : a.length ≤ 1073741824) (d : Nat) : ∀ i : Nat, i + d = a.length → a.take i = b.take i →
    Ev (fun k => laws_eqUint64S.l0 k a b (i : Int)) (decide (a = b)) := by
  induction d with
  | zero =>
    intro i hi he
    refine Ev.step (f := fun _ => some (decide (a = b))) (fun k => ?_) (Ev.now _)
    simp only [laws_eqUint64S.l0]
    rw [if_neg (by omega)]
    rw [List.take_of_length_le (by omega), List.take_of_length_le (by omega)] at he
    simp [he]
  | succ d ih =>
    intro i hi he
    by_cases h : rd a (i : Int) = rd b (i : Int)
    · refine Ev.step (fun k => ?_) (ih (i + 1) (by omega) (by rw [take_snoc_rd a i (by omega), take_snoc_rd b i (by omega), he, h]))
      simp only [laws_eqUint64S.l0]
      rw [if_pos (by omega), if_pos (by omega), if_pos (by omega), if_pos h, wrap64_id (by omega)]
      rfl
    · refine Ev.step (f := fun _ => some (decide (a = b))) (fun k => ?_) (Ev.now _)
      simp only [laws_eqUint64S.l0]
      rw [if_pos (by omega), if_pos (by omega), if_pos (by omega), if_neg h]
      have : a ≠ b := fun e => h (by rw [e])
      simp [this]
theorem eqU_ev (a b : List Int) (hm : a.length ≤ 1073741824) : Ev (fun k => laws_eqUint64S.f k a b) (decide (a = b)) := by
  by_cases h : a.length = b.length
  · refine Ev.congr (fun k => ?_) (eqU_loop a b h hm a.length 0 (by omega) (by simp))
    unfold laws_eqUint64S.f
    rw [if_pos (by omega)]
    rfl
  · refine Ev.congr (f := fun _ => some (decide (a = b))) (fun k => ?_) (Ev.now _)
    unfold laws_eqUint64S.f
    rw [if_neg (by omega)]
    have : a ≠ b := fun e => h (by rw [e])
    simp [this]
theorem eqU_same (a : List Int) (hm : a.length ≤ 1073741824) : Ev (fun k => laws_eqUint64S.f k a a) true := ev_to (eqU_ev a a hm) (by simp)
def marks (m : Int) : Nat → List Int
  | 0 => []
  | n + 1 => marks m n ++ [IntKind.u64.wrap (m + n)]
theorem marks_length (m : Int) (n : Nat) : (marks m n).length = n := by
  induction n with
  | zero => rfl
  | succ n ih => rw [marks, List.length_append, ih]; rfl
theorem marks_rd (m : Int) (n i : Nat) (h : i < n) : rd (marks m n) (i : Int) = IntKind.u64.wrap (m + i) := by
  induction n with
  | zero => omega
  | succ n ih =>
    rw [marks]
    rcases Nat.lt_or_ge i n with h1 | h1
    · rw [rd_append_left _ _ _ (by rw [marks_length]; simpa using h1), ih h1]
    · obtain rfl : i = n := by omega
      simp [rd_nat, marks_length, List.getD_eq_getElem?_getD]
theorem mark_loop (m : Int) (hm : 0 ≤ m) (d : Nat) : ∀ (i : Nat) (rest : List Int), rest.length = d → m + i + d ≤ 4611686018427387904 →
    Ev (fun k => laws_markUint64S.l0 k (marks m i ++ rest) (m + i) (i : Int)) (m + (i + d : Nat), marks m (i + d)) := by
  induction d with
  | zero =>
    intro i rest hr hb
    refine Ev.step (f := fun _ => some (m + i, marks m i)) (fun k => ?_) (Ev.now _)
    simp only [laws_markUint64S.l0]
    have hl : (marks m i ++ rest).length = i := by rw [List.length_append, marks_length, hr]; rfl
    rw [if_neg (by rw [hl]; omega), List.eq_nil_of_length_eq_zero hr, List.append_nil]
  | succ d ih =>
    intro i rest hr hb
    obtain ⟨x, rest, rfl⟩ : ∃ x r, rest = x :: r := by cases rest with | nil => simp at hr | cons x r => exact ⟨x, r, rfl⟩
    have h2 := ih (i + 1) rest (by simpa using hr) (by omega)
    refine Ev.step (fun k => ?_) (ev_to h2 (by rw [show i + 1 + d = i + (d + 1) by omega]))
    simp only [laws_markUint64S.l0]
    have hl : (marks m i ++ x :: rest).length = i + (rest.length + 1) := by rw [List.length_append, marks_length]; rfl
    rw [if_pos (by rw [hl]; omega), if_pos (by omega), Int.toNat_natCast]
    rw [List.set_append_right _ _ (by rw [marks_length]; omega), marks_length, Nat.sub_self, List.set_cons_zero, wrap64_id (by omega), wrap64_id (by omega)]
    rw [marks, List.append_assoc]
    congr 1
    omega
theorem mark_ev (l : List Int) (m : Int) (hm : 0 ≤ m) (hb : m + l.length ≤ 4611686018427387904) : Ev (fun k => laws_markUint64S.f k l m) (m + l.length, marks m l.length) := by
  have h := mark_loop m hm l.length 0 l rfl (by omega)
  refine Ev.congr (fun k => ?_) (ev_to h (by simp))
  unfold laws_markUint64S.f
  simp [marks]
theorem held_loop (m : Int) (n : Nat) (hm : 0 ≤ m) (hb : m + n ≤ 4611686018427387904) (d : Nat) : ∀ i : Nat, i + d = n →
    Ev (fun k => laws_heldUint64S.l0 k (marks m n) (m + i) (i : Int)) (m + n) := by
  induction d with
  | zero =>
    intro i hi
    refine Ev.step (f := fun _ => some (m + n)) (fun k => ?_) (Ev.now _)
    simp only [laws_heldUint64S.l0]
    rw [if_neg (by rw [marks_length]; omega), show i = n by omega]
  | succ d ih =>
    intro i hi
    refine Ev.step (fun k => ?_) (ih (i + 1) (by omega))
    simp only [laws_heldUint64S.l0]
    rw [if_pos (by rw [marks_length]; omega), if_pos (by omega), if_pos (marks_rd m n i (by omega)), wrap64_id (by omega), wrap64_id (by omega)]
    congr 1
    omega
theorem held_ev (m : Int) (n : Nat) (hm : 0 ≤ m) (hb : m + n ≤ 4611686018427387904) : Ev (fun k => laws_heldUint64S.f k (marks m n) m) (m + n) := by
  have h := held_loop m n hm hb n 0 (by omega)
  refine Ev.congr (fun k => ?_) h
  unfold laws_heldUint64S.f
  simp
end Go.Proofs.Ytkbkjmhkchagbaa.M
end
section
namespace Go.Proofs.Ytkbkjmhkchagbaa.M
open Go.RowKit Go.Proofs.Ytkbkjmhkchagbaa.G Go.Proofs.YtkbkjmhkchagbaaV.PrintWords Go.Proofs.YtkbkjmhkchagbaaV.PrintLast Go.Proofs.YtkbkjmhkchagbaaV.PrintMore Go.Proofs.Ytkbkjmhkchagbaa.PA
set_option linter.unusedVariables false
set_option linter.unusedSimpArgs false
def B32 : Nat := 4294967296
def B64 : Nat := 18446744073709551616
theorem B32_pos : 0 < B32 := by unfold B32; omega
theorem B64_pos : 0 < B64 := by unfold B64; omega
theorem fits_eq (l : List Int) : spec_l1Fits.f l = some (decide (l.length ≤ 1200)) := by
  unfold spec_l1Fits.f
  simp
  omega
theorem at_eq (l : List Int) (i : Int) (h : 0 ≤ i) : spec_l1At.f l i = some (rd l i) := by
  unfold spec_l1At.f
  by_cases h1 : i < (l.length : Int)
  · rw [if_pos h1, if_pos h]
  · rw [if_neg h1, rd_of_ge l i (by omega)]
theorem trim_eq (l : List Int) (h : l.length ≤ 35184372088832) : spec_l1Trim.f l = some (trimL l) := by
  unfold spec_l1Trim.f
  rw [if_pos h]
def d32 : List Int → List Int
  | [] => []
  | x :: l => x % 4294967296 :: x / 4294967296 :: d32 l
theorem d32_append (a b : List Int) : d32 (a ++ b) = d32 a ++ d32 b := by
  induction a with
  | nil => rfl
  | cons x a ih => simp [d32, ih]
theorem d32_length (l : List Int) : (d32 l).length = 2 * l.length := by
  induction l with
  | nil => rfl
  | cons x l ih => simp only [d32, List.length_cons, ih]; omega
theorem d32_dig {l : List Int} (h : Dig B64 l) : Dig B32 (d32 l) := by
  induction l with
  | nil => exact Dig.nil _
  | cons x l ih =>
    have hx := h x (by simp)
    unfold B64 at hx
    refine Dig.cons ?_ (Dig.cons ?_ (ih (fun y hy => h y (List.mem_cons_of_mem _ hy)))) <;> unfold B32 <;> omega
theorem d32_val {l : List Int} (h : Dig B64 l) : val B32 (d32 l) = val B64 l := by
  induction l with
  | nil => rfl
  | cons x l ih =>
    have hx := h x (by simp)
    have ih := ih (fun y hy => h y (List.mem_cons_of_mem _ hy))
    simp only [d32, val_cons, ih]
    unfold B64 at hx
    unfold B32 B64
    omega
def inL (l : List Int) : List Int := trimL (d32 l)
theorem inL_dig {l : List Int} (h : Dig B64 l) : Dig B32 (inL l) := (d32_dig h).trim
theorem inL_val {l : List Int} (h : Dig B64 l) : val B32 (inL l) = val B64 l := by unfold inL; rw [val_trim, d32_val h]
theorem inL_length (l : List Int) : (inL l).length ≤ 2 * l.length := by
  unfold inL
  have := trimL_length (d32 l)
  rw [d32_length] at this
  exact this
theorem in_loop (l : List Int) (hd : Dig B64 l) (hl : l.length ≤ 1073741824) (d : Nat) : ∀ i : Nat, i + d = l.length →
    Ev (fun k => spec_l1In.l0 k (d32 (l.take i)) l (l.length : Int) (i : Int)) (inL l) := by
  induction d with
  | zero =>
    intro i hi
    refine Ev.step (f := fun _ => some (inL l)) (fun k => ?_) (Ev.now _)
    simp only [spec_l1In.l0]
    rw [if_neg (by omega), List.take_of_length_le (by omega), trim_eq _ (by rw [d32_length]; omega)]
    rfl
  | succ d ih =>
    intro i hi
    have hx := hd.rd B64_pos (i : Int)
    refine Ev.step (fun k => ?_) (ih (i + 1) (by omega))
    have hlen : (d32 (l.take i)).length = 2 * i := by rw [d32_length, List.length_take]; omega
    unfold B64 at hx
    simp only [spec_l1In.l0]
    rw [if_pos (by omega), if_pos (by omega), if_pos (by omega)]
    simp only [Option.bind_some]
    rw [if_pos (by rw [hlen]; simp; omega), and_low32 _ hx.1 (by omega), wrap64_id (by omega), take_snoc_rd l i (by omega), d32_append]
    rfl
theorem in_ev (l : List Int) (hd : Dig B64 l) (hl : l.length ≤ 1073741824) : Ev (fun k => spec_l1In.f k l) (inL l) := in_loop l hd hl l.length 0 (by omega)
def outL : List Int → List Int
  | [] => []
  | [x] => [x]
  | x :: y :: l => (x + y * 4294967296) :: outL l
theorem outL_length : ∀ l : List Int, (outL l).length ≤ l.length
  | [] => Nat.le_refl _
  | [x] => Nat.le_refl _
  | x :: y :: l => by have := outL_length l; simp only [outL, List.length_cons]; omega
theorem outL_dig : ∀ {l : List Int}, Dig B32 l → Dig B64 (outL l)
  | [], _ => Dig.nil _
  | [x], h => by
    have hx := h x (by simp)
    unfold B32 at hx
    exact Dig.cons (by unfold B64; omega) (Dig.nil _)
  | x :: y :: l, h => by
    have hx := h x (by simp)
    have hy := h y (by simp)
    unfold B32 at hx hy
    exact Dig.cons (by unfold B64; omega) (outL_dig (fun z hz => h z (List.mem_cons_of_mem _ (List.mem_cons_of_mem _ hz))))
theorem outL_val : ∀ {l : List Int}, Dig B32 l → val B64 (outL l) = val B32 l
  | [], _ => rfl
  | [x], h => by simp [outL, val]
  | x :: y :: l, h => by
    have hx := h x (by simp)
    have hy := h y (by simp)
    have ih := outL_val (l := l) (fun z hz => h z (List.mem_cons_of_mem _ (List.mem_cons_of_mem _ hz)))
    simp only [outL, val_cons, ih]
    unfold B32 at hx hy
    unfold B32 B64
    omega
theorem norm_iff (l : List Int) : Norm l ↔ ∀ h : l ≠ [], l.getLast h ≠ 0 := by
  rcases Nat.eq_zero_or_pos l.length with h | h
  · have := List.eq_nil_of_length_eq_zero h
    subst this
    exact ⟨fun _ h => absurd rfl h, fun _ => rfl⟩
  · obtain ⟨a, x, rfl⟩ := snoc_of h
    rw [norm_snoc]
    simp
theorem outL_norm : ∀ {l : List Int}, Dig B32 l → Norm l → Norm (outL l)
  | [], _, _ => norm_nil
  | [x], _, h => h
  | [x, y], hd, h => by
    have hx := hd x (by simp)
    have h2 := (norm_iff _).1 h (by simp)
    simp at h2
    have hy := hd y (by simp)
    refine (norm_iff _).2 (fun _ => ?_)
    simp [outL]
    omega
  | x :: y :: z :: l, hd, h => by
    have h2 : Norm (z :: l) := by
      rw [norm_iff] at h ⊢
      intro hn
      have := h (by simp)
      simpa using this
    have ih := outL_norm (l := z :: l) (fun w hw => hd w (List.mem_cons_of_mem _ (List.mem_cons_of_mem _ hw))) h2
    rw [norm_iff] at ih ⊢
    intro hn
    have hne : outL (z :: l) ≠ [] := by cases l <;> simp [outL]
    have := ih hne
    simp only [outL]
    rw [List.getLast_cons hne]
    exact this
theorem out_loop (l : List Int) (hd : Dig B32 l) (hl : l.length ≤ 4294967296) (n : Nat) : ∀ (i : Nat) (acc rest : List Int), rest.length ≤ n → l.drop i = rest → i ≤ l.length → acc.length ≤ i →
    Ev (fun k => spec_l1Out.l0 k l acc (i : Int)) (acc ++ outL rest) := by
  induction n with
  | zero =>
    intro i acc rest hn hr hi ha
    have h0 : rest = [] := List.eq_nil_of_length_eq_zero (by omega)
    subst h0
    have hlen := congrArg List.length hr
    rw [List.length_drop] at hlen
    refine Ev.step (f := fun _ => some (acc ++ outL [])) (fun k => ?_) (Ev.now _)
    simp only [spec_l1Out.l0]
    rw [if_neg (by simp at hlen; omega)]
    simp [outL]
  | succ n ih =>
    intro i acc rest hn hr hi ha
    match rest, hn, hr with
    | [], hn, hr => exact ih i acc [] (by simp) hr hi ha
    | [x], hn, hr =>
      have hlen := congrArg List.length hr
      rw [List.length_drop] at hlen
      simp at hlen
      have hx : rd l (i : Int) = x := rd_of_drop hr
      refine Ev.step (f := fun k => spec_l1Out.l0 k l (acc ++ [x]) ((i + 2 : Nat) : Int)) (fun k => ?_) (Ev.step (f := fun _ => some (acc ++ outL [x])) (fun k => ?_) (Ev.now _))
      · simp only [spec_l1Out.l0]
        rw [if_pos (by omega), if_pos (by omega), wrap64_id (by omega), if_neg (by omega), if_pos (by omega), wrap64_id (by omega), hx]
        rfl
      · simp only [spec_l1Out.l0]
        rw [if_neg (by omega)]
        simp [outL]
    | x :: y :: r, hn, hr =>
      have hlen := congrArg List.length hr
      rw [List.length_drop] at hlen
      simp at hlen
      have hx : rd l (i : Int) = x := rd_of_drop hr
      have hy : rd l ((i : Int) + 1) = y := rd_of_drop (i := i + 1) (drop_succ_of hr)
      have hr2 : l.drop (i + 2) = r := drop_succ_of (drop_succ_of hr)
      have dx := hd.rd B32_pos (i : Int)
      have dy := hd.rd B32_pos ((i : Int) + 1)
      rw [hx] at dx
      rw [hy] at dy
      unfold B32 at dx dy
      have hor : bits .or .u64 x (IntKind.u64.wrap (y * 4294967296)) = x + y * 4294967296 := by
        rw [wrap_u64_id (by omega)]
        exact or_join' 32 x (y * 4294967296) (by omega) (by simp) (by omega) (by omega) (by simp; omega) (by omega)
      have hrl : r.length ≤ n := by simp at hn; omega
      refine Ev.step (fun k => ?_) (ev_to (ih (i + 2) (acc ++ [x + y * 4294967296]) r hrl hr2 (by omega) (by simp; omega)) (by simp [outL]))
      simp only [spec_l1Out.l0]
      rw [if_pos (by omega), if_pos (by omega), wrap64_id (by omega), if_pos (by omega), if_pos (by omega), if_pos (by omega), wrap64_id (by omega), hx, hy, hor]
      rfl
theorem out_ev (l : List Int) (hd : Dig B32 l) (hl : l.length ≤ 4294967296) : Ev (fun k => spec_l1Out.f k l) (outL l) := by
  have h := out_loop l hd hl l.length 0 [] l (Nat.le_refl _) rfl (by omega) (by simp)
  unfold spec_l1Out.f
  simpa using h
end Go.Proofs.Ytkbkjmhkchagbaa.M
end
section
namespace Go.Proofs.Ytkbkjmhkchagbaa.M
open Go.RowKit Go.Proofs.Ytkbkjmhkchagbaa.G Go.Proofs.YtkbkjmhkchagbaaV.PrintWords Go.Proofs.YtkbkjmhkchagbaaV.PrintLast Go.Proofs.YtkbkjmhkchagbaaV.PrintMore Go.Proofs.Ytkbkjmhkchagbaa.PA
set_option linter.unusedVariables false
set_option linter.unusedSimpArgs false
theorem short_one (a : List Int) (ha : a.length ≤ 1073741824) : Ev (fun k => impl_short.f k [a]) (decide (a.length ≤ 1200)) := by
  refine ⟨4, fun k hk => ?_⟩
  obtain ⟨k, rfl⟩ : ∃ m, k = m + 3 := ⟨k - 3, by omega⟩
  have w1 : wrap64 1 = 1 := by unfold wrap64; omega
  have r0 : rd_L1 [a] 0 = a := rfl
  unfold impl_short.f
  simp only [List.length_cons, List.length_nil]
  by_cases h1 : a.length ≤ 1200
  · have n1 : ¬ ((a.length : Int) > 1200) := by omega
    simp [impl_short.l0, r0, w1, n1, h1]
  · have n1 : ((a.length : Int) > 1200) := by omega
    simp [impl_short.l0, r0, w1, n1, h1]
end Go.Proofs.Ytkbkjmhkchagbaa.M
end
section
namespace Go.Proofs.Ytkbkjmhkchagbaa.M
open Go.RowKit Go.Proofs.Ytkbkjmhkchagbaa.G Go.Proofs.YtkbkjmhkchagbaaV.PrintWords Go.Proofs.YtkbkjmhkchagbaaV.PrintLast Go.Proofs.YtkbkjmhkchagbaaV.PrintMore Go.Proofs.Ytkbkjmhkchagbaa.PA
set_option linter.unusedVariables false
set_option linter.unusedSimpArgs false
theorem wf_u64 {l : List Int} (h : ∀ x ∈ l, (Lit.int .u64 x).wf = true) : Dig B64 l := by
  intro x hx
  have := h x hx
  simp [Lit.wf, IntKind.min, IntKind.max, IntKind.signed, IntKind.bits] at this
  unfold B64
  omega
def IsNat (l : List Int) (v : Nat) : Prop := Dig B64 l ∧ Norm l ∧ val B64 l = v
theorem IsNat.uniq {a b : List Int} {v : Nat} (h : IsNat a v) (k : IsNat b v) : a = b := norm_inj B64_pos h.1 k.1 h.2.1 k.2.1 (h.2.2.trans k.2.2.symm)
theorem IsNat.nil : IsNat [] 0 := ⟨Dig.nil _, norm_nil, rfl⟩
theorem IsNat.out {l : List Int} {v : Nat} (hd : Dig B32 l) (hn : Norm l) (hv : val B32 l = v) : IsNat (outL l) v := ⟨outL_dig hd, outL_norm hd hn, by rw [outL_val hd, hv]⟩
end Go.Proofs.Ytkbkjmhkchagbaa.M
end
section
namespace Go.Proofs.Ytkbkjmhkchagbaa.M
open Go.RowKit Go.Proofs.Ytkbkjmhkchagbaa.G Go.Proofs.YtkbkjmhkchagbaaV.PrintWords Go.Proofs.YtkbkjmhkchagbaaV.PrintLast Go.Proofs.YtkbkjmhkchagbaaV.PrintMore Go.Proofs.Ytkbkjmhkchagbaa.PA
set_option linter.unusedVariables false
set_option linter.unusedSimpArgs false
theorem cast_dig {B n : Nat} (h : n < B) : 0 ≤ (n : Int) ∧ (n : Int) < (B : Int) := by omega
theorem low32_nat (n : Nat) (h : n < 18446744073709551616) : bits .and .u64 (n : Int) 4294967295 = ((n % 4294967296 : Nat) : Int) := by
  rw [and_low32 _ (by omega) (by omega)]
  omega
def sl (B P : Nat) : Nat → List Int → List Int
  | c, [] => [(c : Int)]
  | c, x :: l => (((x.toNat * P + c) % B : Nat) : Int) :: sl B P ((x.toNat * P + c) / B) l
theorem sl_val (B P : Nat) : ∀ (l : List Int) (c : Nat), val B (sl B P c l) = val B l * P + c
  | [], c => by simp [sl, val]
  | x :: l, c => by
    simp only [sl, val_cons, Int.toNat_natCast]
    rw [sl_val B P l, Nat.mul_add, Nat.add_mul, Nat.mul_assoc]
    have h := Nat.mod_add_div (x.toNat * P + c) B
    generalize (x.toNat * P + c) % B = m at *
    generalize B * ((x.toNat * P + c) / B) = q at *
    omega
theorem carry_lt {B P x c : Nat} (hx : x < B) (hc : c < P) : (x * P + c) / B < P := by
  have hB : 0 < B := by omega
  refine Nat.div_lt_of_lt_mul ?_
  have h := Nat.mul_le_mul_right P (show x + 1 ≤ B from hx)
  rw [Nat.add_mul, Nat.one_mul] at h
  omega
theorem sl_dig {B P : Nat} (hB : 0 < B) (hP : P ≤ B) : ∀ (l : List Int) (c : Nat), Dig B l → c < P → Dig B (sl B P c l)
  | [], c, _, hc => Dig.cons (by omega) (Dig.nil _)
  | x :: l, c, h, hc => by
    have hx := h x (by simp)
    have h1 := Nat.mod_lt (x.toNat * P + c) hB
    exact Dig.cons (by omega) (sl_dig hB hP l _ (fun y hy => h y (List.mem_cons_of_mem _ hy)) (carry_lt (by omega) hc))
theorem sl_length (B P : Nat) : ∀ (l : List Int) (c : Nat), (sl B P c l).length = l.length + 1
  | [], c => rfl
  | x :: l, c => by simp only [sl, List.length_cons, sl_length B P l]
def sr (B P : Nat) : List Int → List Int
  | [] => []
  | x :: l => (((x.toNat + B * ((rd l 0).toNat % P)) / P : Nat) : Int) :: sr B P l
theorem val_mod (B P : Nat) (h : P ∣ B) (l : List Int) : val B l % P = (rd l 0).toNat % P := by
  cases l with
  | nil => rfl
  | cons x l =>
    obtain ⟨K, rfl⟩ := h
    rw [val_cons, Nat.mul_assoc, Nat.add_mul_mod_self_left]
    rfl
theorem sr_val {B P : Nat} (hP : 0 < P) (h : P ∣ B) : ∀ l : List Int, val B (sr B P l) = val B l / P
  | [] => by simp [sr, val]
  | x :: l => by
    simp only [sr, val_cons, Int.toNat_natCast]
    rw [sr_val hP h l, ← val_mod B P h l]
    have h1 := Nat.mod_add_div (val B l) P
    have h2 : x.toNat + B * val B l = x.toNat + B * (val B l % P) + P * (B * (val B l / P)) := by
      have h3 := congrArg (B * ·) h1
      simp only [Nat.mul_add] at h3
      rw [Nat.mul_left_comm] at h3
      omega
    rw [h2, Nat.add_mul_div_left _ _ hP]
theorem quot_lt {B P x y : Nat} (hP : 0 < P) (hx : x < B) : (x + B * (y % P)) / P < B := by
  have h1 := Nat.mod_lt y hP
  refine Nat.div_lt_of_lt_mul ?_
  have h := Nat.mul_le_mul_left B (show y % P + 1 ≤ P from h1)
  rw [Nat.mul_add, Nat.mul_one, Nat.mul_comm B P] at h
  omega
theorem sr_dig {B P : Nat} (hP : 0 < P) : ∀ l : List Int, Dig B l → Dig B (sr B P l)
  | [], _ => Dig.nil _
  | x :: l, h => by
    have hx := h x (by simp)
    have h1 : (x.toNat + B * ((rd l 0).toNat % P)) / P < B := quot_lt hP (by omega)
    exact Dig.cons (cast_dig h1) (sr_dig hP l (fun y hy => h y (List.mem_cons_of_mem _ hy)))
theorem sr_length (B P : Nat) : ∀ l : List Int, (sr B P l).length = l.length
  | [] => rfl
  | x :: l => by simp only [sr, List.length_cons, sr_length B P l]
theorem div_split {B P x y : Nat} (hP : 0 < P) (hx : x < B) : (x + B * y) / P % B = (x + B * (y % P)) / P := by
  have h1 := Nat.mod_add_div y P
  have h2 : x + B * y = x + B * (y % P) + P * (B * (y / P)) := by
    have h3 := congrArg (B * ·) h1
    simp only [Nat.mul_add] at h3
    rw [Nat.mul_left_comm] at h3
    omega
  rw [h2, Nat.add_mul_div_left _ _ hP, Nat.add_mul_mod_self_left, Nat.mod_eq_of_lt (quot_lt hP hx)]
theorem tdiv_nat (m d : Nat) : Int.tdiv (m : Int) (d : Int) = ((m / d : Nat) : Int) := by rw [Int.tdiv_eq_ediv_of_nonneg (by omega)]; rfl
theorem tmod_nat (m d : Nat) : Int.tmod (m : Int) (d : Int) = ((m % d : Nat) : Int) := by rw [Int.tmod_eq_emod_of_nonneg (by omega)]; rfl
theorem wtdiv (m d : Nat) (h : m ≤ 9223372036854775807) : wrap64 (Int.tdiv (m : Int) (d : Int)) = ((m / d : Nat) : Int) := by
  have := Nat.div_le_self m d
  rw [tdiv_nat]
  generalize m / d = q at *
  rw [wrap64_id (by omega)]
theorem wtmod (m d : Nat) (h : m ≤ 9223372036854775807) : IntKind.u64.wrap (Int.tmod (m : Int) (d : Int)) = ((m % d : Nat) : Int) := by
  have := Nat.mod_le m d
  rw [tmod_nat]
  generalize m % d = q at *
  rw [wrap_u64_id (by omega)]
theorem shl_nat (x p : Nat) (hp : p ≤ 64) : shl .u64 (x : Int) (p : Int) = ((x * 2 ^ p % 18446744073709551616 : Nat) : Int) := by
  unfold shl
  rw [wrap_u64, Int.toNat_natCast, show IntKind.u64.bits = 64 from rfl, Nat.min_eq_left hp, show ((x : Int) * 2 ^ p) = ((x * 2 ^ p : Nat) : Int) by simp]
  exact (Int.natCast_emod _ 18446744073709551616).symm
theorem shr_nat (x p : Nat) (hp : p ≤ 64) : shr .u64 (x : Int) (p : Int) = ((x / 2 ^ p : Nat) : Int) := by
  unfold shr
  rw [Int.toNat_natCast, show IntKind.u64.bits = 64 from rfl, Nat.min_eq_left hp]
  simp
theorem or_nat (p x y : Nat) (hp : p ≤ 64) (hx : x < 18446744073709551616) (h : 2 ^ p ∣ x) (hy : y < 2 ^ p) : bits .or .u64 (x : Int) (y : Int) = ((x + y : Nat) : Int) := by
  have h64 : 2 ^ p ≤ 2 ^ 64 := Nat.pow_le_pow_right (by omega) hp
  have hc : ((2 : Int) ^ p) = ((2 ^ p : Nat) : Int) := by simp
  rw [or_join p x y (by omega) (by rw [hc]; have := Nat.mod_eq_zero_of_dvd h; omega) (by omega) (by omega) (by rw [hc]; omega) (by omega)]
  omega
theorem or_nat' (p x y : Nat) (hp : p ≤ 64) (hx : x < 18446744073709551616) (h : 2 ^ p ∣ x) (hy : y < 2 ^ p) : bits .or .u64 (y : Int) (x : Int) = ((y + x : Nat) : Int) := by
  rw [bits_or_comm, or_nat p x y hp hx h hy, Nat.add_comm]
theorem pow_split (w p : Nat) (h : p ≤ w) : 2 ^ w = 2 ^ (w - p) * 2 ^ p := by rw [← Nat.pow_add]; congr 1; omega
theorem pow_div_mod (v w n : Nat) : v / 2 ^ n = v / (2 ^ w) ^ (n / w) / 2 ^ (n % w) := by
  rw [Nat.div_div_eq_div_mul, ← Nat.pow_mul, ← Nat.pow_add]
  congr 2
  exact (Nat.div_add_mod n w).symm
theorem pow_mul_mod (v w n : Nat) : v * 2 ^ n = (2 ^ w) ^ (n / w) * (v * 2 ^ (n % w)) := by
  rw [Nat.mul_left_comm, ← Nat.pow_mul, ← Nat.pow_add, Nat.div_add_mod]
theorem B32_pow : B32 = 2 ^ 32 := by unfold B32; rfl
theorem B64_pow : B64 = 2 ^ 64 := by unfold B64; rfl
theorem val_drop (B : Nat) (hB : 0 < B) {l : List Int} (h : Dig B l) (d : Nat) : val B (l.drop d) = val B l / B ^ d := by
  rcases Nat.lt_or_ge l.length d with hl | hl
  · rw [List.drop_eq_nil_of_le (by omega), Nat.div_eq_of_lt]
    · rfl
    · have h1 := val_lt h
      have h2 : B ^ l.length ≤ B ^ d := Nat.pow_le_pow_right hB (by omega)
      omega
  · have h1 := val_split B l d hl
    have h2 := val_lt (h.take d)
    rw [List.length_take, Nat.min_eq_left hl] at h2
    rw [h1, Nat.add_mul_div_left _ _ (Nat.pow_pos hB), Nat.div_eq_of_lt h2]
    omega
theorem val_shl (B d : Nat) (l : List Int) : val B (List.replicate d 0 ++ l) = B ^ d * val B l := by
  rw [val_append, val_zeros, List.length_replicate]
  omega
theorem sleft_loop (a : List Int) (ha : Dig B32 a) (la : a.length ≤ 1073741824) (n : Nat) (hn : n ≤ 80000) (rest : List Int) : ∀ (i : Nat) (acc : List Int) (c : Nat), a.drop i = rest → i ≤ a.length → c < 2 ^ (n % 32) → acc.length ≤ 80000 + i →
    Ev (fun k => spec_l1Left.l0 k a (n : Int) acc (c : Int) (i : Int)) (trimL (acc ++ sl B32 (2 ^ (n % 32)) c rest)) := by
  have hp : n % 32 < 32 := Nat.mod_lt _ (by omega)
  have hP : 2 ^ (n % 32) ≤ 2 ^ 31 := Nat.pow_le_pow_right (by omega) (by omega)
  have hw := wtmod n 32 (by omega)
  have step : ∀ (x c : Nat), x < 4294967296 → c < 2 ^ (n % 32) → bits .or .u64 (shl .u64 (x : Int) ((n % 32 : Nat) : Int)) (c : Int) = ((x * 2 ^ (n % 32) + c : Nat) : Int) ∧ x * 2 ^ (n % 32) + c < 18446744073709551616 := by
    intro x c hx hc
    have h1 : x * 2 ^ (n % 32) ≤ 4294967295 * 2 ^ 31 := Nat.mul_le_mul (by omega) hP
    rw [shl_nat _ _ (by omega), Nat.mod_eq_of_lt (by omega), or_nat (n % 32) _ _ (by omega) (by omega) (Nat.dvd_mul_left _ _) hc]
    exact ⟨rfl, by omega⟩
  induction rest with
  | nil =>
    intro i acc c hr hi hc hac
    have hlen := congrArg List.length hr
    rw [List.length_drop] at hlen
    simp at hlen
    have h0 : rd a (i : Int) = 0 := rd_of_ge a _ (by simp; omega)
    obtain ⟨s1, s2⟩ := step 0 c (by omega) hc
    refine Ev.step (f := fun k => spec_l1Left.l0 k a (n : Int) (acc ++ [(c : Int)]) 0 ((i + 1 : Nat) : Int)) (fun k => ?_) (Ev.step (f := fun _ => some (trimL (acc ++ sl B32 (2 ^ (n % 32)) c []))) (fun k => ?_) (Ev.now _))
    · simp only [spec_l1Left.l0]
      rw [if_pos (by omega), at_eq _ _ (by omega), h0, Option.bind_some, show ((32 : Int)) = ((32 : Nat) : Int) from rfl, hw, if_pos (by omega), if_pos (by omega)]
      rw [show (0 : Int) = ((0 : Nat) : Int) from rfl, s1, and_low32 _ (by omega) (by omega), wrap64_id (by omega)]
      rw [Nat.zero_mul, Nat.zero_add, show ((c : Int) % 4294967296) = (c : Int) by omega, show ((c : Int) / 4294967296) = ((0 : Nat) : Int) by omega]
      rfl
    · simp only [spec_l1Left.l0]
      rw [if_neg (by omega), trim_eq _ (by simp; omega)]
      rfl
  | cons x rest ih =>
    intro i acc c hr hi hc hac
    have hlen := congrArg List.length hr
    rw [List.length_drop] at hlen
    simp at hlen
    have hx : rd a (i : Int) = x := rd_of_drop hr
    have dx := ha.rd B32_pos (i : Int)
    rw [hx] at dx
    unfold B32 at dx
    obtain ⟨y, rfl⟩ : ∃ y : Nat, x = (y : Int) := ⟨x.toNat, by omega⟩
    obtain ⟨s1, s2⟩ := step y c (by omega) hc
    have hc2 : (y * 2 ^ (n % 32) + c) / B32 < 2 ^ (n % 32) := carry_lt (by unfold B32; omega) hc
    refine Ev.step (fun k => ?_) (ev_to (ih (i + 1) (acc ++ [(((y * 2 ^ (n % 32) + c) % B32 : Nat) : Int)]) ((y * 2 ^ (n % 32) + c) / B32) (drop_succ_of hr) (by omega) hc2 (by simp; omega)) (by simp [sl]))
    simp only [spec_l1Left.l0]
    rw [if_pos (by omega), at_eq _ _ (by omega), hx, Option.bind_some, show ((32 : Int)) = ((32 : Nat) : Int) from rfl, hw, if_pos (by omega), if_pos (by omega)]
    rw [s1, and_low32 _ (by omega) (by omega), wrap64_id (by omega)]
    unfold B32
    rfl
theorem sleft_ev (a : List Int) (ha : Dig B32 a) (la : a.length ≤ 1073741824) (n : Nat) (hn : n ≤ 80000) :
    ∃ r, Ev (fun k => spec_l1Left.f k a (n : Int)) r ∧ Dig B32 r ∧ Norm r ∧ val B32 r = val B32 a * 2 ^ n ∧ r.length ≤ 80000 + a.length + 1 := by
  have hp : n % 32 < 32 := Nat.mod_lt _ (by omega)
  have hP : 2 ^ (n % 32) ≤ B32 := by rw [B32_pow]; exact Nat.pow_le_pow_right (by omega) (by omega)
  have hP0 : 0 < 2 ^ (n % 32) := Nat.pow_pos (by omega)
  have hd := Nat.div_le_self n 32
  have h := sleft_loop a ha la n hn a 0 (List.replicate (n / 32) 0) 0 rfl (by omega) hP0 (by simp; omega)
  refine ⟨_, Ev.congr (fun k => ?_) h, ((Dig.zeros B32_pos _).append (sl_dig B32_pos hP _ _ ha hP0)).trim, norm_trim _, ?_, ?_⟩
  · unfold spec_l1Left.f
    rw [show ((32 : Int)) = ((32 : Nat) : Int) from rfl, wtdiv n 32 (by omega), if_pos (by omega), if_pos (by omega)]
    rfl
  · rw [val_trim, val_shl, sl_val, pow_mul_mod (val B32 a) 32 n, ← B32_pow]
    rfl
  · have := trimL_length (List.replicate (n / 32) 0 ++ sl B32 (2 ^ (n % 32)) 0 a)
    rw [List.length_append, List.length_replicate, sl_length] at this
    omega
theorem sright_loop (a : List Int) (ha : Dig B32 a) (la : a.length ≤ 1073741824) (n : Nat) (hn : n ≤ 80000) (rest : List Int) : ∀ (i : Nat) (acc : List Int), a.drop i = rest → i ≤ 1073741824 + 80000 → acc.length ≤ i →
    Ev (fun k => spec_l1Right.l0 k a (n : Int) acc (i : Int)) (trimL (acc ++ sr B32 (2 ^ (n % 32)) rest)) := by
  have hp : n % 32 < 32 := Nat.mod_lt _ (by omega)
  have hP0 : 0 < 2 ^ (n % 32) := Nat.pow_pos (by omega)
  have hw := wtmod n 32 (by omega)
  induction rest with
  | nil =>
    intro i acc hr hi hac
    have hlen := congrArg List.length hr
    rw [List.length_drop] at hlen
    simp at hlen
    refine Ev.step (f := fun _ => some (trimL (acc ++ sr B32 (2 ^ (n % 32)) []))) (fun k => ?_) (Ev.now _)
    simp only [spec_l1Right.l0]
    rw [if_neg (by omega), trim_eq _ (by omega), Option.bind_some, sr, List.append_nil]
  | cons x rest ih =>
    intro i acc hr hi hac
    have hlen := congrArg List.length hr
    rw [List.length_drop] at hlen
    simp at hlen
    have hx : rd a (i : Int) = x := rd_of_drop hr
    have dx := ha.rd B32_pos (i : Int)
    have dy := ha.rd B32_pos ((i : Int) + 1)
    rw [hx] at dx
    have hy : rd a ((i : Int) + 1) = rd rest 0 := by
      rw [← drop_succ_of hr]
      show a.getD _ 0 = (a.drop (i + 1)).getD 0 0
      simp [List.getD_eq_getElem?_getD]
    rw [hy] at dy
    unfold B32 at dx dy
    obtain ⟨u, rfl⟩ : ∃ u : Nat, x = (u : Int) := ⟨x.toNat, by omega⟩
    obtain ⟨v, hv⟩ : ∃ v : Nat, rd rest 0 = (v : Int) := ⟨(rd rest 0).toNat, by omega⟩
    rw [hv] at dy hy
    have h1 := div_split (B := B32) (P := 2 ^ (n % 32)) (x := u) (y := v) hP0 (by unfold B32; omega)
    unfold B32 at h1
    refine Ev.step (fun k => ?_) (ev_to (ih (i + 1) (acc ++ [(((u + B32 * (v % 2 ^ (n % 32))) / 2 ^ (n % 32) : Nat) : Int)]) (drop_succ_of hr) (by omega) (by simp; omega)) (by simp [sr, hv]))
    have h2 : (u + 4294967296 * v) / 2 ^ (n % 32) ≤ u + 4294967296 * v := Nat.div_le_self _ _
    simp only [spec_l1Right.l0]
    rw [if_pos (by omega), at_eq _ _ (by omega), hx, Option.bind_some, wrap64_id (by omega), at_eq _ _ (by omega), hy, Option.bind_some, show ((32 : Int)) = ((32 : Nat) : Int) from rfl, hw, if_pos (by omega), if_pos (by omega)]
    rw [wrap_u64_id (by omega), show ((v : Int) * 4294967296) = ((v * 4294967296 : Nat) : Int) by omega, or_nat' 32 (v * 4294967296) u (by omega) (by omega) ⟨v, by rw [Nat.mul_comm]⟩ (by omega), shr_nat _ _ (by omega), Nat.mul_comm v, low32_nat _ (by omega), h1]
    unfold B32
    rfl
theorem sright_ev (a : List Int) (ha : Dig B32 a) (la : a.length ≤ 1073741824) (n : Nat) (hn : n ≤ 80000) :
    ∃ r, Ev (fun k => spec_l1Right.f k a (n : Int)) r ∧ Dig B32 r ∧ Norm r ∧ val B32 r = val B32 a / 2 ^ n ∧ r.length ≤ a.length := by
  have hp : n % 32 < 32 := Nat.mod_lt _ (by omega)
  have hP0 : 0 < 2 ^ (n % 32) := Nat.pow_pos (by omega)
  have hd := Nat.div_le_self n 32
  have hdv : 2 ^ (n % 32) ∣ B32 := by rw [B32_pow]; exact Nat.pow_dvd_pow 2 (by omega)
  have h := sright_loop a ha la n hn (a.drop (n / 32)) (n / 32) [] rfl (by omega) (by simp)
  refine ⟨_, Ev.congr (fun k => ?_) h, ?_, norm_trim _, ?_, ?_⟩
  · unfold spec_l1Right.f
    rw [show ((32 : Int)) = ((32 : Nat) : Int) from rfl, wtdiv n 32 (by omega)]
  · rw [List.nil_append]
    exact (sr_dig hP0 _ (ha.drop _)).trim
  · rw [List.nil_append, val_trim, sr_val hP0 hdv, val_drop B32 B32_pos ha, pow_div_mod _ 32 n, ← B32_pow]
  · rw [List.nil_append]
    have := trimL_length (sr B32 (2 ^ (n % 32)) (a.drop (n / 32)))
    rw [sr_length, List.length_drop] at this
    omega
end Go.Proofs.Ytkbkjmhkchagbaa.M
end
section
namespace Go.Proofs.Ytkbkjmhkchagbaa.M
open Go.RowKit Go.Proofs.Ytkbkjmhkchagbaa.G Go.Proofs.YtkbkjmhkchagbaaV.PrintWords Go.Proofs.YtkbkjmhkchagbaaV.PrintLast Go.Proofs.YtkbkjmhkchagbaaV.PrintMore Go.Proofs.Ytkbkjmhkchagbaa.PA
set_option linter.unusedVariables false
set_option linter.unusedSimpArgs false
theorem set_mid (acc r : List Int) (c y : Int) (p : Nat) (h : p = acc.length) : (acc ++ c :: r).set p y = acc ++ y :: r := by
  subst h
  rw [List.set_append_right _ _ (Nat.le_refl _), Nat.sub_self]
  rfl
theorem rd_mid (acc r : List Int) (c : Int) (p : Nat) (h : p = acc.length) : rd (acc ++ c :: r) (p : Int) = c := by
  subst h
  simp [rd_nat, List.getD_eq_getElem?_getD]
theorem sh64 (p : Nat) (hp : 0 < p ∧ p < 64) : IntKind.u64.wrap (64 - (p : Int)) = ((64 - p : Nat) : Int) := by
  rw [wrap_u64_id (by omega)]
  omega
theorem place_up (p x c : Nat) (hp : p < 64) (hx : x < B64) (hc : c < 2 ^ p) : bits .or .u64 (c : Int) (shl .u64 (x : Int) (p : Int)) = (((x * 2 ^ p + c) % B64 : Nat) : Int) := by
  have hs := pow_split 64 p (by omega)
  have hK : 0 < 2 ^ (64 - p) := Nat.pow_pos (by omega)
  have hmod : x * 2 ^ p % 18446744073709551616 = x % 2 ^ (64 - p) * 2 ^ p := by
    rw [show 18446744073709551616 = 2 ^ 64 from rfl, hs, Nat.mul_mod_mul_right]
  have hlt := Nat.mod_lt x hK
  have h1 := Nat.mul_le_mul_right (2 ^ p) (show x % 2 ^ (64 - p) + 1 ≤ 2 ^ (64 - p) from hlt)
  rw [Nat.add_mul, Nat.one_mul, ← hs] at h1
  have h2 : (2 : Nat) ^ 64 = 18446744073709551616 := rfl
  rw [h2] at h1
  have h3 : (x * 2 ^ p + c) % B64 = c + x % 2 ^ (64 - p) * 2 ^ p := by
    unfold B64
    rw [Nat.add_mod, hmod, Nat.mod_eq_of_lt (a := c) (by omega), Nat.mod_eq_of_lt (by omega), Nat.add_comm]
  rw [shl_nat _ _ (by omega), hmod, or_nat' p _ _ (by omega) (by omega) (Nat.dvd_mul_left _ _) hc, h3]
theorem up_carry (p x c : Nat) (hp : p < 64) (hc : c < 2 ^ p) : (x * 2 ^ p + c) / B64 = x / 2 ^ (64 - p) := by
  rw [B64_pow, pow_split 64 p (by omega), Nat.mul_comm (2 ^ (64 - p)), ← Nat.div_div_eq_div_mul, Nat.add_comm, Nat.add_mul_div_right _ _ (Nat.pow_pos (by omega)), Nat.div_eq_of_lt hc, Nat.zero_add]
theorem wadd (i d : Nat) (h : i + d ≤ 9223372036854775807) : wrap64 ((i : Int) + (d : Int)) = ((i + d : Nat) : Int) := by
  rw [wrap64_id (by omega)]
  omega
theorem ileft_loop (a : List Int) (ha : Dig B64 a) (la : a.length ≤ 1073741824) (N : Int) (d p : Nat) (hw : Unit → wrap64 (Int.tdiv N 64) = (d : Int)) (hd : d ≤ 80000) (hp : p < 64) (rest : List Int) : ∀ (i : Nat) (acc : List Int) (c : Nat), a.drop i = rest → i ≤ a.length → c < 2 ^ p → acc.length = i + d →
    Ev (fun k => impl_nat_left.l0 k N (acc ++ (c : Int) :: List.replicate rest.length 0) (p : Int) a (a.length : Int) (i : Int)) (trimL (acc ++ sl B64 (2 ^ p) c rest)) := by
  induction rest with
  | nil =>
    intro i acc c hr hi hc hac
    have hlen := congrArg List.length hr
    rw [List.length_drop] at hlen
    simp at hlen
    refine Ev.step (f := fun _ => some (trimL (acc ++ sl B64 (2 ^ p) c []))) (fun k => ?_) (Ev.now _)
    simp only [impl_nat_left.l0]
    rw [if_neg (by omega)]
    rfl
  | cons x rest ih =>
    intro i acc c hr hi hc hac
    have hlen := congrArg List.length hr
    rw [List.length_drop] at hlen
    simp at hlen
    have hx : rd a (i : Int) = x := rd_of_drop hr
    have dx := ha.rd B64_pos (i : Int)
    rw [hx] at dx
    obtain ⟨y, rfl⟩ : ∃ y : Nat, x = (y : Int) := ⟨x.toNat, by omega⟩
    have hy : y < B64 := by omega
    have e1 := fun _ : Unit => wadd i d (by omega)
    have e5 := fun _ : Unit => wadd i 1 (by omega)
    have e6 := fun _ : Unit => wadd (i + d) 1 (by omega)
    have g1 : (i : Int) < (a.length : Int) := by omega
    have g2 : 0 ≤ (i : Int) := by omega
    have g3 : 0 ≤ ((i + d : Nat) : Int) := by omega
    have g4 : 0 ≤ (p : Int) := by omega
    have g6 : 0 ≤ ((i + d + 1 : Nat) : Int) := by omega
    have ll : ∀ z : Int, (acc ++ z :: List.replicate ((y : Int) :: rest).length 0).length = i + d + rest.length + 2 := by
      intro z
      simp
      omega
    have g5 : ((i + d : Nat) : Int) < ((i + d + rest.length + 2 : Nat) : Int) := by omega
    have g7 : ((i + d + 1 : Nat) : Int) < ((i + d + rest.length + 2 : Nat) : Int) := by omega
    have l2 : ∀ z : Int, i + d + 1 = (acc ++ [z]).length := by
      intro z
      simp
      omega
    have hi2 : i + 1 ≤ a.length := by omega
    have hac2 : ∀ z : Int, (acc ++ [z]).length = i + 1 + d := by
      intro z
      simp
      omega
    have hsp := fun h : 0 < p => sh64 p ⟨h, hp⟩
    have hc2 : (y * 2 ^ p + c) / B64 < 2 ^ p := carry_lt hy hc
    have huc := up_carry p y c hp hc
    have hpu := place_up p y c hp hy hc
    have hz : y / 2 ^ (64 - p) < B64 := Nat.lt_of_le_of_lt (Nat.div_le_self _ _) hy
    have e4 := or_nat' 0 (y / 2 ^ (64 - p)) 0 (by omega) (by unfold B64 at hz; exact hz) (by simp) (by omega)
    rw [Nat.zero_add] at e4
    have h64 : 64 - p ≤ 64 := Nat.sub_le _ _
    have h0 : p = 0 → (y * 2 ^ p + c) / B64 = 0 := by
      intro h0
      subst h0
      have : c = 0 := by omega
      rw [this, Nat.pow_zero, Nat.mul_one, Nat.add_zero, Nat.div_eq_of_lt hy]
    have hpp : ¬ p = 0 → (p : Int) > 0 := by omega
    have hpn : p = 0 → ¬ (p : Int) > 0 := by omega
    have hp0 : ¬ p = 0 → 0 < p := by omega
    have hpk : 0 ≤ ((64 - p : Nat) : Int) := by omega
    have hr0 : ∀ z : Int, acc ++ z :: List.replicate ((y : Int) :: rest).length 0 = (acc ++ [z]) ++ 0 :: List.replicate rest.length 0 := by
      intro z
      simp [List.replicate_succ]
    have hih := ih (i + 1) (acc ++ [(((y * 2 ^ p + c) % B64 : Nat) : Int)]) ((y * 2 ^ p + c) / B64) (drop_succ_of hr) hi2 hc2 (hac2 _)
    refine Ev.step (fun k => ?_) (ev_to hih (by simp [sl]))
    simp only [impl_nat_left.l0]
    rw [if_pos g1, if_pos g2, if_pos g1, hw (), e1 (), if_pos g3, if_pos (by rw [ll]; exact g5), if_pos g4, Option.bind_some, Int.toNat_natCast, rd_mid _ _ _ _ hac.symm, set_mid _ _ _ _ _ hac.symm, hx, hpu]
    by_cases hpz : p = 0
    · rw [if_neg (hpn hpz), show (1 : Int) = ((1 : Nat) : Int) from rfl, e5 (), h0 hpz, hr0]
      rfl
    · rw [if_pos (hpp hpz), show (1 : Int) = ((1 : Nat) : Int) from rfl, e6 (), e5 (), if_pos g6, if_pos (by rw [ll]; exact g7), sh64 _ ⟨hp0 hpz, hp⟩, if_pos hpk, shr_nat _ _ h64, Int.toNat_natCast, hr0, rd_mid _ _ _ _ (l2 _), set_mid _ _ _ _ _ (l2 _), huc]
      rw [show (0 : Int) = ((0 : Nat) : Int) from rfl, e4]
theorem rep_split (n m : Nat) : List.replicate (n + (m + 1)) (0 : Int) = List.replicate n 0 ++ ((0 : Nat) : Int) :: List.replicate m 0 := by
  induction n with
  | zero => rw [Nat.zero_add, List.replicate_succ]; rfl
  | succ n ih => rw [show n + 1 + (m + 1) = (n + (m + 1)) + 1 by omega, List.replicate_succ, ih, List.replicate_succ]; rfl
theorem ileft_ev (a : List Int) (ha : Dig B64 a) (la : a.length ≤ 1048576) (n : Nat) (hn : n ≤ 80000) :
    ∃ r, Ev (fun k => impl_nat_left.f k a (n : Int)) r ∧ Dig B64 r ∧ Norm r ∧ val B64 r = val B64 a * 2 ^ n := by
  have hp : n % 64 < 64 := Nat.mod_lt _ (by omega)
  have hP : 2 ^ (n % 64) ≤ B64 := by rw [B64_pow]; exact Nat.pow_le_pow_right (by omega) (by omega)
  have hP0 : 0 < 2 ^ (n % 64) := Nat.pow_pos (by omega)
  have hd := Nat.div_le_self n 64
  unfold impl_nat_left.f
  by_cases h0 : (a.length : Int) = 0
  · have : a = [] := List.eq_nil_of_length_eq_zero (by omega)
    subst this
    refine ⟨[], ?_, Dig.nil _, norm_nil, by simp [val]⟩
    exact Ev.now _
  have h := ileft_loop a ha (by omega) (n : Int) (n / 64) (n % 64) (fun _ => wtdiv n 64 (by omega)) (by omega) hp a 0 (List.replicate (n / 64) 0) 0 rfl (by omega) hP0 (by simp)
  refine ⟨_, Ev.congr (fun k => ?_) h, ((Dig.zeros B64_pos _).append (sl_dig B64_pos hP _ _ ha hP0)).trim, norm_trim _, ?_⟩
  · rw [if_neg h0, show ((64 : Int)) = ((64 : Nat) : Int) from rfl, wtdiv n 64 (by omega), wtmod n 64 (by omega), wrap64_id (n := (a.length : Int) + ((n / 64 : Nat) : Int)) (by omega), wrap64_id (by omega), if_pos (by omega), if_pos (by omega)]
    rw [show ((a.length : Int) + ((n / 64 : Nat) : Int) + 1).toNat = n / 64 + (a.length + 1) by omega, rep_split]
    rfl
  · rw [val_trim, val_shl, sl_val, pow_mul_mod (val B64 a) 64 n, ← B64_pow]
    rfl
theorem place_down (p x y : Nat) (hp : 0 < p ∧ p < 64) (hx : x < B64) : bits .or .u64 ((x / 2 ^ p : Nat) : Int) (shl .u64 (y : Int) ((64 - p : Nat) : Int)) = (((x + B64 * (y % 2 ^ p)) / 2 ^ p : Nat) : Int) := by
  have hs := pow_split 64 (64 - p) (by omega)
  rw [show 64 - (64 - p) = p by omega] at hs
  have hP : 0 < 2 ^ p := Nat.pow_pos (by omega)
  have hmod : y * 2 ^ (64 - p) % 18446744073709551616 = y % 2 ^ p * 2 ^ (64 - p) := by
    rw [show 18446744073709551616 = 2 ^ 64 from rfl, hs, Nat.mul_mod_mul_right]
  have hlt := Nat.mod_lt y hP
  have h1 := Nat.mul_le_mul_right (2 ^ (64 - p)) (show y % 2 ^ p + 1 ≤ 2 ^ p from hlt)
  rw [Nat.add_mul, Nat.one_mul, ← hs] at h1
  have h2 : (2 : Nat) ^ 64 = 18446744073709551616 := rfl
  rw [h2] at h1
  have hK : 0 < 2 ^ (64 - p) := Nat.pow_pos (by omega)
  have hxd : x / 2 ^ p < 2 ^ (64 - p) := by
    refine Nat.div_lt_of_lt_mul ?_
    rw [← hs, h2]
    exact hx
  rw [shl_nat _ _ (by omega), hmod, or_nat' (64 - p) _ _ (by omega) (by omega) (Nat.dvd_mul_left _ _) hxd]
  congr 1
  rw [B64_pow, hs, Nat.mul_assoc, Nat.add_mul_div_left _ _ hP, Nat.mul_comm (2 ^ (64 - p))]
theorem iright_loop (l : List Int) (ha : Dig B64 l) (la : l.length ≤ 1073741824) (p : Nat) (hp : p < 64) (rest : List Int) : ∀ (i : Nat) (acc : List Int), l.drop i = rest → i ≤ l.length → acc.length = i →
    Ev (fun k => impl_nat_right.l0 k l (acc ++ List.replicate rest.length 0) (p : Int) (l.length : Int) (i : Int)) (trimL (acc ++ sr B64 (2 ^ p) rest)) := by
  have hP0 : 0 < 2 ^ p := Nat.pow_pos (by omega)
  induction rest with
  | nil =>
    intro i acc hr hi hac
    have hlen := congrArg List.length hr
    rw [List.length_drop] at hlen
    simp at hlen
    refine Ev.step (f := fun _ => some (trimL (acc ++ sr B64 (2 ^ p) []))) (fun k => ?_) (Ev.now _)
    simp only [impl_nat_right.l0]
    rw [if_neg (by omega)]
    rfl
  | cons x rest ih =>
    intro i acc hr hi hac
    have hlen := congrArg List.length hr
    rw [List.length_drop] at hlen
    simp at hlen
    have hx : rd l (i : Int) = x := rd_of_drop hr
    have dx := ha.rd B64_pos (i : Int)
    have dy := ha.rd B64_pos ((i : Int) + 1)
    rw [hx] at dx
    have hy : rd l ((i : Int) + 1) = rd rest 0 := by
      rw [← drop_succ_of hr]
      show l.getD _ 0 = (l.drop (i + 1)).getD 0 0
      simp [List.getD_eq_getElem?_getD]
    rw [hy] at dy
    obtain ⟨u, rfl⟩ : ∃ u : Nat, x = (u : Int) := ⟨x.toNat, by omega⟩
    obtain ⟨v, hv⟩ : ∃ v : Nat, rd rest 0 = (v : Int) := ⟨(rd rest 0).toNat, by omega⟩
    rw [hv] at dy hy
    have hu : u < B64 := by omega
    have e0 : acc ++ List.replicate ((u : Int) :: rest).length 0 = acc ++ (0 : Int) :: List.replicate rest.length 0 := by simp [List.replicate_succ]
    have l1 : (acc ++ (0 : Int) :: List.replicate rest.length 0).length = l.length := by simp; omega
    have g1 : (i : Int) < (l.length : Int) := by omega
    have g2 : 0 ≤ (i : Int) := by omega
    have g4 : 0 ≤ (p : Int) := by omega
    have g6 : 0 ≤ ((i + 1 : Nat) : Int) := by omega
    have hp64 : p ≤ 64 := by omega
    have hpp : ¬ p = 0 → (p : Int) > 0 := by omega
    have hp0 : ¬ p = 0 → 0 < p := by omega
    have hpk : 0 ≤ ((64 - p : Nat) : Int) := by omega
    have e5 := fun _ : Unit => wadd i 1 (by omega)
    rw [e0]
    refine Ev.step (fun k => ?_) (ev_to (ih (i + 1) (acc ++ [(((u + B64 * (v % 2 ^ p)) / 2 ^ p : Nat) : Int)]) (drop_succ_of hr) (by omega) (by simp; omega)) (by simp [sr, hv]))
    simp only [impl_nat_right.l0]
    rw [if_pos g1, if_pos g2, if_pos g1, if_pos g4, if_pos (by rw [l1]; exact g1), Option.bind_some, Int.toNat_natCast, set_mid _ _ _ _ _ hac.symm, hx, shr_nat _ _ hp64]
    by_cases h0 : p = 0
    · subst h0
      rw [if_neg (by decide), show (1 : Int) = ((1 : Nat) : Int) from rfl, e5 ()]
      simp [Nat.mod_one]
    · rw [if_pos (hpp h0), show (1 : Int) = ((1 : Nat) : Int) from rfl, e5 ()]
      by_cases h1 : ((i + 1 : Nat) : Int) < (l.length : Int)
      · rw [if_pos h1, if_pos g6, sh64 _ ⟨hp0 h0, hp⟩, if_pos hpk, rd_mid _ _ _ _ hac.symm, set_mid _ _ _ _ _ hac.symm, show ((i + 1 : Nat) : Int) = (i : Int) + 1 from rfl, hy, place_down p u v ⟨hp0 h0, hp⟩ hu]
        simp
      · rw [if_neg h1]
        have h2 : rest = [] := List.eq_nil_of_length_eq_zero (by omega)
        subst h2
        have h3 : v = 0 := by
          have : rd ([] : List Int) 0 = 0 := rfl
          omega
        subst h3
        simp
theorem iright_ev (a : List Int) (ha : Dig B64 a) (la : a.length ≤ 1048576) (n : Nat) (hn : n ≤ 80000) :
    ∃ r, Ev (fun k => impl_nat_right.f k a (n : Int)) r ∧ Dig B64 r ∧ Norm r ∧ val B64 r = val B64 a / 2 ^ n := by
  have hp : n % 64 < 64 := Nat.mod_lt _ (by omega)
  have hP0 : 0 < 2 ^ (n % 64) := Nat.pow_pos (by omega)
  have hd := Nat.div_le_self n 64
  have hdv : 2 ^ (n % 64) ∣ B64 := by rw [B64_pow]; exact Nat.pow_dvd_pow 2 (by omega)
  unfold impl_nat_right.f
  simp only [show ((64 : Int)) = ((64 : Nat) : Int) from rfl, wtdiv n 64 (by omega), wtmod n 64 (by omega)]
  by_cases h0 : ((n / 64 : Nat) : Int) ≥ (a.length : Int)
  · simp only [if_pos h0]
    refine ⟨[], Ev.now _, Dig.nil _, norm_nil, ?_⟩
    rw [pow_div_mod _ 64 n, ← B64_pow, ← val_drop B64 B64_pos ha, List.drop_eq_nil_of_le (by omega)]
    simp [val]
  · simp only [if_neg h0]
    have h := iright_loop (a.drop (n / 64)) (ha.drop _) (by rw [List.length_drop]; omega) (n % 64) hp (a.drop (n / 64)) 0 [] rfl (by omega) rfl
    refine ⟨_, Ev.congr (fun k => ?_) h, ?_, norm_trim _, ?_⟩
    · rw [if_pos (by omega), if_pos (by omega), Option.bind_some, Int.toNat_natCast, if_pos (by omega), if_pos (by rw [List.length_drop]; omega)]
      rfl
    · rw [List.nil_append]
      exact (sr_dig hP0 _ (ha.drop _)).trim
    · rw [List.nil_append, val_trim, sr_val hP0 hdv, val_drop B64 B64_pos ha, pow_div_mod _ 64 n, ← B64_pow]
def shN (v : Nat) (n : Int) : Nat := if n ≥ 0 then v * 2 ^ n.toNat else v / 2 ^ (-n).toNat
def shOk (a : List Int) (n : Int) : Prop := a.length ≤ 1200 ∧ ¬ (n > 80000) ∧ ¬ (n < -80000)
instance (a : List Int) (n : Int) : Decidable (shOk a n) := by unfold shOk; infer_instance
theorem spec_NatShift_ev (a : List Int) (n : Int) (ha : Dig B64 a) (la : a.length ≤ 1048576) :
    ∃ r, Ev (fun k => spec_NatShift.f k a n) r ∧ IsNat r (if shOk a n then shN (val B64 a) n else 0) ∧ r.length ≤ 1048576 * 8 := by
  have hno : Ev (fun k => spec_NatShift.j0 k a n true) [] := Ev.step (f := fun _ => some []) (fun k => by simp [spec_NatShift.j0]) (Ev.now _)
  unfold spec_NatShift.f
  simp only [fits_eq, Option.bind_some]
  by_cases h : shOk a n
  · obtain ⟨h1, h2, h3⟩ := h
    simp only [h1, decide_true, if_true, if_neg h2, decide_eq_false h3]
    rw [if_pos (show shOk a n from ⟨h1, h2, h3⟩)]
    have l1 := inL_length a
    by_cases h4 : n ≥ 0
    · obtain ⟨m, rfl⟩ : ∃ m : Nat, n = (m : Int) := ⟨n.toNat, by omega⟩
      obtain ⟨r, hr, hd, hn, hv, hl⟩ := sleft_ev (inL a) (inL_dig ha) (by omega) m (by omega)
      rw [inL_val ha] at hv
      refine ⟨outL r, Ev.step (f := fun k => (spec_l1In.f k a).bind fun t395 => ((spec_l1Left.f k t395 (m : Int)).bind fun t398 => ((spec_l1Out.f k t398).bind fun t401 => (some t401)))) (fun k => ?_) (Ev.bind (in_ev a ha (by omega)) (Ev.bind hr (Ev.bind (out_ev r hd (by omega)) (Ev.now _)))), IsNat.out hd hn (by rw [hv]; unfold shN; rw [if_pos h4, Int.toNat_natCast]), ?_⟩
      · simp only [spec_NatShift.j0]
        rw [if_neg (by decide), if_pos h4]
      · have := outL_length r
        omega
    · obtain ⟨m, hm⟩ : ∃ m : Nat, -n = (m : Int) := ⟨(-n).toNat, by omega⟩
      obtain ⟨r, hr, hd, hn, hv, hl⟩ := sright_ev (inL a) (inL_dig ha) (by omega) m (by omega)
      rw [inL_val ha] at hv
      refine ⟨outL r, Ev.step (f := fun k => (spec_l1In.f k a).bind fun t395 => ((spec_l1Right.f k t395 (m : Int)).bind fun t398 => ((spec_l1Out.f k t398).bind fun t401 => (some t401)))) (fun k => ?_) (Ev.bind (in_ev a ha (by omega)) (Ev.bind hr (Ev.bind (out_ev r hd (by omega)) (Ev.now _)))), IsNat.out hd hn (by rw [hv]; unfold shN; rw [if_neg h4, hm, Int.toNat_natCast]), ?_⟩
      · simp only [spec_NatShift.j0]
        rw [if_neg (by decide), if_neg h4, wrap64_id (by omega), hm]
      · have := outL_length r
        omega
  · rw [if_neg h]
    refine ⟨[], ?_, IsNat.nil, by simp⟩
    by_cases h1 : a.length ≤ 1200
    · simp only [h1, decide_true, if_true]
      by_cases h2 : n > 80000
      · simp only [if_pos h2]
        exact hno
      · simp only [if_neg h2]
        rw [decide_eq_true (by
          rcases Decidable.em (n < -80000) with h3 | h3
          · exact h3
          · exact absurd ⟨h1, h2, h3⟩ h)]
        exact hno
    · simp only [h1, decide_false, Bool.false_eq_true, if_false]
      exact hno
theorem impl_NatShift_ev (a : List Int) (n : Int) (ha : Dig B64 a) (la : a.length ≤ 1048576) :
    ∃ r, Ev (fun k => impl_NatShift.f k a n) r ∧ IsNat r (if shOk a n then shN (val B64 a) n else 0) := by
  have hno : Ev (fun k => impl_NatShift.j0 k a n true) [] := Ev.step (f := fun _ => some []) (fun k => by simp [impl_NatShift.j0]) (Ev.now _)
  have ta := trimL_length a
  have hsh := short_one a (by omega)
  unfold impl_NatShift.f
  by_cases h : shOk a n
  · obtain ⟨h1, h2, h3⟩ := h
    rw [if_pos (show shOk a n from ⟨h1, h2, h3⟩)]
    simp only [h1, decide_true] at hsh
    by_cases h4 : n < 0
    · obtain ⟨m, hm⟩ : ∃ m : Nat, -n = (m : Int) := ⟨(-n).toNat, by omega⟩
      obtain ⟨r, hr, hd, hn, hv⟩ := iright_ev (trimL a) ha.trim (by omega) m (by omega)
      rw [val_trim] at hv
      refine ⟨r, Ev.bind hsh ?_, hd, hn, by rw [hv]; unfold shN; rw [if_neg (by omega), hm, Int.toNat_natCast]⟩
      simp only [if_true, if_neg h2, decide_eq_false h3]
      refine Ev.step (f := fun k => (impl_nat_shift.f k (trimL a) n).bind fun t453 => (some t453)) (fun k => by simp [impl_NatShift.j0]) (Ev.bind ?_ (Ev.now _))
      unfold impl_nat_shift.f
      simp only [if_pos h4]
      rw [wrap64_id (by omega), hm]
      exact Ev.bind hr (Ev.now _)
    · obtain ⟨m, rfl⟩ : ∃ m : Nat, n = (m : Int) := ⟨n.toNat, by omega⟩
      obtain ⟨r, hr, hd, hn, hv⟩ := ileft_ev (trimL a) ha.trim (by omega) m (by omega)
      rw [val_trim] at hv
      refine ⟨r, Ev.bind hsh ?_, hd, hn, by rw [hv]; unfold shN; rw [if_pos (by omega), Int.toNat_natCast]⟩
      simp only [if_true, if_neg h2, decide_eq_false h3]
      refine Ev.step (f := fun k => (impl_nat_shift.f k (trimL a) (m : Int)).bind fun t453 => (some t453)) (fun k => by simp [impl_NatShift.j0]) (Ev.bind ?_ (Ev.now _))
      unfold impl_nat_shift.f
      simp only [if_neg h4]
      exact Ev.bind hr (Ev.now _)
  · rw [if_neg h]
    refine ⟨[], Ev.bind hsh ?_, ⟨Dig.nil _, norm_nil, rfl⟩⟩
    by_cases h1 : a.length ≤ 1200
    · simp only [h1, decide_true, if_true]
      by_cases h2 : n > 80000
      · simp only [if_pos h2]
        exact hno
      · simp only [if_neg h2]
        rw [decide_eq_true (by
          rcases Decidable.em (n < -80000) with h3 | h3
          · exact h3
          · exact absurd ⟨h1, h2, h3⟩ h)]
        exact hno
    · simp only [h1, decide_false, Bool.false_eq_true, if_false]
      exact hno
end Go.Proofs.Ytkbkjmhkchagbaa.M
end
section
namespace Go.Proofs.Ytkbkjmhkchagbaa.Pure
open Go.RowKit Go.Proofs.Ytkbkjmhkchagbaa.G Go.Proofs.Ytkbkjmhkchagbaa.PA Go.Proofs.YtkbkjmhkchagbaaV.PrintWords Go.Proofs.YtkbkjmhkchagbaaV.PrintLast Go.Proofs.Ytkbkjmhkchagbaa.M
set_option linter.unusedVariables false
set_option linter.unusedSimpArgs false
theorem FnExactNatShift : laws_FnExactNatShift.Pure := by
  intro a n _ _ wa _
  refine Ev.rounds (g := fun k => laws_FnExactNatShift.f k a n) ?_
  have ha := wf_u64 wa
  unfold laws_FnExactNatShift.f
  by_cases h1 : (a.length : Int) > 1048576
  · simp only [if_pos h1]
    exact Ev.now _
  simp only [if_neg h1]
  have ta := toU_ev a (by omega)
  obtain ⟨r, hs, hr, hl⟩ := spec_NatShift_ev a n ha (by omega)
  obtain ⟨r', hi, hr'⟩ := impl_NatShift_ev a n ha (by omega)
  obtain rfl := hr.uniq hr'
  refine Ev.bind ta (Ev.bind hs (Ev.bind ta (Ev.bind hi (Ev.bind (eqU_same r (by omega)) ?_))))
  simp only [if_true]
  refine Ev.bind ta (Ev.bind (eqU_same a (by omega)) ?_)
  simp only [if_true]
  refine Ev.bind (mark_ev a 1 (by omega) (by omega)) ?_
  simp only [if_neg (show ¬ ((1 : Int) + a.length < 0) by omega)]
  refine Ev.bind (eqU_same r (by omega)) (Ev.step (fun k => by simp only [laws_FnExactNatShift.j0]; exact rfl) ?_)
  simp only [Bool.not_true, Bool.false_eq_true, if_false]
  refine Ev.bind (mark_ev r 1 (by omega) (by omega)) (Ev.bind (held_ev 1 r.length (by omega) (by omega)) ?_)
  simp only [if_neg (show ¬ ((1 : Int) + r.length < 0) by omega), if_true]
  refine Ev.bind ta (Ev.bind hi (Ev.bind (eqU_same r (by omega)) ?_))
  simp only [if_true]
  refine Ev.bind (held_ev 1 r.length (by omega) (by omega)) ?_
  simp only [if_neg (show ¬ ((1 : Int) + r.length < 0) by omega), if_true]
  exact Ev.now _
end Go.Proofs.Ytkbkjmhkchagbaa.Pure
end
