import Derived.IntWalk
import Derived.Test.YtkbkjmhkchagbaaQFnExactNatSubf
section
namespace Go.Proofs.Ytkbkjmhkchagbaa.M
open Go.RowKit Go.Proofs.Ytkbkjmhkchagbaa.G Go.Proofs.YtkbkjmhkchagbaaV.PrintWords Go.Proofs.YtkbkjmhkchagbaaV.PrintLast Go.Proofs.YtkbkjmhkchagbaaV.PrintMore
set_option linter.unusedVariables false
set_option linter.unusedSimpArgs false
def val (B : Nat) : List Int → Nat
  | [] => 0
  | x :: xs => x.toNat + B * val B xs
def Dig (B : Nat) (l : List Int) : Prop := ∀ x ∈ l, 0 ≤ x ∧ x < (B : Int)
def Norm (l : List Int) : Prop := trimL l = l
theorem val_cons (B : Nat) (x : Int) (l : List Int) : val B (x :: l) = x.toNat + B * val B l := rfl
theorem val_append (B : Nat) (a b : List Int) : val B (a ++ b) = val B a + B ^ a.length * val B b := by
  induction a with
  | nil => simp [val]
  | cons x a ih =>
    rw [List.cons_append, val_cons, val_cons, ih, List.length_cons, Nat.pow_succ, Nat.mul_add, Nat.add_assoc]
    congr 2
    rw [← Nat.mul_assoc, Nat.mul_comm B (B ^ a.length)]
theorem val_one (B : Nat) (x : Int) : val B [x] = x.toNat := by simp [val]
theorem val_snoc (B : Nat) (a : List Int) (x : Int) : val B (a ++ [x]) = val B a + B ^ a.length * x.toNat := by rw [val_append, val_one]
theorem Dig.nil (B : Nat) : Dig B [] := fun x h => by cases h
theorem Dig.cons {B : Nat} {x : Int} {l : List Int} (hx : 0 ≤ x ∧ x < (B : Int)) (h : Dig B l) : Dig B (x :: l) := by
  intro y hy
  rcases List.mem_cons.1 hy with rfl | hy
  · exact hx
  · exact h y hy
theorem Dig.append {B : Nat} {a b : List Int} (ha : Dig B a) (hb : Dig B b) : Dig B (a ++ b) := by
  intro y hy
  rcases List.mem_append.1 hy with hy | hy
  · exact ha y hy
  · exact hb y hy
theorem Dig.snoc {B : Nat} {a : List Int} {x : Int} (ha : Dig B a) (hx : 0 ≤ x ∧ x < (B : Int)) : Dig B (a ++ [x]) := ha.append (Dig.cons hx (Dig.nil B))
theorem Dig.take {B : Nat} {l : List Int} (h : Dig B l) (k : Nat) : Dig B (l.take k) := fun x hx => h x (List.mem_of_mem_take hx)
theorem Dig.drop {B : Nat} {l : List Int} (h : Dig B l) (k : Nat) : Dig B (l.drop k) := fun x hx => h x (List.mem_of_mem_drop hx)
theorem Dig.trim {B : Nat} {l : List Int} (h : Dig B l) : Dig B (trimL l) := by rw [trimL_eq_take]; exact h.take _
theorem Dig.set {B : Nat} {l : List Int} (h : Dig B l) (p : Nat) {x : Int} (hx : 0 ≤ x ∧ x < (B : Int)) : Dig B (l.set p x) := by
  intro y hy
  rcases List.mem_or_eq_of_mem_set hy with hy | rfl
  · exact h y hy
  · exact hx
theorem Dig.rd {B : Nat} {l : List Int} (h : Dig B l) (hB : 0 < B) (i : Int) : 0 ≤ rd l i ∧ rd l i < (B : Int) := by
  show 0 ≤ l.getD i.toNat 0 ∧ l.getD i.toNat 0 < (B : Int)
  rw [List.getD_eq_getElem?_getD]
  cases hg : l[i.toNat]? with
  | none => simp; omega
  | some x => exact h x (List.mem_of_getElem? hg)
theorem val_lt {B : Nat} {l : List Int} (h : Dig B l) : val B l < B ^ l.length := by
  induction l with
  | nil => simp [val]
  | cons x l ih =>
    have h1 := ih (fun y hy => h y (List.mem_cons_of_mem _ hy))
    have hx := h x (List.mem_cons_self)
    rw [val_cons, List.length_cons, Nat.pow_succ]
    have h2 : val B l + 1 ≤ B ^ l.length := h1
    have h3 : B * (val B l + 1) ≤ B * B ^ l.length := Nat.mul_le_mul_left B h2
    rw [Nat.mul_comm B (B ^ l.length), Nat.mul_add] at h3
    omega
theorem snoc_of {l : List Int} (h : 0 < l.length) : ∃ a x, l = a ++ [x] := by
  refine ⟨l.dropLast, l.getLast (by intro hn; rw [hn] at h; simp at h), ?_⟩
  exact (List.dropLast_concat_getLast _).symm
theorem val_snoc_zero (B : Nat) (a : List Int) : val B (a ++ [0]) = val B a := by rw [val_snoc]; simp
theorem val_trim (B : Nat) (l : List Int) : val B (trimL l) = val B l := by
  induction h : l.length generalizing l with
  | zero => rw [List.eq_nil_of_length_eq_zero h]; rfl
  | succ n ih =>
    obtain ⟨a, x, rfl⟩ : ∃ a x, l = a ++ [x] := snoc_of (by omega)
    by_cases hx : x = 0
    · subst hx
      rw [trimL_snoc_zero, val_snoc_zero]
      exact ih a (by simpa using h)
    · rw [trimL_snoc_ne _ _ hx]
theorem norm_trim (l : List Int) : Norm (trimL l) := trimL_idem l
theorem norm_nil : Norm [] := rfl
theorem norm_snoc {a : List Int} {x : Int} : Norm (a ++ [x]) ↔ x ≠ 0 := by
  constructor
  · intro h hx
    subst hx
    unfold Norm at h
    rw [trimL_snoc_zero] at h
    have h1 := trimL_length a
    rw [h] at h1
    simp at h1
    omega
  · exact fun h => trimL_snoc_ne _ _ h
theorem val_ge {B : Nat} {l : List Int} (hd : Dig B l) (h : Norm l) (hl : 0 < l.length) : B ^ (l.length - 1) ≤ val B l := by
  obtain ⟨a, x, rfl⟩ : ∃ a x, l = a ++ [x] := snoc_of hl
  have hx := norm_snoc.1 h
  have hx0 := hd x (by simp)
  rw [val_snoc, List.length_append, List.length_singleton, Nat.add_sub_cancel]
  have : B ^ a.length * 1 ≤ B ^ a.length * x.toNat := Nat.mul_le_mul_left _ (by omega)
  omega
theorem val_inj {B : Nat} : ∀ {a b : List Int}, Dig B a → Dig B b → a.length = b.length → val B a = val B b → a = b
  | [], [], _, _, _, _ => rfl
  | [], y :: b, _, _, h, _ => by simp at h
  | x :: a, [], _, _, h, _ => by simp at h
  | x :: a, y :: b, ha, hb, hl, hv => by
    have hx := ha x (by simp)
    have hy := hb y (by simp)
    rw [val_cons, val_cons] at hv
    have hm : (x.toNat + B * val B a) % B = (y.toNat + B * val B b) % B := by rw [hv]
    rw [Nat.add_mul_mod_self_left, Nat.add_mul_mod_self_left, Nat.mod_eq_of_lt (by omega), Nat.mod_eq_of_lt (by omega)] at hm
    have hB : 0 < B := by omega
    have hv2 : val B a = val B b := by
      have h2 : B * val B a = B * val B b := by omega
      exact Nat.eq_of_mul_eq_mul_left hB h2
    rw [val_inj (fun z hz => ha z (List.mem_cons_of_mem _ hz)) (fun z hz => hb z (List.mem_cons_of_mem _ hz)) (by simpa using hl) hv2, show x = y by omega]
theorem val_lt_of_length {B : Nat} (hB : 0 < B) {a b : List Int} (ha : Dig B a) (hb : Dig B b) (hn : Norm b) (hl : a.length < b.length) : val B a < val B b := by
  have h1 := val_lt ha
  have h2 := val_ge hb hn (by omega)
  have h3 : B ^ a.length ≤ B ^ (b.length - 1) := Nat.pow_le_pow_right hB (by omega)
  omega
theorem norm_inj {B : Nat} (hB : 0 < B) {a b : List Int} (ha : Dig B a) (hb : Dig B b) (na : Norm a) (nb : Norm b) (hv : val B a = val B b) : a = b := by
  rcases Nat.lt_trichotomy a.length b.length with h | h | h
  · have := val_lt_of_length hB ha hb nb h; omega
  · exact val_inj ha hb h hv
  · have := val_lt_of_length hB hb ha na h; omega
theorem rd_nat (l : List Int) (k : Nat) : rd l (k : Int) = l.getD k 0 := rfl
theorem rd_of_ge (l : List Int) (i : Int) (h : l.length ≤ i.toNat) : rd l i = 0 := by simp [rd, List.getD_eq_getElem?_getD, List.getElem?_eq_none h]
theorem rd_of_drop {l r : List Int} {x : Int} {i : Nat} (h : l.drop i = x :: r) : rd l (i : Int) = x := by
  have h2 : l[i]? = some x := by
    have := congrArg (fun m : List Int => m[0]?) h
    simpa [List.getElem?_drop] using this
  rw [rd_nat, List.getD_eq_getElem?_getD, h2]
  rfl
theorem drop_succ_of {l r : List Int} {x : Int} {i : Nat} (h : l.drop i = x :: r) : l.drop (i + 1) = r := by
  have := congrArg (List.drop 1) h
  rw [List.drop_drop] at this
  simpa using this
theorem rd_append_left (a b : List Int) (i : Int) (h : i.toNat < a.length) : rd (a ++ b) i = rd a i := by simp [rd, List.getElem?_append_left h]
theorem val_take_succ (B : Nat) (l : List Int) (k : Nat) : val B (l.take (k + 1)) = val B (l.take k) + B ^ k * (rd l (k : Int)).toNat := by
  rcases Nat.lt_or_ge k l.length with h | h
  · rw [take_snoc_rd l k h, val_snoc, List.length_take, Nat.min_eq_left (Nat.le_of_lt h)]
  · rw [rd_of_ge l k (by simpa using h), List.take_of_length_le (by omega), List.take_of_length_le h]
    simp
theorem val_take_all (B : Nat) (l : List Int) (k : Nat) (h : l.length ≤ k) : val B (l.take k) = val B l := by rw [List.take_of_length_le h]
theorem val_split (B : Nat) (l : List Int) (k : Nat) (h : k ≤ l.length) : val B l = val B (l.take k) + B ^ k * val B (l.drop k) := by
  have := val_append B (l.take k) (l.drop k)
  rw [List.take_append_drop, List.length_take, Nat.min_eq_left h] at this
  exact this
theorem wrap64_id {n : Int} (h : -9223372036854775808 ≤ n ∧ n ≤ 9223372036854775807) : wrap64 n = n := by unfold wrap64; omega
theorem wrap_u64 (n : Int) : IntKind.u64.wrap n = n % 18446744073709551616 := by simp [IntKind.wrap, IntKind.bits, IntKind.signed]
theorem wrap_u64_id {n : Int} (h : 0 ≤ n ∧ n < 18446744073709551616) : IntKind.u64.wrap n = n := by rw [wrap_u64]; omega
theorem wraps_u64 (n : Int) (h₀ : 0 ≤ n) (h₁ : n < 2 ^ 64) : IntKind.u64.wrap n = n := wrap_u64_id ⟨h₀, by simpa using h₁⟩
theorem and_mask (i : Nat) (hi : i ≤ 64) (x : Int) (h₀ : 0 ≤ x) (h₁ : x < 18446744073709551616) : bits .and .u64 x (2 ^ i - 1) = x % 2 ^ i :=
  bits_mask .u64 64 (by decide) wraps_u64 i hi x h₀ (by simpa using h₁)
theorem and_low32 (x : Int) (h₀ : 0 ≤ x) (h₁ : x < 18446744073709551616) : bits .and .u64 x 4294967295 = x % 4294967296 := by
  simpa using and_mask 32 (by decide) x h₀ h₁
theorem or_join (i : Nat) (x y : Int) (hx₀ : 0 ≤ x) (hx : x % 2 ^ i = 0) (hx₁ : x < 18446744073709551616) (hy₀ : 0 ≤ y) (hy : y < 2 ^ i) (hy₁ : y < 18446744073709551616) : bits .or .u64 x y = x + y :=
  bits_join .u64 64 (by decide) wraps_u64 i x y hx₀ hx (by simpa using hx₁) hy₀ hy (by simpa using hy₁)
theorem bits_or_comm (x y : Int) : bits .or .u64 x y = bits .or .u64 y x := by simp [bits, BitVec.or_comm]
theorem or_join' (i : Nat) (x y : Int) (hy₀ : 0 ≤ y) (hy : y % 2 ^ i = 0) (hy₁ : y < 18446744073709551616) (hx₀ : 0 ≤ x) (hx : x < 2 ^ i) (hx₁ : x < 18446744073709551616) : bits .or .u64 x y = x + y := by
  rw [bits_or_comm, or_join i y x hy₀ hy hy₁ hx₀ hx hx₁, Int.add_comm]
theorem ev_const {α : Type} {g : Option α} {r : α} (h : g = some r) : Ev (fun _ => g) r := ⟨0, fun _ _ => h⟩
theorem ev_to {α : Type} {g : Nat → Option α} {r r' : α} (h : Ev g r) (e : r = r') : Ev g r' := e ▸ h
end Go.Proofs.Ytkbkjmhkchagbaa.M
end
section
namespace Go.Proofs.Ytkbkjmhkchagbaa.M
open Go.RowKit Go.Proofs.Ytkbkjmhkchagbaa.G Go.Proofs.YtkbkjmhkchagbaaV.PrintWords Go.Proofs.YtkbkjmhkchagbaaV.PrintLast Go.Proofs.YtkbkjmhkchagbaaV.PrintMore Go.Proofs.Ytkbkjmhkchagbaa.PA
set_option linter.unusedVariables false
set_option linter.unusedSimpArgs false
theorem set_fill (l : List Int) (i : Nat) (h : i < l.length) : (l.take i ++ List.replicate (l.length - i) 0).set i (rd l (i : Int)) = l.take (i + 1) ++ List.replicate (l.length - (i + 1)) 0 := by
  obtain ⟨m, hm⟩ : ∃ m, l.length - i = m + 1 := ⟨l.length - i - 1, by omega⟩
  have hl : (l.take i).length = i := by rw [List.length_take]; omega
  rw [hm, show l.length - (i + 1) = m by omega, List.replicate_succ, take_snoc_rd l i h]
  rw [List.set_append_right _ _ (by omega), hl, Nat.sub_self]
  simp
theorem toU_loop (l : List Int) (hl : l.length ≤ 1073741824) (d : Nat) : ∀ i : Nat, i + d = l.length →
    Ev (fun k => laws_toUint64S.l0 k l (l.take i ++ List.replicate (l.length - i) 0) (i : Int)) l := by
  induction d with
  | zero =>
    intro i hi
    refine Ev.step (f := fun _ => some l) (fun k => ?_) (Ev.now l)
    have h1 : ¬ ((i : Int) < (l.length : Int)) := by omega
    simp only [laws_toUint64S.l0]
    rw [if_neg h1, show l.length - i = 0 by omega, List.take_of_length_le (by omega)]
    simp
  | succ d ih =>
    intro i hi
    refine Ev.step (fun k => ?_) (ih (i + 1) (by omega))
    have hxl : (l.take i ++ List.replicate (l.length - i) 0).length = l.length := by simp; omega
    simp only [laws_toUint64S.l0]
    rw [if_pos (by omega), if_pos (by omega), if_pos (by rw [hxl]; omega), Int.toNat_natCast, set_fill l i (by omega), wrap64_id (by omega)]
    rfl
theorem toU_ev (l : List Int) (hl : l.length ≤ 1073741824) : Ev (fun k => laws_toUint64S.f k l) l := by
  refine Ev.congr (fun k => ?_) (toU_loop l hl l.length 0 (by omega))
  unfold laws_toUint64S.f
  rw [if_pos (by omega), if_pos (by simp; omega)]
  simp
theorem eqU_loop (a b : List Int) (hl : a.length = b.length) (hm : a.length ≤ 1073741824) (d : Nat) : ∀ i : Nat, i + d = a.length → a.take i = b.take i →
    Ev (fun k => laws_eqUint64S.l0 k a b (i : Int)) (decide (a = b)) := by
  induction d with
  | zero =>
    intro i hi he
    refine Ev.step (f := fun _ => some (decide (a = b))) (fun k => ?_) (Ev.now _)
    simp only [laws_eqUint64S.l0]
    rw [if_neg (by omega)]
    rw [List.take_of_length_le (by omega), List.take_of_length_le (by omega)] at he
    simp [he]
  | succ d ih =>
    intro i hi he
    by_cases h : rd a (i : Int) = rd b (i : Int)
    · refine Ev.step (fun k => ?_) (ih (i + 1) (by omega) (by rw [take_snoc_rd a i (by omega), take_snoc_rd b i (by omega), he, h]))
      simp only [laws_eqUint64S.l0]
      rw [if_pos (by omega), if_pos (by omega), if_pos (by omega), if_pos h, wrap64_id (by omega)]
      rfl
    · refine Ev.step (f := fun _ => some (decide (a = b))) (fun k => ?_) (Ev.now _)
      simp only [laws_eqUint64S.l0]
      rw [if_pos (by omega), if_pos (by omega), if_pos (by omega), if_neg h]
      have : a ≠ b := fun e => h (by rw [e])
      simp [this]
theorem eqU_ev (a b : List Int) (hm : a.length ≤ 1073741824) : Ev (fun k => laws_eqUint64S.f k a b) (decide (a = b)) := by
  by_cases h : a.length = b.length
  · refine Ev.congr (fun k => ?_) (eqU_loop a b h hm a.length 0 (by omega) (by simp))
    unfold laws_eqUint64S.f
    rw [if_pos (by omega)]
    rfl
  · refine Ev.congr (f := fun _ => some (decide (a = b))) (fun k => ?_) (Ev.now _)
    unfold laws_eqUint64S.f
    rw [if_neg (by omega)]
    have : a ≠ b := fun e => h (by rw [e])
    simp [this]
theorem eqU_same (a : List Int) (hm : a.length ≤ 1073741824) : Ev (fun k => laws_eqUint64S.f k a a) true := ev_to (eqU_ev a a hm) (by simp)
def marks (m : Int) : Nat → List Int
  | 0 => []
  | n + 1 => marks m n ++ [IntKind.u64.wrap (m + n)]
theorem marks_length (m : Int) (n : Nat) : (marks m n).length = n := by
  induction n with
  | zero => rfl
  | succ n ih => rw [marks, List.length_append, ih]; rfl
theorem marks_rd (m : Int) (n i : Nat) (h : i < n) : rd (marks m n) (i : Int) = IntKind.u64.wrap (m + i) := by
  induction n with
  | zero => omega
  | succ n ih =>
    rw [marks]
    rcases Nat.lt_or_ge i n with h1 | h1
    · rw [rd_append_left _ _ _ (by rw [marks_length]; simpa using h1), ih h1]
    · obtain rfl : i = n := by omega
      simp [rd_nat, marks_length, List.getD_eq_getElem?_getD]
theorem mark_loop (m : Int) (hm : 0 ≤ m) (d : Nat) : ∀ (i : Nat) (rest : List Int), rest.length = d → m + i + d ≤ 4611686018427387904 →
    Ev (fun k => laws_markUint64S.l0 k (marks m i ++ rest) (m + i) (i : Int)) (m + (i + d : Nat), marks m (i + d)) := by
  induction d with
  | zero =>
    intro i rest hr hb
    refine Ev.step (f := fun _ => some (m + i, marks m i)) (fun k => ?_) (Ev.now _)
    simp only [laws_markUint64S.l0]
    have hl : (marks m i ++ rest).length = i := by rw [List.length_append, marks_length, hr]; rfl
    rw [if_neg (by rw [hl]; omega), List.eq_nil_of_length_eq_zero hr, List.append_nil]
  | succ d ih =>
    intro i rest hr hb
    obtain ⟨x, rest, rfl⟩ : ∃ x r, rest = x :: r := by cases rest with | nil => simp at hr | cons x r => exact ⟨x, r, rfl⟩
    have h2 := ih (i + 1) rest (by simpa using hr) (by omega)
    refine Ev.step (fun k => ?_) (ev_to h2 (by rw [show i + 1 + d = i + (d + 1) by omega]))
    simp only [laws_markUint64S.l0]
    have hl : (marks m i ++ x :: rest).length = i + (rest.length + 1) := by rw [List.length_append, marks_length]; rfl
    rw [if_pos (by rw [hl]; omega), if_pos (by omega), Int.toNat_natCast]
    rw [List.set_append_right _ _ (by rw [marks_length]; omega), marks_length, Nat.sub_self, List.set_cons_zero, wrap64_id (by omega), wrap64_id (by omega)]
    rw [marks, List.append_assoc]
    congr 1
    omega
theorem mark_ev (l : List Int) (m : Int) (hm : 0 ≤ m) (hb : m + l.length ≤ 4611686018427387904) : Ev (fun k => laws_markUint64S.f k l m) (m + l.length, marks m l.length) := by
  have h := mark_loop m hm l.length 0 l rfl (by omega)
  refine Ev.congr (fun k => ?_) (ev_to h (by simp))
  unfold laws_markUint64S.f
  simp [marks]
theorem held_loop (m : Int) (n : Nat) (hm : 0 ≤ m) (hb : m + n ≤ 4611686018427387904) (d : Nat) : ∀ i : Nat, i + d = n →
    Ev (fun k => laws_heldUint64S.l0 k (marks m n) (m + i) (i : Int)) (m + n) := by
  induction d with
  | zero =>
    intro i hi
    refine Ev.step (f := fun _ => some (m + n)) (fun k => ?_) (Ev.now _)
    simp only [laws_heldUint64S.l0]
    rw [if_neg (by rw [marks_length]; omega), show i = n by omega]
  | succ d ih =>
    intro i hi
    refine Ev.step (fun k => ?_) (ih (i + 1) (by omega))
    simp only [laws_heldUint64S.l0]
    rw [if_pos (by rw [marks_length]; omega), if_pos (by omega), if_pos (marks_rd m n i (by omega)), wrap64_id (by omega), wrap64_id (by omega)]
    congr 1
    omega
theorem held_ev (m : Int) (n : Nat) (hm : 0 ≤ m) (hb : m + n ≤ 4611686018427387904) : Ev (fun k => laws_heldUint64S.f k (marks m n) m) (m + n) := by
  have h := held_loop m n hm hb n 0 (by omega)
  refine Ev.congr (fun k => ?_) h
  unfold laws_heldUint64S.f
  simp
end Go.Proofs.Ytkbkjmhkchagbaa.M
end
section
namespace Go.Proofs.Ytkbkjmhkchagbaa.M
open Go.RowKit Go.Proofs.Ytkbkjmhkchagbaa.G Go.Proofs.YtkbkjmhkchagbaaV.PrintWords Go.Proofs.YtkbkjmhkchagbaaV.PrintLast Go.Proofs.YtkbkjmhkchagbaaV.PrintMore Go.Proofs.Ytkbkjmhkchagbaa.PA
set_option linter.unusedVariables false
set_option linter.unusedSimpArgs false
def B32 : Nat := 4294967296
def B64 : Nat := 18446744073709551616
theorem B32_pos : 0 < B32 := by unfold B32; omega
theorem B64_pos : 0 < B64 := by unfold B64; omega
theorem fits_eq (l : List Int) : spec_l1Fits.f l = some (decide (l.length ≤ 1200)) := by
  unfold spec_l1Fits.f
  simp
  omega
theorem at_eq (l : List Int) (i : Int) (h : 0 ≤ i) : spec_l1At.f l i = some (rd l i) := by
  unfold spec_l1At.f
  by_cases h1 : i < (l.length : Int)
  · rw [if_pos h1, if_pos h]
  · rw [if_neg h1, rd_of_ge l i (by omega)]
theorem trim_eq (l : List Int) (h : l.length ≤ 35184372088832) : spec_l1Trim.f l = some (trimL l) := by
  unfold spec_l1Trim.f
  rw [if_pos h]
def d32 : List Int → List Int
  | [] => []
  | x :: l => x % 4294967296 :: x / 4294967296 :: d32 l
theorem d32_append (a b : List Int) : d32 (a ++ b) = d32 a ++ d32 b := by
  induction a with
  | nil => rfl
  | cons x a ih => simp [d32, ih]
theorem d32_length (l : List Int) : (d32 l).length = 2 * l.length := by
  induction l with
  | nil => rfl
  | cons x l ih => simp only [d32, List.length_cons, ih]; omega
theorem d32_dig {l : List Int} (h : Dig B64 l) : Dig B32 (d32 l) := by
  induction l with
  | nil => exact Dig.nil _
  | cons x l ih =>
    have hx := h x (by simp)
    unfold B64 at hx
    refine Dig.cons ?_ (Dig.cons ?_ (ih (fun y hy => h y (List.mem_cons_of_mem _ hy)))) <;> unfold B32 <;> omega
theorem d32_val {l : List Int} (h : Dig B64 l) : val B32 (d32 l) = val B64 l := by
  induction l with
  | nil => rfl
  | cons x l ih =>
    have hx := h x (by simp)
    have ih := ih (fun y hy => h y (List.mem_cons_of_mem _ hy))
    simp only [d32, val_cons, ih]
    unfold B64 at hx
    unfold B32 B64
    omega
def inL (l : List Int) : List Int := trimL (d32 l)
theorem inL_dig {l : List Int} (h : Dig B64 l) : Dig B32 (inL l) := (d32_dig h).trim
theorem inL_val {l : List Int} (h : Dig B64 l) : val B32 (inL l) = val B64 l := by unfold inL; rw [val_trim, d32_val h]
theorem inL_length (l : List Int) : (inL l).length ≤ 2 * l.length := by
  unfold inL
  have := trimL_length (d32 l)
  rw [d32_length] at this
  exact this
theorem in_loop (l : List Int) (hd : Dig B64 l) (hl : l.length ≤ 1073741824) (d : Nat) : ∀ i : Nat, i + d = l.length →
    Ev (fun k => spec_l1In.l0 k (d32 (l.take i)) l (l.length : Int) (i : Int)) (inL l) := by
  induction d with
  | zero =>
    intro i hi
    refine Ev.step (f := fun _ => some (inL l)) (fun k => ?_) (Ev.now _)
    simp only [spec_l1In.l0]
    rw [if_neg (by omega), List.take_of_length_le (by omega), trim_eq _ (by rw [d32_length]; omega)]
    rfl
  | succ d ih =>
    intro i hi
    have hx := hd.rd B64_pos (i : Int)
    refine Ev.step (fun k => ?_) (ih (i + 1) (by omega))
    have hlen : (d32 (l.take i)).length = 2 * i := by rw [d32_length, List.length_take]; omega
    unfold B64 at hx
    simp only [spec_l1In.l0]
    rw [if_pos (by omega), if_pos (by omega), if_pos (by omega)]
    simp only [Option.bind_some]
    rw [if_pos (by rw [hlen]; simp; omega), and_low32 _ hx.1 (by omega), wrap64_id (by omega), take_snoc_rd l i (by omega), d32_append]
    rfl
theorem in_ev (l : List Int) (hd : Dig B64 l) (hl : l.length ≤ 1073741824) : Ev (fun k => spec_l1In.f k l) (inL l) := in_loop l hd hl l.length 0 (by omega)
def outL : List Int → List Int
  | [] => []
  | [x] => [x]
  | x :: y :: l => (x + y * 4294967296) :: outL l
theorem outL_length : ∀ l : List Int, (outL l).length ≤ l.length
  | [] => Nat.le_refl _
  | [x] => Nat.le_refl _
  | x :: y :: l => by have := outL_length l; simp only [outL, List.length_cons]; omega
theorem outL_dig : ∀ {l : List Int}, Dig B32 l → Dig B64 (outL l)
  | [], _ => Dig.nil _
  | [x], h => by
    have hx := h x (by simp)
    unfold B32 at hx
    exact Dig.cons (by unfold B64; omega) (Dig.nil _)
  | x :: y :: l, h => by
    have hx := h x (by simp)
    have hy := h y (by simp)
    unfold B32 at hx hy
    exact Dig.cons (by unfold B64; omega) (outL_dig (fun z hz => h z (List.mem_cons_of_mem _ (List.mem_cons_of_mem _ hz))))
theorem outL_val : ∀ {l : List Int}, Dig B32 l → val B64 (outL l) = val B32 l
  | [], _ => rfl
  | [x], h => by simp [outL, val]
  | x :: y :: l, h => by
    have hx := h x (by simp)
    have hy := h y (by simp)
    have ih := outL_val (l := l) (fun z hz => h z (List.mem_cons_of_mem _ (List.mem_cons_of_mem _ hz)))
    simp only [outL, val_cons, ih]
    unfold B32 at hx hy
    unfold B32 B64
    omega
theorem norm_iff (l : List Int) : Norm l ↔ ∀ h : l ≠ [], l.getLast h ≠ 0 := by
  rcases Nat.eq_zero_or_pos l.length with h | h
  · have := List.eq_nil_of_length_eq_zero h
    subst this
    exact ⟨fun _ h => absurd rfl h, fun _ => rfl⟩
  · obtain ⟨a, x, rfl⟩ := snoc_of h
    rw [norm_snoc]
    simp
theorem outL_norm : ∀ {l : List Int}, Dig B32 l → Norm l → Norm (outL l)
  | [], _, _ => norm_nil
  | [x], _, h => h
  | [x, y], hd, h => by
    have hx := hd x (by simp)
    have h2 := (norm_iff _).1 h (by simp)
    simp at h2
    have hy := hd y (by simp)
    refine (norm_iff _).2 (fun _ => ?_)
    simp [outL]
    omega
  | x :: y :: z :: l, hd, h => by
    have h2 : Norm (z :: l) := by
      rw [norm_iff] at h ⊢
      intro hn
      have := h (by simp)
      simpa using this
    have ih := outL_norm (l := z :: l) (fun w hw => hd w (List.mem_cons_of_mem _ (List.mem_cons_of_mem _ hw))) h2
    rw [norm_iff] at ih ⊢
    intro hn
    have hne : outL (z :: l) ≠ [] := by cases l <;> simp [outL]
    have := ih hne
    simp only [outL]
    rw [List.getLast_cons hne]
    exact this
theorem out_loop (l : List Int) (hd : Dig B32 l) (hl : l.length ≤ 4294967296) (n : Nat) : ∀ (i : Nat) (acc rest : List Int), rest.length ≤ n → l.drop i = rest → i ≤ l.length → acc.length ≤ i →
    Ev (fun k => spec_l1Out.l0 k l acc (i : Int)) (acc ++ outL rest) := by
  induction n with
  | zero =>
    intro i acc rest hn hr hi ha
    have h0 : rest = [] := List.eq_nil_of_length_eq_zero (by omega)
    subst h0
    have hlen := congrArg List.length hr
    rw [List.length_drop] at hlen
    refine Ev.step (f := fun _ => some (acc ++ outL [])) (fun k => ?_) (Ev.now _)
    simp only [spec_l1Out.l0]
    rw [if_neg (by simp at hlen; omega)]
    simp [outL]
  | succ n ih =>
    intro i acc rest hn hr hi ha
    match rest, hn, hr with
    | [], hn, hr => exact ih i acc [] (by simp) hr hi ha
    | [x], hn, hr =>
      have hlen := congrArg List.length hr
      rw [List.length_drop] at hlen
      simp at hlen
      have hx : rd l (i : Int) = x := rd_of_drop hr
      refine Ev.step (f := fun k => spec_l1Out.l0 k l (acc ++ [x]) ((i + 2 : Nat) : Int)) (fun k => ?_) (Ev.step (f := fun _ => some (acc ++ outL [x])) (fun k => ?_) (Ev.now _))
      · simp only [spec_l1Out.l0]
        rw [if_pos (by omega), if_pos (by omega), wrap64_id (by omega), if_neg (by omega), if_pos (by omega), wrap64_id (by omega), hx]
        rfl
      · simp only [spec_l1Out.l0]
        rw [if_neg (by omega)]
        simp [outL]
    | x :: y :: r, hn, hr =>
      have hlen := congrArg List.length hr
      rw [List.length_drop] at hlen
      simp at hlen
      have hx : rd l (i : Int) = x := rd_of_drop hr
      have hy : rd l ((i : Int) + 1) = y := rd_of_drop (i := i + 1) (drop_succ_of hr)
      have hr2 : l.drop (i + 2) = r := drop_succ_of (drop_succ_of hr)
      have dx := hd.rd B32_pos (i : Int)
      have dy := hd.rd B32_pos ((i : Int) + 1)
      rw [hx] at dx
      rw [hy] at dy
      unfold B32 at dx dy
      have hor : bits .or .u64 x (IntKind.u64.wrap (y * 4294967296)) = x + y * 4294967296 := by
        rw [wrap_u64_id (by omega)]
        exact or_join' 32 x (y * 4294967296) (by omega) (by simp) (by omega) (by omega) (by simp; omega) (by omega)
      have hrl : r.length ≤ n := by simp at hn; omega
      refine Ev.step (fun k => ?_) (ev_to (ih (i + 2) (acc ++ [x + y * 4294967296]) r hrl hr2 (by omega) (by simp; omega)) (by simp [outL]))
      simp only [spec_l1Out.l0]
      rw [if_pos (by omega), if_pos (by omega), wrap64_id (by omega), if_pos (by omega), if_pos (by omega), if_pos (by omega), wrap64_id (by omega), hx, hy, hor]
      rfl
theorem out_ev (l : List Int) (hd : Dig B32 l) (hl : l.length ≤ 4294967296) : Ev (fun k => spec_l1Out.f k l) (outL l) := by
  have h := out_loop l hd hl l.length 0 [] l (Nat.le_refl _) rfl (by omega) (by simp)
  unfold spec_l1Out.f
  simpa using h
def cmpN (x y : Nat) : Int := if x < y then -1 else if x > y then 1 else 0
theorem cmp_loop (a b : List Int) (ha : Dig B32 a) (hb : Dig B32 b) (i : Nat) (hi : i ≤ 1073741824) :
    Ev (fun k => spec_l1Cmp.l0 k a b ((i : Int) - 1)) (cmpN (val B32 (a.take i)) (val B32 (b.take i))) := by
  induction i with
  | zero =>
    refine Ev.step (f := fun _ => some (cmpN 0 0)) (fun k => ?_) (Ev.now _)
    simp only [spec_l1Cmp.l0]
    rw [if_neg (by omega)]
    rfl
  | succ i ih =>
    have e : (((i + 1 : Nat) : Int) - 1) = (i : Int) := by omega
    rw [e]
    have dx := ha.rd B32_pos (i : Int)
    have dy := hb.rd B32_pos (i : Int)
    have hva := val_lt (ha.take i)
    have hvb := val_lt (hb.take i)
    have hpa : B32 ^ (a.take i).length ≤ B32 ^ i := Nat.pow_le_pow_right B32_pos (by rw [List.length_take]; omega)
    have hpb : B32 ^ (b.take i).length ≤ B32 ^ i := Nat.pow_le_pow_right B32_pos (by rw [List.length_take]; omega)
    rw [val_take_succ B32 a i, val_take_succ B32 b i]
    generalize val B32 (a.take i) = va at *
    generalize val B32 (b.take i) = vb at *
    generalize B32 ^ i = P at *
    by_cases h1 : rd a (i : Int) < rd b (i : Int)
    · have h2 : P * ((rd a (i : Int)).toNat + 1) ≤ P * (rd b (i : Int)).toNat := Nat.mul_le_mul_left _ (by omega)
      rw [Nat.mul_add] at h2
      refine Ev.step (f := fun _ => some (-1)) (fun k => ?_) (ev_to (Ev.now (-1)) (by unfold cmpN; rw [if_pos (by omega)]))
      simp only [spec_l1Cmp.l0]
      rw [if_pos (by omega), at_eq _ _ (by omega), at_eq _ _ (by omega)]
      simp only [Option.bind_some]
      rw [if_pos h1]
    · by_cases h3 : rd a (i : Int) > rd b (i : Int)
      · have h2 : P * ((rd b (i : Int)).toNat + 1) ≤ P * (rd a (i : Int)).toNat := Nat.mul_le_mul_left _ (by omega)
        rw [Nat.mul_add] at h2
        refine Ev.step (f := fun _ => some 1) (fun k => ?_) (ev_to (Ev.now 1) (by unfold cmpN; rw [if_neg (by omega), if_pos (by omega)]))
        simp only [spec_l1Cmp.l0]
        rw [if_pos (by omega), at_eq _ _ (by omega), at_eq _ _ (by omega)]
        simp only [Option.bind_some]
        rw [if_neg h1, if_pos h3]
      · have h4 : rd a (i : Int) = rd b (i : Int) := by omega
        refine Ev.step (fun k => ?_) (ev_to (ih (by omega)) (by unfold cmpN; rw [h4]; simp))
        simp only [spec_l1Cmp.l0]
        rw [if_pos (by omega), at_eq _ _ (by omega), at_eq _ _ (by omega)]
        simp only [Option.bind_some]
        rw [if_neg h1, if_neg h3, wrap64_id (by omega)]
theorem cmp_ev (a b : List Int) (ha : Dig B32 a) (hb : Dig B32 b) (la : a.length ≤ 1073741824) (lb : b.length ≤ 1073741824) : Ev (fun k => spec_l1Cmp.f k a b) (cmpN (val B32 a) (val B32 b)) := by
  unfold spec_l1Cmp.f
  by_cases h : (b.length : Int) > (a.length : Int)
  · simp only [if_pos h]
    have h1 := cmp_loop a b ha hb b.length (by omega)
    rw [val_take_all _ a _ (by omega), val_take_all _ b _ (by omega)] at h1
    refine Ev.step (fun k => ?_) h1
    simp only [spec_l1Cmp.j0]
    rw [wrap64_id (by omega)]
  · simp only [if_neg h]
    have h1 := cmp_loop a b ha hb a.length (by omega)
    rw [val_take_all _ a _ (by omega), val_take_all _ b _ (by omega)] at h1
    refine Ev.step (fun k => ?_) h1
    simp only [spec_l1Cmp.j0]
    rw [wrap64_id (by omega)]
end Go.Proofs.Ytkbkjmhkchagbaa.M
end
section
namespace Go.Proofs.Ytkbkjmhkchagbaa.M
open Go.RowKit Go.Proofs.Ytkbkjmhkchagbaa.G Go.Proofs.YtkbkjmhkchagbaaV.PrintWords Go.Proofs.YtkbkjmhkchagbaaV.PrintLast Go.Proofs.YtkbkjmhkchagbaaV.PrintMore Go.Proofs.Ytkbkjmhkchagbaa.PA
set_option linter.unusedVariables false
set_option linter.unusedSimpArgs false
theorem ssub_loop (a b : List Int) (ha : Dig B32 a) (hb : Dig B32 b) (hm : a.length ≤ 1073741824) (d : Nat) : ∀ (i : Nat) (acc : List Int) (c : Int), i + d = a.length → acc.length = i → Dig B32 acc → 0 ≤ c ∧ c ≤ 1 →
    val B32 acc + val B32 (b.take i) = val B32 (a.take i) + B32 ^ i * c.toNat →
    ∃ (r : List Int) (c' : Int), Ev (fun k => spec_l1Sub.l0 k a b acc c (i : Int)) (trimL r) ∧ Dig B32 r ∧ r.length = a.length ∧ 0 ≤ c' ∧ c' ≤ 1 ∧ val B32 r + val B32 (b.take a.length) = val B32 a + B32 ^ a.length * c'.toNat := by
  induction d with
  | zero =>
    intro i acc c hi hac hd hc hv
    refine ⟨acc, c, Ev.step (f := fun _ => some (trimL acc)) (fun k => ?_) (Ev.now _), hd, by omega, hc.1, hc.2, ?_⟩
    · simp only [spec_l1Sub.l0]
      rw [if_neg (by omega), trim_eq _ (by omega)]
      rfl
    · rw [show a.length = i by omega, hv, val_take_all _ a _ (by omega)]
  | succ d ih =>
    intro i acc c hi hac hd hc hv
    have dx := ha.rd B32_pos (i : Int)
    have dy := hb.rd B32_pos (i : Int)
    have hb32 : (B32 : Int) = 4294967296 := rfl
    have hb32n : B32 = 4294967296 := rfl
    have hsum : ((4294967296 + rd a (i : Int) - rd b (i : Int) - c) % 4294967296).toNat + (rd b (i : Int)).toNat + c.toNat = (rd a (i : Int)).toNat + B32 * (1 - (4294967296 + rd a (i : Int) - rd b (i : Int) - c) / 4294967296).toNat := by
      rw [hb32n]
      omega
    obtain ⟨r, c', hr, h2⟩ := ih (i + 1) (acc ++ [(4294967296 + rd a (i : Int) - rd b (i : Int) - c) % 4294967296]) (1 - (4294967296 + rd a (i : Int) - rd b (i : Int) - c) / 4294967296) (by omega) (by simp [hac]) (hd.snoc (by omega)) (by omega) (by
      rw [val_snoc, hac, val_take_succ, val_take_succ, Nat.pow_succ, Nat.mul_assoc]
      have h3 := congrArg (B32 ^ i * ·) hsum
      simp only [Nat.mul_add] at h3
      omega)
    refine ⟨r, c', Ev.step (fun k => ?_) hr, h2⟩
    simp only [spec_l1Sub.l0]
    rw [if_pos (by omega), if_pos (by omega), at_eq _ _ (by omega)]
    simp only [Option.bind_some]
    rw [if_pos (by omega), wrap_u64_id (n := 4294967296 + rd a (i : Int)) (by omega), wrap_u64_id (n := 4294967296 + rd a (i : Int) - rd b (i : Int)) (by omega), wrap_u64_id (n := 4294967296 + rd a (i : Int) - rd b (i : Int) - c) (by omega), and_low32 _ (by omega) (by omega), wrap64_id (by omega), wrap_u64_id (by omega)]
    rfl
theorem ssub_ev (a b : List Int) (ha : Dig B32 a) (hb : Dig B32 b) (la : a.length ≤ 1073741824) (h : val B32 b ≤ val B32 a) :
    ∃ r, Ev (fun k => spec_l1Sub.f k a b) r ∧ Dig B32 r ∧ Norm r ∧ val B32 r = val B32 a - val B32 b ∧ r.length ≤ a.length := by
  obtain ⟨r, c, hr, h1, h2, h3, h4, h5⟩ := ssub_loop a b ha hb la a.length 0 [] 0 (by omega) rfl (Dig.nil _) (by omega) (by simp [val])
  have hva := val_lt ha
  have hvr := val_lt h1
  rw [h2] at hvr
  have hbt : val B32 (b.take a.length) = val B32 b := by
    rcases Nat.lt_or_ge b.length a.length with hl | hl
    · rw [val_take_all _ _ _ (by omega)]
    · have hs := val_split B32 b a.length hl
      have h0 : val B32 (b.drop a.length) = 0 := by
        rcases Nat.eq_zero_or_pos (val B32 (b.drop a.length)) with h6 | h6
        · exact h6
        · have : B32 ^ a.length * 1 ≤ B32 ^ a.length * val B32 (b.drop a.length) := Nat.mul_le_mul_left _ h6
          omega
      rw [h0] at hs
      omega
  rw [hbt] at h5
  have hc : c = 0 := by
    rcases (show c = 0 ∨ c = 1 by omega) with hc | hc
    · exact hc
    · rw [hc] at h5
      simp at h5
      omega
  rw [hc] at h5
  refine ⟨trimL r, hr, h1.trim, norm_trim _, ?_, ?_⟩
  · rw [val_trim]
    simp at h5
    omega
  · have := trimL_length r
    omega
end Go.Proofs.Ytkbkjmhkchagbaa.M
end
section
namespace Go.Proofs.Ytkbkjmhkchagbaa.M
open Go.RowKit Go.Proofs.Ytkbkjmhkchagbaa.G Go.Proofs.YtkbkjmhkchagbaaV.PrintWords Go.Proofs.YtkbkjmhkchagbaaV.PrintLast Go.Proofs.YtkbkjmhkchagbaaV.PrintMore Go.Proofs.Ytkbkjmhkchagbaa.PA
set_option linter.unusedVariables false
set_option linter.unusedSimpArgs false
theorem short_two (a b : List Int) (ha : a.length ≤ 1073741824) (hb : b.length ≤ 1073741824) : Ev (fun k => impl_short.f k [a, b]) (decide (a.length ≤ 1200) && decide (b.length ≤ 1200)) := by
  refine ⟨4, fun k hk => ?_⟩
  obtain ⟨k, rfl⟩ : ∃ m, k = m + 3 := ⟨k - 3, by omega⟩
  have w1 : wrap64 1 = 1 := by unfold wrap64; omega
  have w2 : wrap64 2 = 2 := by unfold wrap64; omega
  have r0 : rd_L1 [a, b] 0 = a := rfl
  have r1 : rd_L1 [a, b] 1 = b := rfl
  unfold impl_short.f
  simp only [List.length_cons, List.length_nil]
  by_cases h1 : a.length ≤ 1200
  · have n1 : ¬ ((a.length : Int) > 1200) := by omega
    by_cases h2 : b.length ≤ 1200
    · have n2 : ¬ ((b.length : Int) > 1200) := by omega
      simp [impl_short.l0, r0, r1, w1, w2, n1, n2, h1, h2]
    · have n2 : ((b.length : Int) > 1200) := by omega
      simp [impl_short.l0, r0, r1, w1, w2, n1, n2, h1, h2]
  · have n1 : ((a.length : Int) > 1200) := by omega
    simp [impl_short.l0, r0, r1, w1, w2, n1, h1]
theorem icmp_loop (a b : List Int) (ha : Dig B64 a) (hb : Dig B64 b) (hl : a.length = b.length) (i : Nat) (hi : i ≤ a.length) (hm : i ≤ 1073741824) :
    Ev (fun k => impl_nat_cmp.l0 k a b ((i : Int) - 1)) (cmpN (val B64 (a.take i)) (val B64 (b.take i))) := by
  induction i with
  | zero =>
    refine Ev.step (f := fun _ => some (cmpN 0 0)) (fun k => ?_) (Ev.now _)
    simp only [impl_nat_cmp.l0]
    rw [if_neg (by omega)]
    rfl
  | succ i ih =>
    have e : (((i + 1 : Nat) : Int) - 1) = (i : Int) := by omega
    rw [e]
    have dx := ha.rd B64_pos (i : Int)
    have dy := hb.rd B64_pos (i : Int)
    have hva := val_lt (ha.take i)
    have hvb := val_lt (hb.take i)
    have hpa : B64 ^ (a.take i).length ≤ B64 ^ i := Nat.pow_le_pow_right B64_pos (by rw [List.length_take]; omega)
    have hpb : B64 ^ (b.take i).length ≤ B64 ^ i := Nat.pow_le_pow_right B64_pos (by rw [List.length_take]; omega)
    rw [val_take_succ B64 a i, val_take_succ B64 b i]
    generalize val B64 (a.take i) = va at *
    generalize val B64 (b.take i) = vb at *
    generalize B64 ^ i = P at *
    by_cases h0 : rd a (i : Int) = rd b (i : Int)
    · refine Ev.step (fun k => ?_) (ev_to (ih (by omega) (by omega)) (by unfold cmpN; rw [h0]; simp))
      simp only [impl_nat_cmp.l0]
      rw [if_pos (by omega), if_pos (by omega), if_pos (by omega), if_pos (by omega), if_pos h0, wrap64_id (by omega)]
    · by_cases h1 : rd a (i : Int) < rd b (i : Int)
      · have h2 : P * ((rd a (i : Int)).toNat + 1) ≤ P * (rd b (i : Int)).toNat := Nat.mul_le_mul_left _ (by omega)
        rw [Nat.mul_add] at h2
        refine Ev.step (f := fun _ => some (-1)) (fun k => ?_) (ev_to (Ev.now (-1)) (by unfold cmpN; rw [if_pos (by omega)]))
        simp only [impl_nat_cmp.l0]
        rw [if_pos (by omega), if_pos (by omega), if_pos (by omega), if_pos (by omega), if_neg h0, if_pos h1]
      · have h2 : P * ((rd b (i : Int)).toNat + 1) ≤ P * (rd a (i : Int)).toNat := Nat.mul_le_mul_left _ (by omega)
        rw [Nat.mul_add] at h2
        refine Ev.step (f := fun _ => some 1) (fun k => ?_) (ev_to (Ev.now 1) (by unfold cmpN; rw [if_neg (by omega), if_pos (by omega)]))
        simp only [impl_nat_cmp.l0]
        rw [if_pos (by omega), if_pos (by omega), if_pos (by omega), if_pos (by omega), if_neg h0, if_neg h1]
theorem icmp_ev (a b : List Int) (ha : Dig B64 a) (hb : Dig B64 b) (na : Norm a) (nb : Norm b) (la : a.length ≤ 1073741824) (lb : b.length ≤ 1073741824) : Ev (fun k => impl_nat_cmp.f k a b) (cmpN (val B64 a) (val B64 b)) := by
  unfold impl_nat_cmp.f
  by_cases h : (a.length : Int) = (b.length : Int)
  · simp only [if_pos h]
    have h1 := icmp_loop a b ha hb (by omega) a.length (Nat.le_refl _) (by omega)
    rw [val_take_all _ a _ (by omega), val_take_all _ b _ (by omega)] at h1
    refine Ev.congr (fun k => ?_) h1
    rw [wrap64_id (by omega)]
  · simp only [if_neg h]
    by_cases h1 : (a.length : Int) < (b.length : Int)
    · simp only [if_pos h1]
      have := val_lt_of_length B64_pos ha hb nb (by omega)
      exact ev_const (by unfold cmpN; rw [if_pos this])
    · simp only [if_neg h1]
      have := val_lt_of_length B64_pos hb ha na (by omega)
      exact ev_const (by unfold cmpN; rw [if_neg (by omega), if_pos this])
theorem sub64_spec (a b c : Int) (ha : 0 ≤ a ∧ a < (B64 : Int)) (hb : 0 ≤ b ∧ b < (B64 : Int)) (hc : 0 ≤ c ∧ c ≤ 1) :
    0 ≤ sub64s a b c ∧ sub64s a b c < (B64 : Int) ∧ 0 ≤ sub64c a b c ∧ sub64c a b c ≤ 1 ∧ (sub64s a b c).toNat + b.toNat + c.toNat = a.toNat + B64 * (sub64c a b c).toNat := by
  unfold sub64s sub64c
  unfold B64 at *
  split <;> omega
theorem fill_set (acc : List Int) (n i : Nat) (x : Int) (hi : acc.length = i) (h : i < n) : (acc ++ List.replicate (n - i) 0).set i x = (acc ++ [x]) ++ List.replicate (n - (i + 1)) 0 := by
  obtain ⟨m, hm⟩ : ∃ m, n - i = m + 1 := ⟨n - i - 1, by omega⟩
  rw [hm, show n - (i + 1) = m by omega, List.replicate_succ, List.set_append_right _ _ (by omega), hi, Nat.sub_self]
  simp
end Go.Proofs.Ytkbkjmhkchagbaa.M
end
section
namespace Go.Proofs.Ytkbkjmhkchagbaa.M
open Go.RowKit Go.Proofs.Ytkbkjmhkchagbaa.G Go.Proofs.YtkbkjmhkchagbaaV.PrintWords Go.Proofs.YtkbkjmhkchagbaaV.PrintLast Go.Proofs.YtkbkjmhkchagbaaV.PrintMore Go.Proofs.Ytkbkjmhkchagbaa.PA
set_option linter.unusedVariables false
set_option linter.unusedSimpArgs false
theorem wf_u64 {l : List Int} (h : ∀ x ∈ l, (Lit.int .u64 x).wf = true) : Dig B64 l := by
  intro x hx
  have := h x hx
  simp [Lit.wf, IntKind.min, IntKind.max, IntKind.signed, IntKind.bits] at this
  unfold B64
  omega
def IsNat (l : List Int) (v : Nat) : Prop := Dig B64 l ∧ Norm l ∧ val B64 l = v
theorem IsNat.uniq {a b : List Int} {v : Nat} (h : IsNat a v) (k : IsNat b v) : a = b := norm_inj B64_pos h.1 k.1 h.2.1 k.2.1 (h.2.2.trans k.2.2.symm)
theorem IsNat.nil : IsNat [] 0 := ⟨Dig.nil _, norm_nil, rfl⟩
theorem IsNat.out {l : List Int} {v : Nat} (hd : Dig B32 l) (hn : Norm l) (hv : val B32 l = v) : IsNat (outL l) v := ⟨outL_dig hd, outL_norm hd hn, by rw [outL_val hd, hv]⟩
end Go.Proofs.Ytkbkjmhkchagbaa.M
end
section
namespace Go.Proofs.Ytkbkjmhkchagbaa.M
open Go.RowKit Go.Proofs.Ytkbkjmhkchagbaa.G Go.Proofs.YtkbkjmhkchagbaaV.PrintWords Go.Proofs.YtkbkjmhkchagbaaV.PrintLast Go.Proofs.YtkbkjmhkchagbaaV.PrintMore Go.Proofs.Ytkbkjmhkchagbaa.PA
set_option linter.unusedVariables false
set_option linter.unusedSimpArgs false
theorem isub_loop (a b : List Int) (ha : Dig B64 a) (hb : Dig B64 b) (hm : a.length ≤ 1073741824) (d : Nat) : ∀ (i : Nat) (acc : List Int) (c : Int), i + d = a.length → acc.length = i → Dig B64 acc → 0 ≤ c ∧ c ≤ 1 →
    val B64 acc + val B64 (b.take i) = val B64 (a.take i) + B64 ^ i * c.toNat →
    ∃ (r : List Int) (c' : Int), Ev (fun k => impl_nat_sub.l0 k a b (acc ++ List.replicate (a.length - i) 0) c (a.length : Int) (i : Int)) (trimL r) ∧ Dig B64 r ∧ r.length = a.length ∧ 0 ≤ c' ∧ c' ≤ 1 ∧ val B64 r + val B64 (b.take a.length) = val B64 a + B64 ^ a.length * c'.toNat := by
  induction d with
  | zero =>
    intro i acc c hi hac hd hc hv
    refine ⟨acc, c, Ev.step (f := fun _ => some (trimL acc)) (fun k => ?_) (Ev.now _), hd, by omega, hc.1, hc.2, ?_⟩
    · simp only [impl_nat_sub.l0]
      rw [if_neg (by omega), show a.length - i = 0 by omega]
      simp
    · rw [show a.length = i by omega, hv, val_take_all _ a _ (by omega)]
  | succ d ih =>
    intro i acc c hi hac hd hc hv
    have dx := ha.rd B64_pos (i : Int)
    have dy := hb.rd B64_pos (i : Int)
    have hlen : (acc ++ List.replicate (a.length - i) 0).length = a.length := by rw [List.length_append, List.length_replicate]; omega
    obtain ⟨s1, s2, s3, s4, s5⟩ := sub64_spec _ _ _ dx dy hc
    obtain ⟨r, c', hr, h2⟩ := ih (i + 1) (acc ++ [sub64s (rd a (i : Int)) (rd b (i : Int)) c]) (sub64c (rd a (i : Int)) (rd b (i : Int)) c) (by omega) (by simp [hac]) (hd.snoc ⟨s1, s2⟩) ⟨s3, s4⟩ (by
      rw [val_snoc, hac, val_take_succ, val_take_succ, Nat.pow_succ, Nat.mul_assoc]
      have h3 := congrArg (B64 ^ i * ·) s5
      simp only [Nat.mul_add] at h3
      omega)
    refine ⟨r, c', Ev.step (fun k => ?_) hr, h2⟩
    simp only [impl_nat_sub.l0]
    rw [if_pos (by omega)]
    by_cases h : (i : Int) < (b.length : Int)
    · rw [if_pos h, if_pos (by omega), if_pos (by omega), if_pos (by omega), if_pos (by rw [hlen]; omega), Int.toNat_natCast, fill_set acc _ i _ hac (by omega), wrap64_id (by omega)]
      rfl
    · have h0 : rd b (i : Int) = 0 := rd_of_ge b _ (by omega)
      rw [h0]
      rw [if_neg h, if_pos (by omega), if_pos (by omega), if_pos (by omega), if_pos (by rw [hlen]; omega), Int.toNat_natCast, fill_set acc _ i _ hac (by omega), wrap64_id (by omega)]
      rfl
theorem isub_ev (a b : List Int) (ha : Dig B64 a) (hb : Dig B64 b) (la : a.length ≤ 1073741824) (h : val B64 b ≤ val B64 a) :
    ∃ r, Ev (fun k => impl_nat_sub.f k a b) r ∧ Dig B64 r ∧ Norm r ∧ val B64 r = val B64 a - val B64 b ∧ r.length ≤ a.length := by
  obtain ⟨r, c, hr, h1, h2, h3, h4, h5⟩ := isub_loop a b ha hb la a.length 0 [] 0 (by omega) rfl (Dig.nil _) (by omega) (by simp [val])
  have hva := val_lt ha
  have hvr := val_lt h1
  rw [h2] at hvr
  have hbt : val B64 (b.take a.length) = val B64 b := by
    rcases Nat.lt_or_ge b.length a.length with hl | hl
    · rw [val_take_all _ _ _ (by omega)]
    · have hs := val_split B64 b a.length hl
      have h0 : val B64 (b.drop a.length) = 0 := by
        rcases Nat.eq_zero_or_pos (val B64 (b.drop a.length)) with h6 | h6
        · exact h6
        · have : B64 ^ a.length * 1 ≤ B64 ^ a.length * val B64 (b.drop a.length) := Nat.mul_le_mul_left _ h6
          omega
      rw [h0] at hs
      omega
  rw [hbt] at h5
  have hc : c = 0 := by
    rcases (show c = 0 ∨ c = 1 by omega) with hc | hc
    · exact hc
    · rw [hc] at h5
      simp at h5
      omega
  rw [hc] at h5
  refine ⟨trimL r, Ev.congr (fun k => ?_) hr, h1.trim, norm_trim _, ?_, ?_⟩
  · unfold impl_nat_sub.f
    rw [if_pos (by omega), if_pos (by omega)]
    simp
  · rw [val_trim]
    simp at h5
    omega
  · have := trimL_length r
    omega
theorem cmpN_neg (x y : Nat) : cmpN x y < 0 ↔ x < y := by
  unfold cmpN
  split
  · omega
  · split <;> omega
theorem spec_NatSub_ev (a b : List Int) (ha : Dig B64 a) (hb : Dig B64 b) (la : a.length ≤ 1048576) (lb : b.length ≤ 1048576) :
    ∃ r, Ev (fun k => spec_NatSub.f k a b) (r, decide ((a.length ≤ 1200 ∧ b.length ≤ 1200) ∧ val B64 b ≤ val B64 a)) ∧ IsNat r (if (a.length ≤ 1200 ∧ b.length ≤ 1200) ∧ val B64 b ≤ val B64 a then val B64 a - val B64 b else 0) ∧ r.length ≤ 1048576 * 8 := by
  have hno : Ev (fun k => spec_NatSub.j0 k a b true) ([], false) := Ev.step (f := fun _ => some ([], false)) (fun k => by simp [spec_NatSub.j0]) (Ev.now _)
  unfold spec_NatSub.f
  simp only [fits_eq, Option.bind_some]
  by_cases h1 : a.length ≤ 1200
  · simp only [h1, decide_true, if_true, true_and]
    by_cases h2 : b.length ≤ 1200
    · simp only [h2, decide_true, if_true, true_and]
      have hcmp := cmp_ev (inL a) (inL b) (inL_dig ha) (inL_dig hb) (by have := inL_length a; omega) (by have := inL_length b; omega)
      rw [inL_val ha, inL_val hb] at hcmp
      by_cases h3 : val B64 b ≤ val B64 a
      · simp only [h3, decide_true, if_true]
        obtain ⟨r, hr, hd, hn, hv, hl⟩ := ssub_ev (inL a) (inL b) (inL_dig ha) (inL_dig hb) (by have := inL_length a; omega) (by rw [inL_val ha, inL_val hb]; exact h3)
        rw [inL_val ha, inL_val hb] at hv
        have l1 := inL_length a
        refine ⟨outL r, ?_, IsNat.out hd hn hv, ?_⟩
        · refine Ev.bind (in_ev a ha (by omega)) (Ev.bind (in_ev b hb (by omega)) (Ev.bind hcmp ?_))
          rw [show decide (cmpN (val B64 a) (val B64 b) < 0) = false by rw [decide_eq_false_iff_not, cmpN_neg]; omega]
          refine Ev.step (f := fun k => (spec_l1In.f k a).bind fun t504 => ((spec_l1In.f k b).bind fun t507 => ((spec_l1Sub.f k t504 t507).bind fun t510 => ((spec_l1Out.f k t510).bind fun t513 => (some (t513, true)))))) (fun k => ?_) ?_
          · simp only [spec_NatSub.j0]
            rfl
          · exact Ev.bind (in_ev a ha (by omega)) (Ev.bind (in_ev b hb (by omega)) (Ev.bind hr (Ev.bind (out_ev r hd (by omega)) (Ev.now _))))
        · have := outL_length r
          omega
      · simp only [h3, decide_false, if_false]
        refine ⟨[], Ev.bind (in_ev a ha (by omega)) (Ev.bind (in_ev b hb (by omega)) (Ev.bind hcmp ?_)), IsNat.nil, by simp⟩
        rw [show decide (cmpN (val B64 a) (val B64 b) < 0) = true by rw [decide_eq_true_iff, cmpN_neg]; omega]
        exact hno
    · simp only [h2, decide_false, Bool.false_eq_true, false_and, if_false]
      exact ⟨[], hno, IsNat.nil, by simp⟩
  · simp only [h1, decide_false, Bool.false_eq_true, if_false, false_and]
    exact ⟨[], hno, IsNat.nil, by simp⟩
theorem impl_NatSub_ev (a b : List Int) (ha : Dig B64 a) (hb : Dig B64 b) (la : a.length ≤ 1048576) (lb : b.length ≤ 1048576) :
    ∃ r, Ev (fun k => impl_NatSub.f k a b) (r, decide ((a.length ≤ 1200 ∧ b.length ≤ 1200) ∧ val B64 b ≤ val B64 a)) ∧ IsNat r (if (a.length ≤ 1200 ∧ b.length ≤ 1200) ∧ val B64 b ≤ val B64 a then val B64 a - val B64 b else 0) := by
  have hno : Ev (fun k => impl_NatSub.j0 k a b true) ([], false) := Ev.step (f := fun _ => some ([], false)) (fun k => by simp [impl_NatSub.j0]) (Ev.now _)
  have ta := trimL_length a
  have tb := trimL_length b
  unfold impl_NatSub.f
  by_cases h : a.length ≤ 1200 ∧ b.length ≤ 1200
  · have hcmp := icmp_ev (trimL a) (trimL b) ha.trim hb.trim (norm_trim a) (norm_trim b) (by omega) (by omega)
    rw [val_trim, val_trim] at hcmp
    have hsh := short_two a b (by omega) (by omega)
    simp only [h.1, h.2, and_self, decide_true, Bool.and_self] at hsh
    by_cases h3 : val B64 b ≤ val B64 a
    · obtain ⟨r, hr, hd, hn, hv, hl⟩ := isub_ev (trimL a) (trimL b) ha.trim hb.trim (by omega) (by rw [val_trim, val_trim]; exact h3)
      rw [val_trim, val_trim] at hv
      refine ⟨r, Ev.bind hsh ?_, hd, hn, ?_⟩
      · simp only [if_true, h, h3, and_self, decide_true]
        refine Ev.bind hcmp ?_
        rw [show decide (cmpN (val B64 a) (val B64 b) < 0) = false by rw [decide_eq_false_iff_not, cmpN_neg]; omega]
        refine Ev.step (f := fun k => (impl_nat_sub.f k (trimL a) (trimL b)).bind fun t548 => (some (t548, true))) (fun k => ?_) (Ev.bind hr (Ev.now _))
        simp only [impl_NatSub.j0]
        rfl
      · rw [if_pos ⟨h, h3⟩, hv]
    · refine ⟨[], Ev.bind hsh ?_, ⟨Dig.nil _, norm_nil, ?_⟩⟩
      · simp only [if_true, h3, and_false, decide_false]
        refine Ev.bind hcmp ?_
        rw [show decide (cmpN (val B64 a) (val B64 b) < 0) = true by rw [decide_eq_true_iff, cmpN_neg]; omega]
        exact hno
      · rw [if_neg (fun e => h3 e.2)]
        rfl
  · have h3 : ¬ ((decide (a.length ≤ 1200) && decide (b.length ≤ 1200)) = true) := by simpa using h
    refine ⟨[], Ev.bind (short_two a b (by omega) (by omega)) ?_, ⟨Dig.nil _, norm_nil, ?_⟩⟩
    · simp only [if_neg h3, h, false_and, decide_false]
      exact hno
    · rw [if_neg (fun e => h e.1)]
      rfl
end Go.Proofs.Ytkbkjmhkchagbaa.M
end
section
namespace Go.Proofs.Ytkbkjmhkchagbaa.Pure
open Go.RowKit Go.Proofs.Ytkbkjmhkchagbaa.G Go.Proofs.Ytkbkjmhkchagbaa.PA Go.Proofs.YtkbkjmhkchagbaaV.PrintWords Go.Proofs.YtkbkjmhkchagbaaV.PrintLast Go.Proofs.Ytkbkjmhkchagbaa.M
set_option linter.unusedVariables false
set_option linter.unusedSimpArgs false
theorem FnExactNatSub : laws_FnExactNatSub.Pure := by
  intro a b _ _ wa _ _ wb
  refine Ev.rounds (g := fun k => laws_FnExactNatSub.f k a b) ?_
  have ha := wf_u64 wa
  have hb := wf_u64 wb
  unfold laws_FnExactNatSub.f
  by_cases h1 : (a.length : Int) > 1048576
  · simp only [if_pos h1]
    exact Ev.now _
  by_cases h2 : (b.length : Int) > 1048576
  · simp only [if_neg h1, if_pos h2]
    exact Ev.now _
  simp only [if_neg h1, if_neg h2]
  have ta := toU_ev a (by omega)
  have tb := toU_ev b (by omega)
  obtain ⟨r, hs, hr, hl⟩ := spec_NatSub_ev a b ha hb (by omega) (by omega)
  obtain ⟨r', hi, hr'⟩ := impl_NatSub_ev a b ha hb (by omega) (by omega)
  obtain rfl := hr.uniq hr'
  generalize decide ((a.length ≤ 1200 ∧ b.length ≤ 1200) ∧ val B64 b ≤ val B64 a) = ok at *
  refine Ev.bind ta (Ev.bind tb (Ev.bind hs (Ev.bind ta (Ev.bind tb (Ev.bind hi (Ev.bind (eqU_same r (by omega)) ?_))))))
  simp only [if_true]
  refine Ev.step (fun k => by simp only [laws_FnExactNatSub.j0]; exact rfl) ?_
  simp only [bne_self_eq_false, Bool.false_eq_true, if_false]
  refine Ev.bind ta (Ev.bind (eqU_same a (by omega)) ?_)
  simp only [if_true]
  refine Ev.bind tb (Ev.bind (eqU_same b (by omega)) ?_)
  simp only [if_true]
  refine Ev.bind (mark_ev a 1 (by omega) (by omega)) (Ev.bind (mark_ev b _ (by omega) (by omega)) ?_)
  simp only [if_neg (show ¬ ((1 : Int) + a.length + b.length < 0) by omega)]
  refine Ev.bind (eqU_same r (by omega)) ?_
  simp only [if_true]
  refine Ev.step (fun k => by simp only [laws_FnExactNatSub.j1]; exact rfl) ?_
  simp only [bne_self_eq_false, Bool.false_eq_true, if_false]
  refine Ev.bind (mark_ev r 1 (by omega) (by omega)) (Ev.bind (held_ev 1 r.length (by omega) (by omega)) ?_)
  simp only [if_neg (show ¬ ((1 : Int) + r.length < 0) by omega), if_true]
  refine Ev.bind ta (Ev.bind tb (Ev.bind hi (Ev.bind (eqU_same r (by omega)) ?_)))
  simp only [if_true]
  refine Ev.step (fun k => by simp only [laws_FnExactNatSub.j2]; exact rfl) ?_
  simp only [bne_self_eq_false, Bool.false_eq_true, if_false]
  refine Ev.bind (held_ev 1 r.length (by omega) (by omega)) ?_
  simp only [if_neg (show ¬ ((1 : Int) + r.length < 0) by omega), if_true]
  exact Ev.now _
end Go.Proofs.Ytkbkjmhkchagbaa.Pure
end
