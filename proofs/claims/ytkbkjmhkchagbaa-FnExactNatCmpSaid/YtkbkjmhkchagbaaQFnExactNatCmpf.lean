import Derived.IntWalk
import Derived.Test.YtkbkjmhkchagbaaQFnExactNatCmpe
section
namespace Go.Proofs.Ytkbkjmhkchagbaa.M
open Go.RowKit Go.Proofs.Ytkbkjmhkchagbaa.G Go.Proofs.YtkbkjmhkchagbaaV.PrintWords Go.Proofs.YtkbkjmhkchagbaaV.PrintLast Go.Proofs.YtkbkjmhkchagbaaV.PrintMore
set_option linter.unusedVariables false
set_option linter.unusedSimpArgs false
def val (B : Nat) : List Int → Nat
  | [] => 0
  | x :: xs => x.toNat + B * val B xs
def Dig (B : Nat) (l : List Int) : Prop := ∀ x ∈ l, 0 ≤ x ∧ x < (B : Int)
def Norm (l : List Int) : Prop := trimL l = l
theorem val_cons (B : Nat) (x : Int) (l : List Int) : val B (x :: l) = x.toNat + B * val B l := rfl
theorem val_append (B : Nat) (a b : List Int) : val B (a ++ b) = val B a + B ^ a.length * val B b := by
  induction a with
  | nil => simp [val]
  | cons x a ih =>
    rw [List.cons_append, val_cons, val_cons, ih, List.length_cons, Nat.pow_succ, Nat.mul_add, Nat.add_assoc]
    congr 2
    rw [← Nat.mul_assoc, Nat.mul_comm B (B ^ a.length)]
theorem val_one (B : Nat) (x : Int) : val B [x] = x.toNat := by simp [val]
theorem val_snoc (B : Nat) (a : List Int) (x : Int) : val B (a ++ [x]) = val B a + B ^ a.length * x.toNat := by rw [val_append, val_one]
theorem Dig.nil (B : Nat) : Dig B [] := fun x h => by cases h
theorem Dig.cons {B : Nat} {x : Int} {l : List Int} (hx : 0 ≤ x ∧ x < (B : Int)) (h : Dig B l) : Dig B (x :: l) := by
  intro y hy
  rcases List.mem_cons.1 hy with rfl | hy
  · exact hx
  · exact h y hy
theorem Dig.append {B : Nat} {a b : List Int} (ha : Dig B a) (hb : Dig B b) : Dig B (a ++ b) := by
  intro y hy
  rcases List.mem_append.1 hy with hy | hy
  · exact ha y hy
  · exact hb y hy
theorem Dig.snoc {B : Nat} {a : List Int} {x : Int} (ha : Dig B a) (hx : 0 ≤ x ∧ x < (B : Int)) : Dig B (a ++ [x]) := ha.append (Dig.cons hx (Dig.nil B))
theorem Dig.take {B : Nat} {l : List Int} (h : Dig B l) (k : Nat) : Dig B (l.take k) := fun x hx => h x (List.mem_of_mem_take hx)
theorem Dig.drop {B : Nat} {l : List Int} (h : Dig B l) (k : Nat) : Dig B (l.drop k) := fun x hx => h x (List.mem_of_mem_drop hx)
theorem Dig.trim {B : Nat} {l : List Int} (h : Dig B l) : Dig B (trimL l) := by rw [trimL_eq_take]; exact h.take _
theorem Dig.set {B : Nat} {l : List Int} (h : Dig B l) (p : Nat) {x : Int} (hx : 0 ≤ x ∧ x < (B : Int)) : Dig B (l.set p x) := by
  intro y hy
  rcases List.mem_or_eq_of_mem_set hy with hy | rfl
  · exact h y hy
  · exact hx
theorem Dig.rd {B : Nat} {l : List Int} (h : Dig B l) (hB : 0 < B) (i : Int) : 0 ≤ rd l i ∧ rd l i < (B : Int) := by
  show 0 ≤ l.getD i.toNat 0 ∧ l.getD i.toNat 0 < (B : Int)
  rw [List.getD_eq_getElem?_getD]
  cases hg : l[i.toNat]? with
  | none => simp; omega
  | some x => exact h x (List.mem_of_getElem? hg)
theorem val_lt {B : Nat} {l : List Int} (h : Dig B l) : val B l < B ^ l.length := by
  induction l with
  | nil => simp [val]
  | cons x l ih =>
    have h1 := ih (fun y hy => h y (List.mem_cons_of_mem _ hy))
    have hx := h x (List.mem_cons_self)
    rw [val_cons, List.length_cons, Nat.pow_succ]
    have h2 : val B l + 1 ≤ B ^ l.length := h1
    have h3 : B * (val B l + 1) ≤ B * B ^ l.length := Nat.mul_le_mul_left B h2
    rw [Nat.mul_comm B (B ^ l.length), Nat.mul_add] at h3
    omega
theorem snoc_of {l : List Int} (h : 0 < l.length) : ∃ a x, l = a ++ [x] := by
  refine ⟨l.dropLast, l.getLast (by intro hn; rw [hn] at h; simp at h), ?_⟩
  exact (List.dropLast_concat_getLast _).symm
theorem val_snoc_zero (B : Nat) (a : List Int) : val B (a ++ [0]) = val B a := by rw [val_snoc]; simp
theorem val_trim (B : Nat) (l : List Int) : val B (trimL l) = val B l := by
  induction h : l.length generalizing l with
  | zero => rw [List.eq_nil_of_length_eq_zero h]; rfl
  | succ n ih =>
    obtain ⟨a, x, rfl⟩ : ∃ a x, l = a ++ [x] := snoc_of (by omega)
    by_cases hx : x = 0
    · subst hx
      rw [trimL_snoc_zero, val_snoc_zero]
      exact ih a (by simpa using h)
    · rw [trimL_snoc_ne _ _ hx]
theorem norm_trim (l : List Int) : Norm (trimL l) := trimL_idem l
theorem norm_nil : Norm [] := rfl
theorem norm_snoc {a : List Int} {x : Int} : Norm (a ++ [x]) ↔ x ≠ 0 := by
  constructor
  · intro h hx
    subst hx
    unfold Norm at h
    rw [trimL_snoc_zero] at h
    have h1 := trimL_length a
    rw [h] at h1
    simp at h1
    omega
  · exact fun h => trimL_snoc_ne _ _ h
theorem val_ge {B : Nat} {l : List Int} (hd : Dig B l) (h : Norm l) (hl : 0 < l.length) : B ^ (l.length - 1) ≤ val B l := by
  obtain ⟨a, x, rfl⟩ : ∃ a x, l = a ++ [x] := snoc_of hl
  have hx := norm_snoc.1 h
  have hx0 := hd x (by simp)
  rw [val_snoc, List.length_append, List.length_singleton, Nat.add_sub_cancel]
  have : B ^ a.length * 1 ≤ B ^ a.length * x.toNat := Nat.mul_le_mul_left _ (by omega)
  omega
theorem val_lt_of_length {B : Nat} (hB : 0 < B) {a b : List Int} (ha : Dig B a) (hb : Dig B b) (hn : Norm b) (hl : a.length < b.length) : val B a < val B b := by
  have h1 := val_lt ha
  have h2 := val_ge hb hn (by omega)
  have h3 : B ^ a.length ≤ B ^ (b.length - 1) := Nat.pow_le_pow_right hB (by omega)
  omega
theorem rd_of_ge (l : List Int) (i : Int) (h : l.length ≤ i.toNat) : rd l i = 0 := by simp [rd, List.getD_eq_getElem?_getD, List.getElem?_eq_none h]
theorem val_take_succ (B : Nat) (l : List Int) (k : Nat) : val B (l.take (k + 1)) = val B (l.take k) + B ^ k * (rd l (k : Int)).toNat := by
  rcases Nat.lt_or_ge k l.length with h | h
  · rw [take_snoc_rd l k h, val_snoc, List.length_take, Nat.min_eq_left (Nat.le_of_lt h)]
  · rw [rd_of_ge l k (by simpa using h), List.take_of_length_le (by omega), List.take_of_length_le h]
    simp
theorem val_take_all (B : Nat) (l : List Int) (k : Nat) (h : l.length ≤ k) : val B (l.take k) = val B l := by rw [List.take_of_length_le h]
theorem wrap64_id {n : Int} (h : -9223372036854775808 ≤ n ∧ n ≤ 9223372036854775807) : wrap64 n = n := by unfold wrap64; omega
theorem wrap_u64 (n : Int) : IntKind.u64.wrap n = n % 18446744073709551616 := by simp [IntKind.wrap, IntKind.bits, IntKind.signed]
theorem wrap_u64_id {n : Int} (h : 0 ≤ n ∧ n < 18446744073709551616) : IntKind.u64.wrap n = n := by rw [wrap_u64]; omega
theorem wraps_u64 (n : Int) (h₀ : 0 ≤ n) (h₁ : n < 2 ^ 64) : IntKind.u64.wrap n = n := wrap_u64_id ⟨h₀, by simpa using h₁⟩
theorem and_mask (i : Nat) (hi : i ≤ 64) (x : Int) (h₀ : 0 ≤ x) (h₁ : x < 18446744073709551616) : bits .and .u64 x (2 ^ i - 1) = x % 2 ^ i :=
  bits_mask .u64 64 (by decide) wraps_u64 i hi x h₀ (by simpa using h₁)
theorem and_low32 (x : Int) (h₀ : 0 ≤ x) (h₁ : x < 18446744073709551616) : bits .and .u64 x 4294967295 = x % 4294967296 := by
  simpa using and_mask 32 (by decide) x h₀ h₁
theorem ev_const {α : Type} {g : Option α} {r : α} (h : g = some r) : Ev (fun _ => g) r := ⟨0, fun _ _ => h⟩
theorem ev_to {α : Type} {g : Nat → Option α} {r r' : α} (h : Ev g r) (e : r = r') : Ev g r' := e ▸ h
end Go.Proofs.Ytkbkjmhkchagbaa.M
end
section
namespace Go.Proofs.Ytkbkjmhkchagbaa.M
open Go.RowKit Go.Proofs.Ytkbkjmhkchagbaa.G Go.Proofs.YtkbkjmhkchagbaaV.PrintWords Go.Proofs.YtkbkjmhkchagbaaV.PrintLast Go.Proofs.YtkbkjmhkchagbaaV.PrintMore Go.Proofs.Ytkbkjmhkchagbaa.PA
set_option linter.unusedVariables false
set_option linter.unusedSimpArgs false
theorem set_fill (l : List Int) (i : Nat) (h : i < l.length) : (l.take i ++ List.replicate (l.length - i) 0).set i (rd l (i : Int)) = l.take (i + 1) ++ List.replicate (l.length - (i + 1)) 0 := by
  obtain ⟨m, hm⟩ : ∃ m, l.length - i = m + 1 := ⟨l.length - i - 1, by omega⟩
  have hl : (l.take i).length = i := by rw [List.length_take]; omega
  rw [hm, show l.length - (i + 1) = m by omega, List.replicate_succ, take_snoc_rd l i h]
  rw [List.set_append_right _ _ (by omega), hl, Nat.sub_self]
  simp
theorem toU_loop (l : List Int) (hl : l.length ≤ 1073741824) (d : Nat) : ∀ i : Nat, i + d = l.length →
    Ev (fun k => laws_toUint64S.l0 k l (l.take i ++ List.replicate (l.length - i) 0) (i : Int)) l := by
  induction d with
  | zero =>
    intro i hi
    refine Ev.step (f := fun _ => some l) (fun k => ?_) (Ev.now l)
    have h1 : ¬ ((i : Int) < (l.length : Int)) := by omega
    simp only [laws_toUint64S.l0]
    rw [if_neg h1, show l.length - i = 0 by omega, List.take_of_length_le (by omega)]
    simp
  | succ d ih =>
    intro i hi
    refine Ev.step (fun k => ?_) (ih (i + 1) (by omega))
    have hxl : (l.take i ++ List.replicate (l.length - i) 0).length = l.length := by simp; omega
    simp only [laws_toUint64S.l0]
    rw [if_pos (by omega), if_pos (by omega), if_pos (by rw [hxl]; omega), Int.toNat_natCast, set_fill l i (by omega), wrap64_id (by omega)]
    rfl
theorem toU_ev (l : List Int) (hl : l.length ≤ 1073741824) : Ev (fun k => laws_toUint64S.f k l) l := by
  refine Ev.congr (fun k => ?_) (toU_loop l hl l.length 0 (by omega))
  unfold laws_toUint64S.f
  rw [if_pos (by omega), if_pos (by simp; omega)]
  simp
theorem eqU_loop (a b : List Int) (hl : a.length = b.length) (hm : a.length ≤ 1073741824) (d : Nat) : ∀ i : Nat, i + d = a.length → a.take i = b.take i →
    Ev (fun k => laws_eqUint64S.l0 k a b (i : Int)) (decide (a = b)) := by
  induction d with
  | zero =>
    intro i hi he
    refine Ev.step (f := fun _ => some (decide (a = b))) (fun k => ?_) (Ev.now _)
    simp only [laws_eqUint64S.l0]
    rw [if_neg (by omega)]
    rw [List.take_of_length_le (by omega), List.take_of_length_le (by omega)] at he
    simp [he]
  | succ d ih =>
    intro i hi he
    by_cases h : rd a (i : Int) = rd b (i : Int)
    · refine Ev.step (fun k => ?_) (ih (i + 1) (by omega) (by rw [take_snoc_rd a i (by omega), take_snoc_rd b i (by omega), he, h]))
      simp only [laws_eqUint64S.l0]
      rw [if_pos (by omega), if_pos (by omega), if_pos (by omega), if_pos h, wrap64_id (by omega)]
      rfl
    · refine Ev.step (f := fun _ => some (decide (a = b))) (fun k => ?_) (Ev.now _)
      simp only [laws_eqUint64S.l0]
      rw [if_pos (by omega), if_pos (by omega), if_pos (by omega), if_neg h]
      have : a ≠ b := fun e => h (by rw [e])
      simp [this]
theorem eqU_ev (a b : List Int) (hm : a.length ≤ 1073741824) : Ev (fun k => laws_eqUint64S.f k a b) (decide (a = b)) := by
  by_cases h : a.length = b.length
  · refine Ev.congr (fun k => ?_) (eqU_loop a b h hm a.length 0 (by omega) (by simp))
    unfold laws_eqUint64S.f
    rw [if_pos (by omega)]
    rfl
  · refine Ev.congr (f := fun _ => some (decide (a = b))) (fun k => ?_) (Ev.now _)
    unfold laws_eqUint64S.f
    rw [if_neg (by omega)]
    have : a ≠ b := fun e => h (by rw [e])
    simp [this]
theorem eqU_same (a : List Int) (hm : a.length ≤ 1073741824) : Ev (fun k => laws_eqUint64S.f k a a) true := ev_to (eqU_ev a a hm) (by simp)
end Go.Proofs.Ytkbkjmhkchagbaa.M
end
section
namespace Go.Proofs.Ytkbkjmhkchagbaa.M
open Go.RowKit Go.Proofs.Ytkbkjmhkchagbaa.G Go.Proofs.YtkbkjmhkchagbaaV.PrintWords Go.Proofs.YtkbkjmhkchagbaaV.PrintLast Go.Proofs.YtkbkjmhkchagbaaV.PrintMore Go.Proofs.Ytkbkjmhkchagbaa.PA
set_option linter.unusedVariables false
set_option linter.unusedSimpArgs false
def B32 : Nat := 4294967296
def B64 : Nat := 18446744073709551616
theorem B32_pos : 0 < B32 := by unfold B32; omega
theorem B64_pos : 0 < B64 := by unfold B64; omega
theorem fits_eq (l : List Int) : spec_l1Fits.f l = some (decide (l.length ≤ 1200)) := by
  unfold spec_l1Fits.f
  simp
  omega
theorem at_eq (l : List Int) (i : Int) (h : 0 ≤ i) : spec_l1At.f l i = some (rd l i) := by
  unfold spec_l1At.f
  by_cases h1 : i < (l.length : Int)
  · rw [if_pos h1, if_pos h]
  · rw [if_neg h1, rd_of_ge l i (by omega)]
theorem trim_eq (l : List Int) (h : l.length ≤ 35184372088832) : spec_l1Trim.f l = some (trimL l) := by
  unfold spec_l1Trim.f
  rw [if_pos h]
def d32 : List Int → List Int
  | [] => []
  | x :: l => x % 4294967296 :: x / 4294967296 :: d32 l
theorem d32_append (a b : List Int) : d32 (a ++ b) = d32 a ++ d32 b := by
  induction a with
  | nil => rfl
  | cons x a ih => simp [d32, ih]
theorem d32_length (l : List Int) : (d32 l).length = 2 * l.length := by
  induction l with
  | nil => rfl
  | cons x l ih => simp only [d32, List.length_cons, ih]; omega
theorem d32_dig {l : List Int} (h : Dig B64 l) : Dig B32 (d32 l) := by
  induction l with
  | nil => exact Dig.nil _
  | cons x l ih =>
    have hx := h x (by simp)
    unfold B64 at hx
    refine Dig.cons ?_ (Dig.cons ?_ (ih (fun y hy => h y (List.mem_cons_of_mem _ hy)))) <;> unfold B32 <;> omega
theorem d32_val {l : List Int} (h : Dig B64 l) : val B32 (d32 l) = val B64 l := by
  induction l with
  | nil => rfl
  | cons x l ih =>
    have hx := h x (by simp)
    have ih := ih (fun y hy => h y (List.mem_cons_of_mem _ hy))
    simp only [d32, val_cons, ih]
    unfold B64 at hx
    unfold B32 B64
    omega
def inL (l : List Int) : List Int := trimL (d32 l)
theorem inL_dig {l : List Int} (h : Dig B64 l) : Dig B32 (inL l) := (d32_dig h).trim
theorem inL_val {l : List Int} (h : Dig B64 l) : val B32 (inL l) = val B64 l := by unfold inL; rw [val_trim, d32_val h]
theorem inL_length (l : List Int) : (inL l).length ≤ 2 * l.length := by
  unfold inL
  have := trimL_length (d32 l)
  rw [d32_length] at this
  exact this
theorem in_loop (l : List Int) (hd : Dig B64 l) (hl : l.length ≤ 1073741824) (d : Nat) : ∀ i : Nat, i + d = l.length →
    Ev (fun k => spec_l1In.l0 k (d32 (l.take i)) l (l.length : Int) (i : Int)) (inL l) := by
  induction d with
  | zero =>
    intro i hi
    refine Ev.step (f := fun _ => some (inL l)) (fun k => ?_) (Ev.now _)
    simp only [spec_l1In.l0]
    rw [if_neg (by omega), List.take_of_length_le (by omega), trim_eq _ (by rw [d32_length]; omega)]
    rfl
  | succ d ih =>
    intro i hi
    have hx := hd.rd B64_pos (i : Int)
    refine Ev.step (fun k => ?_) (ih (i + 1) (by omega))
    have hlen : (d32 (l.take i)).length = 2 * i := by rw [d32_length, List.length_take]; omega
    unfold B64 at hx
    simp only [spec_l1In.l0]
    rw [if_pos (by omega), if_pos (by omega), if_pos (by omega)]
    simp only [Option.bind_some]
    rw [if_pos (by rw [hlen]; simp; omega), and_low32 _ hx.1 (by omega), wrap64_id (by omega), take_snoc_rd l i (by omega), d32_append]
    rfl
theorem in_ev (l : List Int) (hd : Dig B64 l) (hl : l.length ≤ 1073741824) : Ev (fun k => spec_l1In.f k l) (inL l) := in_loop l hd hl l.length 0 (by omega)
def outL : List Int → List Int
  | [] => []
  | [x] => [x]
  | x :: y :: l => (x + y * 4294967296) :: outL l
theorem outL_dig : ∀ {l : List Int}, Dig B32 l → Dig B64 (outL l)
  | [], _ => Dig.nil _
  | [x], h => by
    have hx := h x (by simp)
    unfold B32 at hx
    exact Dig.cons (by unfold B64; omega) (Dig.nil _)
  | x :: y :: l, h => by
    have hx := h x (by simp)
    have hy := h y (by simp)
    unfold B32 at hx hy
    exact Dig.cons (by unfold B64; omega) (outL_dig (fun z hz => h z (List.mem_cons_of_mem _ (List.mem_cons_of_mem _ hz))))
theorem outL_val : ∀ {l : List Int}, Dig B32 l → val B64 (outL l) = val B32 l
  | [], _ => rfl
  | [x], h => by simp [outL, val]
  | x :: y :: l, h => by
    have hx := h x (by simp)
    have hy := h y (by simp)
    have ih := outL_val (l := l) (fun z hz => h z (List.mem_cons_of_mem _ (List.mem_cons_of_mem _ hz)))
    simp only [outL, val_cons, ih]
    unfold B32 at hx hy
    unfold B32 B64
    omega
theorem norm_iff (l : List Int) : Norm l ↔ ∀ h : l ≠ [], l.getLast h ≠ 0 := by
  rcases Nat.eq_zero_or_pos l.length with h | h
  · have := List.eq_nil_of_length_eq_zero h
    subst this
    exact ⟨fun _ h => absurd rfl h, fun _ => rfl⟩
  · obtain ⟨a, x, rfl⟩ := snoc_of h
    rw [norm_snoc]
    simp
theorem outL_norm : ∀ {l : List Int}, Dig B32 l → Norm l → Norm (outL l)
  | [], _, _ => norm_nil
  | [x], _, h => h
  | [x, y], hd, h => by
    have hx := hd x (by simp)
    have h2 := (norm_iff _).1 h (by simp)
    simp at h2
    have hy := hd y (by simp)
    refine (norm_iff _).2 (fun _ => ?_)
    simp [outL]
    omega
  | x :: y :: z :: l, hd, h => by
    have h2 : Norm (z :: l) := by
      rw [norm_iff] at h ⊢
      intro hn
      have := h (by simp)
      simpa using this
    have ih := outL_norm (l := z :: l) (fun w hw => hd w (List.mem_cons_of_mem _ (List.mem_cons_of_mem _ hw))) h2
    rw [norm_iff] at ih ⊢
    intro hn
    have hne : outL (z :: l) ≠ [] := by cases l <;> simp [outL]
    have := ih hne
    simp only [outL]
    rw [List.getLast_cons hne]
    exact this
def cmpN (x y : Nat) : Int := if x < y then -1 else if x > y then 1 else 0
theorem cmp_loop (a b : List Int) (ha : Dig B32 a) (hb : Dig B32 b) (i : Nat) (hi : i ≤ 1073741824) :
    Ev (fun k => spec_l1Cmp.l0 k a b ((i : Int) - 1)) (cmpN (val B32 (a.take i)) (val B32 (b.take i))) := by
  induction i with
  | zero =>
    refine Ev.step (f := fun _ => some (cmpN 0 0)) (fun k => ?_) (Ev.now _)
    simp only [spec_l1Cmp.l0]
    rw [if_neg (by omega)]
    rfl
  | succ i ih =>
    have e : (((i + 1 : Nat) : Int) - 1) = (i : Int) := by omega
    rw [e]
    have dx := ha.rd B32_pos (i : Int)
    have dy := hb.rd B32_pos (i : Int)
    have hva := val_lt (ha.take i)
    have hvb := val_lt (hb.take i)
    have hpa : B32 ^ (a.take i).length ≤ B32 ^ i := Nat.pow_le_pow_right B32_pos (by rw [List.length_take]; omega)
    have hpb : B32 ^ (b.take i).length ≤ B32 ^ i := Nat.pow_le_pow_right B32_pos (by rw [List.length_take]; omega)
    rw [val_take_succ B32 a i, val_take_succ B32 b i]
    generalize val B32 (a.take i) = va at *
    generalize val B32 (b.take i) = vb at *
    generalize B32 ^ i = P at *
    by_cases h1 : rd a (i : Int) < rd b (i : Int)
    · have h2 : P * ((rd a (i : Int)).toNat + 1) ≤ P * (rd b (i : Int)).toNat := Nat.mul_le_mul_left _ (by omega)
      rw [Nat.mul_add] at h2
      refine Ev.step (f := fun _ => some (-1)) (fun k => ?_) (ev_to (Ev.now (-1)) (by unfold cmpN; rw [if_pos (by omega)]))
      simp only [spec_l1Cmp.l0]
      rw [if_pos (by omega), at_eq _ _ (by omega), at_eq _ _ (by omega)]
      simp only [Option.bind_some]
      rw [if_pos h1]
    · by_cases h3 : rd a (i : Int) > rd b (i : Int)
      · have h2 : P * ((rd b (i : Int)).toNat + 1) ≤ P * (rd a (i : Int)).toNat := Nat.mul_le_mul_left _ (by omega)
        rw [Nat.mul_add] at h2
        refine Ev.step (f := fun _ => some 1) (fun k => ?_) (ev_to (Ev.now 1) (by unfold cmpN; rw [if_neg (by omega), if_pos (by omega)]))
        simp only [spec_l1Cmp.l0]
        rw [if_pos (by omega), at_eq _ _ (by omega), at_eq _ _ (by omega)]
        simp only [Option.bind_some]
        rw [if_neg h1, if_pos h3]
      · have h4 : rd a (i : Int) = rd b (i : Int) := by omega
        refine Ev.step (fun k => ?_) (ev_to (ih (by omega)) (by unfold cmpN; rw [h4]; simp))
        simp only [spec_l1Cmp.l0]
        rw [if_pos (by omega), at_eq _ _ (by omega), at_eq _ _ (by omega)]
        simp only [Option.bind_some]
        rw [if_neg h1, if_neg h3, wrap64_id (by omega)]
theorem cmp_ev (a b : List Int) (ha : Dig B32 a) (hb : Dig B32 b) (la : a.length ≤ 1073741824) (lb : b.length ≤ 1073741824) : Ev (fun k => spec_l1Cmp.f k a b) (cmpN (val B32 a) (val B32 b)) := by
  unfold spec_l1Cmp.f
  by_cases h : (b.length : Int) > (a.length : Int)
  · simp only [if_pos h]
    have h1 := cmp_loop a b ha hb b.length (by omega)
    rw [val_take_all _ a _ (by omega), val_take_all _ b _ (by omega)] at h1
    refine Ev.step (fun k => ?_) h1
    simp only [spec_l1Cmp.j0]
    rw [wrap64_id (by omega)]
  · simp only [if_neg h]
    have h1 := cmp_loop a b ha hb a.length (by omega)
    rw [val_take_all _ a _ (by omega), val_take_all _ b _ (by omega)] at h1
    refine Ev.step (fun k => ?_) h1
    simp only [spec_l1Cmp.j0]
    rw [wrap64_id (by omega)]
end Go.Proofs.Ytkbkjmhkchagbaa.M
end
section
namespace Go.Proofs.Ytkbkjmhkchagbaa.M
open Go.RowKit Go.Proofs.Ytkbkjmhkchagbaa.G Go.Proofs.YtkbkjmhkchagbaaV.PrintWords Go.Proofs.YtkbkjmhkchagbaaV.PrintLast Go.Proofs.YtkbkjmhkchagbaaV.PrintMore Go.Proofs.Ytkbkjmhkchagbaa.PA
set_option linter.unusedVariables false
set_option linter.unusedSimpArgs false
theorem short_two (a b : List Int) (ha : a.length ≤ 1073741824) (hb : b.length ≤ 1073741824) : Ev (fun k => impl_short.f k [a, b]) (decide (a.length ≤ 1200) && decide (b.length ≤ 1200)) := by
  refine ⟨4, fun k hk => ?_⟩
  obtain ⟨k, rfl⟩ : ∃ m, k = m + 3 := ⟨k - 3, by omega⟩
  have w1 : wrap64 1 = 1 := by unfold wrap64; omega
  have w2 : wrap64 2 = 2 := by unfold wrap64; omega
  have r0 : rd_L1 [a, b] 0 = a := rfl
  have r1 : rd_L1 [a, b] 1 = b := rfl
  unfold impl_short.f
  simp only [List.length_cons, List.length_nil]
  by_cases h1 : a.length ≤ 1200
  · have n1 : ¬ ((a.length : Int) > 1200) := by omega
    by_cases h2 : b.length ≤ 1200
    · have n2 : ¬ ((b.length : Int) > 1200) := by omega
      simp [impl_short.l0, r0, r1, w1, w2, n1, n2, h1, h2]
    · have n2 : ((b.length : Int) > 1200) := by omega
      simp [impl_short.l0, r0, r1, w1, w2, n1, n2, h1, h2]
  · have n1 : ((a.length : Int) > 1200) := by omega
    simp [impl_short.l0, r0, r1, w1, w2, n1, h1]
theorem icmp_loop (a b : List Int) (ha : Dig B64 a) (hb : Dig B64 b) (hl : a.length = b.length) (i : Nat) (hi : i ≤ a.length) (hm : i ≤ 1073741824) :
    Ev (fun k => impl_nat_cmp.l0 k a b ((i : Int) - 1)) (cmpN (val B64 (a.take i)) (val B64 (b.take i))) := by
  induction i with
  | zero =>
    refine Ev.step (f := fun _ => some (cmpN 0 0)) (fun k => ?_) (Ev.now _)
    simp only [impl_nat_cmp.l0]
    rw [if_neg (by omega)]
    rfl
  | succ i ih =>
    have e : (((i + 1 : Nat) : Int) - 1) = (i : Int) := by omega
    rw [e]
    have dx := ha.rd B64_pos (i : Int)
    have dy := hb.rd B64_pos (i : Int)
    have hva := val_lt (ha.take i)
    have hvb := val_lt (hb.take i)
    have hpa : B64 ^ (a.take i).length ≤ B64 ^ i := Nat.pow_le_pow_right B64_pos (by rw [List.length_take]; omega)
    have hpb : B64 ^ (b.take i).length ≤ B64 ^ i := Nat.pow_le_pow_right B64_pos (by rw [List.length_take]; omega)
    rw [val_take_succ B64 a i, val_take_succ B64 b i]
    generalize val B64 (a.take i) = va at *
    generalize val B64 (b.take i) = vb at *
    generalize B64 ^ i = P at *
    by_cases h0 : rd a (i : Int) = rd b (i : Int)
    · refine Ev.step (fun k => ?_) (ev_to (ih (by omega) (by omega)) (by unfold cmpN; rw [h0]; simp))
      simp only [impl_nat_cmp.l0]
      rw [if_pos (by omega), if_pos (by omega), if_pos (by omega), if_pos (by omega), if_pos h0, wrap64_id (by omega)]
    · by_cases h1 : rd a (i : Int) < rd b (i : Int)
      · have h2 : P * ((rd a (i : Int)).toNat + 1) ≤ P * (rd b (i : Int)).toNat := Nat.mul_le_mul_left _ (by omega)
        rw [Nat.mul_add] at h2
        refine Ev.step (f := fun _ => some (-1)) (fun k => ?_) (ev_to (Ev.now (-1)) (by unfold cmpN; rw [if_pos (by omega)]))
        simp only [impl_nat_cmp.l0]
        rw [if_pos (by omega), if_pos (by omega), if_pos (by omega), if_pos (by omega), if_neg h0, if_pos h1]
      · have h2 : P * ((rd b (i : Int)).toNat + 1) ≤ P * (rd a (i : Int)).toNat := Nat.mul_le_mul_left _ (by omega)
        rw [Nat.mul_add] at h2
        refine Ev.step (f := fun _ => some 1) (fun k => ?_) (ev_to (Ev.now 1) (by unfold cmpN; rw [if_neg (by omega), if_pos (by omega)]))
        simp only [impl_nat_cmp.l0]
        rw [if_pos (by omega), if_pos (by omega), if_pos (by omega), if_pos (by omega), if_neg h0, if_neg h1]
theorem icmp_ev (a b : List Int) (ha : Dig B64 a) (hb : Dig B64 b) (na : Norm a) (nb : Norm b) (la : a.length ≤ 1073741824) (lb : b.length ≤ 1073741824) : Ev (fun k => impl_nat_cmp.f k a b) (cmpN (val B64 a) (val B64 b)) := by
  unfold impl_nat_cmp.f
  by_cases h : (a.length : Int) = (b.length : Int)
  · simp only [if_pos h]
    have h1 := icmp_loop a b ha hb (by omega) a.length (Nat.le_refl _) (by omega)
    rw [val_take_all _ a _ (by omega), val_take_all _ b _ (by omega)] at h1
    refine Ev.congr (fun k => ?_) h1
    rw [wrap64_id (by omega)]
  · simp only [if_neg h]
    by_cases h1 : (a.length : Int) < (b.length : Int)
    · simp only [if_pos h1]
      have := val_lt_of_length B64_pos ha hb nb (by omega)
      exact ev_const (by unfold cmpN; rw [if_pos this])
    · simp only [if_neg h1]
      have := val_lt_of_length B64_pos hb ha na (by omega)
      exact ev_const (by unfold cmpN; rw [if_neg (by omega), if_pos this])
end Go.Proofs.Ytkbkjmhkchagbaa.M
end
section
namespace Go.Proofs.Ytkbkjmhkchagbaa.M
open Go.RowKit Go.Proofs.Ytkbkjmhkchagbaa.G Go.Proofs.YtkbkjmhkchagbaaV.PrintWords Go.Proofs.YtkbkjmhkchagbaaV.PrintLast Go.Proofs.YtkbkjmhkchagbaaV.PrintMore Go.Proofs.Ytkbkjmhkchagbaa.PA
set_option linter.unusedVariables false
set_option linter.unusedSimpArgs false
theorem wf_u64 {l : List Int} (h : ∀ x ∈ l, (Lit.int .u64 x).wf = true) : Dig B64 l := by
  intro x hx
  have := h x hx
  simp [Lit.wf, IntKind.min, IntKind.max, IntKind.signed, IntKind.bits] at this
  unfold B64
  omega
theorem spec_NatCmp_ev (a b : List Int) (ha : Dig B64 a) (hb : Dig B64 b) (la : a.length ≤ 1048576) (lb : b.length ≤ 1048576) :
    Ev (fun k => spec_NatCmp.f k a b) (if a.length ≤ 1200 ∧ b.length ≤ 1200 then cmpN (val B64 a) (val B64 b) else 2) := by
  unfold spec_NatCmp.f
  simp only [fits_eq, Option.bind_some]
  by_cases h1 : a.length ≤ 1200
  · simp only [h1, decide_true, if_true, true_and]
    by_cases h2 : b.length ≤ 1200
    · simp only [h2, decide_true, Bool.not_true, if_true]
      refine Ev.step (f := fun k => (spec_l1In.f k a).bind fun t118 => ((spec_l1In.f k b).bind fun t121 => ((spec_l1Cmp.f k t118 t121).bind fun t124 => (some t124)))) (fun k => ?_) ?_
      · simp only [spec_NatCmp.j0]
        rfl
      · refine Ev.bind (in_ev a ha (by omega)) (Ev.bind (in_ev b hb (by omega)) (Ev.bind ?_ (Ev.now _)))
        have h := cmp_ev (inL a) (inL b) (inL_dig ha) (inL_dig hb) (by have := inL_length a; omega) (by have := inL_length b; omega)
        rw [inL_val ha, inL_val hb] at h
        exact h
    · simp only [h2, decide_false, Bool.not_false, if_false]
      exact Ev.step (f := fun _ => some 2) (fun k => by simp [spec_NatCmp.j0]) (Ev.now _)
  · simp only [h1, decide_false, Bool.false_eq_true, if_false, false_and]
    exact Ev.step (f := fun _ => some 2) (fun k => by simp [spec_NatCmp.j0]) (Ev.now _)
theorem impl_NatCmp_ev (a b : List Int) (ha : Dig B64 a) (hb : Dig B64 b) (la : a.length ≤ 1048576) (lb : b.length ≤ 1048576) :
    Ev (fun k => impl_NatCmp.f k a b) (if a.length ≤ 1200 ∧ b.length ≤ 1200 then cmpN (val B64 a) (val B64 b) else 2) := by
  unfold impl_NatCmp.f
  refine Ev.bind (short_two a b (by omega) (by omega)) ?_
  by_cases h : a.length ≤ 1200 ∧ b.length ≤ 1200
  · simp only [h.1, h.2, and_self, decide_true, Bool.and_self, if_true]
    have h2 := icmp_ev (trimL a) (trimL b) ha.trim hb.trim (norm_trim a) (norm_trim b) (by have := trimL_length a; omega) (by have := trimL_length b; omega)
    rw [val_trim, val_trim] at h2
    exact Ev.bind h2 (Ev.now _)
  · rw [if_neg h]
    have h3 : ¬ ((decide (a.length ≤ 1200) && decide (b.length ≤ 1200)) = true) := by simpa using h
    simp only [if_neg h3]
    exact Ev.now _
def IsNat (l : List Int) (v : Nat) : Prop := Dig B64 l ∧ Norm l ∧ val B64 l = v
theorem IsNat.nil : IsNat [] 0 := ⟨Dig.nil _, norm_nil, rfl⟩
theorem IsNat.out {l : List Int} {v : Nat} (hd : Dig B32 l) (hn : Norm l) (hv : val B32 l = v) : IsNat (outL l) v := ⟨outL_dig hd, outL_norm hd hn, by rw [outL_val hd, hv]⟩
end Go.Proofs.Ytkbkjmhkchagbaa.M
end
section
namespace Go.Proofs.Ytkbkjmhkchagbaa.Pure
open Go.RowKit Go.Proofs.Ytkbkjmhkchagbaa.G Go.Proofs.Ytkbkjmhkchagbaa.PA Go.Proofs.YtkbkjmhkchagbaaV.PrintWords Go.Proofs.YtkbkjmhkchagbaaV.PrintLast Go.Proofs.Ytkbkjmhkchagbaa.M
theorem FnExactNatCmp : laws_FnExactNatCmp.Pure := by
  intro a b _ _ wa _ _ wb
  refine Ev.rounds (g := fun k => laws_FnExactNatCmp.f k a b) ?_
  have ha := wf_u64 wa
  have hb := wf_u64 wb
  unfold laws_FnExactNatCmp.f
  by_cases h1 : (a.length : Int) > 1048576
  · simp only [if_pos h1]
    exact Ev.now _
  by_cases h2 : (b.length : Int) > 1048576
  · simp only [if_neg h1, if_pos h2]
    exact Ev.now _
  simp only [if_neg h1, if_neg h2]
  have ta := toU_ev a (by omega)
  have tb := toU_ev b (by omega)
  refine Ev.bind ta (Ev.bind tb (Ev.bind (spec_NatCmp_ev a b ha hb (by omega) (by omega)) (Ev.bind ta (Ev.bind tb (Ev.bind (impl_NatCmp_ev a b ha hb (by omega) (by omega)) ?_)))))
  simp only [if_true]
  refine Ev.bind ta (Ev.bind (eqU_same a (by omega)) ?_)
  simp only [if_true]
  refine Ev.bind tb (Ev.bind (eqU_same b (by omega)) ?_)
  simp only [if_true]
  exact Ev.now _
end Go.Proofs.Ytkbkjmhkchagbaa.Pure
end
