import Derived.Laws.Externs
import Derived.Test.YtgknelgplmohoaaDoorQFnShortestj
section
namespace Go.Proofs.YtgknelgplmohoaaDoor.G
set_option linter.unusedVariables false
def add64s (a b c : Int) : Int := ((a.toNat + b.toNat + c.toNat) % 18446744073709551616 : Nat)
def add64c (a b c : Int) : Int := ((a.toNat + b.toNat + c.toNat) / 18446744073709551616 : Nat)
def sub64s (a b c : Int) : Int := ((a.toNat + 18446744073709551616 - b.toNat - c.toNat) % 18446744073709551616 : Nat)
def sub64c (a b c : Int) : Int := if a.toNat < b.toNat + c.toNat then 1 else 0
def sub64Entry : Array Value → Sem Value := fun args => do
  let (x, y, b) ← Extern.MathBitsCarry.three "Sub64" args
  pure (Extern.MathBitsCarry.pair ((x + Extern.MathBitsCarry.m64 - y - b) % Extern.MathBitsCarry.m64) (if x < y + b then 1 else 0))
theorem add64_entry {P : Program} (a b c : Int) (hc : c.toNat ≤ 1) (w : World) :
    (add64Entry #[.int .u64 a, .int .u64 b, .int .u64 c]).run P w = .ok (.tuple #[.int .u64 (add64s a b c), .int .u64 (add64c a b c)]) w := by
  match c, hc with
  | .ofNat 0, _ => rfl
  | .ofNat 1, _ => rfl
  | .ofNat (n + 2), hc => exact absurd (show n + 2 ≤ 1 from hc) (by omega)
  | .negSucc n, _ => rfl
theorem sub64_entry {P : Program} (a b c : Int) (hc : c.toNat ≤ 1) (w : World) :
    (sub64Entry #[.int .u64 a, .int .u64 b, .int .u64 c]).run P w = .ok (.tuple #[.int .u64 (sub64s a b c), .int .u64 (sub64c a b c)]) w := by
  have key : ∀ k : Nat, c.toNat = k → (sub64Entry #[.int .u64 a, .int .u64 b, .int .u64 c]).run P w = .ok (Extern.MathBitsCarry.pair ((a.toNat + Extern.MathBitsCarry.m64 - b.toNat - c.toNat) % Extern.MathBitsCarry.m64) (if a.toNat < b.toNat + c.toNat then 1 else 0)) w := by
    intro k hk
    match c, hc with
    | .ofNat 0, _ => rfl
    | .ofNat 1, _ => rfl
    | .ofNat (n + 2), hc => exact absurd (show n + 2 ≤ 1 from hc) (by omega)
    | .negSucc n, _ => rfl
  rw [key _ rfl]
  unfold sub64c
  by_cases h : a.toNat < b.toNat + c.toNat
  · rw [if_pos h, if_pos h]; rfl
  · rw [if_neg h, if_neg h]; rfl
theorem run_Add64 (a b c : Int) (hc : c.toNat ≤ 1) (w : World) :
    (callFunc 131 #[.int .u64 a, .int .u64 b, .int .u64 c]).run Tryd.prog w = .ok (.value (.tuple #[.int .u64 (add64s a b c), .int .u64 (add64c a b c)])) w := by
  rw [run_callFunc_extern Tryd.func131 (by kernel_rfl) (by kernel_rfl) (by kernel_rfl) (e := add64Entry) (by kernel_rfl), add64_entry a b c hc]
  rfl
theorem run_Sub64 (a b c : Int) (hc : c.toNat ≤ 1) (w : World) :
    (callFunc 134 #[.int .u64 a, .int .u64 b, .int .u64 c]).run Tryd.prog w = .ok (.value (.tuple #[.int .u64 (sub64s a b c), .int .u64 (sub64c a b c)])) w := by
  rw [run_callFunc_extern Tryd.func134 (by kernel_rfl) (by kernel_rfl) (by kernel_rfl) (e := sub64Entry) (by kernel_rfl), sub64_entry a b c hc]
  rfl
end Go.Proofs.YtgknelgplmohoaaDoor.G
end
section
namespace Go.Proofs.YtgknelgplmohoaaDoor.M
open Go.RowKit Go.Proofs.YtgknelgplmohoaaDoor.G Go.Proofs.YtgknelgplmohoaaDoorV.PrintWords Go.Proofs.YtgknelgplmohoaaDoorV.PrintLast
set_option linter.unusedVariables false
set_option linter.unusedSimpArgs false
section
def B32 : Nat := 4294967296
def B64 : Nat := 18446744073709551616
theorem B32_pos : 0 < B32 := by unfold B32; omega
theorem B64_pos : 0 < B64 := by unfold B64; omega
def outL : List Int → List Int
  | [] => []
  | [x] => [x]
  | x :: y :: l => (x + y * 4294967296) :: outL l
theorem outL_length : ∀ l : List Int, (outL l).length ≤ l.length
  | [] => Nat.le_refl _
  | [x] => Nat.le_refl _
  | x :: y :: l => by have := outL_length l; simp only [outL, List.length_cons]; omega
theorem outL_dig : ∀ {l : List Int}, Dig B32 l → Dig B64 (outL l)
  | [], _ => Dig.nil _
  | [x], h => by
    have hx := h x (by simp)
    unfold B32 at hx
    exact Dig.cons (by unfold B64; omega) (Dig.nil _)
  | x :: y :: l, h => by
    have hx := h x (by simp)
    have hy := h y (by simp)
    unfold B32 at hx hy
    exact Dig.cons (by unfold B64; omega) (outL_dig (fun z hz => h z (List.mem_cons_of_mem _ (List.mem_cons_of_mem _ hz))))
theorem outL_val : ∀ {l : List Int}, Dig B32 l → val B64 (outL l) = val B32 l
  | [], _ => rfl
  | [x], h => by simp [outL, val]
  | x :: y :: l, h => by
    have hx := h x (by simp)
    have hy := h y (by simp)
    have ih := outL_val (l := l) (fun z hz => h z (List.mem_cons_of_mem _ (List.mem_cons_of_mem _ hz)))
    simp only [outL, val_cons, ih]
    unfold B32 at hx hy
    unfold B32 B64
    omega
theorem norm_iff (l : List Int) : Norm l ↔ ∀ h : l ≠ [], l.getLast h ≠ 0 := by
  rcases Nat.eq_zero_or_pos l.length with h | h
  · have := List.eq_nil_of_length_eq_zero h
    subst this
    exact ⟨fun _ h => absurd rfl h, fun _ => rfl⟩
  · obtain ⟨a, x, rfl⟩ := snoc_of h
    rw [norm_snoc]
    simp
theorem outL_norm : ∀ {l : List Int}, Dig B32 l → Norm l → Norm (outL l)
  | [], _, _ => norm_nil
  | [x], _, h => h
  | [x, y], hd, h => by
    have hx := hd x (by simp)
    have h2 := (norm_iff _).1 h (by simp)
    simp at h2
    have hy := hd y (by simp)
    refine (norm_iff _).2 (fun _ => ?_)
    simp [outL]
    omega
  | x :: y :: z :: l, hd, h => by
    have h2 : Norm (z :: l) := by
      rw [norm_iff] at h ⊢
      intro hn
      have := h (by simp)
      simpa using this
    have ih := outL_norm (l := z :: l) (fun w hw => hd w (List.mem_cons_of_mem _ (List.mem_cons_of_mem _ hw))) h2
    rw [norm_iff] at ih ⊢
    intro hn
    have hne : outL (z :: l) ≠ [] := by cases l <;> simp [outL]
    have := ih hne
    simp only [outL]
    rw [List.getLast_cons hne]
    exact this
def cmpN (x y : Nat) : Int := if x < y then -1 else if x > y then 1 else 0
end
section
theorem add64_spec (a b c : Int) (ha : 0 ≤ a ∧ a < (B64 : Int)) (hb : 0 ≤ b ∧ b < (B64 : Int)) (hc : 0 ≤ c ∧ c ≤ 1) :
    0 ≤ add64s a b c ∧ add64s a b c < (B64 : Int) ∧ 0 ≤ add64c a b c ∧ add64c a b c ≤ 1 ∧ (add64s a b c).toNat + B64 * (add64c a b c).toNat = a.toNat + b.toNat + c.toNat := by
  unfold add64s add64c
  unfold B64 at *
  omega
theorem sub64_spec (a b c : Int) (ha : 0 ≤ a ∧ a < (B64 : Int)) (hb : 0 ≤ b ∧ b < (B64 : Int)) (hc : 0 ≤ c ∧ c ≤ 1) :
    0 ≤ sub64s a b c ∧ sub64s a b c < (B64 : Int) ∧ 0 ≤ sub64c a b c ∧ sub64c a b c ≤ 1 ∧ (sub64s a b c).toNat + b.toNat + c.toNat = a.toNat + B64 * (sub64c a b c).toNat := by
  unfold sub64s sub64c
  unfold B64 at *
  split <;> omega
end
section
def IsNat (l : List Int) (v : Nat) : Prop := Dig B64 l ∧ Norm l ∧ val B64 l = v
theorem IsNat.uniq {a b : List Int} {v : Nat} (h : IsNat a v) (k : IsNat b v) : a = b := norm_inj B64_pos h.1 k.1 h.2.1 k.2.1 (h.2.2.trans k.2.2.symm)
theorem IsNat.nil : IsNat [] 0 := ⟨Dig.nil _, norm_nil, rfl⟩
theorem IsNat.out {l : List Int} {v : Nat} (hd : Dig B32 l) (hn : Norm l) (hv : val B32 l = v) : IsNat (outL l) v := ⟨outL_dig hd, outL_norm hd hn, by rw [outL_val hd, hv]⟩
end
section
theorem mul_step {B : Nat} {a b out : List Int} {i j : Nat} {ai c x c' : Int} (hp : i + j < out.length)
    (hv : val B out + B ^ (i + j) * c.toNat = val B (a.take i) * val B b + B ^ i * (ai.toNat * val B (b.take j)))
    (hx : x.toNat + B * c'.toNat = ai.toNat * (rd b (j : Int)).toNat + (rd out ((i + j : Nat) : Int)).toNat + c.toNat) :
    val B (out.set (i + j) x) + B ^ (i + (j + 1)) * c'.toNat = val B (a.take i) * val B b + B ^ i * (ai.toNat * val B (b.take (j + 1))) := by
  have h1 := val_set B out (i + j) x hp
  rw [val_take_succ, Nat.mul_add, Nat.mul_add, ← Nat.add_assoc i j 1, Nat.pow_succ]
  have h2 := congrArg (B ^ (i + j) * ·) hx
  simp only [Nat.mul_add] at h2
  have h3 : B ^ (i + j) * (B * c'.toNat) = B ^ (i + j) * B * c'.toNat := (Nat.mul_assoc _ _ _).symm
  have h4 : B ^ (i + j) * (ai.toNat * (rd b (j : Int)).toNat) = B ^ i * (ai.toNat * (B ^ j * (rd b (j : Int)).toNat)) := by
    rw [Nat.pow_add]
    simp only [Nat.mul_assoc, Nat.mul_left_comm]
  omega
theorem mul_carry {B : Nat} (hB : 0 < B) {x c' p q o c : Nat} (hp : p < B) (hq : q < B) (ho : o < B) (hc : c < B) (hx : x + B * c' = p * q + o + c) : c' < B := by
  have h1 : p * q ≤ (B - 1) * (B - 1) := Nat.mul_le_mul (by omega) (by omega)
  rcases Nat.lt_or_ge c' B with h | h
  · exact h
  · have h2 : B * B ≤ B * c' := Nat.mul_le_mul_left B h
    obtain ⟨m, rfl⟩ : ∃ m, B = m + 1 := ⟨B - 1, by omega⟩
    simp only [Nat.add_sub_cancel] at h1
    have h3 : (m + 1) * (m + 1) = m * m + 2 * m + 1 := by
      rw [Nat.add_mul, Nat.mul_add, Nat.mul_one, Nat.one_mul]
      omega
    omega
theorem mul_end {B : Nat} {a b out : List Int} {i : Nat} {c : Int} (hp : i + b.length < out.length) (h0 : rd out ((i + b.length : Nat) : Int) = 0)
    (hv : val B out + B ^ (i + b.length) * c.toNat = val B (a.take i) * val B b + B ^ i * ((rd a (i : Int)).toNat * val B (b.take b.length))) :
    val B (out.set (i + b.length) c) = val B (a.take (i + 1)) * val B b := by
  have h1 := val_set B out (i + b.length) c hp
  rw [h0] at h1
  rw [List.take_length] at hv
  rw [val_take_succ, Nat.add_mul]
  have h2 : B ^ i * (rd a (i : Int)).toNat * val B b = B ^ i * ((rd a (i : Int)).toNat * val B b) := Nat.mul_assoc _ _ _
  simp at h1
  omega
def Clear (l : List Int) (n : Nat) : Prop := ∀ m : Nat, n ≤ m → rd l (m : Int) = 0
theorem Clear.set {l : List Int} {n p : Nat} {x : Int} (h : Clear l n) (hp : p < n) : Clear (l.set p x) n := fun m hm => by rw [rd_set_ne _ _ _ _ (by omega)]; exact h m hm
theorem Clear.more {l : List Int} {n : Nat} (h : Clear l n) (x : Int) : Clear (l.set n x) (n + 1) := fun m hm => by rw [rd_set_ne _ _ _ _ (by omega)]; exact h m (by omega)
theorem Clear.zeros (n m : Nat) : Clear (List.replicate n 0) m := fun k hk => by
  rw [rd_nat, List.getD_eq_getElem?_getD, List.getElem?_replicate]
  split <;> rfl
end
section
theorem cast_dig {B n : Nat} (h : n < B) : 0 ≤ (n : Int) ∧ (n : Int) < (B : Int) := by omega
theorem low32_nat (n : Nat) (h : n < 18446744073709551616) : bits .and .u64 (n : Int) 4294967295 = ((n % 4294967296 : Nat) : Int) := by
  rw [and_low32 _ (by omega) (by omega)]
  omega
def sl (B P : Nat) : Nat → List Int → List Int
  | c, [] => [(c : Int)]
  | c, x :: l => (((x.toNat * P + c) % B : Nat) : Int) :: sl B P ((x.toNat * P + c) / B) l
theorem carry_lt {B P x c : Nat} (hx : x < B) (hc : c < P) : (x * P + c) / B < P := by
  have hB : 0 < B := by omega
  refine Nat.div_lt_of_lt_mul ?_
  have h := Nat.mul_le_mul_right P (show x + 1 ≤ B from hx)
  rw [Nat.add_mul, Nat.one_mul] at h
  omega
def sr (B P : Nat) : List Int → List Int
  | [] => []
  | x :: l => (((x.toNat + B * ((rd l 0).toNat % P)) / P : Nat) : Int) :: sr B P l
theorem val_mod (B P : Nat) (h : P ∣ B) (l : List Int) : val B l % P = (rd l 0).toNat % P := by
  cases l with
  | nil => rfl
  | cons x l =>
    obtain ⟨K, rfl⟩ := h
    rw [val_cons, Nat.mul_assoc, Nat.add_mul_mod_self_left]
    rfl
theorem sr_val {B P : Nat} (hP : 0 < P) (h : P ∣ B) : ∀ l : List Int, val B (sr B P l) = val B l / P
  | [] => by simp [sr, val]
  | x :: l => by
    simp only [sr, val_cons, Int.toNat_natCast]
    rw [sr_val hP h l, ← val_mod B P h l]
    have h1 := Nat.mod_add_div (val B l) P
    have h2 : x.toNat + B * val B l = x.toNat + B * (val B l % P) + P * (B * (val B l / P)) := by
      have h3 := congrArg (B * ·) h1
      simp only [Nat.mul_add] at h3
      rw [Nat.mul_left_comm] at h3
      omega
    rw [h2, Nat.add_mul_div_left _ _ hP]
theorem quot_lt {B P x y : Nat} (hP : 0 < P) (hx : x < B) : (x + B * (y % P)) / P < B := by
  have h1 := Nat.mod_lt y hP
  refine Nat.div_lt_of_lt_mul ?_
  have h := Nat.mul_le_mul_left B (show y % P + 1 ≤ P from h1)
  rw [Nat.mul_add, Nat.mul_one, Nat.mul_comm B P] at h
  omega
theorem sr_dig {B P : Nat} (hP : 0 < P) : ∀ l : List Int, Dig B l → Dig B (sr B P l)
  | [], _ => Dig.nil _
  | x :: l, h => by
    have hx := h x (by simp)
    have h1 : (x.toNat + B * ((rd l 0).toNat % P)) / P < B := quot_lt hP (by omega)
    exact Dig.cons (cast_dig h1) (sr_dig hP l (fun y hy => h y (List.mem_cons_of_mem _ hy)))
theorem sr_length (B P : Nat) : ∀ l : List Int, (sr B P l).length = l.length
  | [] => rfl
  | x :: l => by simp only [sr, List.length_cons, sr_length B P l]
theorem div_split {B P x y : Nat} (hP : 0 < P) (hx : x < B) : (x + B * y) / P % B = (x + B * (y % P)) / P := by
  have h1 := Nat.mod_add_div y P
  have h2 : x + B * y = x + B * (y % P) + P * (B * (y / P)) := by
    have h3 := congrArg (B * ·) h1
    simp only [Nat.mul_add] at h3
    rw [Nat.mul_left_comm] at h3
    omega
  rw [h2, Nat.add_mul_div_left _ _ hP, Nat.add_mul_mod_self_left, Nat.mod_eq_of_lt (quot_lt hP hx)]
theorem tmod_nat (m d : Nat) : Int.tmod (m : Int) (d : Int) = ((m % d : Nat) : Int) := by rw [Int.tmod_eq_emod_of_nonneg (by omega)]; rfl
theorem shl_nat (x p : Nat) (hp : p ≤ 64) : shl .u64 (x : Int) (p : Int) = ((x * 2 ^ p % 18446744073709551616 : Nat) : Int) := by
  unfold shl
  rw [wrap_u64, Int.toNat_natCast, show IntKind.u64.bits = 64 from rfl, Nat.min_eq_left hp, show ((x : Int) * 2 ^ p) = ((x * 2 ^ p : Nat) : Int) by simp]
  exact (Int.natCast_emod _ 18446744073709551616).symm
theorem or_nat (p x y : Nat) (hp : p ≤ 64) (hx : x < 18446744073709551616) (h : 2 ^ p ∣ x) (hy : y < 2 ^ p) : bits .or .u64 (x : Int) (y : Int) = ((x + y : Nat) : Int) := by
  have h64 : 2 ^ p ≤ 2 ^ 64 := Nat.pow_le_pow_right (by omega) hp
  have hc : ((2 : Int) ^ p) = ((2 ^ p : Nat) : Int) := by simp
  rw [or_join p x y (by omega) (by rw [hc]; have := Nat.mod_eq_zero_of_dvd h; omega) (by omega) (by omega) (by rw [hc]; omega) (by omega)]
  omega
theorem or_nat' (p x y : Nat) (hp : p ≤ 64) (hx : x < 18446744073709551616) (h : 2 ^ p ∣ x) (hy : y < 2 ^ p) : bits .or .u64 (y : Int) (x : Int) = ((y + x : Nat) : Int) := by
  rw [bits_or_comm, or_nat p x y hp hx h hy, Nat.add_comm]
theorem pow_split (w p : Nat) (h : p ≤ w) : 2 ^ w = 2 ^ (w - p) * 2 ^ p := by rw [← Nat.pow_add]; congr 1; omega
theorem pow_div_mod (v w n : Nat) : v / 2 ^ n = v / (2 ^ w) ^ (n / w) / 2 ^ (n % w) := by
  rw [Nat.div_div_eq_div_mul, ← Nat.pow_mul, ← Nat.pow_add]
  congr 2
  exact (Nat.div_add_mod n w).symm
theorem pow_mul_mod (v w n : Nat) : v * 2 ^ n = (2 ^ w) ^ (n / w) * (v * 2 ^ (n % w)) := by
  rw [Nat.mul_left_comm, ← Nat.pow_mul, ← Nat.pow_add, Nat.div_add_mod]
theorem B32_pow : B32 = 2 ^ 32 := by unfold B32; rfl
theorem B64_pow : B64 = 2 ^ 64 := by unfold B64; rfl
theorem val_drop (B : Nat) (hB : 0 < B) {l : List Int} (h : Dig B l) (d : Nat) : val B (l.drop d) = val B l / B ^ d := by
  rcases Nat.lt_or_ge l.length d with hl | hl
  · rw [List.drop_eq_nil_of_le (by omega), Nat.div_eq_of_lt]
    · rfl
    · have h1 := val_lt h
      have h2 : B ^ l.length ≤ B ^ d := Nat.pow_le_pow_right hB (by omega)
      omega
  · have h1 := val_split B l d hl
    have h2 := val_lt (h.take d)
    rw [List.length_take, Nat.min_eq_left hl] at h2
    rw [h1, Nat.add_mul_div_left _ _ (Nat.pow_pos hB), Nat.div_eq_of_lt h2]
    omega
theorem val_shl (B d : Nat) (l : List Int) : val B (List.replicate d 0 ++ l) = B ^ d * val B l := by
  rw [val_append, val_zeros, List.length_replicate]
  omega
end
section
theorem set_mid (acc r : List Int) (c y : Int) (p : Nat) (h : p = acc.length) : (acc ++ c :: r).set p y = acc ++ y :: r := by
  subst h
  rw [List.set_append_right _ _ (Nat.le_refl _), Nat.sub_self]
  rfl
theorem rd_mid (acc r : List Int) (c : Int) (p : Nat) (h : p = acc.length) : rd (acc ++ c :: r) (p : Int) = c := by
  subst h
  simp [rd_nat, List.getD_eq_getElem?_getD]
theorem sh64 (p : Nat) (hp : 0 < p ∧ p < 64) : IntKind.u64.wrap (64 - (p : Int)) = ((64 - p : Nat) : Int) := by
  rw [wrap_u64_id (by omega)]
  omega
theorem place_up (p x c : Nat) (hp : p < 64) (hx : x < B64) (hc : c < 2 ^ p) : bits .or .u64 (c : Int) (shl .u64 (x : Int) (p : Int)) = (((x * 2 ^ p + c) % B64 : Nat) : Int) := by
  have hs := pow_split 64 p (by omega)
  have hK : 0 < 2 ^ (64 - p) := Nat.pow_pos (by omega)
  have hmod : x * 2 ^ p % 18446744073709551616 = x % 2 ^ (64 - p) * 2 ^ p := by
    rw [show 18446744073709551616 = 2 ^ 64 from rfl, hs, Nat.mul_mod_mul_right]
  have hlt := Nat.mod_lt x hK
  have h1 := Nat.mul_le_mul_right (2 ^ p) (show x % 2 ^ (64 - p) + 1 ≤ 2 ^ (64 - p) from hlt)
  rw [Nat.add_mul, Nat.one_mul, ← hs] at h1
  have h2 : (2 : Nat) ^ 64 = 18446744073709551616 := rfl
  rw [h2] at h1
  have h3 : (x * 2 ^ p + c) % B64 = c + x % 2 ^ (64 - p) * 2 ^ p := by
    unfold B64
    rw [Nat.add_mod, hmod, Nat.mod_eq_of_lt (a := c) (by omega), Nat.mod_eq_of_lt (by omega), Nat.add_comm]
  rw [shl_nat _ _ (by omega), hmod, or_nat' p _ _ (by omega) (by omega) (Nat.dvd_mul_left _ _) hc, h3]
theorem up_carry (p x c : Nat) (hp : p < 64) (hc : c < 2 ^ p) : (x * 2 ^ p + c) / B64 = x / 2 ^ (64 - p) := by
  rw [B64_pow, pow_split 64 p (by omega), Nat.mul_comm (2 ^ (64 - p)), ← Nat.div_div_eq_div_mul, Nat.add_comm, Nat.add_mul_div_right _ _ (Nat.pow_pos (by omega)), Nat.div_eq_of_lt hc, Nat.zero_add]
theorem rep_split (n m : Nat) : List.replicate (n + (m + 1)) (0 : Int) = List.replicate n 0 ++ ((0 : Nat) : Int) :: List.replicate m 0 := by
  induction n with
  | zero => rw [Nat.zero_add, List.replicate_succ]; rfl
  | succ n ih => rw [show n + 1 + (m + 1) = (n + (m + 1)) + 1 by omega, List.replicate_succ, ih, List.replicate_succ]; rfl
theorem place_down (p x y : Nat) (hp : 0 < p ∧ p < 64) (hx : x < B64) : bits .or .u64 ((x / 2 ^ p : Nat) : Int) (shl .u64 (y : Int) ((64 - p : Nat) : Int)) = (((x + B64 * (y % 2 ^ p)) / 2 ^ p : Nat) : Int) := by
  have hs := pow_split 64 (64 - p) (by omega)
  rw [show 64 - (64 - p) = p by omega] at hs
  have hP : 0 < 2 ^ p := Nat.pow_pos (by omega)
  have hmod : y * 2 ^ (64 - p) % 18446744073709551616 = y % 2 ^ p * 2 ^ (64 - p) := by
    rw [show 18446744073709551616 = 2 ^ 64 from rfl, hs, Nat.mul_mod_mul_right]
  have hlt := Nat.mod_lt y hP
  have h1 := Nat.mul_le_mul_right (2 ^ (64 - p)) (show y % 2 ^ p + 1 ≤ 2 ^ p from hlt)
  rw [Nat.add_mul, Nat.one_mul, ← hs] at h1
  have h2 : (2 : Nat) ^ 64 = 18446744073709551616 := rfl
  rw [h2] at h1
  have hK : 0 < 2 ^ (64 - p) := Nat.pow_pos (by omega)
  have hxd : x / 2 ^ p < 2 ^ (64 - p) := by
    refine Nat.div_lt_of_lt_mul ?_
    rw [← hs, h2]
    exact hx
  rw [shl_nat _ _ (by omega), hmod, or_nat' (64 - p) _ _ (by omega) (by omega) (Nat.dvd_mul_left _ _) hxd]
  congr 1
  rw [B64_pow, hs, Nat.mul_assoc, Nat.add_mul_div_left _ _ hP, Nat.mul_comm (2 ^ (64 - p))]
def shOk (a : List Int) (n : Int) : Prop := a.length ≤ 1200 ∧ ¬ (n > 80000) ∧ ¬ (n < -80000)
instance (a : List Int) (n : Int) : Decidable (shOk a n) := by unfold shOk; infer_instance
end
section
def IsBits (v n : Nat) : Prop := v < 2 ^ n ∧ (n = 0 ∨ 2 ^ (n - 1) ≤ v)
instance (v n : Nat) : Decidable (IsBits v n) := by unfold IsBits; infer_instance
theorem IsBits.uniq {v n m : Nat} (h : IsBits v n) (k : IsBits v m) : n = m := by
  have one : ∀ a b : Nat, IsBits v a → IsBits v b → a ≤ b := by
    intro a b h k
    rcases h.2 with h2 | h2
    · omega
    · rcases Nat.lt_or_ge b a with h3 | h3
      · have := Nat.pow_le_pow_right (n := 2) (by omega) (show b ≤ a - 1 by omega)
        have := k.1
        omega
      · exact h3
  exact Nat.le_antisymm (one n m h k) (one m n k h)
theorem IsBits.zero : IsBits 0 0 := ⟨by decide, Or.inl rfl⟩
theorem IsBits.pos {v n : Nat} (h : IsBits v n) (hv : 0 < v) : 0 < n := by
  rcases Nat.eq_zero_or_pos n with h2 | h2
  · subst h2
    have := h.1
    simp at this
    omega
  · exact h2
theorem IsBits.up {v m s : Nat} (h : IsBits (v / 2 ^ s) m) (hv : 0 < v / 2 ^ s) : IsBits v (s + m) := by
  have hp : 0 < 2 ^ s := Nat.pow_pos (by omega)
  have hm := h.pos hv
  refine ⟨?_, Or.inr ?_⟩
  · rw [Nat.pow_add, Nat.mul_comm]
    exact (Nat.div_lt_iff_lt_mul hp).1 h.1
  · rcases h.2 with h2 | h2
    · omega
    · rw [show s + m - 1 = s + (m - 1) by omega, Nat.pow_add, Nat.mul_comm]
      exact (Nat.le_div_iff_mul_le hp).1 h2
theorem IsBits.le {v n w : Nat} (h : IsBits v n) (hv : v < 2 ^ w) : n ≤ w := by
  rcases h.2 with h2 | h2
  · omega
  · rcases Nat.lt_or_ge w n with h3 | h3
    · have := Nat.pow_le_pow_right (n := 2) (by omega) (show w ≤ n - 1 by omega)
      omega
    · exact h3
theorem lenT : ∀ i : Nat, i < 256 → IsBits i (bt (⟨#[0, 1, 2, 2, 3, 3, 3, 3, 4, 4, 4, 4, 4, 4, 4, 4, 5, 5, 5, 5, 5, 5, 5, 5, 5, 5, 5, 5, 5, 5, 5, 5, 6, 6, 6, 6, 6, 6, 6, 6, 6, 6, 6, 6, 6, 6, 6, 6, 6, 6, 6, 6, 6, 6, 6, 6, 6, 6, 6, 6, 6, 6, 6, 6, 7, 7, 7, 7, 7, 7, 7, 7, 7, 7, 7, 7, 7, 7, 7, 7, 7, 7, 7, 7, 7, 7, 7, 7, 7, 7, 7, 7, 7, 7, 7, 7, 7, 7, 7, 7, 7, 7, 7, 7, 7, 7, 7, 7, 7, 7, 7, 7, 7, 7, 7, 7, 7, 7, 7, 7, 7, 7, 7, 7, 7, 7, 7, 7, 8, 8, 8, 8, 8, 8, 8, 8, 8, 8, 8, 8, 8, 8, 8, 8, 8, 8, 8, 8, 8, 8, 8, 8, 8, 8, 8, 8, 8, 8, 8, 8, 8, 8, 8, 8, 8, 8, 8, 8, 8, 8, 8, 8, 8, 8, 8, 8, 8, 8, 8, 8, 8, 8, 8, 8, 8, 8, 8, 8, 8, 8, 8, 8, 8, 8, 8, 8, 8, 8, 8, 8, 8, 8, 8, 8, 8, 8, 8, 8, 8, 8, 8, 8, 8, 8, 8, 8, 8, 8, 8, 8, 8, 8, 8, 8, 8, 8, 8, 8, 8, 8, 8, 8, 8, 8, 8, 8, 8, 8, 8, 8, 8, 8, 8, 8, 8, 8, 8, 8, 8, 8, 8, 8, 8, 8, 8, 8]⟩ : ByteArray) (i : Int)).toNat ∧ 0 ≤ bt (⟨#[0, 1, 2, 2, 3, 3, 3, 3, 4, 4, 4, 4, 4, 4, 4, 4, 5, 5, 5, 5, 5, 5, 5, 5, 5, 5, 5, 5, 5, 5, 5, 5, 6, 6, 6, 6, 6, 6, 6, 6, 6, 6, 6, 6, 6, 6, 6, 6, 6, 6, 6, 6, 6, 6, 6, 6, 6, 6, 6, 6, 6, 6, 6, 6, 7, 7, 7, 7, 7, 7, 7, 7, 7, 7, 7, 7, 7, 7, 7, 7, 7, 7, 7, 7, 7, 7, 7, 7, 7, 7, 7, 7, 7, 7, 7, 7, 7, 7, 7, 7, 7, 7, 7, 7, 7, 7, 7, 7, 7, 7, 7, 7, 7, 7, 7, 7, 7, 7, 7, 7, 7, 7, 7, 7, 7, 7, 7, 7, 8, 8, 8, 8, 8, 8, 8, 8, 8, 8, 8, 8, 8, 8, 8, 8, 8, 8, 8, 8, 8, 8, 8, 8, 8, 8, 8, 8, 8, 8, 8, 8, 8, 8, 8, 8, 8, 8, 8, 8, 8, 8, 8, 8, 8, 8, 8, 8, 8, 8, 8, 8, 8, 8, 8, 8, 8, 8, 8, 8, 8, 8, 8, 8, 8, 8, 8, 8, 8, 8, 8, 8, 8, 8, 8, 8, 8, 8, 8, 8, 8, 8, 8, 8, 8, 8, 8, 8, 8, 8, 8, 8, 8, 8, 8, 8, 8, 8, 8, 8, 8, 8, 8, 8, 8, 8, 8, 8, 8, 8, 8, 8, 8, 8, 8, 8, 8, 8, 8, 8, 8, 8, 8, 8, 8, 8, 8, 8]⟩ : ByteArray) (i : Int) := by decide +kernel
end
section
theorem and_one (x : Nat) (h : x ≤ 20000) : bits .and .i64 (x : Int) 1 = ((x % 2 : Nat) : Int) := by
  have := bits_mask .i64 15 (by decide) (fun n h0 h1 => by simp only [IntKind.wrap, IntKind.bits, IntKind.signed] at *; simp at *; omega) 1 (by decide) (x : Int) (by omega) (by simp; omega)
  simp at this
  rw [this]
  omega
theorem pow_half (b x : Nat) : b ^ x = b ^ (x % 2) * (b * b) ^ (x / 2) := by
  rw [← Nat.pow_two, ← Nat.pow_mul, ← Nat.pow_add]
  congr 1
  omega
def powOk (m : Nat) (e : Int) : Prop := ¬ (e < 0) ∧ ¬ (e > 20000) ∧ ¬ (wrap64 ((m : Int) * e) > 76800)
instance (m : Nat) (e : Int) : Decidable (powOk m e) := by unfold powOk; infer_instance
end
section
theorem est_le {B d1 d0 n u q r : Nat} (hq : q * d1 + r = n) (hx : q * d0 ≤ B * r + u) : q * (d1 * B + d0) ≤ n * B + u := by
  subst hq
  have e1 : q * (d1 * B + d0) = q * d1 * B + q * d0 := by rw [Nat.mul_add, Nat.mul_assoc]
  have e2 : (q * d1 + r) * B = q * d1 * B + B * r := by rw [Nat.add_mul, Nat.mul_comm r B]
  omega
theorem est_gt {B d1 d0 n u q r : Nat} (hq : q * d1 + r = n) (hx : B * r + u < q * d0) : n * B + u < q * (d1 * B + d0) := by
  subst hq
  have e1 : q * (d1 * B + d0) = q * d1 * B + q * d0 := by rw [Nat.mul_add, Nat.mul_assoc]
  have e2 : (q * d1 + r) * B = q * d1 * B + B * r := by rw [Nat.add_mul, Nat.mul_comm r B]
  omega
theorem est_over {B d0 q r u : Nat} (hq : q ≤ B) (hd : d0 < B) (hr : B ≤ r) : q * d0 ≤ B * r + u := by
  have h1 := Nat.mul_le_mul hq (Nat.le_of_lt hd)
  have h2 := Nat.mul_le_mul_left B hr
  omega
theorem div_is {T D q : Nat} (hD : 0 < D) (h1 : q * D ≤ T) (h2 : T / D ≤ q) : q = T / D := by
  have := (Nat.le_div_iff_mul_le hD).2 h1
  omega
theorem div_less {T D q : Nat} (hD : 0 < D) (h : T < q * D) : T / D + 1 ≤ q := (Nat.div_lt_iff_lt_mul hD).2 h
theorem div_lt_base {B D n u : Nat} (hn : n < D) (hu : u < B) : (n * B + u) / D < B := by
  have hD : 0 < D := by omega
  rw [Nat.div_lt_iff_lt_mul hD]
  have h1 := Nat.mul_le_mul_right B (show n + 1 ≤ D from hn)
  rw [Nat.add_mul, Nat.mul_comm D B] at h1
  omega
theorem est_start {B d1 d0 n : Nat} (hd1 : B ≤ 2 * d1) (hd0 : d0 < B) (hn : n < d1 * B + d0) : n / d1 ≤ B + 1 := by
  have h1 : 0 < d1 := by omega
  have h2 : n < (B + 2) * d1 := by
    have : (B + 2) * d1 = d1 * B + 2 * d1 := by rw [Nat.add_mul, Nat.mul_comm B d1]
    omega
  have := (Nat.div_lt_iff_lt_mul h1).2 h2
  omega
theorem est_floor {B d1 d0 n u : Nat} (h1 : 0 < d1) (hu : u < B) : (n * B + u) / (d1 * B + d0) ≤ n / d1 := by
  have hD : 0 < d1 * B + d0 := by
    have := Nat.mul_pos h1 (show 0 < B by omega)
    omega
  rw [Nat.le_div_iff_mul_le h1]
  have h3 := Nat.div_mul_le_self (n * B + u) (d1 * B + d0)
  generalize (n * B + u) / (d1 * B + d0) = Q at *
  have e1 : Q * (d1 * B + d0) = Q * d1 * B + Q * d0 := by rw [Nat.mul_add, Nat.mul_assoc]
  have h4 : Q * d1 * B < (n + 1) * B := by
    rw [Nat.add_mul]
    omega
  have := Nat.lt_of_mul_lt_mul_right h4
  omega
theorem quot_mul_le {W V P Q : Nat} (hP : 0 < P) (h : Q * V ≤ W) : Q * (V / P) ≤ W / P := by
  rw [Nat.le_div_iff_mul_le hP]
  have h1 := Nat.div_mul_le_self V P
  have h2 := Nat.mul_le_mul_left Q h1
  rw [← Nat.mul_assoc] at h2
  omega
theorem knuth_dec {W V P top : Nat} (hP : 0 < P) (hV : 0 < V) (h : W / P < top * (V / P)) : W / V + 1 ≤ top := by
  have h1 := quot_mul_le hP (Nat.div_mul_le_self W V)
  rcases Nat.lt_or_ge (W / V) top with h2 | h2
  · exact h2
  · have := Nat.mul_le_mul_right (V / P) h2
    omega
theorem knuth_start {W V P : Nat} (hP : 0 < P) (hV : 0 < V / P) : W / V ≤ W / P / (V / P) := by
  rw [Nat.le_div_iff_mul_le hV]
  exact quot_mul_le hP (Nat.div_mul_le_self W V)
theorem knuth_le {B W V P top : Nat} (hP : 0 < P) (hV : B * P ≤ V) (ht : top < B) (h : top * (V / P) ≤ W / P) : top ≤ W / V + 1 := by
  have hBP : 0 < B * P := Nat.mul_pos (by omega) hP
  have hV0 : 0 < V := by omega
  have h1 := Nat.mul_le_mul_right P h
  have h2 := Nat.div_mul_le_self W P
  have h3 : V ≤ V / P * P + P := by
    have := Nat.div_add_mod V P
    have h4 := Nat.mod_lt V hP
    rw [Nat.mul_comm] at this
    omega
  have h5 := Nat.mul_le_mul_left top h3
  rw [Nat.mul_add, ← Nat.mul_assoc] at h5
  have h6 := Nat.mul_le_mul_right P (show top + 1 ≤ B from ht)
  rw [Nat.add_mul] at h6
  have h7 : top * V < W + V := by omega
  have h8 : W < (W / V + 1) * V := by
    have := Nat.div_add_mod W V
    have h9 := Nat.mod_lt W hV0
    rw [Nat.add_mul, Nat.mul_comm]
    omega
  have h10 : top * V < (W / V + 2) * V := by
    rw [Nat.add_mul] at h8 ⊢
    omega
  have := Nat.lt_of_mul_lt_mul_right h10
  omega
theorem quot_of {W V Q R : Nat} (h : R + Q * V = W) (hR : R < V) : Q = W / V ∧ R = W % V := by
  subst h
  constructor
  · rw [Nat.add_mul_div_right _ _ (by omega), Nat.div_eq_of_lt hR]; omega
  · rw [Nat.add_mul_mod_self_right, Nat.mod_eq_of_lt hR]
theorem knuth_sure {W V top R : Nat} (hV : 0 < V) (hq : W / V ≤ top) (h : R + top * V = W) : top = W / V ∧ R < V := by
  have h1 : top ≤ W / V := (Nat.le_div_iff_mul_le hV).2 (by omega)
  have h2 : top = W / V := by omega
  refine ⟨h2, ?_⟩
  have := Nat.div_add_mod W V
  have h3 := Nat.mod_lt W hV
  rw [h2, Nat.mul_comm] at h
  omega
theorem knuth_back {W V top R M R2 : Nat} (hV : 0 < V) (hVM : V ≤ M) (hq : top ≤ W / V + 1) (h : R + top * V = W + M) (hR : R < M) (h2 : R2 = (R + V) % M) : top = W / V + 1 ∧ R2 + (W / V) * V = W ∧ R2 < V := by
  have h1 : W < top * V := by omega
  have h3 : W / V < top := by
    rw [Nat.div_lt_iff_lt_mul hV]; exact h1
  have h4 : top = W / V + 1 := by omega
  have h5 := Nat.div_add_mod W V
  have h6 := Nat.mod_lt W hV
  rw [Nat.mul_comm] at h5
  rw [h4, Nat.add_mul] at h
  have h7 : R + V = W % V + M := by omega
  have h8 : R2 = W % V := by rw [h2, h7, Nat.add_mod_right, Nat.mod_eq_of_lt (by omega)]
  exact ⟨h4, by omega, by omega⟩
end
section
theorem bits_of (v : Nat) (hv : v < 18446744073709551616) : ∃ m : Nat, IsBits v m ∧ m ≤ 64 := by
  by_cases h0 : v = 0
  · subst h0
    exact ⟨0, IsBits.zero, by decide⟩
  · have h1 : v < 2 ^ (v.log2 + 1) := Nat.lt_log2_self
    have h2 : 2 ^ v.log2 ≤ v := Nat.log2_self_le h0
    have h : IsBits v (v.log2 + 1) := ⟨h1, .inr (by rw [Nat.add_sub_cancel]; exact h2)⟩
    exact ⟨v.log2 + 1, h, h.le (w := 64) hv⟩
theorem val_mid (B : Nat) {l : List Int} {p : Nat} (h : p < l.length) : val B l = val B (l.take p) + B ^ p * ((rd l (p : Int)).toNat + B * val B (l.drop (p + 1))) := by
  have h1 := val_split B l p (by omega)
  have h2 : l.drop p = rd l (p : Int) :: l.drop (p + 1) := by
    rw [List.drop_eq_getElem_cons h]
    congr 1
    simp [rd_nat, h]
  rw [h2, val_cons] at h1
  exact h1
theorem dvd_low {lo P x s M : Nat} (hs : M ∣ P) (hlo : lo < P) (hP : 0 < P) (h : P * s ∣ lo + P * x) : lo = 0 ∧ s ∣ x := by
  have h1 : P ∣ lo + P * x := Nat.dvd_trans (Nat.dvd_mul_right _ _) h
  have h2 : P ∣ lo := (Nat.dvd_add_left (Nat.dvd_mul_right _ _)).1 h1
  have h3 : lo = 0 := by
    rcases Nat.eq_zero_or_pos lo with h | h
    · exact h
    · have := Nat.le_of_dvd h h2
      omega
  refine ⟨h3, ?_⟩
  rw [h3, Nat.zero_add] at h
  exact Nat.dvd_of_mul_dvd_mul_left hP h
theorem bit_set {q : List Int} {i : Nat} (hq : Dig B32 q) (hi : i / 32 < q.length) (hd : 2 ^ (i + 1) ∣ val B32 q) :
    bits .or .u64 (rd q ((i / 32 : Nat) : Int)) (shl .u64 1 ((i % 32 : Nat) : Int)) = (((rd q ((i / 32 : Nat) : Int)).toNat + 2 ^ (i % 32) : Nat) : Int) ∧ (rd q ((i / 32 : Nat) : Int)).toNat + 2 ^ (i % 32) < B32 := by
  have hp : i % 32 < 32 := Nat.mod_lt _ (by decide)
  have hr := hq.rd B32_pos ((i / 32 : Nat) : Int)
  have hv := val_mid B32 hi
  have e : 2 ^ (i + 1) = B32 ^ (i / 32) * 2 ^ (i % 32 + 1) := by
    rw [B32_pow, ← Nat.pow_mul, ← Nat.pow_add]; congr 1; omega
  have hlow := val_lt (hq.take (i / 32))
  rw [List.length_take, Nat.min_eq_left (by omega)] at hlow
  rw [e, hv] at hd
  obtain ⟨_, h2⟩ := dvd_low (Nat.dvd_refl _) hlow (Nat.pow_pos B32_pos) hd
  have h3 : 2 ^ (i % 32 + 1) ∣ B32 * val B32 (q.drop (i / 32 + 1)) := Nat.dvd_trans (by rw [B32_pow]; exact Nat.pow_dvd_pow 2 (by omega)) (Nat.dvd_mul_right _ _)
  have h4 : 2 ^ (i % 32 + 1) ∣ (rd q ((i / 32 : Nat) : Int)).toNat := (Nat.dvd_add_left h3).1 h2
  generalize hx : (rd q ((i / 32 : Nat) : Int)).toNat = x at *
  have hxe : rd q ((i / 32 : Nat) : Int) = (x : Int) := by omega
  have hxb : x < B32 := by omega
  generalize i % 32 = p at *
  have hpp : 2 ^ p < 18446744073709551616 := Nat.lt_of_le_of_lt (Nat.pow_le_pow_right (by decide) (show p ≤ 32 by omega)) (by decide)
  have hs : shl .u64 1 (p : Int) = ((2 ^ p : Nat) : Int) := by
    have := shl_nat 1 p (by omega)
    rw [Nat.one_mul, Nat.mod_eq_of_lt hpp] at this
    exact this
  have hB : B32 = 2 ^ (p + 1) * 2 ^ (32 - (p + 1)) := by rw [B32_pow, ← Nat.pow_add]; congr 1; omega
  have h5 : x + 2 ^ (p + 1) ≤ B32 := by
    obtain ⟨c, rfl⟩ := h4
    rw [hB] at hxb ⊢
    have := Nat.lt_of_mul_lt_mul_left hxb
    have := Nat.mul_le_mul_left (2 ^ (p + 1)) (show c + 1 ≤ 2 ^ (32 - (p + 1)) from this)
    rw [Nat.mul_add] at this
    omega
  have h6 : 2 ^ p < 2 ^ (p + 1) := Nat.pow_lt_pow_right (by decide) (by omega)
  rw [hxe, hs]
  exact ⟨or_nat (p + 1) x (2 ^ p) (by omega) (by unfold B32 at hxb; omega) h4 h6, by omega⟩
theorem cmpN_ge {x y : Nat} (h : y ≤ x) : cmpN x y ≥ 0 := by
  unfold cmpN
  rw [if_neg (by omega)]
  split <;> omega
theorem cmpN_lt {x y : Nat} (h : x < y) : ¬ cmpN x y ≥ 0 := by
  unfold cmpN
  rw [if_pos h]
  omega
end
section
theorem u64_nat {n : Nat} (h : n < 18446744073709551616) : IntKind.u64.wrap (n : Int) = (n : Int) := wrap_u64_id (by omega)
theorem d64_rest (n u q D : Nat) (h : q * D ≤ n * 4294967296 + u) (hr : n * 4294967296 + u - q * D < 18446744073709551616) :
    IntKind.u64.wrap ((IntKind.u64.wrap ((IntKind.u64.wrap ((n : Int) * 4294967296)) + (u : Int))) - (IntKind.u64.wrap ((q : Int) * (D : Int)))) = ((n * 4294967296 + u - q * D : Nat) : Int) := by
  rw [← Int.natCast_mul]
  generalize q * D = z at *
  rw [wrap_u64, wrap_u64, wrap_u64, wrap_u64]
  omega
theorem d64_cond (q d0 r u : Nat) (hq : q < 4294967296) (h0 : d0 < 4294967296) (hr : r < 4294967296) (hu : u < 4294967296) :
    (decide ((IntKind.u64.wrap ((q : Int) * (d0 : Int))) > (IntKind.u64.wrap ((IntKind.u64.wrap (4294967296 * (r : Int))) + (u : Int))))) = decide (4294967296 * r + u < q * d0) := by
  have h1 : q * d0 < 18446744073709551616 := Nat.lt_of_lt_of_le (Nat.mul_lt_mul'' hq h0) (by decide)
  rw [← Int.natCast_mul, u64_nat h1, show (4294967296 : Int) * (r : Int) = ((4294967296 * r : Nat) : Int) by omega, u64_nat (by omega), ← Int.natCast_add, u64_nat (by omega)]
  generalize q * d0 = z
  by_cases h : 4294967296 * r + u < z
  · rw [decide_eq_true h, decide_eq_true (by omega)]
  · rw [decide_eq_false h, decide_eq_false (by omega)]
theorem d64_num {D d1 d0 n u : Nat} (e : D = d1 * 4294967296 + d0) (h1 : 2147483648 ≤ d1 ∧ d1 < 4294967296) (h0 : d0 < 4294967296) (hu : u < 4294967296) (hn : n < D) {q r : Nat} (hq : q * d1 + r = n) (hQ : (n * 4294967296 + u) / D ≤ q) (hq1 : q ≤ 4294967297) (hr : r < 4294967296) (hc : 4294967296 ≤ q ∨ 4294967296 * r + u < q * d0) :
    ∃ p, q = p + 1 ∧ p * d1 + (r + d1) = n ∧ (n * 4294967296 + u) / D ≤ p ∧ p ≤ 4294967296 ∧ (4294967296 ≤ r + d1 → p = (n * 4294967296 + u) / D) := by
  have hD : 0 < D := by omega
  have hlt : (n * 4294967296 + u) / D < q := by
    rcases hc with h | h
    · exact Nat.lt_of_lt_of_le (div_lt_base hn hu) h
    · have := est_gt hq h
      rw [← e] at this
      exact div_less hD this
  have hq0 : 0 < q := Nat.lt_of_le_of_lt (Nat.zero_le _) hlt
  obtain ⟨p, rfl⟩ : ∃ p, q = p + 1 := ⟨q - 1, by omega⟩
  have h3 : p * d1 + (r + d1) = n := by rw [← hq, Nat.add_mul]; omega
  refine ⟨p, rfl, h3, by omega, by omega, fun ho => ?_⟩
  have h4 := est_le h3 (est_over (u := u) (show p ≤ 4294967296 by omega) h0 ho)
  rw [← e] at h4
  exact div_is hD h4 (by omega)
theorem d64_sure {D d1 d0 n u : Nat} (e : D = d1 * 4294967296 + d0) (h1 : 2147483648 ≤ d1 ∧ d1 < 4294967296) (h0 : d0 < 4294967296) (hu : u < 4294967296) (hn : n < D) {q r : Nat} (hq : q * d1 + r = n) (hQ : (n * 4294967296 + u) / D ≤ q) (hc : ¬ 4294967296 * r + u < q * d0) : q = (n * 4294967296 + u) / D := by
  have hD : 0 < D := by omega
  have h4 := est_le (B := 4294967296) (u := u) hq (Nat.le_of_not_lt hc)
  rw [← e] at h4
  exact div_is hD h4 hQ
theorem two_steps {n u u0 D B : Nat} (hD : 0 < D) : ((n * B + u) * B + u0) / D = (n * B + u) / D * B + ((n * B + u) % D * B + u0) / D ∧ ((n * B + u) * B + u0) % D = ((n * B + u) % D * B + u0) % D := by
  generalize n * B + u = a
  have h := Nat.div_add_mod a D
  have e : a * B + u0 = (a % D * B + u0) + D * (a / D * B) := by
    conv => lhs; rw [← h]
    rw [Nat.add_mul, Nat.mul_assoc]; omega
  constructor
  · rw [e, Nat.add_mul_div_left _ _ hD]; omega
  · rw [e, Nat.add_mul_mod_self_left]
theorem norm_num64 {hi lo y s : Nat} (hs : s ≤ 63) (hlo : lo < 18446744073709551616) (hh : hi < y) (hy : y * 2 ^ s < 18446744073709551616) :
    hi * 2 ^ s < 18446744073709551616 ∧ lo / 2 ^ (64 - s) < 2 ^ s ∧ (hi * 18446744073709551616 + lo) * 2 ^ s = (hi * 2 ^ s + lo / 2 ^ (64 - s)) * 18446744073709551616 + lo * 2 ^ s % 18446744073709551616 ∧ hi * 2 ^ s + lo / 2 ^ (64 - s) < y * 2 ^ s := by
  have hp : 0 < 2 ^ s := Nat.pow_pos (by decide)
  have e64 : (18446744073709551616 : Nat) = 2 ^ (64 - s) * 2 ^ s := by rw [← Nat.pow_add, show 64 - s + s = 64 by omega]
  have h1 : hi * 2 ^ s < y * 2 ^ s := Nat.mul_lt_mul_of_pos_right hh hp
  have h2 : lo / 2 ^ (64 - s) < 2 ^ s := by
    rw [Nat.div_lt_iff_lt_mul (Nat.pow_pos (by decide)), Nat.mul_comm, ← e64]; exact hlo
  have h3 : lo * 2 ^ s / 18446744073709551616 = lo / 2 ^ (64 - s) := by
    rw [e64, Nat.mul_div_mul_right _ _ hp]
  have h4 := Nat.div_add_mod (lo * 2 ^ s) 18446744073709551616
  have h5 : (hi + 1) * 2 ^ s ≤ y * 2 ^ s := Nat.mul_le_mul_right _ hh
  rw [Nat.add_mul] at h5
  refine ⟨by omega, h2, ?_, by omega⟩
  rw [Nat.add_mul, Nat.add_mul, ← h3, Nat.mul_right_comm]
  omega
end
section
theorem ms_num {u' u u0 A T U c b d s cc bb lo hi B : Nat} (h1 : u + A = u0 + T * (c + b)) (h2 : u' + T * U = u + T * d) (h3 : s + B * cc = lo + c) (h4 : d + s + b = U + B * bb) :
    u' + (A + T * (lo + B * hi)) = u0 + T * B * (hi + cc + bb) := by
  have e3 := congrArg (T * ·) h3
  have e4 := congrArg (T * ·) h4
  simp only [Nat.mul_add, ← Nat.mul_assoc] at *
  omega
theorem ms_last {u' u u0 A T U c b d bb B : Nat} (h1 : u + A = u0 + T * (c + b)) (h2 : u' + T * U = u + T * d) (h4 : d + c + b = U + B * bb) :
    u' + A = u0 + T * B * bb := by
  have e4 := congrArg (T * ·) h4
  simp only [Nat.mul_add, ← Nat.mul_assoc] at *
  omega
theorem ab_num {u' u u0 A T U c d x cc B : Nat} (h1 : u + T * c = u0 + A) (h2 : u' + T * U = u + T * d) (h3 : d + B * cc = U + x + c) :
    u' + T * B * cc = u0 + (A + T * x) := by
  have e3 := congrArg (T * ·) h3
  simp only [Nat.mul_add, ← Nat.mul_assoc] at *
  omega
theorem cast_dig64 {x : Int} (h : 0 ≤ x ∧ x < (B64 : Int)) : ∃ n : Nat, x = (n : Int) ∧ n < B64 := ⟨x.toNat, by omega, by omega⟩
end
section
theorem val_drop_rd (B : Nat) {l : List Int} {p : Nat} (h : p < l.length) : val B (l.drop p) = (rd l (p : Int)).toNat + B * val B (l.drop (p + 1)) := by
  rw [List.drop_eq_getElem_cons h, val_cons]
  congr 2
  simp [rd_nat, h]
theorem u64_pred (t : Nat) (h : 1 ≤ t) (h2 : t < B64) : IntKind.u64.wrap ((t : Int) - 1) = ((t - 1 : Nat) : Int) := by
  unfold B64 at h2
  rw [wrap_u64_id (by omega)]
  omega
theorem u64_sum (a b : Nat) : IntKind.u64.wrap ((a : Int) + (b : Int)) = (((a + b) % B64 : Nat) : Int) := by
  rw [wrap_u64]
  unfold B64
  omega
theorem over_eq {a b : Nat} (ha : a < B64) (hb : b < B64) : ((((a + b) % B64 : Nat) : Int) < (b : Int)) ↔ B64 ≤ a + b := by
  unfold B64 at *
  omega
theorem over_dec {a b : Nat} (ha : a < B64) (hb : b < B64) : decide ((((a + b) % B64 : Nat) : Int) < (b : Int)) = decide (B64 ≤ a + b) := by
  rw [decide_eq_decide]
  exact over_eq ha hb
end
section
theorem window_of {P lo W W' X Z : Nat} (hP : 0 < P) (h : lo + P * W' + P * X = lo + P * W + P * Z) : W' + X = W + Z := by
  have h2 : P * (W' + X) = P * (W + Z) := by rw [Nat.mul_add, Nat.mul_add]; omega
  exact Nat.eq_of_mul_eq_mul_left hP h2
theorem drop_small {B : Nat} (hB : 0 < B) {l : List Int} (h : Dig B l) (j m : Nat) (hz : val B (l.drop (j + m)) = 0) : val B (l.drop j) < B ^ m := by
  have h1 := val_drop B hB (h.drop j) m
  rw [List.drop_drop, hz] at h1
  rcases Nat.lt_or_ge (val B (l.drop j)) (B ^ m) with h2 | h2
  · exact h2
  · have := Nat.div_pos h2 (Nat.pow_pos hB)
    omega
theorem ab_last {u' u u2 A T D d c o B : Nat} (h1 : u + T * c = u2 + A) (h2 : u' + T * D = u + T * d) (h3 : D + c = d + B * o) : u' + T * B * o = u2 + A := by
  have e3 := congrArg (T * ·) h3
  simp only [Nat.mul_add, ← Nat.mul_assoc] at *
  omega
end
section
theorem exists_num (B : Nat) (hB : 1 < B) (n : Nat) : ∀ v : Nat, v ≤ n → ∃ l, Dig B l ∧ Norm l ∧ val B l = v := by
  induction n with
  | zero => intro v hv; exact ⟨[], Dig.nil _, norm_nil, by simp [val]; omega⟩
  | succ n ih =>
    intro v hv
    by_cases h0 : v = 0
    · exact ⟨[], Dig.nil _, norm_nil, by simp [val, h0]⟩
    · have hlt : v / B < v := Nat.div_lt_self (by omega) hB
      obtain ⟨l, h1, h2, h3⟩ := ih (v / B) (by omega)
      have hm := Nat.mod_lt v (show 0 < B by omega)
      have hdm := Nat.mod_add_div v B
      refine ⟨((v % B : Nat) : Int) :: l, Dig.cons (by omega) h1, ?_, by rw [val_cons, h3, Int.toNat_natCast]; exact hdm⟩
      rw [norm_iff]
      intro h
      cases l with
      | nil =>
        have h4 : v / B = 0 := by rw [← h3]; rfl
        rw [h4, Nat.mul_zero, Nat.add_zero] at hdm
        show ((v % B : Nat) : Int) ≠ 0
        omega
      | cons y l =>
        rw [List.getLast_cons (by simp)]
        exact (norm_iff _).1 h2 (by simp)
theorem exists_nat (v : Nat) : ∃ l, IsNat l v := by
  obtain ⟨l, h⟩ := exists_num B64 (by unfold B64; omega) v v (Nat.le_refl _)
  exact ⟨l, h⟩
theorem sum_step {P W W2 V Q u u2 lo vq vq2 U : Nat} (h1 : u = lo + P * W) (h2 : u2 = lo + P * W2) (h3 : W2 + Q * V = W) (h4 : vq2 = vq + P * Q) (h : vq * V + u = U) : vq2 * V + u2 = U := by
  subst h1 h2 h3 h4
  rw [Nat.add_mul, ← h, Nat.mul_add, Nat.mul_assoc]
  omega
theorem dw_num {q r vo d x rest B : Nat} (h : d * q + r = rest * B + x) : (q + B * vo) * d + r = x + B * (vo * d + rest) := by
  rw [Nat.add_mul, Nat.mul_add, Nat.mul_assoc, Nat.mul_comm q d, Nat.mul_comm B rest]
  omega
theorem len_le_of_val {l : List Int} (hd : Dig B64 l) (hn : Norm l) {m : Nat} (h : val B64 l < B64 ^ m) : l.length ≤ m := by
  rcases Nat.lt_or_ge m l.length with h1 | h1
  · have h2 := val_ge hd hn (by omega)
    have h3 : B64 ^ m ≤ B64 ^ (l.length - 1) := Nat.pow_le_pow_right B64_pos (by omega)
    omega
  · exact h1
end
section
def dv (v : Nat) : List Int → Nat
  | [] => v
  | c :: l => dv (v * 10 + (c - 48).toNat) l
def IsDig (l : List Int) : Prop := ∀ c ∈ l, 48 ≤ c ∧ c ≤ 57
theorem IsDig.take {l : List Int} (h : IsDig l) (k : Nat) : IsDig (l.take k) := fun x hx => h x (List.mem_of_mem_take hx)
theorem IsDig.drop {l : List Int} (h : IsDig l) (k : Nat) : IsDig (l.drop k) := fun x hx => h x (List.mem_of_mem_drop hx)
theorem IsDig.rd {l : List Int} (h : IsDig l) (i : Nat) (hi : i < l.length) : 48 ≤ rd l (i : Int) ∧ rd l (i : Int) ≤ 57 := by
  rw [rd_nat, List.getD_eq_getElem?_getD, List.getElem?_eq_getElem hi]
  exact h _ (List.getElem_mem hi)
end
section
instance (l : List Int) : Decidable (IsDig l) := by unfold IsDig; infer_instance
end
section
def hiI (w : Nat) : Int := ((w / 18446744073709551616 : Nat) : Int)
def loI (w : Nat) : Int := ((w % 18446744073709551616 : Nat) : Int)
abbrev B128 : Nat := 340282366920938463463374607431768211456
theorem hi_lt {w : Nat} (h : w < B128) : w / 18446744073709551616 < 18446744073709551616 := by unfold B128 at h; omega
theorem lo_lt (w : Nat) : w % 18446744073709551616 < 18446744073709551616 := by omega
theorem pow64 : (18446744073709551616 : Nat) = 2 ^ 64 := rfl
theorem split_div (w n : Nat) (hn : n < 64) : w / 2 ^ n / 18446744073709551616 = w / 18446744073709551616 / 2 ^ n ∧ w / 2 ^ n % 18446744073709551616 = w % 18446744073709551616 / 2 ^ n + w / 18446744073709551616 * 2 ^ (64 - n) % 18446744073709551616 := by
  have hp : 0 < 2 ^ n := Nat.pow_pos (by decide)
  have e64 : (18446744073709551616 : Nat) = 2 ^ (64 - n) * 2 ^ n := by rw [← Nat.pow_add, show 64 - n + n = 64 by omega]
  have h1 : w / 2 ^ n / 18446744073709551616 = w / 18446744073709551616 / 2 ^ n := by rw [Nat.div_div_eq_div_mul, Nat.div_div_eq_div_mul, Nat.mul_comm]
  refine ⟨h1, ?_⟩
  have hdm := Nat.div_add_mod w 18446744073709551616
  generalize hH : w / 18446744073709551616 = H at *
  generalize hL : w % 18446744073709551616 = L at *
  have hLl : L < 18446744073709551616 := by rw [← hL]; exact Nat.mod_lt _ (by decide)
  have h2 : w / 2 ^ n = L / 2 ^ n + H * 2 ^ (64 - n) := by
    rw [← hdm, e64, show 2 ^ (64 - n) * 2 ^ n * H + L = L + 2 ^ n * (H * 2 ^ (64 - n)) by rw [Nat.mul_comm (2 ^ (64 - n)), Nat.mul_assoc, Nat.mul_comm (2 ^ (64 - n)) H]; omega, Nat.add_mul_div_left _ _ hp]
  rw [h2]
  have h3 : L / 2 ^ n < 2 ^ (64 - n) := by rw [Nat.div_lt_iff_lt_mul hp, ← e64]; exact hLl
  have h4 : H * 2 ^ (64 - n) % 18446744073709551616 = H % 2 ^ n * 2 ^ (64 - n) := by
    rw [show (18446744073709551616 : Nat) = 2 ^ n * 2 ^ (64 - n) by rw [Nat.mul_comm]; exact e64, Nat.mul_mod_mul_right]
  have h5 : H % 2 ^ n * 2 ^ (64 - n) + 2 ^ (64 - n) ≤ 18446744073709551616 := by
    have := Nat.mul_le_mul_right (2 ^ (64 - n)) (show H % 2 ^ n + 1 ≤ 2 ^ n from Nat.mod_lt _ hp)
    rw [Nat.add_mul, Nat.one_mul, Nat.mul_comm (2 ^ n)] at this
    rwa [← e64] at this
  rw [Nat.add_mod, h4, Nat.mod_eq_of_lt (show L / 2 ^ n < 18446744073709551616 by omega), Nat.mod_eq_of_lt (by omega)]
theorem mul_split (w n : Nat) (hn : n < 64) : (w * 2 ^ n) % B128 / 18446744073709551616 = w / 18446744073709551616 * 2 ^ n % 18446744073709551616 + w % 18446744073709551616 / 2 ^ (64 - n) ∧ (w * 2 ^ n) % B128 % 18446744073709551616 = w % 18446744073709551616 * 2 ^ n % 18446744073709551616 := by
  have hp : 0 < 2 ^ n := Nat.pow_pos (by decide)
  have e64 : (18446744073709551616 : Nat) = 2 ^ (64 - n) * 2 ^ n := by rw [← Nat.pow_add, show 64 - n + n = 64 by omega]
  have hdm := Nat.div_add_mod w 18446744073709551616
  generalize hH : w / 18446744073709551616 = H at *
  generalize hL : w % 18446744073709551616 = L at *
  have hLl : L < 18446744073709551616 := by rw [← hL]; exact Nat.mod_lt _ (by decide)
  have hB : B128 = 18446744073709551616 * 18446744073709551616 := rfl
  have h1 : w * 2 ^ n = 18446744073709551616 * (H * 2 ^ n) + L * 2 ^ n := by rw [← hdm, Nat.add_mul, Nat.mul_assoc]
  have h2 : L * 2 ^ n / 18446744073709551616 = L / 2 ^ (64 - n) := by
    rw [e64, Nat.mul_div_mul_right _ _ hp]
  have h3 : L / 2 ^ (64 - n) < 2 ^ n := by rw [Nat.div_lt_iff_lt_mul (Nat.pow_pos (by decide)), Nat.mul_comm, ← e64]; exact hLl
  have h4 : w * 2 ^ n / 18446744073709551616 = H * 2 ^ n + L / 2 ^ (64 - n) := by
    rw [h1, Nat.mul_add_div (by decide), h2]
  have h5 : H * 2 ^ n % 18446744073709551616 + 2 ^ n ≤ 18446744073709551616 := by
    have e : H * 2 ^ n % 18446744073709551616 = H % 2 ^ (64 - n) * 2 ^ n := by rw [show (18446744073709551616 : Nat) = 2 ^ (64 - n) * 2 ^ n from e64, Nat.mul_mod_mul_right]
    rw [e]
    have := Nat.mul_le_mul_right (2 ^ n) (show H % 2 ^ (64 - n) + 1 ≤ 2 ^ (64 - n) from Nat.mod_lt _ (Nat.pow_pos (by decide)))
    rw [Nat.add_mul, Nat.one_mul] at this
    rwa [← e64] at this
  constructor
  · rw [hB, Nat.mod_mul_right_div_self, h4, Nat.add_mod, Nat.mod_eq_of_lt (show L / 2 ^ (64 - n) < 18446744073709551616 by omega), Nat.mod_eq_of_lt (by omega)]
  · rw [hB, Nat.mod_mul_right_mod, h1, Nat.mul_add_mod]
end
section
theorem rd_val {B : Nat} (hB : 0 < B) {a : List Int} (ha : Dig B a) (p : Nat) : (rd a (p : Int)).toNat = val B a / B ^ p % B := by
  rw [← val_drop B hB ha p, val_mod B B (Nat.dvd_refl _)]
  have h : rd (a.drop p) 0 = rd a (p : Int) := by
    show rd (a.drop p) ((0 : Nat) : Int) = rd a (p : Int)
    rw [rd_nat, rd_nat]
    simp [List.getD_eq_getElem?_getD]
  rw [h]
  have := ha.rd hB (p : Int)
  rw [Nat.mod_eq_of_lt (by omega)]
theorem and1 (x : Nat) (h : x < 18446744073709551616) : bits .and .u64 (x : Int) 1 = ((x % 2 : Nat) : Int) := by
  have := and_mask 1 (by decide) (x : Int) (by omega) (by omega)
  simpa using this
theorem two_digits (l : List Int) (hl : Dig B64 l) (h2 : l.length ≤ 2) : rd (l ++ [0, 0]) 0 = loI (val B64 l) ∧ rd (l ++ [0, 0]) 1 = hiI (val B64 l) ∧ 2 ≤ (l ++ [0, 0]).length := by
  have hB : B64 = 18446744073709551616 := rfl
  match l, hl, h2 with
  | [], _, _ => exact ⟨rfl, rfl, by simp⟩
  | [x], hl, _ =>
    have hx := hl x (by simp)
    refine ⟨?_, ?_, by simp⟩
    · show x = loI (val B64 [x])
      rw [val_one]
      unfold loI
      omega
    · show (0 : Int) = hiI (val B64 [x])
      rw [val_one]
      unfold hiI
      omega
  | [x, y], hl, _ =>
    have hx := hl x (by simp)
    have hy := hl y (by simp)
    refine ⟨?_, ?_, by simp⟩
    · show x = loI (val B64 [x, y])
      rw [val_cons, val_one, hB]
      unfold B64 at hx hy
      unfold loI
      omega
    · show y = hiI (val B64 [x, y])
      rw [val_cons, val_one, hB]
      unfold B64 at hx hy
      unfold hiI
      omega
  | x :: y :: z :: l, _, h2 => simp at h2
end
section
theorem or_nn (a b : Nat) (ha : a < 18446744073709551616) (hb : b < 18446744073709551616) : Go.bits .or .u64 (a : Int) (b : Int) = ((a ||| b : Nat) : Int) :=
  (bits_nat .u64 64 (by decide) wraps_u64 a b ha hb).2
theorem andNot_nn (a b : Nat) (ha : a < 18446744073709551616) (hb : b < 18446744073709551616) : Go.bits .andNot .u64 (a : Int) (b : Int) = (((BitVec.ofNat 64 a &&& ~~~ BitVec.ofNat 64 b).toNat : Nat) : Int) := by
  have h : ∀ x : BitVec 64, IntKind.u64.wrap (x.toNat : Int) = (x.toNat : Int) := fun x => wrap_u64_id (by have := x.isLt; omega)
  exact h _
theorem andNot_high (a m : Nat) (ha : a < 18446744073709551616) (hm : m ≤ 64) : Go.bits .andNot .u64 (a : Int) ((a / 2 ^ m * 2 ^ m : Nat) : Int) = ((a % 2 ^ m : Nat) : Int) := by
  have hle : a / 2 ^ m * 2 ^ m ≤ a := Nat.div_mul_le_self _ _
  rw [andNot_nn _ _ ha (by omega)]
  congr 1
  have hmod : a % 2 ^ m < 2 ^ 64 := Nat.lt_of_le_of_lt (Nat.mod_le _ _) ha
  have : (BitVec.ofNat 64 a &&& ~~~ BitVec.ofNat 64 (a / 2 ^ m * 2 ^ m)) = BitVec.ofNat 64 (a % 2 ^ m) := by
    apply BitVec.eq_of_getLsbD_eq
    intro i hi
    simp only [BitVec.getLsbD_and, BitVec.getLsbD_not, BitVec.getLsbD_ofNat, hi, decide_true, Bool.true_and, Nat.testBit_mul_two_pow, Nat.testBit_div_two_pow, Nat.testBit_mod_two_pow]
    by_cases h : m ≤ i
    · have h2 : ¬ i < m := by omega
      have e : m + (i - m) = i := by omega
      have e' : i - m + m = i := by omega
      simp [h, h2, e, e']
    · have h2 : i < m := by omega
      simp [h, h2]
  rw [this, BitVec.toNat_ofNat, Nat.mod_eq_of_lt hmod]
theorem andNot_self (a : Nat) (ha : a < 18446744073709551616) : Go.bits .andNot .u64 (a : Int) (a : Int) = 0 := by
  have h := andNot_high a 0 ha (by decide)
  rw [Nat.pow_zero, Nat.div_one, Nat.mul_one, Nat.mod_one] at h
  exact h
theorem andNot_zero (a : Nat) (ha : a < 18446744073709551616) : Go.bits .andNot .u64 (a : Int) ((0 : Nat) : Int) = (a : Int) := by
  have h := andNot_high a 64 ha (by decide)
  rw [Nat.div_eq_of_lt (show a < 2 ^ 64 from ha), Nat.zero_mul, Nat.mod_eq_of_lt (show a < 2 ^ 64 from ha)] at h
  exact h
theorem or_zero (a : Nat) (ha : a < 18446744073709551616) : Go.bits .or .u64 (a : Int) 0 = (a : Int) := by
  have h := or_nn a 0 ha (by decide)
  rw [Nat.or_zero] at h
  exact h
theorem high_cells (w n : Nat) : (n < 64 → w / 2 ^ n * 2 ^ n / 18446744073709551616 = w / 18446744073709551616 ∧ w / 2 ^ n * 2 ^ n % 18446744073709551616 = w % 18446744073709551616 / 2 ^ n * 2 ^ n ∧ w % 2 ^ n / 18446744073709551616 = 0 ∧ w % 2 ^ n % 18446744073709551616 = w % 18446744073709551616 % 2 ^ n) ∧
    (64 ≤ n → w / 2 ^ n * 2 ^ n / 18446744073709551616 = w / 18446744073709551616 / 2 ^ (n - 64) * 2 ^ (n - 64) ∧ w / 2 ^ n * 2 ^ n % 18446744073709551616 = 0 ∧ w % 2 ^ n / 18446744073709551616 = w / 18446744073709551616 % 2 ^ (n - 64) ∧ w % 2 ^ n % 18446744073709551616 = w % 18446744073709551616) := by
  constructor
  · intro hn
    have hp : 0 < 2 ^ n := Nat.pow_pos (by decide)
    have e64 : (18446744073709551616 : Nat) = 2 ^ n * 2 ^ (64 - n) := by rw [← Nat.pow_add, show n + (64 - n) = 64 by omega]
    have hlt : 2 ^ n < 18446744073709551616 := by rw [pow64]; exact Nat.pow_lt_pow_right (by decide) hn
    have h1 := Nat.div_add_mod w (2 ^ n)
    have h2 := Nat.mod_lt w hp
    have hdm := Nat.div_add_mod w 18446744073709551616
    have hm : w % 18446744073709551616 % 2 ^ n = w % 2 ^ n := by rw [e64, Nat.mod_mul_right_mod]
    have hd := Nat.div_add_mod (w % 18446744073709551616) (2 ^ n)
    rw [hm] at hd
    have e1 : w / 2 ^ n * 2 ^ n = 18446744073709551616 * (w / 18446744073709551616) + w % 18446744073709551616 / 2 ^ n * 2 ^ n := by
      rw [Nat.mul_comm (w / 2 ^ n), Nat.mul_comm (w % 18446744073709551616 / 2 ^ n)]
      omega
    have hL : w % 18446744073709551616 / 2 ^ n * 2 ^ n < 18446744073709551616 := Nat.lt_of_le_of_lt (Nat.div_mul_le_self _ _) (Nat.mod_lt _ (by decide))
    refine ⟨?_, ?_, Nat.div_eq_of_lt (by omega), ?_⟩
    · rw [e1, Nat.mul_add_div (by decide), Nat.div_eq_of_lt hL, Nat.add_zero]
    · rw [e1, Nat.mul_add_mod, Nat.mod_eq_of_lt hL]
    · rw [hm, Nat.mod_eq_of_lt (by omega)]
  · intro hn
    have e : 2 ^ n = 18446744073709551616 * 2 ^ (n - 64) := by rw [pow64, ← Nat.pow_add, show 64 + (n - 64) = n by omega]
    have e1 : w / 2 ^ n * 2 ^ n = 18446744073709551616 * (w / 18446744073709551616 / 2 ^ (n - 64) * 2 ^ (n - 64)) := by
      rw [e, ← Nat.div_div_eq_div_mul, Nat.mul_left_comm]
    refine ⟨?_, ?_, ?_, ?_⟩
    · rw [e1, Nat.mul_div_cancel_left _ (by decide)]
    · rw [e1, Nat.mul_mod_right]
    · rw [e, Nat.mod_mul_right_div_self]
    · rw [e, Nat.mod_mul_right_mod]
end
section
abbrev Prt : Type := Int × Bool × Int × Int × Int
def badP : Prt := (0, false, 0, 0, 0)
def partsOf (P : Nat) (emin emax : Int) (E : Nat) (e : Nat) (neg : Bool) (rest : Nat) : Prt :=
  if e = 2 ^ E - 1 then (if rest = 0 then (4, neg, 0, 0, 0) else (5, false, 0, 0, 0))
  else if e = 0 then (if rest = 0 then (1, neg, 0, 0, 0) else (2, neg, hiI rest, loI rest, emin - P + 1))
  else (3, neg, hiI (rest + 2 ^ (P - 1)), loI (rest + 2 ^ (P - 1)), e - emax - P + 1)
def fracN (P : Nat) (ex : Bool) : Nat := if ex = true then P else P - 1
def unpN (P : Nat) (emin emax : Int) (W E : Nat) (ex : Bool) (w : Nat) : Prt :=
  if 2 ^ W ≤ w then badP
  else if ex = true then
    (if (2 ^ (P - 1) ≤ w % 2 ^ P ↔ w / 2 ^ P % 2 ^ E ≠ 0) then partsOf P emin emax E (w / 2 ^ P % 2 ^ E) (decide (w / 2 ^ (W - 1) % 2 = 1)) (w % 2 ^ P % 2 ^ (P - 1)) else badP)
  else partsOf P emin emax E (w / 2 ^ (P - 1) % 2 ^ E) (decide (w / 2 ^ (W - 1) % 2 = 1)) (w % 2 ^ (P - 1))
structure Fmt (P : Nat) (emin emax : Int) (W E : Nat) (ex : Bool) : Prop where
  p0 : 2 ≤ P
  p1 : P ≤ 113
  e0 : 1 ≤ E
  e1 : E ≤ 15
  w1 : fracN P ex + E + 1 = W
  w2 : W ≤ 128
  m0 : -20000 ≤ emin ∧ emin ≤ 20000
  m1 : -20000 ≤ emax ∧ emax ≤ 20000
section
variable {P : Nat} {emin emax : Int} {W E : Nat} {ex : Bool}
theorem Fmt.plt (h : Fmt P emin emax W E ex) : 2 ^ E ≤ 32768 := by
  have := Nat.pow_le_pow_right (n := 2) (by decide) h.e1
  exact this
end
end
section
theorem bit_top {v m : Nat} (h : v < 2 ^ (m + 1)) : v / 2 ^ m % 2 = if 2 ^ m ≤ v then 1 else 0 := by
  have hp : 0 < 2 ^ m := Nat.pow_pos (by decide)
  rw [Nat.pow_succ] at h
  have h2 : v / 2 ^ m < 2 := by rw [Nat.div_lt_iff_lt_mul hp, Nat.mul_comm]; exact h
  by_cases hv : 2 ^ m ≤ v
  · rw [if_pos hv]
    have := (Nat.le_div_iff_mul_le hp).2 (show 1 * 2 ^ m ≤ v by omega)
    omega
  · rw [if_neg hv, Nat.div_eq_of_lt (by omega)]
end
section
theorem word_ne (x : Nat) : (!(hiI x == 0) || (!(loI x == 0))) = decide (x ≠ 0) := by
  unfold hiI loI
  by_cases h : x = 0
  · subst h; rfl
  · rw [decide_eq_true h]
    by_cases h1 : x / 18446744073709551616 = 0
    · have h2 : x % 18446744073709551616 ≠ 0 := by omega
      have : (((x % 18446744073709551616 : Nat) : Int) == 0) = false := by rw [beq_eq_false_iff_ne]; omega
      rw [this]; simp
    · have : (((x / 18446744073709551616 : Nat) : Int) == 0) = false := by rw [beq_eq_false_iff_ne]; omega
      rw [this]; rfl
theorem word_eq0 (x : Nat) : (hiI x == 0 && (loI x == 0)) = decide (x = 0) := by
  have h := word_ne x
  have h2 : (hiI x == 0 && (loI x == 0)) = !(!(hiI x == 0) || (!(loI x == 0))) := by cases (hiI x == 0) <;> cases (loI x == 0) <;> rfl
  rw [h2, h]
  by_cases h0 : x = 0
  · rw [decide_eq_true h0, decide_eq_false (by simpa using h0)]; rfl
  · rw [decide_eq_false h0, decide_eq_true h0]; rfl
section
variable {P : Nat} {emin emax : Int} {W E : Nat} {ex : Bool}
theorem small2 (q : Nat) (h : q < 2) : q ≠ 0 ↔ q % 2 = 1 := by omega
end
end
section
theorem fmt0 : Fmt 24 (-126) 127 32 8 false := ⟨by decide, by decide, by decide, by decide, by decide, by decide, by decide, by decide⟩
theorem fmt1 : Fmt 53 (-1022) 1023 64 11 false := ⟨by decide, by decide, by decide, by decide, by decide, by decide, by decide, by decide⟩
theorem fmt2 : Fmt 64 (-16382) 16383 80 15 true := ⟨by decide, by decide, by decide, by decide, by decide, by decide, by decide, by decide⟩
theorem fmt3 : Fmt 113 (-16382) 16383 128 15 false := ⟨by decide, by decide, by decide, by decide, by decide, by decide, by decide, by decide⟩
end
end Go.Proofs.YtgknelgplmohoaaDoor.M
end
section
namespace Go.Proofs.YtgknelgplmohoaaDoor.M
open Go.RowKit Go.Proofs.YtgknelgplmohoaaDoor.G Go.Proofs.YtgknelgplmohoaaDoorV.PrintWords Go.Proofs.YtgknelgplmohoaaDoorV.PrintLast Go.Proofs.YtgknelgplmohoaaDoor.X
set_option linter.unusedVariables false
set_option linter.unusedSimpArgs false
def shf (k : IntKind) (x y : Int) : Int := Int.fdiv x (2 ^ min y.toNat k.bits)
theorem shf_nat (x p : Nat) (hp : p ≤ 64) : shf .u64 (x : Int) (p : Int) = ((x / 2 ^ p : Nat) : Int) := by
 unfold shf
 rw [Int.toNat_natCast, show IntKind.u64.bits = 64 from rfl, Nat.min_eq_left hp, Int.fdiv_eq_ediv_of_nonneg _ (Int.pow_nonneg (by decide))]
 have : (2 : Int) ^ p = ((2 ^ p : Nat) : Int) := by rw [Int.natCast_pow]; rfl
 rw [this]
 rfl
theorem set_rep (O : List Int) (k : Nat) (v : Int) : (O ++ List.replicate (k + 1) 0).set O.length v = (O ++ [v]) ++ List.replicate k 0 := by
 rw [List.set_append_right _ _ (Nat.le_refl _), Nat.sub_self, List.replicate_succ, List.set_cons_zero, List.append_assoc]
 rfl
theorem run_ext3 {ρ : Operand → Value} {o : Oper} {x y z : Operand} {f : FuncId} {ts : Array TypeId} {v : Value} {w : World} (ho : o.op = .call { callee := .value (.func f), args := #[x, y, z], argTypes := ts })
  (hf : ρ (.func f) = .func (.func f) #[] #[]) (hr : (callFunc f #[ρ x, ρ y, ρ z]).run Tryd.prog w = .ok (.value v) w) : (execOp ρ o).run Tryd.prog w = .ok (.value v) w := by
 unfold execOp
 simp only [ho, resolve, Sem.run_bind, Sem.run_pure, Result.andThen_ok, List.map_toArray, List.map_cons, List.map_nil, hf]
 simpa [Deferred.ofValue, invoke] using hr
section
variable {B : List Nat} {w0 : Base} {rd : Option Nat} {n : Nat} {env : List (Nat × Value)} {bs : List Box} {fs : List Fact} {K : Exit → St → Prop} {ops : Array Oper} {j : Nat}
theorem xad (d : Nat) (a b c : Int) {o : Oper} {x y z : Operand} {ts : Array TypeId} (hc : c.toNat ≤ 1) (h : NW ⟨Tryd.prog, n, B, w0, rd⟩ ops (Nat.succ j) ⟨(d, .tuple #[.int .u64 (add64s a b c), .int .u64 (add64c a b c)]) :: env, bs, fs⟩ K)
  (ho : ops[j]? = some o := by rfl) (hop : o.op = .call { callee := .value (.func 131), args := #[x, y, z], argTypes := ts } := by rfl) (hg : guardD ops env o = some true := by kernel_rfl) (hf : fitO n env o = true := by kernel_rfl) (hd : o.dst = some d := by rfl)
  (hx : evD env x = .int .u64 a := by kernel_rfl) (hy : evD env y = .int .u64 b := by kernel_rfl) (hz : evD env z = .int .u64 c := by kernel_rfl) : NW ⟨Tryd.prog, n, B, w0, rd⟩ ops j ⟨env, bs, fs⟩ K :=
 nv (X := ⟨Tryd.prog, n, B, w0, rd⟩) _ d _ ho hg hf hd (fun w _ _ => run_ext3 hop rfl (by rw [hx, hy, hz]; exact run_Add64 a b c hc w)) rfl h
theorem xsb (d : Nat) (a b c : Int) {o : Oper} {x y z : Operand} {ts : Array TypeId} (hc : c.toNat ≤ 1) (h : NW ⟨Tryd.prog, n, B, w0, rd⟩ ops (Nat.succ j) ⟨(d, .tuple #[.int .u64 (sub64s a b c), .int .u64 (sub64c a b c)]) :: env, bs, fs⟩ K)
  (ho : ops[j]? = some o := by rfl) (hop : o.op = .call { callee := .value (.func 134), args := #[x, y, z], argTypes := ts } := by rfl) (hg : guardD ops env o = some true := by kernel_rfl) (hf : fitO n env o = true := by kernel_rfl) (hd : o.dst = some d := by rfl)
  (hx : evD env x = .int .u64 a := by kernel_rfl) (hy : evD env y = .int .u64 b := by kernel_rfl) (hz : evD env z = .int .u64 c := by kernel_rfl) : NW ⟨Tryd.prog, n, B, w0, rd⟩ ops j ⟨env, bs, fs⟩ K :=
 nv (X := ⟨Tryd.prog, n, B, w0, rd⟩) _ d _ ho hg hf hd (fun w _ _ => run_ext3 hop rfl (by rw [hx, hy, hz]; exact run_Sub64 a b c hc w)) rfl h
variable {s0 : St} {ds : List Nat} {l : List Bool} {BB : List Nat} {lv : Bool}
theorem RW_v {X : Cx} {i d : Nat} {v : Value} {o : Oper} (h : RW X ops ds s0 lv (l.set i true) ⟨(d, v) :: env, bs, fs⟩ K) (ho : ops[i]? = some o) (hg : guardD ops env o = some true) (hf : fitO X.n env o = true) (hd : o.dst = some d) (hrd : (readyT (rtab .any ops).2 l == [i]) = true) (hv : ∀ w, (execOp (evD env) o).run X.P w = .ok (.value v) w) : RW X ops ds s0 lv l ⟨env, bs, fs⟩ K := by
 obtain ⟨f1, f2, f3⟩ := fitO_spec hf
 refine RW_on (s := ⟨env, bs, fs⟩) rfl ho hg hrd (fun a' w ha' hw hS => ?_)
 unfold Oper.wp
 rw [ha'.exec f2 f3, hv w, Oper.upon_value, hd]
 exact ⟨fun _ h => h, h _ _ (ha'.put (some d) (by rw [← hd]; exact dstOk_lt f1) v) (hw.put (some d) v) hS⟩
theorem xdad (i : Nat) (hB : waitsOk (rtab .any ops).2 BB = true) (d : Nat) (a b c : Int) {o : Oper} {x y z : Operand} {ts : Array TypeId} (hc : c.toNat ≤ 1) (h : RW ⟨Tryd.prog, n, B, w0, rd⟩ ops ds s0 lv (l.set i true) ⟨(d, .tuple #[.int .u64 (add64s a b c), .int .u64 (add64c a b c)]) :: env, bs, fs⟩ K)
  (ho : ops[i]? = some o := by rfl) (hop : o.op = .call { callee := .value (.func 131), args := #[x, y, z], argTypes := ts } := by rfl) (hg : guardD ops env o = some true := by kernel_rfl) (hf : fitO n env o = true := by kernel_rfl) (hd : o.dst = some d := by rfl) (hrd : (readyT (rtab .any ops).2 l == [i]) = true := by kernel_rfl)
  (hx : evD env x = .int .u64 a := by kernel_rfl) (hy : evD env y = .int .u64 b := by kernel_rfl) (hz : evD env z = .int .u64 c := by kernel_rfl) : RW ⟨Tryd.prog, n, B, w0, rd⟩ ops ds s0 lv l ⟨env, bs, fs⟩ K :=
 RW_v h ho hg hf hd hrd (fun w => run_ext3 hop rfl (by rw [hx, hy, hz]; exact run_Add64 a b c hc w))
end
theorem trimL_take (n : Nat) : ∀ {l : List Int} {m : Nat}, l.length = n → m ≤ l.length → (∀ i : Nat, m ≤ i → rd l i = 0) → (0 < m → rd l ((m - 1 : Nat) : Int) ≠ 0) → trimL l = l.take m := by
 induction n with
 | zero =>
  intro l m hl hm _ _
  have : l = [] := List.eq_nil_of_length_eq_zero hl
  subst this
  simp
  rfl
 | succ n ih =>
  intro l m hl hm hz hn
  obtain ⟨a, x, rfl⟩ := snoc_of (l := l) (by omega)
  have ha : a.length = n := by simp at hl; exact hl
  have hx : rd (a ++ [x]) (a.length : Int) = x := by simp [rd_nat]
  by_cases he : m = a.length + 1
  ·subst he
   have h1 := hn (by omega)
   rw [show a.length + 1 - 1 = a.length by omega, hx] at h1
   rw [List.take_of_length_le (by simp)]
   exact norm_snoc.2 h1
  ·have hm' : m ≤ a.length := by simp at hm; omega
   have h0 := hz a.length hm'
   rw [hx] at h0
   subst h0
   rw [trimL_snoc_zero, List.take_append_of_le_length hm']
   refine ih ha hm' (fun i hi => ?_) (fun hp => ?_)
   ·rcases Nat.lt_or_ge i a.length with h | h
    ·have := hz i hi
     rwa [rd_append_left _ _ _ (by simpa using h)] at this
    ·exact rd_of_ge a i (by simpa using h)
   ·have := hn hp
    rwa [rd_append_left _ _ _ (by simp; omega)] at this
theorem ct_impl_trimmed (l : List Int) (A : Option Addr) (c : Nat) (hl : l.length ≤ 1000000000) : CtR Tryd.prog 54 [.slice A l.length c] [Row .u64 A c l] .u64 (trimL l) := by
 refine ct_of Tryd.func54 rfl (by kernel_rfl) (fun B w0 => ?_)
 refine SW_know zi0 (fun w h => h.2) (fun hc => ?_)
 refine xr [] [(2, .slice none 0 0)] ?_
 refine xr [] [(3, .int .i64 (((List.length l) : Nat) : Int))] ?_
 refine SW_seq ?_
 refine SW_block ?_
 refine SW_loopn (fun m s => m ≤ l.length ∧ (∀ i : Nat, m ≤ i → rd l i = 0) ∧ Weak s ⟨[(0, .slice A l.length c), (3, .int .i64 (m : Int))], [], [Row .u64 A c l]⟩) l.length ⟨Nat.le_refl _, fun i hi => rd_of_ge l i (by simpa using hi), ?_⟩ (fun m s ⟨h1, h2, hw⟩ => ?_)
 ·exact xw (zsS zi0 zs0)
 ·refine SW_weak hw ?_
  clear hw
  have fin : ∀ {A}, trimL l = l.take m → ∀ w, Row .u64 A c l w → Row .u64 A m (trimL l) w := fun e w h => e ▸ row_take m m (Nat.le_refl m) h
  have len : trimL l = l.take m → (trimL l).length = m := fun e => by rw [e, List.length_take]; omega
  by_cases h0 : m = 0
  ·have z0 : decide ((m : Int) > 0) = false := decide_eq_false (by omega)
   have e := trimL_take _ rfl h1 h2 (fun z => absurd h0 (by omega))
   refine SW_fact zi0 (fin e) ?_
   refine SW_seq ?_
   refine xg ?_
   refine xn 3 [] [(8, .bool (decide ((m : Int) > 0)))] ?_
   refine xkf 8 z0 ?_
   refine xz [] [(15, .bool false)] ?_
   refine xs0 ?_
   refine SW_exit ?_
   refine xg ?_
   refine xn 3 [] [(20, .int .i64 (m : Int)), (19, .int .i64 (m : Int)), (18, .slice A (List.length l) c)] ?_
   refine xsx 21 26 (A) (List.length l) (c) (m) IntKind.i64 IntKind.i64 ((m : Int)) ⟨rfl⟩ (by omega) ?_
   refine xz [] [(2, .slice A m m)] ?_
   refine SW_ret ?_
   refine xe (A, m) (.slice A m m) [] ?_ (zsS zi0 zs0)
   rw [len e]
  ·have z0 : decide ((m : Int) > 0) = true := decide_eq_true (by omega)
   refine SW_know zi0 (fun w h => row_at h (by omega)) (fun ⟨ad, e⟩ => ?_)
   subst e
   have wi : IntKind.i64.wrap ((m : Int) - 1) = ((m - 1 : Nat) : Int) := by rw [wrap_i64 (by omega)]; omega
   refine SW_seq ?_
   refine xg ?_
   refine xn 3 [] [(8, .bool (decide ((m : Int) > 0)))] ?_
   refine xkt 8 z0 ?_
   refine xn 6 [] [(11, .int .i64 (IntKind.wrap IntKind.i64 ((m : Int) - 1))), (9, .slice (some ad) (List.length l) c)] ?_
   refine xfi 12 26 (ad) (List.length l) (c) ((m) - 1) IntKind.i64 (IntKind.wrap IntKind.i64 ((m : Int) - 1)) (Nn.w (Nn.sub ⟨rfl⟩ ⟨rfl⟩ (by omega)) (by omega)) (by omega) ?_
   refine xfl 13 zi0 (m - 1) (by omega) ?_
   refine xz [] [(15, .bool (rd l (((m - 1) : Nat) : Int) == 0))] ?_
   refine xs (rd l (((m - 1) : Nat) : Int) == 0) (fun q0 => ?_) (fun q0 => ?_)
   ·refine SW_skip ?_
    refine SW_block ?_
    refine xrl [] [(3, .int .i64 (IntKind.wrap IntKind.i64 ((m : Int) - 1)))] ?_
    rw [wi]
    refine ⟨m - 1, by omega, by omega, fun i hi => ?_, ?_⟩
    ·rcases Nat.eq_or_lt_of_le hi with h | h
     ·rw [← h]; simpa using q0
     ·exact h2 i (by omega)
    ·exact xw (zsS zi0 zs0)
   ·have e := trimL_take _ rfl h1 h2 (fun _ => by simpa using q0)
    refine SW_fact zi0 (fin e) ?_
    refine SW_exit ?_
    refine xg ?_
    refine xn 3 [] [(20, .int .i64 (m : Int)), (19, .int .i64 (m : Int)), (18, .slice (some ad) (List.length l) c)] ?_
    refine xsx 21 26 (some ad) (List.length l) (c) (m) IntKind.i64 IntKind.i64 ((m : Int)) ⟨rfl⟩ (by omega) ?_
    refine xz [] [(2, .slice (some ad) m m)] ?_
    refine SW_ret ?_
    refine xe (some ad, m) (.slice (some ad) m m) [] ?_ (zsS zi0 zs0)
    rw [len e]
theorem ct_impl_trimmed_own (g : Nat) (l : List Int) (c : Nat) (hl : l.length ≤ 1000000000) (hc : l.length ≤ c) : CtM Tryd.prog 54 [.slice (some ⟨g, 0, none⟩) l.length c] [⟨g, cl .u64 l [], 26⟩] [] (γ := Unit) (fun _ => .slice (some ⟨g, 0, none⟩) (trimL l).length (trimL l).length) (fun _ => [⟨g, cl .u64 l [], 26⟩]) (fun _ => []) := by
 refine cm_of Tryd.func54 rfl (by kernel_rfl) (fun B w0 => ?_)
 refine xr [] [(2, .slice none 0 0)] ?_
 refine xr [] [(3, .int .i64 (((List.length l) : Nat) : Int))] ?_
 refine SW_seq ?_
 refine SW_block ?_
 refine SW_loopn (fun m s => m ≤ l.length ∧ (∀ i : Nat, m ≤ i → rd l i = 0) ∧ Weak s ⟨[(0, .slice (some ⟨g, 0, none⟩) l.length c), (3, .int .i64 (m : Int))], [⟨g, cl .u64 l [], 26⟩], []⟩) l.length ⟨Nat.le_refl _, fun i hi => rd_of_ge l i (by simpa using hi), ?_⟩ (fun m s ⟨h1, h2, hw⟩ => ?_)
 ·exact xw zs0
 ·refine SW_weak hw ?_
  clear hw
  have len : trimL l = l.take m → (trimL l).length = m := fun e => by rw [e, List.length_take]; omega
  by_cases h0 : m = 0
  ·have z0 : decide ((m : Int) > 0) = false := decide_eq_false (by omega)
   have e := trimL_take _ rfl h1 h2 (fun z => absurd h0 (by omega))
   rw [len e]
   refine SW_seq ?_
   refine xg ?_
   refine xn 3 [] [(8, .bool (decide ((m : Int) > 0)))] ?_
   refine xkf 8 z0 ?_
   refine xz [] [(15, .bool false)] ?_
   refine xs0 ?_
   refine SW_exit ?_
   refine xg ?_
   refine xn 3 [] [(20, .int .i64 (m : Int)), (19, .int .i64 (m : Int)), (18, .slice (some ⟨g, 0, none⟩) (List.length l) c)] ?_
   refine xsx 21 26 (some ⟨g, 0, none⟩) (List.length l) (c) (m) IntKind.i64 IntKind.i64 ((m : Int)) ⟨rfl⟩ (by omega) ?_
   refine xz [] [(2, .slice (some ⟨g, 0, none⟩) m m)] ?_
   refine SW_ret ?_
   refine xmeg (.slice (some ⟨g, 0, none⟩) m m) [] ?_
   exact ⟨(), [true], rfl, rfl, zs0⟩
  ·have z0 : decide ((m : Int) > 0) = true := decide_eq_true (by omega)
   have wi : IntKind.i64.wrap ((m : Int) - 1) = ((m - 1 : Nat) : Int) := by rw [wrap_i64 (by omega)]; omega
   have vi : Ve (IntKind.i64.wrap ((m : Int) - 1)) ((m - 1 : Nat) : Int) := ⟨wi⟩
   refine SW_seq ?_
   refine xg ?_
   refine xn 3 [] [(8, .bool (decide ((m : Int) > 0)))] ?_
   refine xkt 8 z0 ?_
   refine xn 5 [] [(10, .int .i64 (m : Int)), (9, .slice (some ⟨g, 0, none⟩) (List.length l) c)] ?_
   refine xve 11 IntKind.i64 (IntKind.wrap IntKind.i64 ((m : Int) - 1)) ((((m - 1) : Nat) : Int)) vi ?_
   refine xoi 12 26 (g) (List.length l) (c) (m - 1) IntKind.i64 ((((m - 1) : Nat) : Int)) ⟨rfl⟩ (by omega) ?_
   refine xol 13 0 (g) (m - 1) IntKind.u64 (l) ([]) 26 (by first | omega | (simp <;> omega)) ?_
   refine xz [] [(15, .bool (rd l (((m - 1) : Nat) : Int) == 0))] ?_
   refine xs (rd l (((m - 1) : Nat) : Int) == 0) (fun q0 => ?_) (fun q0 => ?_)
   ·refine SW_skip ?_
    refine SW_block ?_
    refine SW_region ?_
    refine xn 1 [] [(16, .int .i64 (m : Int))] ?_
    refine xve 17 IntKind.i64 (IntKind.wrap IntKind.i64 ((m : Int) - 1)) ((((m - 1) : Nat) : Int)) vi ?_
    refine xz [] [(3, .int .i64 (((m - 1) : Nat) : Int))] ?_
    refine ⟨m - 1, by omega, by omega, fun i hi => ?_, ?_⟩
    ·rcases Nat.eq_or_lt_of_le hi with h | h
     ·rw [← h]; simpa using q0
     ·exact h2 i (by omega)
    ·exact xw zs0
   ·have e := trimL_take _ rfl h1 h2 (fun _ => by simpa using q0)
    rw [len e]
    refine SW_exit ?_
    refine xg ?_
    refine xn 3 [] [(20, .int .i64 (m : Int)), (19, .int .i64 (m : Int)), (18, .slice (some ⟨g, 0, none⟩) (List.length l) c)] ?_
    refine xsx 21 26 (some ⟨g, 0, none⟩) (List.length l) (c) (m) IntKind.i64 IntKind.i64 ((m : Int)) ⟨rfl⟩ (by omega) ?_
    refine xz [] [(2, .slice (some ⟨g, 0, none⟩) m m)] ?_
    refine SW_ret ?_
    refine xmeg (.slice (some ⟨g, 0, none⟩) m m) [] ?_
    exact ⟨(), [true], rfl, rfl, zs0⟩
theorem add64_val {a b c : Int} (ha : 0 ≤ a ∧ a < (B64 : Int)) (hb : 0 ≤ b ∧ b < (B64 : Int)) (hc : 0 ≤ c ∧ c ≤ 1) : (0 ≤ add64s a b c ∧ add64s a b c < (B64 : Int)) ∧ (0 ≤ add64c a b c ∧ add64c a b c ≤ 1) ∧ (add64s a b c).toNat + B64 * (add64c a b c).toNat = a.toNat + b.toNat + c.toNat := by
 unfold add64s add64c
 unfold B64 at *
 omega
theorem sub64_val {a b c : Int} (ha : 0 ≤ a ∧ a < (B64 : Int)) (hb : 0 ≤ b ∧ b < (B64 : Int)) (hc : 0 ≤ c ∧ c ≤ 1) : (0 ≤ sub64s a b c ∧ sub64s a b c < (B64 : Int)) ∧ (0 ≤ sub64c a b c ∧ sub64c a b c ≤ 1) ∧ (sub64s a b c).toNat + b.toNat + c.toNat = a.toNat + B64 * (sub64c a b c).toNat := by
 unfold sub64s sub64c
 unfold B64 at *
 split <;> omega
theorem add_step {a b O : List Int} {i : Nat} {c : Int} (da : Dig B64 a) (db : Dig B64 b) (dO : Dig B64 O) (hl : O.length = i) (hc : 0 ≤ c ∧ c ≤ 1) (hv : val B64 O + B64 ^ i * c.toNat = val B64 (a.take i) + val B64 (b.take i)) :
  Dig B64 (O ++ [add64s (rd a i) (rd b i) c]) ∧ (0 ≤ add64c (rd a i) (rd b i) c ∧ add64c (rd a i) (rd b i) c ≤ 1) ∧ val B64 (O ++ [add64s (rd a i) (rd b i) c]) + B64 ^ (i + 1) * (add64c (rd a i) (rd b i) c).toNat = val B64 (a.take (i + 1)) + val B64 (b.take (i + 1)) := by
 obtain ⟨h1, h2, h3⟩ := add64_val (da.rd B64_pos i) (db.rd B64_pos i) hc
 refine ⟨dO.snoc h1, h2, ?_⟩
 rw [val_snoc, val_take_succ, val_take_succ, hl, Nat.pow_succ, Nat.mul_assoc]
 have h4 : B64 ^ i * (add64s (rd a i) (rd b i) c).toNat + B64 ^ i * (B64 * (add64c (rd a i) (rd b i) c).toNat) = B64 ^ i * (rd a i).toNat + B64 ^ i * (rd b i).toNat + B64 ^ i * c.toNat := by
  rw [← Nat.mul_add, h3, Nat.mul_add, Nat.mul_add]
 omega
theorem sub_step {a b O : List Int} {i : Nat} {c : Int} (da : Dig B64 a) (db : Dig B64 b) (dO : Dig B64 O) (hl : O.length = i) (hc : 0 ≤ c ∧ c ≤ 1) (hv : val B64 O + val B64 (b.take i) = val B64 (a.take i) + B64 ^ i * c.toNat) :
  Dig B64 (O ++ [sub64s (rd a i) (rd b i) c]) ∧ (0 ≤ sub64c (rd a i) (rd b i) c ∧ sub64c (rd a i) (rd b i) c ≤ 1) ∧ val B64 (O ++ [sub64s (rd a i) (rd b i) c]) + val B64 (b.take (i + 1)) = val B64 (a.take (i + 1)) + B64 ^ (i + 1) * (sub64c (rd a i) (rd b i) c).toNat := by
 obtain ⟨h1, h2, h3⟩ := sub64_val (da.rd B64_pos i) (db.rd B64_pos i) hc
 refine ⟨dO.snoc h1, h2, ?_⟩
 rw [val_snoc, val_take_succ, val_take_succ, hl, Nat.pow_succ, Nat.mul_assoc]
 have h4 : B64 ^ i * (sub64s (rd a i) (rd b i) c).toNat + B64 ^ i * (rd b i).toNat + B64 ^ i * c.toNat = B64 ^ i * (rd a i).toNat + B64 ^ i * (B64 * (sub64c (rd a i) (rd b i) c).toNat) := by
  rw [← Nat.mul_add, ← Nat.mul_add, ← Nat.mul_add, h3]
 omega
theorem ct_impl_nat_add_rows (a b : List Int) (A A' : Option Addr) (c c' : Nat) (da : Dig B64 a) (db : Dig B64 b) (hla : a.length ≤ 1000000) (hlb : b.length ≤ 1000000) : ∀ r, Dig B64 r → Norm r → val B64 r = val B64 a + val B64 b → CtR Tryd.prog 107 [.slice A a.length c, .slice A' b.length c'] [Row .u64 A c a, Row .u64 A' c' b] .u64 r := by
 intro r dr nr vr
 refine ct_of Tryd.func107 rfl (by kernel_rfl) (fun B w0 => ?_)
 refine xr [] [] ?_
 refine SW_cut (fun s' => ∃ p q C C' k k', (Dig B64 p ∧ Dig B64 q) ∧ (p.length ≤ 1000000 ∧ q.length ≤ p.length) ∧ val B64 r = val B64 p + val B64 q ∧ Weak s' ⟨[(0, .slice C p.length k), (1, .slice C' q.length k')], [], [Row .u64 C k p, Row .u64 C' k' q]⟩) ?_ ?_
 ·by_cases h : a.length < b.length
  ·have z0 : decide ((a.length : Int) < (b.length : Int)) = true := decide_eq_true (by omega)
   refine xr [] [(13, .bool (decide ((((List.length a) : Nat) : Int) < (((List.length b) : Nat) : Int))))] ?_
   refine xst z0 ?_
   refine xrl [] [(1, .slice A (List.length a) c), (0, .slice A' (List.length b) c')] ?_
   refine ⟨b, a, A', A, c', c, ⟨db, da⟩, ⟨hlb, by omega⟩, by omega, ?_⟩
   exact xw (zsS (ziS zi0) (zsS zi0 zs0))
  ·have z0 : decide ((a.length : Int) < (b.length : Int)) = false := decide_eq_false (by omega)
   refine xr [] [(13, .bool (decide ((((List.length a) : Nat) : Int) < (((List.length b) : Nat) : Int))))] ?_
   refine xsf z0 ?_
   refine SW_skip ?_
   refine ⟨a, b, A, A', c, c', ⟨da, db⟩, ⟨hla, by omega⟩, by omega, ?_⟩
   exact xw (zsS zi0 (zsS (ziS zi0) zs0))
 ·rintro s' ⟨p, q, C, C', k, k', ⟨dp, dq⟩, ⟨hlp, hlq⟩, hv, hw⟩
  refine SW_weak hw ?_
  clear hw
  refine xg ?_
  refine xn 3 [] [(18, .int .i64 (IntKind.wrap IntKind.i64 ((((List.length p) : Nat) : Int) + 1)))] ?_
  refine xma 19 26 ((List.length p) + 1) IntKind.u64 8 (IntKind.wrap IntKind.i64 ((((List.length p) : Nat) : Int) + 1)) (Nn.w (Nn.add ⟨rfl⟩ ⟨rfl⟩) (by omega)) (by omega) (fun g0 => ?_)
  refine xz [] [(5, .slice (some ⟨g0, 0, none⟩) (List.length p + 1) (List.length p + 1))] ?_
  refine xr [] [(6, .int .u64 0)] ?_
  refine SW_seq ?_
  refine xr [] [(22, .int .i64 0), (21, .int .i64 (((List.length p) : Nat) : Int))] ?_
  refine SW_block ?_
  refine SW_loopn (fun n s => ∃ i O cy, n + i = p.length ∧ O.length = i ∧ Dig B64 O ∧ (0 ≤ cy ∧ cy ≤ 1) ∧ val B64 O + B64 ^ i * cy.toNat = val B64 (p.take i) + val B64 (q.take i) ∧ Weak s ⟨[(0, .slice C p.length k), (1, .slice C' q.length k'), (5, .slice (some ⟨g0, 0, none⟩) (p.length + 1) (p.length + 1)), (6, .int .u64 cy), (21, .int .i64 p.length), (22, .int .i64 (i : Int))], [⟨g0, cl .u64 (O ++ List.replicate (n + 1) 0) [], 26⟩], [Row .u64 C k p, Row .u64 C' k' q]⟩) p.length ⟨0, [], 0, rfl, rfl, Dig.nil _, by decide, by simp [val_nil], ?_⟩ (fun n s ⟨i, O, cy, h1, h2, h3, h4, h5, hw⟩ => ?_)
  ·exact xw (zsS zi0 (zsS (ziS zi0) zs0))
  ·refine SW_weak hw ?_
   clear hw
   by_cases hi : i < p.length
   ·have z0 : decide ((i : Int) < (p.length : Int)) = true := decide_eq_true (by omega)
    refine SW_know zi0 (fun w h => row_at h (by omega)) (fun ⟨ad, e⟩ => ?_)
    subst e
    obtain ⟨n, rfl⟩ : ∃ n', n = n' + 1 := ⟨n - 1, by omega⟩
    obtain ⟨s1, s2, s3⟩ := add_step dp dq h3 h2 h4 h5
    refine xr [] [(23, .bool (decide ((i : Int) < (((List.length p) : Nat) : Int))))] ?_
    refine SW_seq ?_
    refine xst z0 ?_
    refine SW_skip ?_
    refine SW_seq ?_
    refine SW_block ?_
    refine xr [] [(7, .int .i64 (i : Int))] ?_
    refine xr [] [(8, .int .u64 0)] ?_
    refine SW_cut (fun s' => Weak s' ⟨[(0, .slice (some ad) p.length k), (1, .slice C' q.length k'), (5, .slice (some ⟨g0, 0, none⟩) (p.length + 1) (p.length + 1)), (6, .int .u64 cy), (7, .int .i64 (i : Int)), (8, .int .u64 (rd q i)), (21, .int .i64 p.length), (22, .int .i64 (i : Int))], [⟨g0, cl .u64 (O ++ List.replicate (n + 1 + 1) 0) [], 26⟩], [Row .u64 (some ad) k p, Row .u64 C' k' q]⟩) ?_ ?_
    ·by_cases hq : i < q.length
     ·have z1 : decide ((i : Int) < (q.length : Int)) = true := decide_eq_true (by omega)
      refine SW_know (ziS zi0) (fun w h => row_at h (by omega)) (fun ⟨ad', e⟩ => ?_)
      subst e
      refine xr [] [(28, .bool (decide ((i : Int) < (((List.length q) : Nat) : Int))))] ?_
      refine xst z1 ?_
      refine SW_region ?_
      refine xn 2 [] [(30, .int .i64 (i : Int)), (29, .slice (some ad') (List.length q) k')] ?_
      refine xfi 31 26 (ad') (List.length q) (k') (i) IntKind.i64 ((i : Int)) ⟨rfl⟩ (by omega) ?_
      refine xfl 32 (ziS zi0) (i) (by omega) ?_
      refine xz [] [(8, .int .u64 (rd q (i : Int)))] ?_
      exact xw (zsS zi0 (zsS (ziS zi0) zs0))
     ·have z1 : decide ((i : Int) < (q.length : Int)) = false := decide_eq_false (by omega)
      refine xr [] [(28, .bool (decide ((i : Int) < (((List.length q) : Nat) : Int))))] ?_
      refine xsf z1 ?_
      refine SW_skip ?_
      rw [rd_of_ge q i (by simpa using hq)]
      exact xw (zsS zi0 (zsS (ziS zi0) zs0))
    ·rintro s' hw
     refine SW_weak hw ?_
     clear hw
     refine SW_region ?_
     refine xn 4 [] [(37, .int .i64 (i : Int)), (36, .slice (some ad) (List.length p) k), (35, .int .i64 (i : Int)), (34, .slice (some ⟨g0, 0, none⟩) (List.length p + 1) (List.length p + 1))] ?_
     refine xfi 38 26 (ad) (List.length p) (k) (i) IntKind.i64 ((i : Int)) ⟨rfl⟩ (by omega) ?_
     refine xfl 39 zi0 (i) (by omega) ?_
     refine xn 8 [] [(41, .int .u64 cy), (40, .int .u64 (rd q (i : Int)))] ?_
     refine xad 42 (rd p (i : Int)) (rd q (i : Int)) (cy) (by omega) ?_
     refine xn 12 [] [(44, .int .u64 (add64c (rd p (i : Int)) (rd q (i : Int)) cy)), (43, .int .u64 (add64s (rd p (i : Int)) (rd q (i : Int)) cy))] ?_
     refine xoi 45 26 (g0) (List.length p + 1) (List.length p + 1) (i) IntKind.i64 ((i : Int)) ⟨rfl⟩ (by omega) ?_
     refine xos 0 (g0) (i) IntKind.u64 (O ++ List.replicate (n + 1 + 1) 0) ([]) 26 (add64s (rd p (i : Int)) (rd q (i : Int)) cy) (by first | omega | (simp <;> omega)) ?_
     refine xz [] [(6, .int .u64 (add64c (rd p (i : Int)) (rd q (i : Int)) cy))] ?_
     refine xrl [] [(22, .int .i64 (IntKind.wrap IntKind.i64 ((i : Int) + 1)))] ?_
     have wi : IntKind.i64.wrap ((i : Int) + 1) = ((i + 1 : Nat) : Int) := by rw [wrap_i64 (by omega)]; omega
     have es : ∀ v, (O ++ List.replicate (n + 1 + 1) 0).set i v = (O ++ [v]) ++ List.replicate (n + 1) 0 := fun v => by rw [← h2]; exact set_rep O (n + 1) v
     rw [wi, es]
     refine ⟨n, by omega, i + 1, O ++ [add64s (rd p i) (rd q i) cy], _, by omega, by simp; omega, s1, s2, s3, ?_⟩
     exact xw (zsS zi0 (zsS (ziS zi0) zs0))
   ·have z0 : decide ((i : Int) < (p.length : Int)) = false := decide_eq_false (by omega)
    obtain rfl : n = 0 := by omega
    have er : trimL (O ++ [cy]) = r := by
     refine norm_inj B64_pos (h3.snoc (by unfold B64; omega)).trim dr (norm_trim _) nr ?_
     rw [val_trim, val_snoc, h2, h5, val_take_all _ _ _ (by omega), val_take_all _ _ _ (by omega), hv]
    have ct := ct_impl_trimmed (O ++ [cy]) (some ⟨g0, 0, none⟩) (O ++ [cy]).length (by simp; omega)
    rw [er] at ct
    refine xr [] [(23, .bool (decide ((i : Int) < (((List.length p) : Nat) : Int))))] ?_
    refine SW_seq ?_
    refine xsf z0 ?_
    refine SW_exit ?_
    refine xg ?_
    refine xn 4 [] [(50, .int .u64 cy), (49, .int .i64 (((List.length p) : Nat) : Int)), (47, .slice (some ⟨g0, 0, none⟩) (List.length p + 1) (List.length p + 1))] ?_
    refine xoi 51 26 (g0) (List.length p + 1) (List.length p + 1) (List.length p) IntKind.i64 ((((List.length p) : Nat) : Int)) ⟨rfl⟩ (by omega) ?_
    refine xos 0 (g0) (List.length p) IntKind.u64 (O ++ List.replicate (0 + 1) 0) ([]) 26 (cy) (by first | omega | (simp <;> omega)) ?_
    refine xz [] [] ?_
    refine xg ?_
    refine xn 1 [] [(52, .slice (some ⟨g0, 0, none⟩) (List.length p + 1) (List.length p + 1))] ?_
    have es : (O ++ List.replicate (0 + 1) 0).set p.length cy = O ++ [cy] := by
     rw [show p.length = O.length by omega]
     exact (set_rep O 0 cy).trans (by simp)
    have el : p.length + 1 = (O ++ [cy]).length := by simp; omega
    rw [es]
    refine NW_fz 0 (p.length + 1) g0 .u64 (O ++ [cy]) [] 26 (by simp; omega) (by simp; omega) ?_
    rw [el]
    refine xcr 53 ct (zsS zi0 zs0) (fun A0 k0 => ?_)
    refine xz [] [(4, .slice A0 (List.length r) k0)] ?_
    refine SW_ret ?_
    refine xe (A0, k0) (.slice A0 (List.length r) k0) [] ?_ (zsS zi0 zs0)
    rfl
theorem ct_impl_nat_sub_rows (a b : List Int) (A A' : Option Addr) (c c' : Nat) (da : Dig B64 a) (db : Dig B64 b) (hla : a.length ≤ 1000000) (hlb : b.length ≤ a.length) : ∀ r, Dig B64 r → Norm r → val B64 r + val B64 b = val B64 a → CtR Tryd.prog 113 [.slice A a.length c, .slice A' b.length c'] [Row .u64 A c a, Row .u64 A' c' b] .u64 r := by
 intro r dr nr vr
 refine ct_of Tryd.func113 rfl (by kernel_rfl) (fun B w0 => ?_)
 refine xr [] [(4, .slice none 0 0)] ?_
 refine xg ?_
 refine xn 2 [] [(10, .int .i64 (((List.length a) : Nat) : Int))] ?_
 refine xma 11 26 (List.length a) IntKind.u64 8 ((((List.length a) : Nat) : Int)) ⟨rfl⟩ (by omega) (fun g0 => ?_)
 refine xz [] [(5, .slice (some ⟨g0, 0, none⟩) (List.length a) (List.length a))] ?_
 refine xr [] [(6, .int .u64 0)] ?_
 refine SW_seq ?_
 refine xr [] [(14, .int .i64 0), (13, .int .i64 (((List.length a) : Nat) : Int))] ?_
 refine SW_block ?_
 refine SW_loopn (fun n s => ∃ i O cy, n + i = a.length ∧ O.length = i ∧ Dig B64 O ∧ (0 ≤ cy ∧ cy ≤ 1) ∧ val B64 O + val B64 (b.take i) = val B64 (a.take i) + B64 ^ i * cy.toNat ∧ Weak s ⟨[(0, .slice A a.length c), (1, .slice A' b.length c'), (5, .slice (some ⟨g0, 0, none⟩) a.length a.length), (6, .int .u64 cy), (13, .int .i64 a.length), (14, .int .i64 (i : Int))], [⟨g0, cl .u64 (O ++ List.replicate n 0) [], 26⟩], [Row .u64 A c a, Row .u64 A' c' b]⟩) a.length ⟨0, [], 0, rfl, rfl, Dig.nil _, by decide, by simp [val_nil], ?_⟩ (fun n s ⟨i, O, cy, h1, h2, h3, h4, h5, hw⟩ => ?_)
 ·exact xw (zsS zi0 (zsS (ziS zi0) zs0))
 ·refine SW_weak hw ?_
  clear hw
  by_cases hi : i < a.length
  ·have z0 : decide ((i : Int) < (a.length : Int)) = true := decide_eq_true (by omega)
   refine SW_know zi0 (fun w h => row_at h (by omega)) (fun ⟨ad, e⟩ => ?_)
   subst e
   obtain ⟨n, rfl⟩ : ∃ n', n = n' + 1 := ⟨n - 1, by omega⟩
   obtain ⟨s1, s2, s3⟩ := sub_step da db h3 h2 h4 h5
   refine xr [] [(15, .bool (decide ((i : Int) < (((List.length a) : Nat) : Int))))] ?_
   refine SW_seq ?_
   refine xst z0 ?_
   refine SW_skip ?_
   refine SW_seq ?_
   refine SW_block ?_
   refine xr [] [(7, .int .i64 (i : Int))] ?_
   refine xr [] [(8, .int .u64 0)] ?_
   refine SW_cut (fun s' => Weak s' ⟨[(0, .slice (some ad) a.length c), (1, .slice A' b.length c'), (5, .slice (some ⟨g0, 0, none⟩) a.length a.length), (6, .int .u64 cy), (7, .int .i64 (i : Int)), (8, .int .u64 (rd b i)), (13, .int .i64 a.length), (14, .int .i64 (i : Int))], [⟨g0, cl .u64 (O ++ List.replicate (n + 1) 0) [], 26⟩], [Row .u64 (some ad) c a, Row .u64 A' c' b]⟩) ?_ ?_
   ·by_cases hq : i < b.length
    ·have z1 : decide ((i : Int) < (b.length : Int)) = true := decide_eq_true (by omega)
     refine SW_know (ziS zi0) (fun w h => row_at h (by omega)) (fun ⟨ad', e⟩ => ?_)
     subst e
     refine xr [] [(20, .bool (decide ((i : Int) < (((List.length b) : Nat) : Int))))] ?_
     refine xst z1 ?_
     refine SW_region ?_
     refine xn 2 [] [(22, .int .i64 (i : Int)), (21, .slice (some ad') (List.length b) c')] ?_
     refine xfi 23 26 (ad') (List.length b) (c') (i) IntKind.i64 ((i : Int)) ⟨rfl⟩ (by omega) ?_
     refine xfl 24 (ziS zi0) (i) (by omega) ?_
     refine xz [] [(8, .int .u64 (rd b (i : Int)))] ?_
     exact xw (zsS zi0 (zsS (ziS zi0) zs0))
    ·have z1 : decide ((i : Int) < (b.length : Int)) = false := decide_eq_false (by omega)
     refine xr [] [(20, .bool (decide ((i : Int) < (((List.length b) : Nat) : Int))))] ?_
     refine xsf z1 ?_
     refine SW_skip ?_
     rw [rd_of_ge b i (by simpa using hq)]
     exact xw (zsS zi0 (zsS (ziS zi0) zs0))
   ·rintro s' hw
    refine SW_weak hw ?_
    clear hw
    refine SW_region ?_
    refine xn 4 [] [(29, .int .i64 (i : Int)), (28, .slice (some ad) (List.length a) c), (27, .int .i64 (i : Int)), (26, .slice (some ⟨g0, 0, none⟩) (List.length a) (List.length a))] ?_
    refine xfi 30 26 (ad) (List.length a) (c) (i) IntKind.i64 ((i : Int)) ⟨rfl⟩ (by omega) ?_
    refine xfl 31 zi0 (i) (by omega) ?_
    refine xn 8 [] [(33, .int .u64 cy), (32, .int .u64 (rd b (i : Int)))] ?_
    refine xsb 34 (rd a (i : Int)) (rd b (i : Int)) (cy) (by omega) ?_
    refine xn 12 [] [(36, .int .u64 (sub64c (rd a (i : Int)) (rd b (i : Int)) cy)), (35, .int .u64 (sub64s (rd a (i : Int)) (rd b (i : Int)) cy))] ?_
    refine xoi 37 26 (g0) (List.length a) (List.length a) (i) IntKind.i64 ((i : Int)) ⟨rfl⟩ (by omega) ?_
    refine xos 0 (g0) (i) IntKind.u64 (O ++ List.replicate (n + 1) 0) ([]) 26 (sub64s (rd a (i : Int)) (rd b (i : Int)) cy) (by first | omega | (simp <;> omega)) ?_
    refine xz [] [(6, .int .u64 (sub64c (rd a (i : Int)) (rd b (i : Int)) cy))] ?_
    refine xrl [] [(14, .int .i64 (IntKind.wrap IntKind.i64 ((i : Int) + 1)))] ?_
    have wi : IntKind.i64.wrap ((i : Int) + 1) = ((i + 1 : Nat) : Int) := by rw [wrap_i64 (by omega)]; omega
    have es : ∀ v, (O ++ List.replicate (n + 1) 0).set i v = (O ++ [v]) ++ List.replicate n 0 := fun v => by rw [← h2]; exact set_rep O n v
    rw [wi, es]
    refine ⟨n, by omega, i + 1, O ++ [sub64s (rd a i) (rd b i) cy], _, by omega, by simp; omega, s1, s2, s3, ?_⟩
    exact xw (zsS zi0 (zsS (ziS zi0) zs0))
  ·have z0 : decide ((i : Int) < (a.length : Int)) = false := decide_eq_false (by omega)
   obtain rfl : n = 0 := by omega
   have e0 : O ++ List.replicate 0 0 = O := by simp
   have el : a.length = O.length := by omega
   have hv2 : val B64 O = val B64 r := by
    have hlt := val_lt h3
    rw [val_take_all _ _ _ (by omega), val_take_all _ _ _ (by omega)] at h5
    rcases (show cy = 0 ∨ cy = 1 by omega) with rfl | rfl
    ·simp at h5; omega
    ·simp at h5; rw [h2] at hlt; omega
   have er : trimL O = r := norm_inj B64_pos h3.trim dr (norm_trim _) nr (by rw [val_trim, hv2])
   have ct := ct_impl_trimmed O (some ⟨g0, 0, none⟩) O.length (by omega)
   rw [er] at ct
   refine xr [] [(15, .bool (decide ((i : Int) < (((List.length a) : Nat) : Int))))] ?_
   refine SW_seq ?_
   refine xsf z0 ?_
   refine SW_exit ?_
   refine xg ?_
   refine xn 1 [] [(39, .slice (some ⟨g0, 0, none⟩) (List.length a) (List.length a))] ?_
   rw [e0]
   refine NW_fz 0 a.length g0 .u64 O [] 26 (by omega) (by omega) ?_
   rw [el]
   refine xcr 40 ct (zsS zi0 zs0) (fun A0 k0 => ?_)
   refine xz [] [(4, .slice A0 (List.length r) k0)] ?_
   refine SW_ret ?_
   refine xe (A0, k0) (.slice A0 (List.length r) k0) [] ?_ (zsS zi0 zs0)
   rfl
end Go.Proofs.YtgknelgplmohoaaDoor.M
end
section
namespace Go.Proofs.YtgknelgplmohoaaDoor.M
open Go.RowKit Go.Proofs.YtgknelgplmohoaaDoor.G Go.Proofs.YtgknelgplmohoaaDoorV.PrintWords Go.Proofs.YtgknelgplmohoaaDoorV.PrintLast Go.Proofs.YtgknelgplmohoaaDoor.X
set_option linter.unusedVariables false
set_option linter.unusedSimpArgs false
theorem val_at {B : Nat} (hB : 0 < B) {a b : List Int} (da : Dig B a) (db : Dig B b) {k : Nat} (hk : k < a.length) (hl : a.length = b.length) (hd : a.drop (k + 1) = b.drop (k + 1)) (hr : rd a k < rd b k) : val B a < val B b := by
 have hk2 : k < b.length := by omega
 rw [val_mid B hk, val_mid B hk2, hd]
 have h1 := val_lt (da.take k)
 rw [List.length_take, Nat.min_eq_left (by omega)] at h1
 have h2 : (rd a k).toNat + 1 ≤ (rd b k).toNat := by have := (da.rd hB k).1; omega
 have h3 := Nat.mul_le_mul_left (B ^ k) h2
 rw [Nat.mul_add, Nat.mul_add]
 rw [Nat.mul_add, Nat.mul_one] at h3
 omega
theorem ct_impl_nat_cmp_rows (a b : List Int) (A A' : Option Addr) (c c' : Nat) (da : Dig B64 a) (db : Dig B64 b) (na : Norm a) (nb : Norm b) (hla : a.length ≤ 1000000000) (hlb : b.length ≤ 1000000000) : CtV Tryd.prog 123 [.slice A a.length c, .slice A' b.length c'] [Row .u64 A c a, Row .u64 A' c' b] (.int .i64 (cmpN (val B64 a) (val B64 b))) := by
 refine ct_of Tryd.func123 rfl (by kernel_rfl) (fun B w0 => ?_)
 by_cases hl : a.length = b.length
 ·have z0 : ((a.length : Int) != (b.length : Int)) = false := by rw [hl]; simp
  refine xr [] [(4, .int .i64 0)] ?_
  refine SW_seq ?_
  refine xr [] [(10, .bool ((((List.length a) : Nat) : Int) != (((List.length b) : Nat) : Int)))] ?_
  refine xsf z0 ?_
  refine SW_skip ?_
  refine SW_seq ?_
  refine xr [] [(5, .int .i64 (IntKind.wrap IntKind.i64 ((((List.length a) : Nat) : Int) - 1)))] ?_
  refine SW_block ?_
  refine SW_loopn (fun n s => n ≤ a.length ∧ a.drop n = b.drop n ∧ Weak s ⟨[(0, .slice A a.length c), (1, .slice A' b.length c'), (5, .int .i64 ((n : Int) - 1))], [], [Row .u64 A c a, Row .u64 A' c' b]⟩) a.length ⟨Nat.le_refl _, by rw [List.drop_eq_nil_of_le (Nat.le_refl _), List.drop_eq_nil_of_le (by omega)], ?_⟩ (fun n s ⟨h1, h2, hw⟩ => ?_)
  ·rw [wrap_i64 (by omega)]
   exact xw (zsS zi0 (zsS (ziS zi0) zs0))
  ·refine SW_weak hw ?_
   clear hw
   by_cases hn : n = 0
   ·have z1 : decide ((n : Int) - 1 ≥ 0) = false := decide_eq_false (by omega)
    refine SW_seq ?_
    refine xr [] [(20, .bool (decide ((n : Int) - 1 ≥ 0)))] ?_
    refine xsf z1 ?_
    refine SW_exit ?_
    refine xr [] [(4, .int .i64 0)] ?_
    refine SW_ret ?_
    refine xe () (.int .i64 0) [] ?_ trivial
    subst hn
    have : a = b := by simpa using h2
    rw [this, cmpN, if_neg (by omega), if_neg (by omega)]
   ·have z1 : decide ((n : Int) - 1 ≥ 0) = true := decide_eq_true (by omega)
    have hN : Nn ((n : Int) - 1) (n - 1) := ⟨by omega⟩
    refine SW_know zi0 (fun w h => row_at h (by omega)) (fun ⟨ad, e⟩ => ?_)
    subst e
    refine SW_know (ziS zi0) (fun w h => row_at h (by omega)) (fun ⟨ad', e⟩ => ?_)
    subst e
    have hk : (n - 1) + 1 = n := by omega
    have wi : IntKind.i64.wrap ((n : Int) - 1 - 1) = ((n - 1 : Nat) : Int) - 1 := by rw [wrap_i64 (by omega)]; omega
    by_cases he : rd a ((n - 1 : Nat) : Int) = rd b ((n - 1 : Nat) : Int)
    ·have z2 : (rd a ((n - 1 : Nat) : Int) != rd b ((n - 1 : Nat) : Int)) = false := by rw [he]; simp
     refine SW_seq ?_
     refine xr [] [(20, .bool (decide ((n : Int) - 1 ≥ 0)))] ?_
     refine xst z1 ?_
     refine SW_skip ?_
     refine SW_seq ?_
     refine SW_block ?_
     refine xd (fun hB => ?_)
     refine xdk [(0, []), (1, []), (4, []), (5, [])] [(28, .int .i64 ((n : Int) - 1)), (27, .slice (some ad') (List.length b) c'), (24, .int .i64 ((n : Int) - 1)), (23, .slice (some ad) (List.length a) c)] hB ?_
     refine xdfi 2 hB 25 26 (ad) (List.length a) (c) (n - 1) IntKind.i64 ((n : Int) - 1) hN (by omega) ?_
     refine xdfl 3 hB 26 zi0 (n - 1) (by omega) ?_
     refine xdfi 6 hB 29 26 (ad') (List.length b) (c') (n - 1) IntKind.i64 ((n : Int) - 1) hN (by omega) ?_
     refine xdfl 7 hB 30 (ziS zi0) (n - 1) (by omega) ?_
     refine xdk [(8, [])] [(31, .bool (rd a (((n - 1) : Nat) : Int) != rd b (((n - 1) : Nat) : Int)))] hB ?_
     refine xdz ?_
     refine xsf z2 ?_
     refine SW_skip ?_
     refine xrl [] [(5, .int .i64 (IntKind.wrap IntKind.i64 ((n : Int) - 1 - 1)))] ?_
     rw [wi]
     refine ⟨n - 1, by omega, by omega, ?_, ?_⟩
     ·have hka : n - 1 < a.length := by omega
      have hkb : n - 1 < b.length := by omega
      rw [List.drop_eq_getElem_cons hka, List.drop_eq_getElem_cons hkb, hk, h2]
      have e1 := rd_some hka
      have e2 := rd_some hkb
      rw [List.getElem?_eq_getElem hka] at e1
      rw [List.getElem?_eq_getElem hkb] at e2
      rw [Option.some.inj e1, Option.some.inj e2, he]
     ·exact xw (zsS zi0 (zsS (ziS zi0) zs0))
    ·have z2 : (rd a ((n - 1 : Nat) : Int) != rd b ((n - 1 : Nat) : Int)) = true := by simpa using he
     by_cases hlt : rd a ((n - 1 : Nat) : Int) < rd b ((n - 1 : Nat) : Int)
     ·have z3 : decide (rd a ((n - 1 : Nat) : Int) < rd b ((n - 1 : Nat) : Int)) = true := decide_eq_true hlt
      refine SW_seq ?_
      refine xr [] [(20, .bool (decide ((n : Int) - 1 ≥ 0)))] ?_
      refine xst z1 ?_
      refine SW_skip ?_
      refine SW_seq ?_
      refine SW_block ?_
      refine xd (fun hB => ?_)
      refine xdk [(0, []), (1, []), (4, []), (5, [])] [(28, .int .i64 ((n : Int) - 1)), (27, .slice (some ad') (List.length b) c'), (24, .int .i64 ((n : Int) - 1)), (23, .slice (some ad) (List.length a) c)] hB ?_
      refine xdfi 2 hB 25 26 (ad) (List.length a) (c) (n - 1) IntKind.i64 ((n : Int) - 1) hN (by omega) ?_
      refine xdfl 3 hB 26 zi0 (n - 1) (by omega) ?_
      refine xdfi 6 hB 29 26 (ad') (List.length b) (c') (n - 1) IntKind.i64 ((n : Int) - 1) hN (by omega) ?_
      refine xdfl 7 hB 30 (ziS zi0) (n - 1) (by omega) ?_
      refine xdk [(8, [])] [(31, .bool (rd a (((n - 1) : Nat) : Int) != rd b (((n - 1) : Nat) : Int)))] hB ?_
      refine xdz ?_
      refine xst z2 ?_
      refine SW_seq ?_
      refine xd (fun hB => ?_)
      refine xdk [(0, []), (1, []), (4, []), (5, [])] [(37, .int .i64 ((n : Int) - 1)), (36, .slice (some ad') (List.length b) c'), (33, .int .i64 ((n : Int) - 1)), (32, .slice (some ad) (List.length a) c)] hB ?_
      refine xdfi 2 hB 34 26 (ad) (List.length a) (c) (n - 1) IntKind.i64 ((n : Int) - 1) hN (by omega) ?_
      refine xdfl 3 hB 35 zi0 (n - 1) (by omega) ?_
      refine xdfi 6 hB 38 26 (ad') (List.length b) (c') (n - 1) IntKind.i64 ((n : Int) - 1) hN (by omega) ?_
      refine xdfl 7 hB 39 (ziS zi0) (n - 1) (by omega) ?_
      refine xdk [(8, [])] [(40, .bool (decide (rd a (((n - 1) : Nat) : Int) < rd b (((n - 1) : Nat) : Int))))] hB ?_
      refine xdz ?_
      refine xst z3 ?_
      refine xr [] [(4, .int .i64 (-1))] ?_
      refine SW_ret ?_
      refine xe () (.int .i64 (-1)) [] ?_ trivial
      rw [cmpN, if_pos (val_at B64_pos da db (by omega) hl (by rw [hk]; exact h2) hlt)]
     ·have z3 : decide (rd a ((n - 1 : Nat) : Int) < rd b ((n - 1 : Nat) : Int)) = false := decide_eq_false hlt
      refine SW_seq ?_
      refine xr [] [(20, .bool (decide ((n : Int) - 1 ≥ 0)))] ?_
      refine xst z1 ?_
      refine SW_skip ?_
      refine SW_seq ?_
      refine SW_block ?_
      refine xd (fun hB => ?_)
      refine xdk [(0, []), (1, []), (4, []), (5, [])] [(28, .int .i64 ((n : Int) - 1)), (27, .slice (some ad') (List.length b) c'), (24, .int .i64 ((n : Int) - 1)), (23, .slice (some ad) (List.length a) c)] hB ?_
      refine xdfi 2 hB 25 26 (ad) (List.length a) (c) (n - 1) IntKind.i64 ((n : Int) - 1) hN (by omega) ?_
      refine xdfl 3 hB 26 zi0 (n - 1) (by omega) ?_
      refine xdfi 6 hB 29 26 (ad') (List.length b) (c') (n - 1) IntKind.i64 ((n : Int) - 1) hN (by omega) ?_
      refine xdfl 7 hB 30 (ziS zi0) (n - 1) (by omega) ?_
      refine xdk [(8, [])] [(31, .bool (rd a (((n - 1) : Nat) : Int) != rd b (((n - 1) : Nat) : Int)))] hB ?_
      refine xdz ?_
      refine xst z2 ?_
      refine SW_seq ?_
      refine xd (fun hB => ?_)
      refine xdk [(0, []), (1, []), (4, []), (5, [])] [(37, .int .i64 ((n : Int) - 1)), (36, .slice (some ad') (List.length b) c'), (33, .int .i64 ((n : Int) - 1)), (32, .slice (some ad) (List.length a) c)] hB ?_
      refine xdfi 2 hB 34 26 (ad) (List.length a) (c) (n - 1) IntKind.i64 ((n : Int) - 1) hN (by omega) ?_
      refine xdfl 3 hB 35 zi0 (n - 1) (by omega) ?_
      refine xdfi 6 hB 38 26 (ad') (List.length b) (c') (n - 1) IntKind.i64 ((n : Int) - 1) hN (by omega) ?_
      refine xdfl 7 hB 39 (ziS zi0) (n - 1) (by omega) ?_
      refine xdk [(8, [])] [(40, .bool (decide (rd a (((n - 1) : Nat) : Int) < rd b (((n - 1) : Nat) : Int))))] hB ?_
      refine xdz ?_
      refine xsf z3 ?_
      refine SW_skip ?_
      refine xr [] [(4, .int .i64 1)] ?_
      refine SW_ret ?_
      refine xe () (.int .i64 1) [] ?_ trivial
      have := val_at B64_pos db da (k := n - 1) (by omega) hl.symm (by rw [hk]; exact h2.symm) (by omega)
      rw [cmpN, if_neg (by omega), if_pos this]
 ·have z0 : ((a.length : Int) != (b.length : Int)) = true := by simp; omega
  have key : ∀ {p q : List Int}, Dig B64 p → Dig B64 q → Norm q → p.length < q.length → val B64 p < val B64 q := fun dp dq nq h => val_lt_of_length B64_pos dp dq nq h
  by_cases h2 : a.length < b.length
  ·have z1 : decide ((a.length : Int) < (b.length : Int)) = true := decide_eq_true (by omega)
   refine xr [] [(4, .int .i64 0)] ?_
   refine SW_seq ?_
   refine xr [] [(10, .bool ((((List.length a) : Nat) : Int) != (((List.length b) : Nat) : Int)))] ?_
   refine xst z0 ?_
   refine SW_seq ?_
   refine xr [] [(15, .bool (decide ((((List.length a) : Nat) : Int) < (((List.length b) : Nat) : Int))))] ?_
   refine xst z1 ?_
   refine xr [] [(4, .int .i64 (-1))] ?_
   refine SW_ret ?_
   refine xe () (.int .i64 (-1)) [] ?_ trivial
   rw [cmpN, if_pos (key da db nb h2)]
  ·have z1 : decide ((a.length : Int) < (b.length : Int)) = false := decide_eq_false (by omega)
   refine xr [] [(4, .int .i64 0)] ?_
   refine SW_seq ?_
   refine xr [] [(10, .bool ((((List.length a) : Nat) : Int) != (((List.length b) : Nat) : Int)))] ?_
   refine xst z0 ?_
   refine SW_seq ?_
   refine xr [] [(15, .bool (decide ((((List.length a) : Nat) : Int) < (((List.length b) : Nat) : Int))))] ?_
   refine xsf z1 ?_
   refine SW_skip ?_
   refine xr [] [(4, .int .i64 1)] ?_
   refine SW_ret ?_
   refine xe () (.int .i64 1) [] ?_ trivial
   have := key db da na (by omega)
   rw [cmpN, if_neg (by omega), if_pos this]
theorem ct_impl_nat_left_rows (a : List Int) (A : Option Addr) (c : Nat) (da : Dig B64 a) (hla : a.length ≤ 1000000) (N : Int) (n : Nat) (hN : Nn N n) (hn : n ≤ 1000000) : ∀ r, Dig B64 r → Norm r → val B64 r = val B64 a * 2 ^ n → CtR Tryd.prog 114 [.slice A a.length c, .int .i64 N] [Row .u64 A c a] .u64 r := by
 intro r dr nr vr
 obtain ⟨rfl⟩ := hN
 refine ct_of Tryd.func114 rfl (by kernel_rfl) (fun B w0 => ?_)
 by_cases h0 : a.length = 0
 ·have z0 : ((a.length : Int) == 0) = true := by rw [h0]; rfl
  have ea : a = [] := List.eq_nil_of_length_eq_zero h0
  have er : r = [] := (norm_zero B64_pos dr nr).2 (by rw [vr, ea, val_nil, Nat.zero_mul])
  subst er
  refine SW_tru (Row_nil .u64 0) ?_
  refine xr [] [(4, .slice none 0 0)] ?_
  refine SW_seq ?_
  refine xr [] [(11, .bool ((((List.length a) : Nat) : Int) == 0))] ?_
  refine xst z0 ?_
  refine xr [] [(4, .slice none 0 0)] ?_
  refine SW_ret ?_
  refine xe (none, 0) (.slice none 0 0) [] ?_ (zsS zi0 zs0)
  rfl
 ·have z0 : ((a.length : Int) == 0) = false := by rw [beq_eq_false_iff_ne]; omega
  have hp : n % 64 < 64 := Nat.mod_lt _ (by decide)
  generalize hpd : n % 64 = p at hp
  have wp : IntKind.u64.wrap (Int.tmod (n : Int) 64) = (p : Int) := by rw [← hpd]; exact ((Nn.mod ⟨rfl⟩ ⟨rfl⟩ : Nn (Int.tmod (n : Int) 64) (n % 64)).u (by omega)).out
  refine xr [] [(4, .slice none 0 0)] ?_
  refine SW_seq ?_
  refine xr [] [(11, .bool ((((List.length a) : Nat) : Int) == 0))] ?_
  refine xsf z0 ?_
  refine SW_skip ?_
  refine xg ?_
  refine xn 6 [] [(17, .int .i64 (IntKind.wrap IntKind.i64 (IntKind.wrap IntKind.i64 ((((List.length a) : Nat) : Int) + IntKind.wrap IntKind.i64 (Int.tdiv (n : Int) 64)) + 1)))] ?_
  refine xma 18 26 (((List.length a) + ((n) / 64)) + 1) IntKind.u64 8 (IntKind.wrap IntKind.i64 (IntKind.wrap IntKind.i64 ((((List.length a) : Nat) : Int) + IntKind.wrap IntKind.i64 (Int.tdiv (n : Int) 64)) + 1)) (Nn.w (Nn.add (Nn.w (Nn.add ⟨rfl⟩ (Nn.w (Nn.div ⟨rfl⟩ ⟨rfl⟩) (by omega))) (by omega)) ⟨rfl⟩) (by omega)) (by omega) (fun g0 => ?_)
  refine xz [] [(5, .slice (some ⟨g0, 0, none⟩) (List.length a + n / 64 + 1) (List.length a + n / 64 + 1))] ?_
  refine xr [] [(6, .int .u64 (IntKind.wrap IntKind.u64 (Int.tmod (n : Int) 64)))] ?_
  refine SW_seq ?_
  refine xr [] [(24, .int .i64 0), (23, .int .i64 (((List.length a) : Nat) : Int)), (22, .slice A (List.length a) c)] ?_
  refine SW_block ?_
  rw [wp]
  refine SW_loopn (fun m s => ∃ i O C, m + i = a.length ∧ O.length = i ∧ Dig B64 O ∧ C < 2 ^ p ∧ val B64 O + B64 ^ i * C = val B64 (a.take i) * 2 ^ p ∧ Weak s ⟨[(0, .slice A a.length c), (1, .int .i64 (n : Int)), (5, .slice (some ⟨g0, 0, none⟩) (a.length + n / 64 + 1) (a.length + n / 64 + 1)), (6, .int .u64 (p : Int)), (22, .slice A a.length c), (23, .int .i64 a.length), (24, .int .i64 (i : Int))], [⟨g0, cl .u64 ((List.replicate (n / 64) 0 ++ O) ++ ((C : Nat) : Int) :: List.replicate m 0) [], 26⟩], [Row .u64 A c a]⟩) a.length ⟨0, [], 0, rfl, rfl, Dig.nil _, Nat.pow_pos (by decide), by simp [val_nil], ?_⟩ (fun m s ⟨i, O, C, h1, h2, h3, h4, h5, hw⟩ => ?_)
  ·have e0 : List.replicate (a.length + n / 64 + 1) 0 = (List.replicate (n / 64) 0 ++ ([] : List Int)) ++ ((0 : Nat) : Int) :: List.replicate a.length 0 := by
    rw [show a.length + n / 64 + 1 = n / 64 + (a.length + 1) by omega, rep_split, List.append_nil]
   rw [e0]
   exact xw (zsS zi0 zs0)
  ·refine SW_weak hw ?_
   clear hw
   by_cases hi : i < a.length
   ·have z1 : decide ((i : Int) < (a.length : Int)) = true := decide_eq_true (by omega)
    refine SW_know zi0 (fun w h => row_at h (by omega)) (fun ⟨ad, e⟩ => ?_)
    subst e
    obtain ⟨m, rfl⟩ : ∃ m', m = m' + 1 := ⟨m - 1, by omega⟩
    have hx0 := da.rd B64_pos i
    obtain ⟨x, hx⟩ : ∃ x : Nat, rd a (i : Int) = (x : Int) := ⟨(rd a i).toNat, by omega⟩
    have hxB : x < B64 := by omega
    have hrep : (List.replicate (n / 64) 0 ++ O).length = i + n / 64 := by simp; omega
    have v1 : Ve (rd (List.replicate (n / 64) 0 ++ O ++ ((C : Nat) : Int) :: List.replicate (m + 1) 0) ((i + n / 64 : Nat) : Int)) (C : Int) := ⟨rd_mid _ _ _ _ hrep.symm⟩
    have v2 : Ve (bits .or .u64 (C : Int) (shl .u64 (x : Int) (p : Int))) (((x * 2 ^ p + C) % B64 : Nat) : Int) := ⟨place_up p x C hp hxB h4⟩
    have v3 : Ve (IntKind.i64.wrap ((i : Int) + 1)) ((i + 1 : Nat) : Int) := ⟨(Nn.w (Nn.add ⟨rfl⟩ ⟨rfl⟩ : Nn ((i : Int) + 1) (i + 1)) (by omega)).out⟩
    have v4 : Ve (rd a (i : Int)) (x : Int) := ⟨hx⟩
    have hset : ∀ y : Int, (List.replicate (n / 64) 0 ++ O ++ ((C : Nat) : Int) :: List.replicate (m + 1) 0).set (i + n / 64) y = (List.replicate (n / 64) 0 ++ (O ++ [y])) ++ ((0 : Nat) : Int) :: List.replicate m 0 := fun y => by
     rw [set_mid _ _ _ _ _ hrep.symm, List.replicate_succ, ← List.append_assoc, List.append_assoc _ [y]]
     rfl
    have hrep2 : ∀ y : Int, (List.replicate (n / 64) 0 ++ (O ++ [y])).length = i + n / 64 + 1 := fun y => by simp; omega
    have hC : (x * 2 ^ p + C) / B64 < 2 ^ p := carry_lt hxB h4
    have hval : val B64 (O ++ [(((x * 2 ^ p + C) % B64 : Nat) : Int)]) + B64 ^ (i + 1) * ((x * 2 ^ p + C) / B64) = val B64 (a.take (i + 1)) * 2 ^ p := by
     rw [val_snoc, val_take_succ, h2, Nat.pow_succ, Nat.mul_assoc, hx, Int.toNat_natCast, Int.toNat_natCast, Nat.add_mul, ← h5, Nat.add_assoc, ← Nat.mul_add, Nat.mod_add_div, Nat.mul_add, Nat.mul_assoc]
     omega
    have hdig : Dig B64 (O ++ [(((x * 2 ^ p + C) % B64 : Nat) : Int)]) := h3.snoc (cast_dig (Nat.mod_lt _ B64_pos))
    by_cases h0p : p = 0
    ·have z2 : decide ((p : Int) > 0) = false := decide_eq_false (by omega)
     have hC0 : (x * 2 ^ p + C) / B64 = 0 := by
      have e1 : 2 ^ p = 1 := by rw [h0p]
      have hC' := hC
      rw [e1] at hC' ⊢
      exact Nat.lt_one_iff.1 hC'
     refine xr [] [(25, .bool (decide ((i : Int) < (((List.length a) : Nat) : Int))))] ?_
     refine SW_seq ?_
     refine xst z1 ?_
     refine SW_skip ?_
     refine SW_seq ?_
     refine SW_block ?_
     refine xg ?_
     refine xn 1 [] [(26, .int .i64 (i : Int))] ?_
     refine xfi 27 26 (ad) (List.length a) (c) (i) IntKind.i64 ((i : Int)) ⟨rfl⟩ (by omega) ?_
     refine xfle 28 zi0 (i) ((x : Int)) v4 (by omega) ?_
     refine xz [] [(8, .int .u64 (x : Int)), (7, .int .i64 (i : Int))] ?_
     refine xg ?_
     refine xn 5 [] [(33, .int .i64 (IntKind.wrap IntKind.i64 ((i : Int) + IntKind.wrap IntKind.i64 (Int.tdiv (n : Int) 64)))), (29, .slice (some ⟨g0, 0, none⟩) (List.length a + n / 64 + 1) (List.length a + n / 64 + 1))] ?_
     refine xoi 34 26 (g0) (List.length a + n / 64 + 1) (List.length a + n / 64 + 1) ((i) + ((n) / 64)) IntKind.i64 (IntKind.wrap IntKind.i64 ((i : Int) + IntKind.wrap IntKind.i64 (Int.tdiv (n : Int) 64))) (Nn.w (Nn.add ⟨rfl⟩ (Nn.w (Nn.div ⟨rfl⟩ ⟨rfl⟩) (by omega))) (by omega)) (by omega) ?_
     refine xole 35 0 (g0) (i + n / 64) IntKind.u64 (List.replicate (n / 64) 0 ++ O ++ (C : Int) :: List.replicate (m + 1) 0) ([]) 26 ((C : Int)) v1 (by first | omega | (simp <;> omega)) ?_
     refine xn 10 [] [(38, .int .u64 (IntKind.wrap IntKind.u64 ((x : Int) * 2 ^ min (Int.toNat (p : Int)) (IntKind.bits IntKind.u64))))] ?_
     refine xve 39 IntKind.u64 (bits BinOp.or IntKind.u64 (C : Int) (shl IntKind.u64 (x : Int) (p : Int))) (((((x * 2 ^ p + C) % B64) : Nat) : Int)) v2 ?_
     refine xoi 40 26 (g0) (List.length a + n / 64 + 1) (List.length a + n / 64 + 1) ((i) + ((n) / 64)) IntKind.i64 (IntKind.wrap IntKind.i64 ((i : Int) + IntKind.wrap IntKind.i64 (Int.tdiv (n : Int) 64))) (Nn.w (Nn.add ⟨rfl⟩ (Nn.w (Nn.div ⟨rfl⟩ ⟨rfl⟩) (by omega))) (by omega)) (by omega) ?_
     refine xos 0 (g0) (i + n / 64) IntKind.u64 (List.replicate (n / 64) 0 ++ O ++ (C : Int) :: List.replicate (m + 1) 0) ([]) 26 (((((x * 2 ^ p + C) % B64) : Nat) : Int)) (by first | omega | (simp <;> omega)) ?_
     refine xz [] [] ?_
     refine xr [] [(42, .bool (decide ((p : Int) > 0)))] ?_
     refine xsf z2 ?_
     refine SW_skip ?_
     refine SW_region ?_
     refine xve 57 IntKind.i64 (IntKind.wrap IntKind.i64 ((i : Int) + 1)) ((((i + 1) : Nat) : Int)) v3 ?_
     refine xz [] [(24, .int .i64 (((i + 1) : Nat) : Int))] ?_
     rw [hset]
     refine ⟨m, by omega, i + 1, O ++ [(((x * 2 ^ p + C) % B64 : Nat) : Int)], 0, by omega, by simp; omega, hdig, Nat.pow_pos (by decide), by rw [hC0] at hval; exact hval, ?_⟩
     exact xw (zsS zi0 zs0)
    ·have z2 : decide ((p : Int) > 0) = true := decide_eq_true (by omega)
     have v5 : Ve (rd ((List.replicate (n / 64) 0 ++ O ++ ((C : Nat) : Int) :: List.replicate (m + 1) 0).set (i + n / 64) (((x * 2 ^ p + C) % B64 : Nat) : Int)) ((i + n / 64 + 1 : Nat) : Int)) ((0 : Nat) : Int) := ⟨by rw [hset]; exact rd_mid _ _ _ _ (hrep2 _).symm⟩
     have v6 : Ve (IntKind.u64.wrap (64 - (p : Int))) ((64 - p : Nat) : Int) := ⟨sh64 p (by omega)⟩
     have v7 : Ve (bits .or .u64 ((0 : Nat) : Int) (shf .u64 (x : Int) ((64 - p : Nat) : Int))) (((x * 2 ^ p + C) / B64 : Nat) : Int) := ⟨by
      rw [shf_nat x (64 - p) (by omega), or_nat' 0 (x / 2 ^ (64 - p)) 0 (by omega) (by have := Nat.div_le_self x (2 ^ (64 - p)); unfold B64 at hxB; omega) (Nat.one_dvd _) (by decide), Nat.zero_add, up_carry p x C hp h4]⟩
     refine xr [] [(25, .bool (decide ((i : Int) < (((List.length a) : Nat) : Int))))] ?_
     refine SW_seq ?_
     refine xst z1 ?_
     refine SW_skip ?_
     refine SW_seq ?_
     refine SW_block ?_
     refine xg ?_
     refine xn 1 [] [(26, .int .i64 (i : Int))] ?_
     refine xfi 27 26 (ad) (List.length a) (c) (i) IntKind.i64 ((i : Int)) ⟨rfl⟩ (by omega) ?_
     refine xfle 28 zi0 (i) ((x : Int)) v4 (by omega) ?_
     refine xz [] [(8, .int .u64 (x : Int)), (7, .int .i64 (i : Int))] ?_
     refine xg ?_
     refine xn 5 [] [(33, .int .i64 (IntKind.wrap IntKind.i64 ((i : Int) + IntKind.wrap IntKind.i64 (Int.tdiv (n : Int) 64)))), (29, .slice (some ⟨g0, 0, none⟩) (List.length a + n / 64 + 1) (List.length a + n / 64 + 1))] ?_
     refine xoi 34 26 (g0) (List.length a + n / 64 + 1) (List.length a + n / 64 + 1) ((i) + ((n) / 64)) IntKind.i64 (IntKind.wrap IntKind.i64 ((i : Int) + IntKind.wrap IntKind.i64 (Int.tdiv (n : Int) 64))) (Nn.w (Nn.add ⟨rfl⟩ (Nn.w (Nn.div ⟨rfl⟩ ⟨rfl⟩) (by omega))) (by omega)) (by omega) ?_
     refine xole 35 0 (g0) (i + n / 64) IntKind.u64 (List.replicate (n / 64) 0 ++ O ++ (C : Int) :: List.replicate (m + 1) 0) ([]) 26 ((C : Int)) v1 (by first | omega | (simp <;> omega)) ?_
     refine xn 10 [] [(38, .int .u64 (IntKind.wrap IntKind.u64 ((x : Int) * 2 ^ min (Int.toNat (p : Int)) (IntKind.bits IntKind.u64))))] ?_
     refine xve 39 IntKind.u64 (bits BinOp.or IntKind.u64 (C : Int) (shl IntKind.u64 (x : Int) (p : Int))) (((((x * 2 ^ p + C) % B64) : Nat) : Int)) v2 ?_
     refine xoi 40 26 (g0) (List.length a + n / 64 + 1) (List.length a + n / 64 + 1) ((i) + ((n) / 64)) IntKind.i64 (IntKind.wrap IntKind.i64 ((i : Int) + IntKind.wrap IntKind.i64 (Int.tdiv (n : Int) 64))) (Nn.w (Nn.add ⟨rfl⟩ (Nn.w (Nn.div ⟨rfl⟩ ⟨rfl⟩) (by omega))) (by omega)) (by omega) ?_
     refine xos 0 (g0) (i + n / 64) IntKind.u64 (List.replicate (n / 64) 0 ++ O ++ (C : Int) :: List.replicate (m + 1) 0) ([]) 26 (((((x * 2 ^ p + C) % B64) : Nat) : Int)) (by first | omega | (simp <;> omega)) ?_
     refine xz [] [] ?_
     refine xr [] [(42, .bool (decide ((p : Int) > 0)))] ?_
     refine xst z2 ?_
     refine SW_region ?_
     refine xn 6 [] [(48, .int .i64 (IntKind.wrap IntKind.i64 (IntKind.wrap IntKind.i64 ((i : Int) + IntKind.wrap IntKind.i64 (Int.tdiv (n : Int) 64)) + 1))), (43, .slice (some ⟨g0, 0, none⟩) (List.length a + n / 64 + 1) (List.length a + n / 64 + 1))] ?_
     refine xoi 49 26 (g0) (List.length a + n / 64 + 1) (List.length a + n / 64 + 1) (((i) + ((n) / 64)) + 1) IntKind.i64 (IntKind.wrap IntKind.i64 (IntKind.wrap IntKind.i64 ((i : Int) + IntKind.wrap IntKind.i64 (Int.tdiv (n : Int) 64)) + 1)) (Nn.w (Nn.add (Nn.w (Nn.add ⟨rfl⟩ (Nn.w (Nn.div ⟨rfl⟩ ⟨rfl⟩) (by omega))) (by omega)) ⟨rfl⟩) (by omega)) (by omega) ?_
     refine xole 50 0 (g0) (i + n / 64 + 1) IntKind.u64 (List.set (List.replicate (n / 64) 0 ++ O ++ (C : Int) :: List.replicate (m + 1) 0) (i + n / 64) ((((x * 2 ^ p + C) % B64) : Nat) : Int)) ([]) 26 ((0 : Int)) v5 (by first | omega | (simp <;> omega)) ?_
     refine xn 10 [] [(52, .int .u64 (p : Int)), (51, .int .u64 (x : Int))] ?_
     refine xve 53 IntKind.u64 (IntKind.wrap IntKind.u64 (64 - (p : Int))) ((((64 - p) : Nat) : Int)) v6 ?_
     refine xn 12 [] [(54, .int .u64 (Int.fdiv (x : Int) (2 ^ min (Int.toNat (((64 - p) : Nat) : Int)) (IntKind.bits IntKind.u64))))] ?_
     refine xve 55 IntKind.u64 (bits BinOp.or IntKind.u64 (0 : Int) (shf IntKind.u64 (x : Int) (((64 - p) : Nat) : Int))) (((((x * 2 ^ p + C) / B64) : Nat) : Int)) v7 ?_
     refine xoi 56 26 (g0) (List.length a + n / 64 + 1) (List.length a + n / 64 + 1) (((i) + ((n) / 64)) + 1) IntKind.i64 (IntKind.wrap IntKind.i64 (IntKind.wrap IntKind.i64 ((i : Int) + IntKind.wrap IntKind.i64 (Int.tdiv (n : Int) 64)) + 1)) (Nn.w (Nn.add (Nn.w (Nn.add ⟨rfl⟩ (Nn.w (Nn.div ⟨rfl⟩ ⟨rfl⟩) (by omega))) (by omega)) ⟨rfl⟩) (by omega)) (by omega) ?_
     refine xos 0 (g0) (i + n / 64 + 1) IntKind.u64 (List.set (List.replicate (n / 64) 0 ++ O ++ (C : Int) :: List.replicate (m + 1) 0) (i + n / 64) ((((x * 2 ^ p + C) % B64) : Nat) : Int)) ([]) 26 (((((x * 2 ^ p + C) / B64) : Nat) : Int)) (by first | omega | (simp <;> omega)) ?_
     refine xz [] [] ?_
     refine SW_region ?_
     refine xve 57 IntKind.i64 (IntKind.wrap IntKind.i64 ((i : Int) + 1)) ((((i + 1) : Nat) : Int)) v3 ?_
     refine xz [] [(24, .int .i64 (((i + 1) : Nat) : Int))] ?_
     rw [hset, set_mid _ _ _ _ _ (hrep2 _).symm]
     refine ⟨m, by omega, i + 1, O ++ [(((x * 2 ^ p + C) % B64 : Nat) : Int)], (x * 2 ^ p + C) / B64, by omega, by simp; omega, hdig, hC, hval, ?_⟩
     exact xw (zsS zi0 zs0)
   ·have z1 : decide ((i : Int) < (a.length : Int)) = false := decide_eq_false (by omega)
    obtain rfl : m = 0 := by omega
    have el : a.length + n / 64 + 1 = (List.replicate (n / 64) 0 ++ O ++ ((C : Nat) : Int) :: List.replicate 0 0).length := by simp; omega
    have hCB : C < B64 := Nat.lt_trans h4 (by unfold B64; exact Nat.pow_lt_pow_right (a := 2) (n := 64) (by decide) hp)
    have hdL : Dig B64 (List.replicate (n / 64) 0 ++ O ++ ((C : Nat) : Int) :: List.replicate 0 0) := ((Dig.zeros B64_pos _).append h3).append (Dig.cons (cast_dig hCB) (Dig.nil _))
    have er : trimL (List.replicate (n / 64) 0 ++ O ++ ((C : Nat) : Int) :: List.replicate 0 0) = r := by
     refine norm_inj B64_pos hdL.trim dr (norm_trim _) nr ?_
     have e1 : List.replicate (n / 64) 0 ++ O ++ ((C : Nat) : Int) :: List.replicate 0 0 = List.replicate (n / 64) 0 ++ (O ++ [((C : Nat) : Int)]) := by simp
     rw [val_trim, e1, val_shl, val_snoc, h2, Int.toNat_natCast, h5, val_take_all _ _ _ (by omega), vr, ← hpd]
     rw [show B64 = 2 ^ 64 from rfl, pow_mul_mod _ 64 n]
    have ct := ct_impl_trimmed (List.replicate (n / 64) 0 ++ O ++ ((C : Nat) : Int) :: List.replicate 0 0) (some ⟨g0, 0, none⟩) (List.replicate (n / 64) 0 ++ O ++ ((C : Nat) : Int) :: List.replicate 0 0).length (by omega)
    rw [er] at ct
    refine xr [] [(25, .bool (decide ((i : Int) < (((List.length a) : Nat) : Int))))] ?_
    refine SW_seq ?_
    refine xsf z1 ?_
    refine SW_exit ?_
    refine xg ?_
    refine xn 1 [] [(58, .slice (some ⟨g0, 0, none⟩) (List.length a + n / 64 + 1) (List.length a + n / 64 + 1))] ?_
    refine NW_fz 0 (a.length + n / 64 + 1) g0 .u64 (List.replicate (n / 64) 0 ++ O ++ ((C : Nat) : Int) :: List.replicate 0 0) [] 26 (by omega) (by omega) ?_
    rw [el]
    refine xcr 59 ct (zsS zi0 zs0) (fun A0 k0 => ?_)
    refine xz [] [(4, .slice A0 (List.length r) k0)] ?_
    refine SW_ret ?_
    refine xe (A0, k0) (.slice A0 (List.length r) k0) [] ?_ (zsS zi0 zs0)
    rfl
end Go.Proofs.YtgknelgplmohoaaDoor.M
end
section
namespace Go.Proofs.YtgknelgplmohoaaDoor.M
open Go.RowKit Go.Proofs.YtgknelgplmohoaaDoor.G Go.Proofs.YtgknelgplmohoaaDoorV.PrintWords Go.Proofs.YtgknelgplmohoaaDoorV.PrintLast Go.Proofs.YtgknelgplmohoaaDoor.X
set_option linter.unusedVariables false
set_option linter.unusedSimpArgs false
theorem sr_get {B P : Nat} : ∀ (l : List Int) (i : Nat), i < l.length → (sr B P l)[i]? = some (((((rd l (i : Int)).toNat + B * ((rd l ((i + 1 : Nat) : Int)).toNat % P)) / P : Nat) : Int))
 | [], i, h => by simp at h
 | x :: l, 0, h => by
  simp only [sr, List.getElem?_cons_zero]
  rfl
 | x :: l, i + 1, h => by
  simp only [sr, List.getElem?_cons_succ]
  rw [sr_get l i (by simpa using h)]
  rfl
theorem sr_take {B P : Nat} {l : List Int} {i : Nat} (h : i < l.length) {y : Int} (hy : y = ((((rd l (i : Int)).toNat + B * ((rd l ((i + 1 : Nat) : Int)).toNat % P)) / P : Nat) : Int)) : (sr B P l).take i ++ [y] = (sr B P l).take (i + 1) := by
 rw [List.take_add_one, sr_get l i h, hy]
 rfl
theorem ct_impl_nat_right_rows (a : List Int) (A : Option Addr) (c : Nat) (da : Dig B64 a) (hla : a.length ≤ 1000000) (N : Int) (n : Nat) (hN : Nn N n) (hn : n ≤ 1000000000) : ∀ r, Dig B64 r → Norm r → val B64 r = val B64 a / 2 ^ n → CtR Tryd.prog 111 [.slice A a.length c, .int .i64 N] [Row .u64 A c a] .u64 r := by
 intro r dr nr vr
 obtain ⟨rfl⟩ := hN
 refine ct_of Tryd.func111 rfl (by kernel_rfl) (fun B w0 => ?_)
 have wd : IntKind.i64.wrap (Int.tdiv (n : Int) 64) = ((n / 64 : Nat) : Int) := (Nn.w (Nn.div ⟨rfl⟩ ⟨rfl⟩ : Nn (Int.tdiv (n : Int) 64) (n / 64)) (by omega)).out
 have vd : Ve (IntKind.i64.wrap (Int.tdiv (n : Int) 64)) ((n / 64 : Nat) : Int) := ⟨wd⟩
 by_cases h0 : a.length ≤ n / 64
 ·have z0 : decide (((n / 64 : Nat) : Int) ≥ (a.length : Int)) = true := decide_eq_true (by omega)
  have hlt : val B64 a < 2 ^ n := by
   refine Nat.lt_of_lt_of_le (val_lt da) ?_
   rw [show B64 = 2 ^ 64 from rfl, ← Nat.pow_mul]
   exact Nat.pow_le_pow_right (by decide) (by omega)
  have er : r = [] := (norm_zero B64_pos dr nr).2 (by rw [vr, Nat.div_eq_of_lt hlt])
  subst er
  refine SW_tru (Row_nil .u64 0) ?_
  refine xr [] [(4, .slice none 0 0)] ?_
  refine SW_seq ?_
  refine xg ?_
  refine xn 1 [] [(8, .int .i64 (n : Int))] ?_
  refine xve 9 IntKind.i64 (IntKind.wrap IntKind.i64 (Int.tdiv (n : Int) 64)) ((((n / 64) : Nat) : Int)) vd ?_
  refine xz [] [(12, .bool (decide ((((n / 64) : Nat) : Int) ≥ (((List.length a) : Nat) : Int))))] ?_
  refine xst z0 ?_
  refine xr [] [(4, .slice none 0 0)] ?_
  refine SW_ret ?_
  refine xe (none, 0) (.slice none 0 0) [] ?_ (zsS zi0 zs0)
  rfl
 ·have z0 : decide (((n / 64 : Nat) : Int) ≥ (a.length : Int)) = false := decide_eq_false (by omega)
  have hp : n % 64 < 64 := Nat.mod_lt _ (by decide)
  generalize hpd : n % 64 = p at hp
  have vp : Ve (IntKind.u64.wrap (Int.tmod (n : Int) 64)) (p : Int) := ⟨by rw [← hpd]; exact ((Nn.mod ⟨rfl⟩ ⟨rfl⟩ : Nn (Int.tmod (n : Int) 64) (n % 64)).u (by omega)).out⟩
  have hll : (a.drop (n / 64)).length = a.length - n / 64 := List.length_drop ..
  have dl : Dig B64 (a.drop (n / 64)) := da.drop _
  have vl : val B64 (a.drop (n / 64)) = val B64 a / B64 ^ (n / 64) := val_drop B64 B64_pos da _
  refine xr [] [(4, .slice none 0 0)] ?_
  refine SW_seq ?_
  refine xg ?_
  refine xn 1 [] [(8, .int .i64 (n : Int))] ?_
  refine xve 9 IntKind.i64 (IntKind.wrap IntKind.i64 (Int.tdiv (n : Int) 64)) ((((n / 64) : Nat) : Int)) vd ?_
  refine xz [] [(12, .bool (decide ((((n / 64) : Nat) : Int) ≥ (((List.length a) : Nat) : Int))))] ?_
  refine xsf z0 ?_
  refine SW_skip ?_
  refine xg ?_
  refine xn 2 [] [(14, .int .i64 (n : Int)), (13, .slice A (List.length a) c)] ?_
  refine xve 15 IntKind.i64 (IntKind.wrap IntKind.i64 (Int.tdiv (n : Int) 64)) ((((n / 64) : Nat) : Int)) vd ?_
  refine xsl 16 26 (n / 64) IntKind.i64 ((((n / 64) : Nat) : Int)) zi0 ⟨rfl⟩ (by omega) (fun A0 => ?_)
  refine xz [] [(0, .slice A0 (List.length (List.drop (n / 64) a)) (c - n / 64))] ?_
  refine xg ?_
  refine xn 2 [] [(18, .int .i64 (((List.length (List.drop (n / 64) a)) : Nat) : Int))] ?_
  refine xma 19 26 (List.length (List.drop (n / 64) a)) IntKind.u64 8 ((((List.length (List.drop (n / 64) a)) : Nat) : Int)) ⟨rfl⟩ (by omega) (fun g0 => ?_)
  refine xz [] [(5, .slice (some ⟨g0, 0, none⟩) (List.length (List.drop (n / 64) a)) (List.length (List.drop (n / 64) a)))] ?_
  refine xg ?_
  refine xn 2 [] [(21, .int .i64 (Int.tmod (n : Int) 64))] ?_
  refine xve 22 IntKind.u64 (IntKind.wrap IntKind.u64 (Int.tmod (n : Int) 64)) ((p : Int)) vp ?_
  refine xz [] [(6, .int .u64 (p : Int))] ?_
  refine SW_seq ?_
  refine xr [] [(25, .int .i64 0), (24, .int .i64 (((List.length (List.drop (n / 64) a)) : Nat) : Int))] ?_
  refine SW_block ?_
  generalize a.drop (n / 64) = l at hll dl vl
  have hP : 0 < 2 ^ p := Nat.pow_pos (by decide)
  have dsr : Dig B64 (sr B64 (2 ^ p) l) := sr_dig hP l dl
  have lsr : (sr B64 (2 ^ p) l).length = l.length := sr_length _ _ l
  refine SW_loopn (fun m s => ∃ i, m + i = l.length ∧ Weak s ⟨[(0, .slice A0 l.length (c - n / 64)), (5, .slice (some ⟨g0, 0, none⟩) l.length l.length), (6, .int .u64 (p : Int)), (24, .int .i64 l.length), (25, .int .i64 (i : Int))], [⟨g0, cl .u64 ((sr B64 (2 ^ p) l).take i ++ List.replicate m 0) [], 26⟩], [Row .u64 A0 (c - n / 64) l]⟩) l.length ⟨0, rfl, ?_⟩ (fun m s ⟨i, h1, hw⟩ => ?_)
  ·rw [List.take_zero, List.nil_append]
   exact xw (zsS zi0 zs0)
  ·refine SW_weak hw ?_
   clear hw
   by_cases hi : i < l.length
   ·have z1 : decide ((i : Int) < (l.length : Int)) = true := decide_eq_true (by omega)
    refine SW_know zi0 (fun w h => row_at h (by omega)) (fun ⟨ad, e⟩ => ?_)
    subst e
    obtain ⟨m, rfl⟩ : ∃ m', m = m' + 1 := ⟨m - 1, by omega⟩
    have hx0 := dl.rd B64_pos i
    obtain ⟨x, hx⟩ : ∃ x : Nat, rd l (i : Int) = (x : Int) := ⟨(rd l i).toNat, by omega⟩
    have hy0 := dl.rd B64_pos ((i + 1 : Nat) : Int)
    obtain ⟨y, hy⟩ : ∃ y : Nat, rd l ((i + 1 : Nat) : Int) = (y : Int) := ⟨(rd l ((i + 1 : Nat) : Int)).toNat, by omega⟩
    have hxB : x < B64 := by omega
    have v1 : Ve (rd l (i : Int)) (x : Int) := ⟨hx⟩
    have v2 : Ve (shf .u64 (x : Int) (p : Int)) ((x / 2 ^ p : Nat) : Int) := ⟨shf_nat x p (by omega)⟩
    have v3 : Ve (IntKind.i64.wrap ((i : Int) + 1)) ((i + 1 : Nat) : Int) := ⟨(Nn.w (Nn.add ⟨rfl⟩ ⟨rfl⟩ : Nn ((i : Int) + 1) (i + 1)) (by omega)).out⟩
    have lt : ((sr B64 (2 ^ p) l).take i).length = i := by rw [List.length_take]; omega
    have hset : ∀ v : Int, ((sr B64 (2 ^ p) l).take i ++ List.replicate (m + 1) 0).set i v = (sr B64 (2 ^ p) l).take i ++ [v] ++ List.replicate m 0 := fun v => by
     have := set_rep ((sr B64 (2 ^ p) l).take i) m v
     rwa [lt] at this
    have key : ∀ v : Int, v = (((x + B64 * (y % 2 ^ p)) / 2 ^ p : Nat) : Int) → (sr B64 (2 ^ p) l).take i ++ [v] = (sr B64 (2 ^ p) l).take (i + 1) := fun v hv => sr_take hi (by rw [hx, hy, Int.toNat_natCast, Int.toNat_natCast]; exact hv)
    by_cases h0p : p = 0
    ·have z2 : decide ((p : Int) > 0) = false := decide_eq_false (by omega)
     have ek := key ((x / 2 ^ p : Nat) : Int) (by rw [h0p]; simp [Nat.mod_one])
     refine xr [] [(26, .bool (decide ((i : Int) < (((List.length l) : Nat) : Int))))] ?_
     refine SW_seq ?_
     refine xst z1 ?_
     refine SW_skip ?_
     refine SW_seq ?_
     refine SW_block ?_
     refine xr [] [(7, .int .i64 (i : Int))] ?_
     refine xg ?_
     refine xn 4 [] [(31, .int .i64 (i : Int)), (30, .slice (some ad) (List.length l) (c - n / 64)), (29, .int .i64 (i : Int)), (28, .slice (some ⟨g0, 0, none⟩) (List.length l) (List.length l))] ?_
     refine xfi 32 26 (ad) (List.length l) (c - n / 64) (i) IntKind.i64 ((i : Int)) ⟨rfl⟩ (by omega) ?_
     refine xfle 33 zi0 (i) ((x : Int)) v1 (by omega) ?_
     refine xn 7 [] [(34, .int .u64 (p : Int))] ?_
     refine xve 35 IntKind.u64 (shf IntKind.u64 (x : Int) (p : Int)) ((((x / 2 ^ p) : Nat) : Int)) v2 ?_
     refine xoi 36 26 (g0) (List.length l) (List.length l) (i) IntKind.i64 ((i : Int)) ⟨rfl⟩ (by omega) ?_
     refine xos 0 (g0) (i) IntKind.u64 (List.take i (sr B64 (2 ^ p) l) ++ List.replicate (m + 1) 0) ([]) 26 ((((x / 2 ^ p) : Nat) : Int)) (by first | omega | (simp <;> omega)) ?_
     refine xz [] [] ?_
     refine xg ?_
     refine xn 3 [] [(39, .bool (decide ((p : Int) > 0)))] ?_
     refine xkf 39 z2 ?_
     refine xz [] [(45, .bool false)] ?_
     refine xs0 ?_
     refine SW_skip ?_
     refine SW_region ?_
     refine xve 60 IntKind.i64 (IntKind.wrap IntKind.i64 ((i : Int) + 1)) ((((i + 1) : Nat) : Int)) v3 ?_
     refine xz [] [(25, .int .i64 (((i + 1) : Nat) : Int))] ?_
     rw [hset, ek]
     refine ⟨m, by omega, i + 1, by omega, ?_⟩
     exact xw (zsS zi0 zs0)
    ·have z2 : decide ((p : Int) > 0) = true := decide_eq_true (by omega)
     by_cases hi2 : i + 1 < l.length
     ·have z3 : decide (((i + 1 : Nat) : Int) < (l.length : Int)) = true := decide_eq_true (by omega)
      have v4 : Ve (rd l ((i + 1 : Nat) : Int)) (y : Int) := ⟨hy⟩
      have v5 : Ve (rd (((sr B64 (2 ^ p) l).take i ++ List.replicate (m + 1) 0).set i ((x / 2 ^ p : Nat) : Int)) (i : Int)) ((x / 2 ^ p : Nat) : Int) := ⟨rd_set_self _ _ _ (by simp; omega)⟩
      have v6 : Ve (IntKind.u64.wrap (64 - (p : Int))) ((64 - p : Nat) : Int) := ⟨sh64 p (by omega)⟩
      have v7 : Ve (bits .or .u64 ((x / 2 ^ p : Nat) : Int) (shl .u64 (y : Int) ((64 - p : Nat) : Int))) (((x + B64 * (y % 2 ^ p)) / 2 ^ p : Nat) : Int) := ⟨place_down p x y (by omega) hxB⟩
      have ek := key _ rfl
      refine xr [] [(26, .bool (decide ((i : Int) < (((List.length l) : Nat) : Int))))] ?_
      refine SW_seq ?_
      refine xst z1 ?_
      refine SW_skip ?_
      refine SW_seq ?_
      refine SW_block ?_
      refine xr [] [(7, .int .i64 (i : Int))] ?_
      refine xg ?_
      refine xn 4 [] [(31, .int .i64 (i : Int)), (30, .slice (some ad) (List.length l) (c - n / 64)), (29, .int .i64 (i : Int)), (28, .slice (some ⟨g0, 0, none⟩) (List.length l) (List.length l))] ?_
      refine xfi 32 26 (ad) (List.length l) (c - n / 64) (i) IntKind.i64 ((i : Int)) ⟨rfl⟩ (by omega) ?_
      refine xfle 33 zi0 (i) ((x : Int)) v1 (by omega) ?_
      refine xn 7 [] [(34, .int .u64 (p : Int))] ?_
      refine xve 35 IntKind.u64 (shf IntKind.u64 (x : Int) (p : Int)) ((((x / 2 ^ p) : Nat) : Int)) v2 ?_
      refine xoi 36 26 (g0) (List.length l) (List.length l) (i) IntKind.i64 ((i : Int)) ⟨rfl⟩ (by omega) ?_
      refine xos 0 (g0) (i) IntKind.u64 (List.take i (sr B64 (2 ^ p) l) ++ List.replicate (m + 1) 0) ([]) 26 ((((x / 2 ^ p) : Nat) : Int)) (by first | omega | (simp <;> omega)) ?_
      refine xz [] [] ?_
      refine xg ?_
      refine xn 3 [] [(39, .bool (decide ((p : Int) > 0)))] ?_
      refine xkt 39 z2 ?_
      refine xn 4 [] [(40, .int .i64 (i : Int))] ?_
      refine xve 41 IntKind.i64 (IntKind.wrap IntKind.i64 ((i : Int) + 1)) ((((i + 1) : Nat) : Int)) v3 ?_
      refine xz [] [(45, .bool (decide ((((i + 1) : Nat) : Int) < (((List.length l) : Nat) : Int))))] ?_
      refine xst z3 ?_
      refine xdl (fun hB => ?_)
      refine xdk [(0, []), (1, []), (4, []), (5, []), (9, [])] [(55, .int .u64 (p : Int)), (51, .int .i64 (i : Int)), (50, .slice (some ad) (List.length l) (c - n / 64)), (47, .int .i64 (i : Int)), (46, .slice (some ⟨g0, 0, none⟩) (List.length l) (List.length l))] hB ?_
      refine xdve 6 hB 52 IntKind.i64 (IntKind.wrap IntKind.i64 ((i : Int) + 1)) ((((i + 1) : Nat) : Int)) v3 ?_
      refine xdve 10 hB 56 IntKind.u64 (IntKind.wrap IntKind.u64 (64 - (p : Int))) ((((64 - p) : Nat) : Int)) v6 ?_
      refine xdoi 2 hB 48 26 (g0) (List.length l) (List.length l) (i) IntKind.i64 ((i : Int)) ⟨rfl⟩ (by omega) ?_
      refine xdole 3 hB 49 0 (g0) (i) IntKind.u64 (List.set (List.take i (sr B64 (2 ^ p) l) ++ List.replicate (m + 1) 0) i (((x / 2 ^ p) : Nat) : Int)) ([]) 26 ((((x / 2 ^ p) : Nat) : Int)) v5 (by first | omega | (simp <;> omega)) ?_
      refine xdfi 7 hB 53 26 (ad) (List.length l) (c - n / 64) (i + 1) IntKind.i64 ((((i + 1) : Nat) : Int)) ⟨rfl⟩ (by omega) ?_
      refine xdfle 8 hB 54 zi0 (i + 1) ((y : Int)) v4 (by omega) ?_
      refine xdk [(11, [])] [(57, .int .u64 (IntKind.wrap IntKind.u64 ((y : Int) * 2 ^ min (Int.toNat (((64 - p) : Nat) : Int)) (IntKind.bits IntKind.u64))))] hB ?_
      refine xdve 12 hB 58 IntKind.u64 (bits BinOp.or IntKind.u64 (((x / 2 ^ p) : Nat) : Int) (shl IntKind.u64 (y : Int) (((64 - p) : Nat) : Int))) (((((x + B64 * (y % 2 ^ p)) / 2 ^ p) : Nat) : Int)) v7 ?_
      refine xdoi 13 hB 59 26 (g0) (List.length l) (List.length l) (i) IntKind.i64 ((i : Int)) ⟨rfl⟩ (by omega) ?_
      refine xdos 14 hB 0 (g0) (i) IntKind.u64 (List.set (List.take i (sr B64 (2 ^ p) l) ++ List.replicate (m + 1) 0) i (((x / 2 ^ p) : Nat) : Int)) ([]) 26 (((((x + B64 * (y % 2 ^ p)) / 2 ^ p) : Nat) : Int)) (by first | omega | (simp <;> omega)) ?_
      refine xdz ?_
      refine SW_region ?_
      refine xve 60 IntKind.i64 (IntKind.wrap IntKind.i64 ((i : Int) + 1)) ((((i + 1) : Nat) : Int)) v3 ?_
      refine xz [] [(25, .int .i64 (((i + 1) : Nat) : Int))] ?_
      rw [List.set_set, hset (((x + B64 * (y % 2 ^ p)) / 2 ^ p : Nat) : Int), ek]
      refine ⟨m, by omega, i + 1, by omega, ?_⟩
      exact xw (zsS zi0 zs0)
     ·have z3 : decide (((i + 1 : Nat) : Int) < (l.length : Int)) = false := decide_eq_false (by omega)
      have hy00 : y = 0 := by
       have := rd_of_ge l ((i + 1 : Nat) : Int) (by simp; omega)
       omega
      have ek := key ((x / 2 ^ p : Nat) : Int) (by rw [hy00]; simp)
      refine xr [] [(26, .bool (decide ((i : Int) < (((List.length l) : Nat) : Int))))] ?_
      refine SW_seq ?_
      refine xst z1 ?_
      refine SW_skip ?_
      refine SW_seq ?_
      refine SW_block ?_
      refine xr [] [(7, .int .i64 (i : Int))] ?_
      refine xg ?_
      refine xn 4 [] [(31, .int .i64 (i : Int)), (30, .slice (some ad) (List.length l) (c - n / 64)), (29, .int .i64 (i : Int)), (28, .slice (some ⟨g0, 0, none⟩) (List.length l) (List.length l))] ?_
      refine xfi 32 26 (ad) (List.length l) (c - n / 64) (i) IntKind.i64 ((i : Int)) ⟨rfl⟩ (by omega) ?_
      refine xfle 33 zi0 (i) ((x : Int)) v1 (by omega) ?_
      refine xn 7 [] [(34, .int .u64 (p : Int))] ?_
      refine xve 35 IntKind.u64 (shf IntKind.u64 (x : Int) (p : Int)) ((((x / 2 ^ p) : Nat) : Int)) v2 ?_
      refine xoi 36 26 (g0) (List.length l) (List.length l) (i) IntKind.i64 ((i : Int)) ⟨rfl⟩ (by omega) ?_
      refine xos 0 (g0) (i) IntKind.u64 (List.take i (sr B64 (2 ^ p) l) ++ List.replicate (m + 1) 0) ([]) 26 ((((x / 2 ^ p) : Nat) : Int)) (by first | omega | (simp <;> omega)) ?_
      refine xz [] [] ?_
      refine xg ?_
      refine xn 3 [] [(39, .bool (decide ((p : Int) > 0)))] ?_
      refine xkt 39 z2 ?_
      refine xn 4 [] [(40, .int .i64 (i : Int))] ?_
      refine xve 41 IntKind.i64 (IntKind.wrap IntKind.i64 ((i : Int) + 1)) ((((i + 1) : Nat) : Int)) v3 ?_
      refine xz [] [(45, .bool (decide ((((i + 1) : Nat) : Int) < (((List.length l) : Nat) : Int))))] ?_
      refine xsf z3 ?_
      refine SW_skip ?_
      refine SW_region ?_
      refine xve 60 IntKind.i64 (IntKind.wrap IntKind.i64 ((i : Int) + 1)) ((((i + 1) : Nat) : Int)) v3 ?_
      refine xz [] [(25, .int .i64 (((i + 1) : Nat) : Int))] ?_
      rw [hset, ek]
      refine ⟨m, by omega, i + 1, by omega, ?_⟩
      exact xw (zsS zi0 zs0)
   ·have z1 : decide ((i : Int) < (l.length : Int)) = false := decide_eq_false (by omega)
    obtain rfl : m = 0 := by omega
    have e0 : (sr B64 (2 ^ p) l).take i ++ List.replicate 0 0 = sr B64 (2 ^ p) l := by
     rw [List.take_of_length_le (by omega)]
     simp
    have er : trimL (sr B64 (2 ^ p) l) = r := by
     refine norm_inj B64_pos dsr.trim dr (norm_trim _) nr ?_
     rw [val_trim, sr_val hP (by rw [B64_pow]; exact Nat.pow_dvd_pow 2 (by omega)), vl, vr, ← hpd]
     exact (pow_div_mod _ 64 n).symm
    have ct := ct_impl_trimmed (sr B64 (2 ^ p) l) (some ⟨g0, 0, none⟩) (sr B64 (2 ^ p) l).length (by omega)
    rw [er] at ct
    refine xr [] [(26, .bool (decide ((i : Int) < (((List.length l) : Nat) : Int))))] ?_
    refine SW_seq ?_
    refine xsf z1 ?_
    refine SW_exit ?_
    refine xg ?_
    refine xn 1 [] [(61, .slice (some ⟨g0, 0, none⟩) (List.length l) (List.length l))] ?_
    rw [e0]
    refine NW_fz 0 l.length g0 .u64 (sr B64 (2 ^ p) l) [] 26 (by omega) (by omega) ?_
    rw [show l.length = (sr B64 (2 ^ p) l).length by omega]
    refine xcr 62 ct (zsS zi0 zs0) (fun A1 k1 => ?_)
    refine xz [] [(4, .slice A1 (List.length r) k1)] ?_
    refine SW_ret ?_
    refine xe (A1, k1) (.slice A1 (List.length r) k1) [] ?_ (zsS zi0 zs0)
    rfl
theorem ct_impl_word_rows (a : Int) (n : Nat) (ha : Nn a n) (hn : n < B64) : ∀ r, Dig B64 r → Norm r → val B64 r = n → CtR Tryd.prog 108 [.int .u64 a] [] .u64 r := by
 intro r dr nr vr
 obtain ⟨rfl⟩ := ha
 have er : trimL [(n : Int)] = r := norm_inj B64_pos (Dig.cons (cast_dig hn) (Dig.nil _)).trim dr (norm_trim _) nr (by rw [val_trim, val_one, vr]; rfl)
 refine ct_of Tryd.func108 rfl (by kernel_rfl) (fun B w0 => ?_)
 refine xr [] [(2, .slice none 0 0)] ?_
 refine xg ?_
 refine xn 1 [] [(3, .int .u64 (n : Int))] ?_
 refine xbl 4 [.int .u64 (n : Int)] 26 1 (fun g0 => ?_)
 have ct := ct_impl_trimmed [(n : Int)] (some ⟨g0, 0, none⟩) 1 (by simp)
 rw [er] at ct
 refine NW_fz 0 1 g0 .u64 [(n : Int)] [] 26 (by simp) (by simp) ?_
 refine xcr 5 ct (zsS zi0 zs0) (fun A0 k0 => ?_)
 refine xz [] [(2, .slice A0 (List.length r) k0)] ?_
 refine SW_ret ?_
 refine xe (A0, k0) (.slice A0 (List.length r) k0) [] ?_ (zsS zi0 zs0)
 rfl
def len8tab : ByteArray := (⟨#[0, 1, 2, 2, 3, 3, 3, 3, 4, 4, 4, 4, 4, 4, 4, 4, 5, 5, 5, 5, 5, 5, 5, 5, 5, 5, 5, 5, 5, 5, 5, 5, 6, 6, 6, 6, 6, 6, 6, 6, 6, 6, 6, 6, 6, 6, 6, 6, 6, 6, 6, 6, 6, 6, 6, 6, 6, 6, 6, 6, 6, 6, 6, 6, 7, 7, 7, 7, 7, 7, 7, 7, 7, 7, 7, 7, 7, 7, 7, 7, 7, 7, 7, 7, 7, 7, 7, 7, 7, 7, 7, 7, 7, 7, 7, 7, 7, 7, 7, 7, 7, 7, 7, 7, 7, 7, 7, 7, 7, 7, 7, 7, 7, 7, 7, 7, 7, 7, 7, 7, 7, 7, 7, 7, 7, 7, 7, 7, 8, 8, 8, 8, 8, 8, 8, 8, 8, 8, 8, 8, 8, 8, 8, 8, 8, 8, 8, 8, 8, 8, 8, 8, 8, 8, 8, 8, 8, 8, 8, 8, 8, 8, 8, 8, 8, 8, 8, 8, 8, 8, 8, 8, 8, 8, 8, 8, 8, 8, 8, 8, 8, 8, 8, 8, 8, 8, 8, 8, 8, 8, 8, 8, 8, 8, 8, 8, 8, 8, 8, 8, 8, 8, 8, 8, 8, 8, 8, 8, 8, 8, 8, 8, 8, 8, 8, 8, 8, 8, 8, 8, 8, 8, 8, 8, 8, 8, 8, 8, 8, 8, 8, 8, 8, 8, 8, 8, 8, 8, 8, 8, 8, 8, 8, 8, 8, 8, 8, 8, 8, 8, 8, 8, 8, 8, 8, 8]⟩ : ByteArray)
theorem len8 : ∀ i : Nat, i < 256 → IsBits i (bt len8tab i).toNat ∧ 0 ≤ bt len8tab i := fun i hi => lenT i hi
theorem run_sidx {P : Program} {t : TypeId} {ρ : Operand → Value} {o : Oper} {x ix : Operand} {s : ByteArray} {k : IntKind} {i : Nat} (ho : o.op = .index t x ix) (hx : ρ x = .string s) (hi : ρ ix = .int k (i : Int)) (ht : ∀ w, (underlying t).run P w = .ok .string w) (h1 : i < s.size) (w : World) : (execOp ρ o).run P w = .ok (.value (.int .u8 (bt s i))) w := by
 have e : bt s (i : Int) = ((s[i]'h1).toNat : Int) := by
  have := bt_at s (i : Int) (by simpa using h1)
  simp only [Int.toNat_natCast] at this
  exact this.symm
 unfold execOp
 simp only [ho, hx, hi]
 simp [Instr.index, Sem.run_bind, Result.andThen, asIntOf, ht, h1, e]
section
variable {X : Cx} {env : List (Nat × Value)} {bs : List Box} {fs : List Fact} {K : Exit → St → Prop} {ops : Array Oper} {j : Nat}
theorem xsi (d : Nat) (s : ByteArray) (k : IntKind) (y : Nat) (v : Int) (hv : bt s (y : Int) = v) (h1 : y < s.size) {o : Oper} {t : TypeId} {x ix : Operand} (h : NW X ops (Nat.succ j) ⟨(d, .int .u8 v) :: env, bs, fs⟩ K)
  (ho : ops[j]? = some o := by rfl) (hop : o.op = .index t x ix := by rfl) (hg : guardD ops env o = some true := by kernel_rfl) (hf : fitO X.n env o = true := by kernel_rfl) (hd : o.dst = some d := by rfl)
  (hx : evD env x = .string s := by kernel_rfl) (hi : evD env ix = .int k (y : Int) := by kernel_rfl) (ht : ∀ w, (underlying t).run X.P w = .ok .string w := by intro w; kernel_rfl) : NW X ops j ⟨env, bs, fs⟩ K := by
 subst hv
 exact nv _ d _ ho hg hf hd (fun w _ _ => run_sidx hop hx hi ht h1 w) rfl h
end
theorem bits_down {x m s : Nat} (h : IsBits x m) (hx : x < 18446744073709551616) (hs : 2 ^ s ≤ x) : ∃ m', IsBits (x / 2 ^ s) m' ∧ m = s + m' := by
 obtain ⟨m', h1, _⟩ := bits_of (x / 2 ^ s) (Nat.lt_of_le_of_lt (Nat.div_le_self _ _) hx)
 exact ⟨m', h1, h.uniq (h1.up (Nat.div_pos hs (Nat.pow_pos (by decide))))⟩
theorem ct_bits_Len64 (x : Nat) (hx : x < 18446744073709551616) (m : Nat) (hm : IsBits x m) : CtV Tryd.prog 151 [.int .u64 (x : Int)] [] (.int .i64 (m : Int)) := by
 refine ct_of Tryd.func151 rfl (by kernel_rfl) (fun B w0 => ?_)
 refine xr [] [(2, .int .i64 0)] ?_
 have hm64 : m ≤ 64 := hm.le (w := 64) hx
 have stage : ∀ (S : Nat) (y s m' : Nat), y < 18446744073709551616 → IsBits y m' → m = s + m' → 2 ^ S ≤ y → ∃ m2, IsBits (y / 2 ^ S) m2 ∧ m = s + S + m2 := fun S y s m' hy h1 h2 h3 => by
  obtain ⟨m2, h4, h5⟩ := bits_down h1 hy h3
  exact ⟨m2, h4, by omega⟩
 refine SW_cut (fun s' => ∃ y s m', y < 4294967296 ∧ IsBits y m' ∧ m = s + m' ∧ Weak s' ⟨[(0, .int .u64 (y : Int)), (2, .int .i64 (s : Int))], [], []⟩) ?_ ?_
 ·by_cases h : 4294967296 ≤ x
  ·have z : decide ((x : Int) ≥ 4294967296) = true := decide_eq_true (by omega)
   have v : Ve (shf .u64 (x : Int) 32) ((x / 2 ^ 32 : Nat) : Int) := ⟨shf_nat x 32 (by decide)⟩
   obtain ⟨m2, h4, h5⟩ := stage 32 x 0 m hx hm (by omega) h
   refine xr [] [(4, .bool (decide ((x : Int) ≥ 4294967296)))] ?_
   refine xst z ?_
   refine xg ?_
   refine xn 1 [] [(5, .int .u64 (x : Int))] ?_
   refine xve 6 IntKind.u64 (shf IntKind.u64 (x : Int) 32) ((((x / 2 ^ 32) : Nat) : Int)) v ?_
   refine xz [] [(0, .int .u64 (((x / 2 ^ 32) : Nat) : Int))] ?_
   refine xrl [] [(2, .int .i64 32)] ?_
   refine ⟨x / 2 ^ 32, 32, m2, by omega, h4, by omega, ?_⟩
   exact xw zs0
  ·have z : decide ((x : Int) ≥ 4294967296) = false := decide_eq_false (by omega)
   refine xr [] [(4, .bool (decide ((x : Int) ≥ 4294967296)))] ?_
   refine xsf z ?_
   refine SW_skip ?_
   refine ⟨x, 0, m, by omega, hm, by omega, ?_⟩
   exact xw zs0
 ·rintro s' ⟨y, s, m', hy, h1, h2, hw⟩
  refine SW_weak hw ?_
  clear hw
  refine SW_cut (fun s' => ∃ y s m', y < 65536 ∧ IsBits y m' ∧ m = s + m' ∧ Weak s' ⟨[(0, .int .u64 (y : Int)), (2, .int .i64 (s : Int))], [], []⟩) ?_ ?_
  ·by_cases h : 65536 ≤ y
   ·have z : decide ((y : Int) ≥ 65536) = true := decide_eq_true (by omega)
    have v : Ve (shf .u64 (y : Int) 16) ((y / 2 ^ 16 : Nat) : Int) := ⟨shf_nat y 16 (by decide)⟩
    have v2 : Ve (IntKind.i64.wrap ((s : Int) + 16)) ((s + 16 : Nat) : Int) := ⟨(Nn.w (Nn.add ⟨rfl⟩ ⟨rfl⟩ : Nn ((s : Int) + 16) (s + 16)) (by omega)).out⟩
    obtain ⟨m2, h4, h5⟩ := stage 16 y s m' (by omega) h1 h2 h
    refine xr [] [(8, .bool (decide ((y : Int) ≥ 65536)))] ?_
    refine xst z ?_
    refine xg ?_
    refine xn 1 [] [(9, .int .u64 (y : Int))] ?_
    refine xve 10 IntKind.u64 (shf IntKind.u64 (y : Int) 16) ((((y / 2 ^ 16) : Nat) : Int)) v ?_
    refine xz [] [(0, .int .u64 (((y / 2 ^ 16) : Nat) : Int))] ?_
    refine SW_region ?_
    refine xn 1 [] [(11, .int .i64 (s : Int))] ?_
    refine xve 12 IntKind.i64 (IntKind.wrap IntKind.i64 ((s : Int) + 16)) ((((s + 16) : Nat) : Int)) v2 ?_
    refine xz [] [(2, .int .i64 (((s + 16) : Nat) : Int))] ?_
    refine ⟨y / 2 ^ 16, s + 16, m2, by omega, h4, by omega, ?_⟩
    exact xw zs0
   ·have z : decide ((y : Int) ≥ 65536) = false := decide_eq_false (by omega)
    refine xr [] [(8, .bool (decide ((y : Int) ≥ 65536)))] ?_
    refine xsf z ?_
    refine SW_skip ?_
    refine ⟨y, s, m', by omega, h1, h2, ?_⟩
    exact xw zs0
  ·rintro s' ⟨y, s, m', hy, h1, h2, hw⟩
   refine SW_weak hw ?_
   clear hw
   refine SW_cut (fun s' => ∃ y s m', y < 256 ∧ IsBits y m' ∧ m = s + m' ∧ Weak s' ⟨[(0, .int .u64 (y : Int)), (2, .int .i64 (s : Int))], [], []⟩) ?_ ?_
   ·by_cases h : 256 ≤ y
    ·have z : decide ((y : Int) ≥ 256) = true := decide_eq_true (by omega)
     have v : Ve (shf .u64 (y : Int) 8) ((y / 2 ^ 8 : Nat) : Int) := ⟨shf_nat y 8 (by decide)⟩
     have v2 : Ve (IntKind.i64.wrap ((s : Int) + 8)) ((s + 8 : Nat) : Int) := ⟨(Nn.w (Nn.add ⟨rfl⟩ ⟨rfl⟩ : Nn ((s : Int) + 8) (s + 8)) (by omega)).out⟩
     obtain ⟨m2, h4, h5⟩ := stage 8 y s m' (by omega) h1 h2 h
     refine xr [] [(14, .bool (decide ((y : Int) ≥ 256)))] ?_
     refine xst z ?_
     refine xg ?_
     refine xn 1 [] [(15, .int .u64 (y : Int))] ?_
     refine xve 16 IntKind.u64 (shf IntKind.u64 (y : Int) 8) ((((y / 2 ^ 8) : Nat) : Int)) v ?_
     refine xz [] [(0, .int .u64 (((y / 2 ^ 8) : Nat) : Int))] ?_
     refine SW_region ?_
     refine xn 1 [] [(17, .int .i64 (s : Int))] ?_
     refine xve 18 IntKind.i64 (IntKind.wrap IntKind.i64 ((s : Int) + 8)) ((((s + 8) : Nat) : Int)) v2 ?_
     refine xz [] [(2, .int .i64 (((s + 8) : Nat) : Int))] ?_
     refine ⟨y / 2 ^ 8, s + 8, m2, by omega, h4, by omega, ?_⟩
     exact xw zs0
    ·have z : decide ((y : Int) ≥ 256) = false := decide_eq_false (by omega)
     refine xr [] [(14, .bool (decide ((y : Int) ≥ 256)))] ?_
     refine xsf z ?_
     refine SW_skip ?_
     refine ⟨y, s, m', by omega, h1, h2, ?_⟩
     exact xw zs0
   ·rintro s' ⟨y, s, m', hy, h1, h2, hw⟩
    refine SW_weak hw ?_
    clear hw
    obtain ⟨k1, k2⟩ := len8 y hy
    have hu := k1.uniq h1
    have hv : bt len8tab y = (m' : Int) := by omega
    have hsz : len8tab.size = 256 := by kernel_rfl
    have v3 : Ve (IntKind.u8.wrap (y : Int)) (y : Int) := ⟨by simp [IntKind.wrap, IntKind.bits, IntKind.signed]; omega⟩
    have v4 : Ve (IntKind.i64.wrap (m' : Int)) (m' : Int) := ⟨wrap_i64 (by omega)⟩
    have v5 : Ve (IntKind.i64.wrap ((s : Int) + (m' : Int))) (m : Int) := ⟨by rw [wrap_i64 (by omega)]; omega⟩
    refine xg ?_
    refine xn 2 [] [(20, .int .u64 (y : Int)), (19, .int .i64 (s : Int))] ?_
    refine xve 21 IntKind.u8 (IntKind.wrap IntKind.u8 (y : Int)) ((y : Int)) v3 ?_
    refine xsi 22 len8tab .u8 y (m' : Int) hv (by omega) ?_
    refine xve 23 IntKind.i64 (IntKind.wrap IntKind.i64 ((m' : Nat) : Int)) (((m' : Nat) : Int)) v4 ?_
    refine xve 24 IntKind.i64 (IntKind.wrap IntKind.i64 ((s : Int) + ((m' : Nat) : Int))) ((m : Int)) v5 ?_
    refine xz [] [(2, .int .i64 (m : Int))] ?_
    refine SW_ret ?_
    refine xe () (.int .i64 (m : Int)) [] ?_ trivial
    rfl
theorem ct_bits_LeadingZeros64 (x : Nat) (hx : x < 18446744073709551616) (m : Nat) (hm : IsBits x m) : CtV Tryd.prog 133 [.int .u64 (x : Int)] [] (.int .i64 ((64 - m : Nat) : Int)) := by
 have hm64 : m ≤ 64 := hm.le (w := 64) hx
 refine ct_of Tryd.func133 rfl (by kernel_rfl) (fun B w0 => ?_)
 have v : Ve (IntKind.i64.wrap (64 - (m : Int))) ((64 - m : Nat) : Int) := ⟨(Nn.w (Nn.sub ⟨rfl⟩ ⟨rfl⟩ hm64 : Nn (64 - (m : Int)) (64 - m)) (by omega)).out⟩
 refine xr [] [(2, .int .i64 0)] ?_
 refine xg ?_
 refine xn 1 [] [(3, .int .u64 (x : Int))] ?_
 refine xcv 4 (ct_bits_Len64 (x) hx (m) hm) zs0 ?_
 refine xve 5 IntKind.i64 (IntKind.wrap IntKind.i64 (64 - (m : Int))) ((((64 - m) : Nat) : Int)) v ?_
 refine xz [] [(2, .int .i64 (((64 - m) : Nat) : Int))] ?_
 refine SW_ret ?_
 refine xe () (.int .i64 (((64 - m) : Nat) : Int)) [] ?_ trivial
 rfl
theorem top_bits {l : List Int} (dl : Dig B64 l) (nl : Norm l) (hl : 0 < l.length) {m : Nat} (hm : IsBits (rd l ((l.length - 1 : Nat) : Int)).toNat m) : IsBits (val B64 l) (64 * (l.length - 1) + m) := by
 have h1 := val_mid B64 (l := l) (p := l.length - 1) (by omega)
 rw [List.drop_eq_nil_of_le (by omega), val_nil, Nat.mul_zero, Nat.add_zero] at h1
 have h2 := val_lt (dl.take (l.length - 1))
 rw [List.length_take, Nat.min_eq_left (by omega)] at h2
 have hp : B64 ^ (l.length - 1) = 2 ^ (64 * (l.length - 1)) := by rw [show B64 = 2 ^ 64 from rfl, ← Nat.pow_mul]
 have hd : val B64 l / 2 ^ (64 * (l.length - 1)) = (rd l ((l.length - 1 : Nat) : Int)).toNat := by
  rw [h1, ← hp, Nat.add_mul_div_left _ _ (Nat.pow_pos B64_pos), Nat.div_eq_of_lt h2, Nat.zero_add]
 have h3 := norm_last nl hl
 have h4 := (dl.rd B64_pos ((l.length - 1 : Nat) : Int)).1
 rw [show ((l.length : Int) - 1) = ((l.length - 1 : Nat) : Int) by omega] at h3
 exact IsBits.up (by rw [hd]; exact hm) (by rw [hd]; omega)
theorem ct_impl_nat_bits_rows (l : List Int) (A : Option Addr) (c : Nat) (dl : Dig B64 l) (nl : Norm l) (hl : l.length ≤ 1000000000) (m : Nat) (hm : IsBits (val B64 l) m) : CtV Tryd.prog 110 [.slice A l.length c] [Row .u64 A c l] (.int .i64 (m : Int)) := by
 refine ct_of Tryd.func110 rfl (by kernel_rfl) (fun B w0 => ?_)
 by_cases h0 : l.length = 0
 ·have z : ((l.length : Int) == 0) = true := by rw [h0]; rfl
  have e0 : l = [] := List.eq_nil_of_length_eq_zero h0
  rw [e0, val_nil] at hm
  have := hm.uniq IsBits.zero
  subst this
  refine xr [] [(2, .int .i64 0)] ?_
  refine SW_seq ?_
  refine xr [] [(5, .bool ((((List.length l) : Nat) : Int) == 0))] ?_
  refine xst z ?_
  refine xr [] [(2, .int .i64 0)] ?_
  refine SW_ret ?_
  refine xe () (.int .i64 0) [] ?_ trivial
  rfl
 ·have z : ((l.length : Int) == 0) = false := by rw [beq_eq_false_iff_ne]; omega
  refine SW_know zi0 (fun w h => row_at h (by omega)) (fun ⟨ad, e⟩ => ?_)
  subst e
  have hx0 := dl.rd B64_pos ((l.length - 1 : Nat) : Int)
  obtain ⟨x, hx⟩ : ∃ x : Nat, rd l ((l.length - 1 : Nat) : Int) = (x : Int) := ⟨(rd l ((l.length - 1 : Nat) : Int)).toNat, by omega⟩
  have hxB : x < 18446744073709551616 := by unfold B64 at hx0; omega
  obtain ⟨k, hk, hk64⟩ := bits_of x hxB
  have hmk : m = 64 * (l.length - 1) + k := hm.uniq (top_bits dl nl (by omega) (by rw [hx, Int.toNat_natCast]; exact hk))
  have v1 : Ve (rd l ((l.length - 1 : Nat) : Int)) (x : Int) := ⟨hx⟩
  have v2 : Ve (IntKind.i64.wrap (64 * (l.length : Int))) ((64 * l.length : Nat) : Int) := ⟨by rw [wrap_i64 (by omega)]; omega⟩
  have v3 : Ve (IntKind.i64.wrap (((64 * l.length : Nat) : Int) - ((64 - k : Nat) : Int))) (m : Int) := ⟨by rw [wrap_i64 (by omega)]; omega⟩
  refine xr [] [(2, .int .i64 0)] ?_
  refine SW_seq ?_
  refine xr [] [(5, .bool ((((List.length l) : Nat) : Int) == 0))] ?_
  refine xsf z ?_
  refine SW_skip ?_
  refine xg ?_
  refine xn 2 [] [(7, .int .i64 (((List.length l) : Nat) : Int))] ?_
  refine xve 8 IntKind.i64 (IntKind.wrap IntKind.i64 (64 * (((List.length l) : Nat) : Int))) ((((64 * List.length l) : Nat) : Int)) v2 ?_
  refine xn 7 [] [(12, .int .i64 (IntKind.wrap IntKind.i64 ((((List.length l) : Nat) : Int) - 1))), (9, .slice (some ad) (List.length l) c)] ?_
  refine xfi 13 26 (ad) (List.length l) (c) ((List.length l) - 1) IntKind.i64 (IntKind.wrap IntKind.i64 ((((List.length l) : Nat) : Int) - 1)) (Nn.w (Nn.sub ⟨rfl⟩ ⟨rfl⟩ (by omega)) (by omega)) (by omega) ?_
  refine xfle 14 zi0 (List.length l - 1) ((x : Int)) v1 (by omega) ?_
  refine xcv 15 (ct_bits_LeadingZeros64 (x) hxB (k) hk) zs0 ?_
  refine xve 16 IntKind.i64 (IntKind.wrap IntKind.i64 ((((64 * List.length l) : Nat) : Int) - (((64 - k) : Nat) : Int))) ((m : Int)) v3 ?_
  refine xz [] [(2, .int .i64 (m : Int))] ?_
  refine SW_ret ?_
  refine xe () (.int .i64 (m : Int)) [] ?_ trivial
  rfl
end Go.Proofs.YtgknelgplmohoaaDoor.M
end
section
namespace Go.Proofs.YtgknelgplmohoaaDoor.M
open Go.RowKit Go.Proofs.YtgknelgplmohoaaDoor.G Go.Proofs.YtgknelgplmohoaaDoorV.PrintWords Go.Proofs.YtgknelgplmohoaaDoorV.PrintLast Go.Proofs.YtgknelgplmohoaaDoor.X
set_option linter.unusedVariables false
set_option linter.unusedSimpArgs false
theorem veU {z : Int} {n : Nat} (h : z = (n : Int)) (hn : n < 18446744073709551616) : Ve (IntKind.u64.wrap z) (n : Int) := ⟨by rw [h]; exact wrap_u64_id (by omega)⟩
theorem veI {z : Int} {n : Nat} (h : z = (n : Int)) (hn : n ≤ 9223372036854775807) : Ve (IntKind.i64.wrap z) (n : Int) := ⟨by rw [h]; exact wrap_i64 (by omega)⟩
theorem low_ve (x : Nat) (h : x < 18446744073709551616) : Ve (bits .and .u64 (x : Int) 4294967295) ((x % 4294967296 : Nat) : Int) := ⟨low32_nat x h⟩
theorem high_ve (x : Nat) : Ve (shf .u64 (x : Int) 32) ((x / 4294967296 : Nat) : Int) := ⟨shf_nat x 32 (by decide)⟩
theorem mul_halves (x y : Nat) : ∃ a b c d : Nat, x / 4294967296 * (y / 4294967296) = a ∧ x / 4294967296 * (y % 4294967296) = b ∧ x % 4294967296 * (y / 4294967296) = c ∧ x % 4294967296 * (y % 4294967296) = d ∧ x * y = a * 18446744073709551616 + (b + c) * 4294967296 + d := by
 refine ⟨_, _, _, _, rfl, rfl, rfl, rfl, ?_⟩
 have h1 := Nat.div_add_mod x 4294967296
 have h2 := Nat.div_add_mod y 4294967296
 generalize x / 4294967296 = x1 at *
 generalize x % 4294967296 = x0 at *
 generalize y / 4294967296 = y1 at *
 generalize y % 4294967296 = y0 at *
 subst h1
 subst h2
 simp only [Nat.add_mul, Nat.mul_add]
 have e1 : 4294967296 * x1 * (4294967296 * y1) = x1 * y1 * 18446744073709551616 := by
  rw [Nat.mul_mul_mul_comm, Nat.mul_comm]
 have e2 : 4294967296 * x1 * y0 = x1 * y0 * 4294967296 := by rw [Nat.mul_assoc, Nat.mul_comm]
 have e3 : x0 * (4294967296 * y1) = x0 * y1 * 4294967296 := by rw [Nat.mul_left_comm, Nat.mul_comm]
 rw [e1, e2, e3]
 omega
theorem ct_bits_Mul64 (x y : Nat) (hx : x < 18446744073709551616) (hy : y < 18446744073709551616) : CtV Tryd.prog 146 [.int .u64 (x : Int), .int .u64 (y : Int)] [] (.tuple #[.int .u64 ((x * y / 18446744073709551616 : Nat) : Int), .int .u64 ((x * y % 18446744073709551616 : Nat) : Int)]) := by
 refine ct_of Tryd.func146 rfl (by kernel_rfl) (fun B w0 => ?_)
 obtain ⟨a, b, c, d, ha, hb, hc, hd, hxy⟩ := mul_halves x y
 have bx1 : x / 4294967296 ≤ 4294967295 := by omega
 have by1 : y / 4294967296 ≤ 4294967295 := by omega
 have bx0 : x % 4294967296 ≤ 4294967295 := by omega
 have by0 : y % 4294967296 ≤ 4294967295 := by omega
 have ba : a ≤ 18446744065119617025 := ha ▸ Nat.mul_le_mul bx1 by1
 have bb : b ≤ 18446744065119617025 := hb ▸ Nat.mul_le_mul bx1 by0
 have bc : c ≤ 18446744065119617025 := hc ▸ Nat.mul_le_mul bx0 by1
 have bd : d ≤ 18446744065119617025 := hd ▸ Nat.mul_le_mul bx0 by0
 have v1 := low_ve x hx
 have v2 := high_ve x
 have v3 := low_ve y hy
 have v4 := high_ve y
 have v5 : Ve (IntKind.u64.wrap (((x % 4294967296 : Nat) : Int) * ((y % 4294967296 : Nat) : Int))) (d : Int) := veU (by rw [← Int.natCast_mul, hd]) (by omega)
 have v6 : Ve (IntKind.u64.wrap (((x / 4294967296 : Nat) : Int) * ((y % 4294967296 : Nat) : Int))) (b : Int) := veU (by rw [← Int.natCast_mul, hb]) (by omega)
 have v7 := high_ve d
 have v8 : Ve (IntKind.u64.wrap ((b : Int) + ((d / 4294967296 : Nat) : Int))) ((b + d / 4294967296 : Nat) : Int) := veU (by omega) (by omega)
 have v9 := low_ve (b + d / 4294967296) (by omega)
 have v10 := high_ve (b + d / 4294967296)
 have v11 : Ve (IntKind.u64.wrap (((x % 4294967296 : Nat) : Int) * ((y / 4294967296 : Nat) : Int))) (c : Int) := veU (by rw [← Int.natCast_mul, hc]) (by omega)
 have v12 : Ve (IntKind.u64.wrap ((((b + d / 4294967296) % 4294967296 : Nat) : Int) + (c : Int))) (((b + d / 4294967296) % 4294967296 + c : Nat) : Int) := veU (by omega) (by omega)
 have v13 := high_ve ((b + d / 4294967296) % 4294967296 + c)
 have v14 : Ve (IntKind.u64.wrap (((x / 4294967296 : Nat) : Int) * ((y / 4294967296 : Nat) : Int))) (a : Int) := veU (by rw [← Int.natCast_mul, ha]) (by omega)
 have hP : x * y < 18446744073709551616 * 18446744073709551616 := Nat.mul_lt_mul'' hx hy
 have v15 : Ve (IntKind.u64.wrap ((a : Int) + (((b + d / 4294967296) / 4294967296 : Nat) : Int))) ((a + (b + d / 4294967296) / 4294967296 : Nat) : Int) := veU (by omega) (by omega)
 have v16 : Ve (IntKind.u64.wrap (((a + (b + d / 4294967296) / 4294967296 : Nat) : Int) + ((((b + d / 4294967296) % 4294967296 + c) / 4294967296 : Nat) : Int))) ((x * y / 18446744073709551616 : Nat) : Int) := veU (by omega) (by omega)
 have v17 : Ve (IntKind.u64.wrap ((x : Int) * (y : Int))) ((x * y % 18446744073709551616 : Nat) : Int) := ⟨by
  rw [← Int.natCast_mul, wrap_u64]
  omega⟩
 refine xr [] [(5, .int .u64 0), (4, .int .u64 0)] ?_
 refine xg ?_
 refine xn 1 [] [(14, .int .u64 (x : Int))] ?_
 refine xve 15 IntKind.u64 (bits BinOp.and IntKind.u64 (x : Int) 4294967295) ((((x % 4294967296) : Nat) : Int)) v1 ?_
 refine xz [] [(6, .int .u64 (((x % 4294967296) : Nat) : Int))] ?_
 refine xg ?_
 refine xn 1 [] [(16, .int .u64 (x : Int))] ?_
 refine xve 17 IntKind.u64 (shf IntKind.u64 (x : Int) 32) ((((x / 4294967296) : Nat) : Int)) v2 ?_
 refine xz [] [(7, .int .u64 (((x / 4294967296) : Nat) : Int))] ?_
 refine xg ?_
 refine xn 1 [] [(18, .int .u64 (y : Int))] ?_
 refine xve 19 IntKind.u64 (bits BinOp.and IntKind.u64 (y : Int) 4294967295) ((((y % 4294967296) : Nat) : Int)) v3 ?_
 refine xz [] [(8, .int .u64 (((y % 4294967296) : Nat) : Int))] ?_
 refine xg ?_
 refine xn 1 [] [(20, .int .u64 (y : Int))] ?_
 refine xve 21 IntKind.u64 (shf IntKind.u64 (y : Int) 32) ((((y / 4294967296) : Nat) : Int)) v4 ?_
 refine xz [] [(9, .int .u64 (((y / 4294967296) : Nat) : Int))] ?_
 refine xg ?_
 refine xn 2 [] [(23, .int .u64 (((y % 4294967296) : Nat) : Int)), (22, .int .u64 (((x % 4294967296) : Nat) : Int))] ?_
 refine xve 24 IntKind.u64 (IntKind.wrap IntKind.u64 ((((x % 4294967296) : Nat) : Int) * (((y % 4294967296) : Nat) : Int))) ((d : Int)) v5 ?_
 refine xz [] [(10, .int .u64 (d : Int))] ?_
 refine xg ?_
 refine xn 2 [] [(26, .int .u64 (((y % 4294967296) : Nat) : Int)), (25, .int .u64 (((x / 4294967296) : Nat) : Int))] ?_
 refine xve 27 IntKind.u64 (IntKind.wrap IntKind.u64 ((((x / 4294967296) : Nat) : Int) * (((y % 4294967296) : Nat) : Int))) ((b : Int)) v6 ?_
 refine xn 4 [] [(28, .int .u64 (d : Int))] ?_
 refine xve 29 IntKind.u64 (shf IntKind.u64 (d : Int) 32) ((((d / 4294967296) : Nat) : Int)) v7 ?_
 refine xve 30 IntKind.u64 (IntKind.wrap IntKind.u64 ((b : Int) + (((d / 4294967296) : Nat) : Int))) ((((b + d / 4294967296) : Nat) : Int)) v8 ?_
 refine xz [] [(11, .int .u64 (((b + d / 4294967296) : Nat) : Int))] ?_
 refine xg ?_
 refine xn 1 [] [(31, .int .u64 (((b + d / 4294967296) : Nat) : Int))] ?_
 refine xve 32 IntKind.u64 (bits BinOp.and IntKind.u64 (((b + d / 4294967296) : Nat) : Int) 4294967295) (((((b + d / 4294967296) % 4294967296) : Nat) : Int)) v9 ?_
 refine xz [] [(12, .int .u64 ((((b + d / 4294967296) % 4294967296) : Nat) : Int))] ?_
 refine xg ?_
 refine xn 1 [] [(33, .int .u64 (((b + d / 4294967296) : Nat) : Int))] ?_
 refine xve 34 IntKind.u64 (shf IntKind.u64 (((b + d / 4294967296) : Nat) : Int) 32) (((((b + d / 4294967296) / 4294967296) : Nat) : Int)) v10 ?_
 refine xz [] [(13, .int .u64 ((((b + d / 4294967296) / 4294967296) : Nat) : Int))] ?_
 refine xg ?_
 refine xn 3 [] [(37, .int .u64 (((y / 4294967296) : Nat) : Int)), (36, .int .u64 (((x % 4294967296) : Nat) : Int)), (35, .int .u64 ((((b + d / 4294967296) % 4294967296) : Nat) : Int))] ?_
 refine xve 38 IntKind.u64 (IntKind.wrap IntKind.u64 ((((x % 4294967296) : Nat) : Int) * (((y / 4294967296) : Nat) : Int))) ((c : Int)) v11 ?_
 refine xve 39 IntKind.u64 (IntKind.wrap IntKind.u64 (((((b + d / 4294967296) % 4294967296) : Nat) : Int) + (c : Int))) (((((b + d / 4294967296) % 4294967296 + c) : Nat) : Int)) v12 ?_
 refine xz [] [(12, .int .u64 ((((b + d / 4294967296) % 4294967296 + c) : Nat) : Int))] ?_
 refine xg ?_
 refine xn 2 [] [(41, .int .u64 (((y / 4294967296) : Nat) : Int)), (40, .int .u64 (((x / 4294967296) : Nat) : Int))] ?_
 refine xve 42 IntKind.u64 (IntKind.wrap IntKind.u64 ((((x / 4294967296) : Nat) : Int) * (((y / 4294967296) : Nat) : Int))) ((a : Int)) v14 ?_
 refine xn 4 [] [(43, .int .u64 ((((b + d / 4294967296) / 4294967296) : Nat) : Int))] ?_
 refine xve 44 IntKind.u64 (IntKind.wrap IntKind.u64 ((a : Int) + ((((b + d / 4294967296) / 4294967296) : Nat) : Int))) ((((a + (b + d / 4294967296) / 4294967296) : Nat) : Int)) v15 ?_
 refine xn 6 [] [(45, .int .u64 ((((b + d / 4294967296) % 4294967296 + c) : Nat) : Int))] ?_
 refine xve 46 IntKind.u64 (shf IntKind.u64 ((((b + d / 4294967296) % 4294967296 + c) : Nat) : Int) 32) ((((((b + d / 4294967296) % 4294967296 + c) / 4294967296) : Nat) : Int)) v13 ?_
 refine xve 47 IntKind.u64 (IntKind.wrap IntKind.u64 ((((a + (b + d / 4294967296) / 4294967296) : Nat) : Int) + (((((b + d / 4294967296) % 4294967296 + c) / 4294967296) : Nat) : Int))) ((((x * y / 18446744073709551616) : Nat) : Int)) v16 ?_
 refine xz [] [(4, .int .u64 (((x * y / 18446744073709551616) : Nat) : Int))] ?_
 refine xg ?_
 refine xn 2 [] [(49, .int .u64 (y : Int)), (48, .int .u64 (x : Int))] ?_
 refine xve 50 IntKind.u64 (IntKind.wrap IntKind.u64 ((x : Int) * (y : Int))) ((((x * y % 18446744073709551616) : Nat) : Int)) v17 ?_
 refine xz [] [(5, .int .u64 (((x * y % 18446744073709551616) : Nat) : Int))] ?_
 refine SW_ret ?_
 refine xe () (.tuple #[.int .u64 (((x * y / 18446744073709551616) : Nat) : Int), .int .u64 (((x * y % 18446744073709551616) : Nat) : Int)]) [] ?_ trivial
 rfl
theorem ad_ve (a b : Nat) : Ve (add64s (a : Int) (b : Int) 0) (((a + b) % 18446744073709551616 : Nat) : Int) ∧ Ve (add64c (a : Int) (b : Int) 0) (((a + b) / 18446744073709551616 : Nat) : Int) := ⟨⟨by simp [add64s]⟩, ⟨by simp [add64c]⟩⟩
theorem nat_rd {l : List Int} (d : Dig B64 l) (i : Nat) : ∃ x : Nat, rd l (i : Int) = (x : Int) ∧ x < 18446744073709551616 := ⟨(rd l i).toNat, by have := (d.rd B64_pos i).1; omega, by have := d.rd B64_pos i; unfold B64 at this; omega⟩
theorem cl_split {k : IntKind} {r rest O : List Int} (h : r ++ rest = O) : cl k r (rest.map (fun n => .int k n)) = cl k O [] := by
 rw [← h]
 simp [cl]
theorem trim_app (l : List Int) : trimL l ++ l.drop (trimL l).length = l := by
 conv => lhs; lhs; rw [trimL_eq_take l]
 exact List.take_append_drop _ _
theorem ct_impl_nat_mul_own (a b : List Int) (A A' : Option Addr) (c c' : Nat) (da : Dig B64 a) (db : Dig B64 b) (hla : a.length ≤ 1000000) (hlb : b.length ≤ 1000000) : ∀ r, Dig B64 r → Norm r → val B64 r = val B64 a * val B64 b → CtO Tryd.prog 119 [.slice A a.length c, .slice A' b.length c'] [Row .u64 A c a, Row .u64 A' c' b] 26 .u64 r := by
 intro r dr nr vr
 refine cm_of Tryd.func119 rfl (by kernel_rfl) (fun B w0 => ?_)
 refine xr [] [(4, .slice none 0 0)] ?_
 refine xg ?_
 refine xn 5 [] [(18, .int .i64 (IntKind.wrap IntKind.i64 ((((List.length a) : Nat) : Int) + (((List.length b) : Nat) : Int))))] ?_
 refine xma 19 26 ((List.length a) + (List.length b)) IntKind.u64 8 (IntKind.wrap IntKind.i64 ((((List.length a) : Nat) : Int) + (((List.length b) : Nat) : Int))) (Nn.w (Nn.add ⟨rfl⟩ ⟨rfl⟩) (by omega)) (by omega) (fun g0 => ?_)
 refine xz [] [(5, .slice (some ⟨g0, 0, none⟩) (List.length a + List.length b) (List.length a + List.length b))] ?_
 refine SW_seq ?_
 refine xr [] [(22, .int .i64 0), (21, .int .i64 (((List.length a) : Nat) : Int)), (20, .slice A (List.length a) c)] ?_
 refine SW_block ?_
 refine SW_loopn (fun m s => ∃ (i : Nat) (O : List Int), m + i = a.length ∧ O.length = a.length + b.length ∧ Dig B64 O ∧ Clear O (i + b.length) ∧ val B64 O = val B64 (a.take i) * val B64 b ∧ Weak s ⟨[(0, .slice A a.length c), (1, .slice A' b.length c'), (5, .slice (some ⟨g0, 0, none⟩) (a.length + b.length) (a.length + b.length)), (20, .slice A a.length c), (21, .int .i64 a.length), (22, .int .i64 (i : Int))], [⟨g0, cl .u64 O [], 26⟩], [Row .u64 A c a, Row .u64 A' c' b]⟩) a.length ⟨0, List.replicate (a.length + b.length) 0, rfl, by simp, Dig.zeros B64_pos _, Clear.zeros _ _, by rw [val_zeros]; simp [val], ?_⟩ (fun m s ⟨i, O, h1, h2, h3, h4, h5, hw⟩ => ?_)
 ·exact xw (zsS zi0 (zsS (ziS zi0) zs0))
 ·refine SW_weak hw ?_
  clear hw
  by_cases hi : i < a.length
  ·have z1 : decide ((i : Int) < (a.length : Int)) = true := decide_eq_true (by omega)
   refine SW_know zi0 (fun w h => row_at h (by omega)) (fun ⟨ad, e⟩ => ?_)
   subst e
   obtain ⟨m, rfl⟩ : ∃ m', m = m' + 1 := ⟨m - 1, by omega⟩
   obtain ⟨x, hx, hxB⟩ := nat_rd da i
   have v1 : Ve (rd a (i : Int)) (x : Int) := ⟨hx⟩
   have vi : Ve (IntKind.i64.wrap ((i : Int) + 1)) ((i + 1 : Nat) : Int) := veI (by omega) (by omega)
   refine xr [] [(23, .bool (decide ((i : Int) < (((List.length a) : Nat) : Int))))] ?_
   refine SW_seq ?_
   refine xst z1 ?_
   refine SW_skip ?_
   refine SW_seq ?_
   refine SW_block ?_
   refine xg ?_
   refine xn 1 [] [(24, .int .i64 (i : Int))] ?_
   refine xfi 25 26 (ad) (List.length a) (c) (i) IntKind.i64 ((i : Int)) ⟨rfl⟩ (by omega) ?_
   refine xfle 26 zi0 (i) ((x : Int)) v1 (by omega) ?_
   refine xz [] [(7, .int .u64 (x : Int)), (6, .int .i64 (i : Int))] ?_
   refine xr [] [(8, .int .u64 0)] ?_
   refine SW_seq ?_
   refine xr [] [(29, .int .i64 0), (28, .int .i64 (((List.length b) : Nat) : Int)), (27, .slice A' (List.length b) c')] ?_
   refine SW_block ?_
   refine SW_loopn (fun k s => ∃ (j : Nat) (O : List Int) (cy : Nat), k + j = b.length ∧ O.length = a.length + b.length ∧ Dig B64 O ∧ Clear O (i + b.length) ∧ cy < 18446744073709551616 ∧ val B64 O + B64 ^ (i + j) * ((cy : Nat) : Int).toNat = val B64 (a.take i) * val B64 b + B64 ^ i * ((x : Int).toNat * val B64 (b.take j)) ∧ Weak s ⟨[(0, .slice (some ad) a.length c), (1, .slice A' b.length c'), (5, .slice (some ⟨g0, 0, none⟩) (a.length + b.length) (a.length + b.length)), (6, .int .i64 (i : Int)), (7, .int .u64 (x : Int)), (8, .int .u64 (cy : Int)), (20, .slice (some ad) a.length c), (21, .int .i64 a.length), (22, .int .i64 (i : Int)), (27, .slice A' b.length c'), (28, .int .i64 b.length), (29, .int .i64 (j : Int))], [⟨g0, cl .u64 O [], 26⟩], [Row .u64 (some ad) c a, Row .u64 A' c' b]⟩) b.length ⟨0, O, 0, rfl, h2, h3, h4, by decide, by simp [val, h5], ?_⟩ (fun k s ⟨j, O, cy, k1, k2, k3, k4, k5, k6, hw⟩ => ?_)
   ·exact xw (zsS zi0 (zsS (ziS zi0) zs0))
   ·refine SW_weak hw ?_
    clear hw
    by_cases hj : j < b.length
    ·have z2 : decide ((j : Int) < (b.length : Int)) = true := decide_eq_true (by omega)
     refine SW_know (ziS zi0) (fun w h => row_at h (by omega)) (fun ⟨ad', e⟩ => ?_)
     subst e
     obtain ⟨k, rfl⟩ : ∃ k', k = k' + 1 := ⟨k - 1, by omega⟩
     obtain ⟨y, hy, hyB⟩ := nat_rd db j
     obtain ⟨o, ho, hoB⟩ := nat_rd k3 (i + j)
     have v2 : Ve (rd b (j : Int)) (y : Int) := ⟨hy⟩
     have v3 : Ve (rd O ((i + j : Nat) : Int)) (o : Int) := ⟨ho⟩
     have vj : Ve (IntKind.i64.wrap ((j : Int) + 1)) ((j + 1 : Nat) : Int) := veI (by omega) (by omega)
     have hP : x * y < 18446744073709551616 * 18446744073709551616 := Nat.mul_lt_mul'' hxB hyB
     obtain ⟨v4, v5⟩ := ad_ve (x * y % 18446744073709551616) o
     obtain ⟨v6, v7⟩ := ad_ve ((x * y % 18446744073709551616 + o) % 18446744073709551616) cy
     have hcy : (x * y / 18446744073709551616) + (x * y % 18446744073709551616 + o) / 18446744073709551616 + ((x * y % 18446744073709551616 + o) % 18446744073709551616 + cy) / 18446744073709551616 < B64 :=
      mul_carry (B := B64) (x := ((x * y % 18446744073709551616 + o) % 18446744073709551616 + cy) % 18446744073709551616) (p := x) (q := y) (o := o) (c := cy) B64_pos hxB hyB hoB k5 (by unfold B64; omega)
     have hcy' : (x * y / 18446744073709551616) + (x * y % 18446744073709551616 + o) / 18446744073709551616 + ((x * y % 18446744073709551616 + o) % 18446744073709551616 + cy) / 18446744073709551616 < 18446744073709551616 := hcy
     have v8 : Ve (IntKind.u64.wrap (((x * y / 18446744073709551616 : Nat) : Int) + (((x * y % 18446744073709551616 + o) / 18446744073709551616 : Nat) : Int))) ((x * y / 18446744073709551616 + (x * y % 18446744073709551616 + o) / 18446744073709551616 : Nat) : Int) := veU (by omega) (by omega)
     have v9 : Ve (IntKind.u64.wrap (((x * y / 18446744073709551616 + (x * y % 18446744073709551616 + o) / 18446744073709551616 : Nat) : Int) + ((((x * y % 18446744073709551616 + o) % 18446744073709551616 + cy) / 18446744073709551616 : Nat) : Int))) ((x * y / 18446744073709551616 + (x * y % 18446744073709551616 + o) / 18446744073709551616 + ((x * y % 18446744073709551616 + o) % 18446744073709551616 + cy) / 18446744073709551616 : Nat) : Int) := veU (by omega) (by omega)
     have hst := mul_step (B := B64) (a := a) (b := b) (out := O) (i := i) (j := j) (ai := (x : Int)) (c := (cy : Int)) (x := ((((x * y % 18446744073709551616 + o) % 18446744073709551616 + cy) % 18446744073709551616 : Nat) : Int)) (c' := ((x * y / 18446744073709551616 + (x * y % 18446744073709551616 + o) / 18446744073709551616 + ((x * y % 18446744073709551616 + o) % 18446744073709551616 + cy) / 18446744073709551616 : Nat) : Int)) (by omega) k6 (by
      rw [hy, ho]
      simp only [Int.toNat_natCast]
      unfold B64
      omega)
     refine xr [] [(30, .bool (decide ((j : Int) < (((List.length b) : Nat) : Int))))] ?_
     refine SW_seq ?_
     refine xst z2 ?_
     refine SW_skip ?_
     refine SW_seq ?_
     refine SW_block ?_
     refine xg ?_
     refine xn 1 [] [(31, .int .i64 (j : Int))] ?_
     refine xfi 32 26 (ad') (List.length b) (c') (j) IntKind.i64 ((j : Int)) ⟨rfl⟩ (by omega) ?_
     refine xfle 33 (ziS zi0) (j) ((y : Int)) v2 (by omega) ?_
     refine xz [] [(10, .int .u64 (y : Int)), (9, .int .i64 (j : Int))] ?_
     refine xg ?_
     refine xn 2 [] [(36, .int .u64 (y : Int)), (35, .int .u64 (x : Int))] ?_
     refine xcv 37 (ct_bits_Mul64 (x) (y) hxB hyB) zs0 ?_
     refine xz [] [(12, .int .u64 (((x * y % 18446744073709551616) : Nat) : Int)), (11, .int .u64 (((x * y / 18446744073709551616) : Nat) : Int))] ?_
     refine xg ?_
     refine xn 5 [] [(45, .int .i64 (IntKind.wrap IntKind.i64 ((i : Int) + (j : Int)))), (42, .slice (some ⟨g0, 0, none⟩) (List.length a + List.length b) (List.length a + List.length b)), (41, .int .u64 (((x * y % 18446744073709551616) : Nat) : Int))] ?_
     refine xoi 46 26 (g0) (List.length a + List.length b) (List.length a + List.length b) ((i) + (j)) IntKind.i64 (IntKind.wrap IntKind.i64 ((i : Int) + (j : Int))) (Nn.w (Nn.add ⟨rfl⟩ ⟨rfl⟩) (by omega)) (by omega) ?_
     refine xole 47 0 (g0) (i + j) IntKind.u64 (O) ([]) 26 ((o : Int)) v3 (by first | omega | (simp <;> omega)) ?_
     refine xad 48 ((((x * y % 18446744073709551616) : Nat) : Int)) ((o : Int)) (0) (by omega) ?_
     refine xn 9 [] [(40, .tuple #[.int .u64 (add64s (((x * y % 18446744073709551616) : Nat) : Int) (o : Int) 0), .int .u64 (add64c (((x * y % 18446744073709551616) : Nat) : Int) (o : Int) 0)])] ?_
     refine xve 49 IntKind.u64 (add64s (((x * y % 18446744073709551616) : Nat) : Int) (o : Int) 0) (((((x * y % 18446744073709551616 + o) % 18446744073709551616) : Nat) : Int)) v4 ?_
     refine xve 50 IntKind.u64 (add64c (((x * y % 18446744073709551616) : Nat) : Int) (o : Int) 0) (((((x * y % 18446744073709551616 + o) / 18446744073709551616) : Nat) : Int)) v5 ?_
     refine xz [] [(13, .int .u64 ((((x * y % 18446744073709551616 + o) / 18446744073709551616) : Nat) : Int)), (12, .int .u64 ((((x * y % 18446744073709551616 + o) % 18446744073709551616) : Nat) : Int))] ?_
     refine xg ?_
     refine xn 2 [] [(52, .int .u64 ((((x * y % 18446744073709551616 + o) / 18446744073709551616) : Nat) : Int)), (51, .int .u64 (((x * y / 18446744073709551616) : Nat) : Int))] ?_
     refine xve 53 IntKind.u64 (IntKind.wrap IntKind.u64 ((((x * y / 18446744073709551616) : Nat) : Int) + ((((x * y % 18446744073709551616 + o) / 18446744073709551616) : Nat) : Int))) ((((x * y / 18446744073709551616 + (x * y % 18446744073709551616 + o) / 18446744073709551616) : Nat) : Int)) v8 ?_
     refine xz [] [(11, .int .u64 (((x * y / 18446744073709551616 + (x * y % 18446744073709551616 + o) / 18446744073709551616) : Nat) : Int))] ?_
     refine xg ?_
     refine xn 2 [] [(56, .int .u64 (cy : Int)), (55, .int .u64 ((((x * y % 18446744073709551616 + o) % 18446744073709551616) : Nat) : Int))] ?_
     refine xad 57 (((((x * y % 18446744073709551616 + o) % 18446744073709551616) : Nat) : Int)) ((cy : Int)) (0) (by omega) ?_
     refine xn 4 [] [(54, .tuple #[.int .u64 (add64s ((((x * y % 18446744073709551616 + o) % 18446744073709551616) : Nat) : Int) (cy : Int) 0), .int .u64 (add64c ((((x * y % 18446744073709551616 + o) % 18446744073709551616) : Nat) : Int) (cy : Int) 0)])] ?_
     refine xve 58 IntKind.u64 (add64s ((((x * y % 18446744073709551616 + o) % 18446744073709551616) : Nat) : Int) (cy : Int) 0) ((((((x * y % 18446744073709551616 + o) % 18446744073709551616 + cy) % 18446744073709551616) : Nat) : Int)) v6 ?_
     refine xve 59 IntKind.u64 (add64c ((((x * y % 18446744073709551616 + o) % 18446744073709551616) : Nat) : Int) (cy : Int) 0) ((((((x * y % 18446744073709551616 + o) % 18446744073709551616 + cy) / 18446744073709551616) : Nat) : Int)) v7 ?_
     refine xz [] [(13, .int .u64 (((((x * y % 18446744073709551616 + o) % 18446744073709551616 + cy) / 18446744073709551616) : Nat) : Int)), (12, .int .u64 (((((x * y % 18446744073709551616 + o) % 18446744073709551616 + cy) % 18446744073709551616) : Nat) : Int))] ?_
     refine SW_region ?_
     refine xn 7 [] [(66, .int .u64 (((((x * y % 18446744073709551616 + o) % 18446744073709551616 + cy) / 18446744073709551616) : Nat) : Int)), (65, .int .u64 (((x * y / 18446744073709551616 + (x * y % 18446744073709551616 + o) / 18446744073709551616) : Nat) : Int)), (64, .int .u64 (((((x * y % 18446744073709551616 + o) % 18446744073709551616 + cy) % 18446744073709551616) : Nat) : Int)), (63, .int .i64 (IntKind.wrap IntKind.i64 ((i : Int) + (j : Int)))), (60, .slice (some ⟨g0, 0, none⟩) (List.length a + List.length b) (List.length a + List.length b))] ?_
     refine xve 67 IntKind.u64 (IntKind.wrap IntKind.u64 ((((x * y / 18446744073709551616 + (x * y % 18446744073709551616 + o) / 18446744073709551616) : Nat) : Int) + (((((x * y % 18446744073709551616 + o) % 18446744073709551616 + cy) / 18446744073709551616) : Nat) : Int))) ((((x * y / 18446744073709551616 + (x * y % 18446744073709551616 + o) / 18446744073709551616 + ((x * y % 18446744073709551616 + o) % 18446744073709551616 + cy) / 18446744073709551616) : Nat) : Int)) v9 ?_
     refine xoi 68 26 (g0) (List.length a + List.length b) (List.length a + List.length b) ((i) + (j)) IntKind.i64 (IntKind.wrap IntKind.i64 ((i : Int) + (j : Int))) (Nn.w (Nn.add ⟨rfl⟩ ⟨rfl⟩) (by omega)) (by omega) ?_
     refine xos 0 (g0) (i + j) IntKind.u64 (O) ([]) 26 ((((((x * y % 18446744073709551616 + o) % 18446744073709551616 + cy) % 18446744073709551616) : Nat) : Int)) (by first | omega | (simp <;> omega)) ?_
     refine xz [] [(8, .int .u64 (((x * y / 18446744073709551616 + (x * y % 18446744073709551616 + o) / 18446744073709551616 + ((x * y % 18446744073709551616 + o) % 18446744073709551616 + cy) / 18446744073709551616) : Nat) : Int))] ?_
     refine SW_region ?_
     refine xve 69 IntKind.i64 (IntKind.wrap IntKind.i64 ((j : Int) + 1)) ((((j + 1) : Nat) : Int)) vj ?_
     refine xz [] [(29, .int .i64 (((j + 1) : Nat) : Int))] ?_
     refine ⟨k, by omega, j + 1, _, _, by omega, by rw [List.length_set]; exact k2, k3.set _ (cast_dig (Nat.mod_lt _ (by decide))), k4.set (by omega), hcy', hst, ?_⟩
     exact xw (zsS zi0 (zsS (ziS zi0) zs0))
    ·have z2 : decide ((j : Int) < (b.length : Int)) = false := decide_eq_false (by omega)
     obtain rfl : j = b.length := by omega
     obtain rfl : k = 0 := by omega
     have hend := mul_end (B := B64) (a := a) (b := b) (out := O) (i := i) (c := (cy : Int)) (by omega) (k4 _ (Nat.le_refl _)) (by rw [hx]; exact k6)
     refine xr [] [(30, .bool (decide ((((List.length b) : Nat) : Int) < (((List.length b) : Nat) : Int))))] ?_
     refine SW_seq ?_
     refine xsf z2 ?_
     refine SW_exit ?_
     refine SW_region ?_
     refine xn 6 [] [(75, .int .u64 (cy : Int)), (74, .int .i64 (IntKind.wrap IntKind.i64 ((i : Int) + (((List.length b) : Nat) : Int)))), (70, .slice (some ⟨g0, 0, none⟩) (List.length a + List.length b) (List.length a + List.length b))] ?_
     refine xoi 76 26 (g0) (List.length a + List.length b) (List.length a + List.length b) ((i) + (List.length b)) IntKind.i64 (IntKind.wrap IntKind.i64 ((i : Int) + (((List.length b) : Nat) : Int))) (Nn.w (Nn.add ⟨rfl⟩ ⟨rfl⟩) (by omega)) (by omega) ?_
     refine xos 0 (g0) (i + List.length b) IntKind.u64 (O) ([]) 26 ((cy : Int)) (by first | omega | (simp <;> omega)) ?_
     refine xz [] [] ?_
     refine SW_region ?_
     refine xve 77 IntKind.i64 (IntKind.wrap IntKind.i64 ((i : Int) + 1)) ((((i + 1) : Nat) : Int)) vi ?_
     refine xz [] [(22, .int .i64 (((i + 1) : Nat) : Int))] ?_
     refine ⟨m, by omega, i + 1, _, by omega, by rw [List.length_set]; exact k2, k3.set _ (cast_dig k5), ?_, hend, ?_⟩
     ·have := k4.more (cy : Int)
      rwa [show i + b.length + 1 = i + 1 + b.length by omega] at this
     exact xw (zsS zi0 (zsS (ziS zi0) zs0))
  ·have z1 : decide ((i : Int) < (a.length : Int)) = false := decide_eq_false (by omega)
   obtain rfl : i = a.length := by omega
   obtain rfl : m = 0 := by omega
   rw [List.take_length] at h5
   have er : trimL O = r := norm_inj B64_pos h3.trim dr (norm_trim _) nr (by rw [val_trim, h5, vr])
   have ct := ct_impl_trimmed_own g0 O O.length (by omega) (Nat.le_refl _)
   rw [er] at ct
   have tk := trim_app O
   rw [er] at tk
   rw [← h2]
   refine xr [] [(23, .bool (decide ((((List.length a) : Nat) : Int) < (((List.length a) : Nat) : Int))))] ?_
   refine SW_seq ?_
   refine xsf z1 ?_
   refine SW_exit ?_
   refine xg ?_
   refine xn 1 [] [(78, .slice (some ⟨g0, 0, none⟩) (List.length O) (List.length O))] ?_
   refine xcm 79 [true] ct zs0 (fun z2 => ?_)
   refine xz [] [(4, .slice (some ⟨g0, 0, none⟩) (List.length r) (List.length r))] ?_
   refine SW_ret ?_
   refine xmeg (.slice (some ⟨g0, 0, none⟩) (List.length r) (List.length r)) [] ?_
   refine ⟨(g0, (O.drop r.length).map (fun n => .int .u64 n)), [true], rfl, ?_, zs0⟩
   show [(⟨g0, cl .u64 r ((O.drop r.length).map (fun n => .int .u64 n)), _⟩ : Box)] = [⟨g0, cl .u64 O [], _⟩]
   rw [cl_split tk]
   rfl
theorem ct_impl_nat_mul_rows (a b : List Int) (A A' : Option Addr) (c c' : Nat) (da : Dig B64 a) (db : Dig B64 b) (hla : a.length ≤ 1000000) (hlb : b.length ≤ 1000000) : ∀ r, Dig B64 r → Norm r → val B64 r = val B64 a * val B64 b → CtR Tryd.prog 119 [.slice A a.length c, .slice A' b.length c'] [Row .u64 A c a, Row .u64 A' c' b] .u64 r := fun r dr nr vr =>
 ctR_of_O (by
  have h1 : val B64 r < B64 ^ (a.length + b.length) := by
   rw [vr, Nat.pow_add]
   exact Nat.mul_lt_mul'' (val_lt da) (val_lt db)
  have := len_le_of_val dr nr h1
  omega) (ct_impl_nat_mul_own a b A A' c c' da db hla hlb r dr nr vr)
end Go.Proofs.YtgknelgplmohoaaDoor.M
end
section
namespace Go.Proofs.YtgknelgplmohoaaDoor.M
open Go.RowKit Go.Proofs.YtgknelgplmohoaaDoor.G Go.Proofs.YtgknelgplmohoaaDoorV.PrintWords Go.Proofs.YtgknelgplmohoaaDoorV.PrintLast Go.Proofs.YtgknelgplmohoaaDoor.X
set_option linter.unusedVariables false
set_option linter.unusedSimpArgs false
theorem quo_parts {D d1 : Nat} (hd : 0 < d1) (hdl : d1 < 4294967296) (hD1 : D < 18446744073709551616) : D / d1 < 18446744073709551616 ∧ D / d1 * d1 < 18446744073709551616 ∧ D / d1 * d1 + D % d1 = D ∧ D % d1 < 4294967296 := by
 have h1 := Nat.div_le_self D d1
 have h2 := Nat.div_add_mod D d1
 have h3 := Nat.mod_lt D hd
 rw [Nat.mul_comm] at h2
 exact ⟨by omega, by omega, h2, by omega⟩
theorem wrap_nat (x : Int) : ∃ z : Nat, Ve (IntKind.u64.wrap x) (z : Int) := ⟨(IntKind.u64.wrap x).toNat, ⟨by rw [wrap_u64]; omega⟩⟩
theorem ct_bits_Div64 (hi lo y : Nat) (hlo : lo < 18446744073709551616) (hy : y < 18446744073709551616) (hh : hi < y) : CtV Tryd.prog 150 [.int .u64 (hi : Int), .int .u64 (lo : Int), .int .u64 (y : Int)] [] (.tuple #[.int .u64 (((hi * 18446744073709551616 + lo) / y : Nat) : Int), .int .u64 (((hi * 18446744073709551616 + lo) % y : Nat) : Int)]) := by
 refine ct_of Tryd.func150 rfl (by kernel_rfl) (fun B w0 => ?_)
 have c1 : ((y : Int) == 0) = false := by rw [beq_eq_false_iff_ne]; omega
 have c2 : decide ((y : Int) ≤ (hi : Int)) = false := decide_eq_false (by omega)
 by_cases hz : hi = 0
 ·subst hz
  have c3 : (((0 : Nat) : Int) == 0) = true := rfl
  refine xr [] [(7, .int .u64 0), (6, .int .u64 0)] ?_
  refine SW_seq ?_
  refine xr [] [(20, .bool ((y : Int) == 0))] ?_
  refine xsf c1 ?_
  refine SW_skip ?_
  refine SW_seq ?_
  refine xr [] [(24, .bool (decide ((y : Int) ≤ 0)))] ?_
  refine xsf c2 ?_
  refine SW_skip ?_
  refine SW_seq ?_
  refine xr [] [(27, .bool true)] ?_
  refine xs1 ?_
  refine xd (fun hB => ?_)
  refine xdk [(0, []), (1, []), (3, []), (4, [])] [(32, .int .u64 (y : Int)), (31, .int .u64 (lo : Int)), (29, .int .u64 (y : Int)), (28, .int .u64 (lo : Int))] hB ?_
  refine xdqo 2 hB 30 ((lo)) ((y)) (by omega) (by omega) ?_
  refine xdk [(6, [])] [(6, .int .u64 (((lo / y) : Nat) : Int))] hB ?_
  refine xdqr 5 hB 33 ((lo)) ((y)) (by omega) (by omega) ?_
  refine xdk [(7, [])] [(7, .int .u64 (((lo % y) : Nat) : Int))] hB ?_
  refine xdz ?_
  refine SW_ret ?_
  refine xe () (.tuple #[.int .u64 (((lo / y) : Nat) : Int), .int .u64 (((lo % y) : Nat) : Int)]) [] ?_ trivial
  rw [Nat.zero_mul, Nat.zero_add]
 ·have c3 : ((hi : Int) == 0) = false := by rw [beq_eq_false_iff_ne]; omega
  obtain ⟨m, hm, hm64⟩ := bits_of y hy
  have hm0 : 0 < m := hm.pos (by omega)
  obtain ⟨s, hs⟩ : ∃ s, s = 64 - m := ⟨_, rfl⟩
  have lz := ct_bits_LeadingZeros64 y hy m hm
  rw [← hs] at lz
  have hs63 : s ≤ 63 := by omega
  have hD1 : y * 2 ^ s < 18446744073709551616 := by
   have := Nat.mul_lt_mul_of_pos_right hm.1 (show 0 < 2 ^ s from Nat.pow_pos (by decide))
   rwa [← Nat.pow_add, show m + s = 64 by omega] at this
  have hD0 : 9223372036854775808 ≤ y * 2 ^ s := by
   have h0 : 2 ^ (m - 1) ≤ y := by rcases hm.2 with h | h <;> omega
   have := Nat.mul_le_mul_right (2 ^ s) h0
   rwa [← Nat.pow_add, show m - 1 + s = 63 by omega] at this
  obtain ⟨n1, n2, n3, n4⟩ := norm_num64 hs63 hlo hh hD1
  have v1 : Ve (IntKind.u64.wrap (s : Int)) (s : Int) := veU rfl (by omega)
  have v2 : Ve (shl .u64 (y : Int) (s : Int)) ((y * 2 ^ s : Nat) : Int) := ⟨by rw [shl_nat _ _ (by omega), Nat.mod_eq_of_lt hD1]⟩
  have v5 : Ve (shl .u64 (hi : Int) (s : Int)) ((hi * 2 ^ s : Nat) : Int) := ⟨by rw [shl_nat _ _ (by omega), Nat.mod_eq_of_lt n1]⟩
  have v6 : Ve (IntKind.u64.wrap (64 - (s : Int))) ((64 - s : Nat) : Int) := veU (by omega) (by omega)
  have v7 : Ve (shf .u64 (lo : Int) ((64 - s : Nat) : Int)) ((lo / 2 ^ (64 - s) : Nat) : Int) := ⟨shf_nat _ _ (by omega)⟩
  have v8 : Ve (bits .or .u64 ((hi * 2 ^ s : Nat) : Int) ((lo / 2 ^ (64 - s) : Nat) : Int)) ((hi * 2 ^ s + lo / 2 ^ (64 - s) : Nat) : Int) := ⟨or_nat s _ _ (by omega) n1 (Nat.dvd_mul_left _ _) n2⟩
  have v9 : Ve (shl .u64 (lo : Int) (s : Int)) ((lo * 2 ^ s % 18446744073709551616 : Nat) : Int) := ⟨shl_nat _ _ (by omega)⟩
  have hX : (hi * 18446744073709551616 + lo) / y = (hi * 18446744073709551616 + lo) * 2 ^ s / (y * 2 ^ s) := (Nat.mul_div_mul_right _ _ (Nat.pow_pos (by decide))).symm
  have hX2 : (hi * 18446744073709551616 + lo) % y = (hi * 18446744073709551616 + lo) * 2 ^ s % (y * 2 ^ s) / 2 ^ s := by rw [Nat.mul_mod_mul_right, Nat.mul_div_cancel _ (Nat.pow_pos (by decide))]
  rw [hX, hX2, n3]
  have hL : lo * 2 ^ s % 18446744073709551616 < 18446744073709551616 := Nat.mod_lt _ (by decide)
  generalize hi * 2 ^ s + lo / 2 ^ (64 - s) = n at v8 n4
  generalize lo * 2 ^ s % 18446744073709551616 = L at v9 hL
  generalize y * 2 ^ s = D at v2 hD0 hD1 n4
  clear hX hX2 n3
  have v3 := high_ve D
  have v4 := low_ve D hD1
  have v10 := high_ve L
  have v11 := low_ve L hL
  have hd1 : 2147483648 ≤ D / 4294967296 ∧ D / 4294967296 < 4294967296 := by omega
  have hd0 : D % 4294967296 < 4294967296 := by omega
  have hDe : D = D / 4294967296 * 4294967296 + D % 4294967296 := by omega
  have hu : L / 4294967296 < 4294967296 := by omega
  have hu0 : L % 4294967296 < 4294967296 := by omega
  have hLe : n * 18446744073709551616 + L = (n * 4294967296 + L / 4294967296) * 4294967296 + L % 4294967296 := by omega
  rw [hLe]
  clear hLe
  generalize D / 4294967296 = d1 at *
  generalize D % 4294967296 = d0 at *
  generalize L / 4294967296 = u at *
  generalize L % 4294967296 = u0 at *
  have hD : 0 < D := by omega
  have hn64 : n < 18446744073709551616 := by omega
  obtain ⟨t1, t2⟩ := two_steps (n := n) (u := u) (u0 := u0) (B := 4294967296) hD
  rw [t1, t2]
  clear t1 t2
  obtain ⟨p1, p2, p3, p4⟩ := quo_parts (D := n) (d1 := d1) (by omega) hd1.2 hn64
  have v12 : Ve (IntKind.u64.wrap (((n / d1 : Nat) : Int) * (d1 : Int))) ((n / d1 * d1 : Nat) : Int) := veU (by rw [← Int.natCast_mul]) p2
  have v13 : Ve (IntKind.u64.wrap ((n : Int) - ((n / d1 * d1 : Nat) : Int))) ((n % d1 : Nat) : Int) := veU (by omega) (by omega)
  have hr1 := Nat.mod_lt (n * 4294967296 + u) hD
  have hr2 := Nat.div_add_mod (n * 4294967296 + u) D
  rw [Nat.mul_comm] at hr2
  have hr3 := d64_rest n u ((n * 4294967296 + u) / D) D (by omega) (by omega)
  rw [show n * 4294967296 + u - (n * 4294967296 + u) / D * D = (n * 4294967296 + u) % D by omega] at hr3
  have hq1 : (n * 4294967296 + u) / D < 4294967296 := div_lt_base n4 hu
  obtain ⟨q1, eq1⟩ : ∃ q1, (n * 4294967296 + u) / D = q1 := ⟨_, rfl⟩
  obtain ⟨m2, em2⟩ : ∃ m2, (n * 4294967296 + u) % D = m2 := ⟨_, rfl⟩
  have f1 : (n * 4294967296 + u) / D ≤ n / d1 := by rw [hDe]; exact est_floor (by omega) hu
  have f2 : n / d1 ≤ 4294967297 := est_start (B := 4294967296) (d0 := d0) (by omega) hd0 (by omega)
  rw [eq1, em2]
  rw [em2] at hr1
  rw [eq1, em2] at hr3
  rw [eq1] at hq1
  refine xr [] [(7, .int .u64 0), (6, .int .u64 0)] ?_
  refine SW_seq ?_
  refine xr [] [(20, .bool ((y : Int) == 0))] ?_
  refine xsf c1 ?_
  refine SW_skip ?_
  refine SW_seq ?_
  refine xr [] [(24, .bool (decide ((y : Int) ≤ (hi : Int))))] ?_
  refine xsf c2 ?_
  refine SW_skip ?_
  refine SW_seq ?_
  refine xr [] [(27, .bool ((hi : Int) == 0))] ?_
  refine xsf c3 ?_
  refine SW_skip ?_
  refine xg ?_
  refine xn 1 [] [(34, .int .u64 (y : Int))] ?_
  refine xcv 35 lz zs0 ?_
  refine xve 36 IntKind.u64 (IntKind.wrap IntKind.u64 (s : Int)) ((s : Int)) v1 ?_
  refine xz [] [(8, .int .u64 (s : Int))] ?_
  refine xg ?_
  refine xn 2 [] [(38, .int .u64 (s : Int)), (37, .int .u64 (y : Int))] ?_
  refine xve 39 IntKind.u64 (shl IntKind.u64 (y : Int) (s : Int)) ((D : Int)) v2 ?_
  refine xz [] [(2, .int .u64 (D : Int))] ?_
  refine xg ?_
  refine xn 1 [] [(40, .int .u64 (D : Int))] ?_
  refine xve 41 IntKind.u64 (shf IntKind.u64 (D : Int) 32) ((d1 : Int)) v3 ?_
  refine xz [] [(9, .int .u64 (d1 : Int))] ?_
  refine xg ?_
  refine xn 1 [] [(42, .int .u64 (D : Int))] ?_
  refine xve 43 IntKind.u64 (bits BinOp.and IntKind.u64 (D : Int) 4294967295) ((d0 : Int)) v4 ?_
  refine xz [] [(10, .int .u64 (d0 : Int))] ?_
  refine xg ?_
  refine xn 2 [] [(45, .int .u64 (s : Int)), (44, .int .u64 (hi : Int))] ?_
  refine xve 46 IntKind.u64 (shl IntKind.u64 (hi : Int) (s : Int)) ((((hi * 2 ^ s) : Nat) : Int)) v5 ?_
  refine xn 5 [] [(48, .int .u64 (s : Int)), (47, .int .u64 (lo : Int))] ?_
  refine xve 49 IntKind.u64 (IntKind.wrap IntKind.u64 (64 - (s : Int))) ((((64 - s) : Nat) : Int)) v6 ?_
  refine xve 50 IntKind.u64 (shf IntKind.u64 (lo : Int) (((64 - s) : Nat) : Int)) ((((lo / 2 ^ (64 - s)) : Nat) : Int)) v7 ?_
  refine xve 51 IntKind.u64 (bits BinOp.or IntKind.u64 (((hi * 2 ^ s) : Nat) : Int) (((lo / 2 ^ (64 - s)) : Nat) : Int)) ((n : Int)) v8 ?_
  refine xz [] [(11, .int .u64 (n : Int))] ?_
  refine xg ?_
  refine xn 2 [] [(53, .int .u64 (s : Int)), (52, .int .u64 (lo : Int))] ?_
  refine xve 54 IntKind.u64 (shl IntKind.u64 (lo : Int) (s : Int)) ((L : Int)) v9 ?_
  refine xz [] [(12, .int .u64 (L : Int))] ?_
  refine xg ?_
  refine xn 1 [] [(55, .int .u64 (L : Int))] ?_
  refine xve 56 IntKind.u64 (shf IntKind.u64 (L : Int) 32) ((u : Int)) v10 ?_
  refine xz [] [(13, .int .u64 (u : Int))] ?_
  refine xg ?_
  refine xn 1 [] [(57, .int .u64 (L : Int))] ?_
  refine xve 58 IntKind.u64 (bits BinOp.and IntKind.u64 (L : Int) 4294967295) ((u0 : Int)) v11 ?_
  refine xz [] [(14, .int .u64 (u0 : Int))] ?_
  refine xg ?_
  refine xn 2 [] [(60, .int .u64 (d1 : Int)), (59, .int .u64 (n : Int))] ?_
  refine xqo 61 ((n)) ((d1)) (by omega) (by omega) ?_
  refine xz [] [(15, .int .u64 (((n / d1) : Nat) : Int))] ?_
  refine xg ?_
  refine xn 3 [] [(64, .int .u64 (d1 : Int)), (63, .int .u64 (((n / d1) : Nat) : Int)), (62, .int .u64 (n : Int))] ?_
  refine xve 65 IntKind.u64 (IntKind.wrap IntKind.u64 ((((n / d1) : Nat) : Int) * (d1 : Int))) ((((n / d1 * d1) : Nat) : Int)) v12 ?_
  refine xve 66 IntKind.u64 (IntKind.wrap IntKind.u64 ((n : Int) - (((n / d1 * d1) : Nat) : Int))) ((((n % d1) : Nat) : Int)) v13 ?_
  refine xz [] [(16, .int .u64 (((n % d1) : Nat) : Int))] ?_
  refine SW_cut (fun s' => Weak s' ⟨[(2, .int .u64 (D : Int)), (8, .int .u64 (s : Int)), (9, .int .u64 (d1 : Int)), (10, .int .u64 (d0 : Int)), (11, .int .u64 (n : Int)), (13, .int .u64 (u : Int)), (14, .int .u64 (u0 : Int)), (15, .int .u64 (q1 : Int))], [], []⟩) ?_ ?_
  ·refine SW_block ?_
   refine SW_loopn (fun M s' => ∃ q r : Nat, q = M ∧ q * d1 + r = n ∧ r < 4294967296 ∧ (n * 4294967296 + u) / D ≤ q ∧ q ≤ 4294967297 ∧ Weak s' ⟨[(2, .int .u64 (D : Int)), (8, .int .u64 (s : Int)), (9, .int .u64 (d1 : Int)), (10, .int .u64 (d0 : Int)), (11, .int .u64 (n : Int)), (13, .int .u64 (u : Int)), (14, .int .u64 (u0 : Int)), (15, .int .u64 (q : Int)), (16, .int .u64 (r : Int))], [], []⟩) (n / d1) ⟨n / d1, n % d1, rfl, p3, p4, f1, f2, ?_⟩ (fun M s' ⟨q, r, k1, k2, k3, k4, k5, hw⟩ => ?_)
   ·exact xw zs0
   ·refine SW_weak hw ?_
    clear hw
    have back : (4294967296 ≤ q ∨ 4294967296 * r + u < q * d0) → ∃ p, q = p + 1 ∧ p * d1 + (r + d1) = n ∧ (n * 4294967296 + u) / D ≤ p ∧ p ≤ 4294967296 ∧ (4294967296 ≤ r + d1 → p = (n * 4294967296 + u) / D) := fun hc => d64_num hDe hd1 hd0 hu n4 k2 k4 k5 k3 hc
    have w1 : Ve (IntKind.u64.wrap ((r : Int) + (d1 : Int))) ((r + d1 : Nat) : Int) := veU (by omega) (by omega)
    refine SW_seq ?_
    refine SW_cut (fun s' => Weak s' ⟨[(2, .int .u64 (D : Int)), (8, .int .u64 (s : Int)), (9, .int .u64 (d1 : Int)), (10, .int .u64 (d0 : Int)), (11, .int .u64 (n : Int)), (13, .int .u64 (u : Int)), (14, .int .u64 (u0 : Int)), (15, .int .u64 (q : Int)), (16, .int .u64 (r : Int)), (78, .bool (decide (4294967296 ≤ q ∨ 4294967296 * r + u < q * d0)))], [], []⟩) ?_ ?_
    ·by_cases hb : 4294967296 ≤ q
     ·have z : decide ((q : Int) ≥ 4294967296) = true := decide_eq_true (by omega)
      rw [decide_eq_true (show 4294967296 ≤ q ∨ 4294967296 * r + u < q * d0 from .inl hb)]
      refine SW_region ?_
      refine xn 3 [] [(69, .bool (decide ((q : Int) ≥ 4294967296)))] ?_
      refine xkt 69 z ?_
      refine xz [] [(78, .bool true)] ?_
      exact xw zs0
     ·have z : decide ((q : Int) ≥ 4294967296) = false := decide_eq_false (by omega)
      have z2 := d64_cond q d0 r u (by omega) hd0 k3 hu
      refine SW_region ?_
      refine xn 3 [] [(69, .bool (decide ((q : Int) ≥ 4294967296)))] ?_
      refine xkf 69 z ?_
      refine xz [] [(78, .bool (decide (IntKind.wrap IntKind.u64 ((q : Int) * (d0 : Int)) > IntKind.wrap IntKind.u64 (IntKind.wrap IntKind.u64 (4294967296 * (r : Int)) + (u : Int)))))] ?_
      rw [z2, show decide (4294967296 ≤ q ∨ 4294967296 * r + u < q * d0) = decide (4294967296 * r + u < q * d0) from decide_eq_decide.2 ⟨fun h => h.elim (fun h => absurd h hb) id, .inr⟩]
      exact xw zs0
    ·rintro s' hw
     refine SW_weak hw ?_
     clear hw
     by_cases hc : 4294967296 ≤ q ∨ 4294967296 * r + u < q * d0
     ·rw [decide_eq_true hc]
      obtain ⟨p, rfl, hp1, hp2, hp3, hp4⟩ := back hc
      have w2 : Ve (IntKind.u64.wrap (((p + 1 : Nat) : Int) - 1)) (p : Int) := veU (by omega) (by omega)
      by_cases ho : 4294967296 ≤ r + d1
      ·have z : decide (((r + d1 : Nat) : Int) ≥ 4294967296) = true := decide_eq_true (by omega)
       refine xs1 ?_
       refine SW_skip ?_
       refine SW_block ?_
       refine xg ?_
       refine xn 1 [] [(79, .int .u64 (((p + 1) : Nat) : Int))] ?_
       refine xve 80 IntKind.u64 (IntKind.wrap IntKind.u64 ((((p + 1) : Nat) : Int) - 1)) ((p : Int)) w2 ?_
       refine xz [] [(15, .int .u64 (p : Int))] ?_
       refine xg ?_
       refine xn 2 [] [(82, .int .u64 (d1 : Int)), (81, .int .u64 (r : Int))] ?_
       refine xve 83 IntKind.u64 (IntKind.wrap IntKind.u64 ((r : Int) + (d1 : Int))) ((((r + d1) : Nat) : Int)) w1 ?_
       refine xz [] [(16, .int .u64 (((r + d1) : Nat) : Int))] ?_
       refine xr [] [(85, .bool (decide ((((r + d1) : Nat) : Int) ≥ 4294967296)))] ?_
       refine xst z ?_
       refine SW_exit ?_
       rw [← eq1, ← hp4 ho]
       exact xw zs0
      ·have z : decide (((r + d1 : Nat) : Int) ≥ 4294967296) = false := decide_eq_false (by omega)
       refine xs1 ?_
       refine SW_skip ?_
       refine SW_block ?_
       refine xg ?_
       refine xn 1 [] [(79, .int .u64 (((p + 1) : Nat) : Int))] ?_
       refine xve 80 IntKind.u64 (IntKind.wrap IntKind.u64 ((((p + 1) : Nat) : Int) - 1)) ((p : Int)) w2 ?_
       refine xz [] [(15, .int .u64 (p : Int))] ?_
       refine xg ?_
       refine xn 2 [] [(82, .int .u64 (d1 : Int)), (81, .int .u64 (r : Int))] ?_
       refine xve 83 IntKind.u64 (IntKind.wrap IntKind.u64 ((r : Int) + (d1 : Int))) ((((r + d1) : Nat) : Int)) w1 ?_
       refine xz [] [(16, .int .u64 (((r + d1) : Nat) : Int))] ?_
       refine xr [] [(85, .bool (decide ((((r + d1) : Nat) : Int) ≥ 4294967296)))] ?_
       refine xsf z ?_
       refine SW_skip ?_
       refine ⟨p, by omega, p, r + d1, rfl, hp1, by omega, hp2, by omega, ?_⟩
       exact xw zs0
     ·rw [decide_eq_false hc]
      have he := d64_sure hDe hd1 hd0 hu n4 k2 k4 (fun h => hc (.inr h))
      refine xs0 ?_
      refine SW_exit ?_
      rw [← eq1, ← he]
      exact xw zs0
  ·rintro s' hw
   refine SW_weak hw ?_
   clear hw
   obtain ⟨z1, ⟨e1⟩⟩ := wrap_nat ((n : Int) * 4294967296)
   rw [e1] at hr3
   have y1 : Ve (IntKind.u64.wrap ((n : Int) * 4294967296)) (z1 : Int) := ⟨e1⟩
   clear e1
   obtain ⟨z2, ⟨e2⟩⟩ := wrap_nat ((z1 : Int) + (u : Int))
   rw [e2] at hr3
   have y2 : Ve (IntKind.u64.wrap ((z1 : Int) + (u : Int))) (z2 : Int) := ⟨e2⟩
   clear e2
   obtain ⟨z3, ⟨e3⟩⟩ := wrap_nat ((q1 : Int) * (D : Int))
   rw [e3] at hr3
   have y3 : Ve (IntKind.u64.wrap ((q1 : Int) * (D : Int))) (z3 : Int) := ⟨e3⟩
   clear e3
   have v14 : Ve (IntKind.u64.wrap ((z2 : Int) - (z3 : Int))) (m2 : Int) := ⟨hr3⟩
   clear hr3
   obtain ⟨j1, j2, j3, j4⟩ := quo_parts (D := m2) (d1 := d1) (by omega) hd1.2 (by omega)
   have v15 : Ve (IntKind.u64.wrap (((m2 / d1 : Nat) : Int) * (d1 : Int))) ((m2 / d1 * d1 : Nat) : Int) := veU (by rw [← Int.natCast_mul]) j2
   have v16 : Ve (IntKind.u64.wrap ((m2 : Int) - ((m2 / d1 * d1 : Nat) : Int))) ((m2 % d1 : Nat) : Int) := veU (by omega) (by omega)
   have g1 := Nat.mod_lt (m2 * 4294967296 + u0) hD
   have g2 := Nat.div_add_mod (m2 * 4294967296 + u0) D
   rw [Nat.mul_comm] at g2
   have g3 := d64_rest m2 u0 ((m2 * 4294967296 + u0) / D) D (by omega) (by omega)
   rw [show m2 * 4294967296 + u0 - (m2 * 4294967296 + u0) / D * D = (m2 * 4294967296 + u0) % D by omega] at g3
   have g4 : (m2 * 4294967296 + u0) / D < 4294967296 := div_lt_base hr1 hu0
   have f3 : (m2 * 4294967296 + u0) / D ≤ m2 / d1 := by rw [hDe]; exact est_floor (by omega) hu0
   have f4 : m2 / d1 ≤ 4294967297 := est_start (B := 4294967296) (d0 := d0) (by omega) hd0 (by omega)
   obtain ⟨q0, eq0⟩ : ∃ q0, (m2 * 4294967296 + u0) / D = q0 := ⟨_, rfl⟩
   obtain ⟨r0, er0⟩ : ∃ r0, (m2 * 4294967296 + u0) % D = r0 := ⟨_, rfl⟩
   rw [eq0, er0]
   rw [eq0, er0] at g3
   rw [eq0] at g4
   refine xg ?_
   refine xn 1 [] [(86, .int .u64 (n : Int))] ?_
   refine xve 87 IntKind.u64 (IntKind.wrap IntKind.u64 ((n : Int) * 4294967296)) ((z1 : Int)) y1 ?_
   refine xn 3 [] [(88, .int .u64 (u : Int))] ?_
   refine xve 89 IntKind.u64 (IntKind.wrap IntKind.u64 ((z1 : Int) + (u : Int))) ((z2 : Int)) y2 ?_
   refine xn 6 [] [(91, .int .u64 (D : Int)), (90, .int .u64 (q1 : Int))] ?_
   refine xve 92 IntKind.u64 (IntKind.wrap IntKind.u64 ((q1 : Int) * (D : Int))) ((z3 : Int)) y3 ?_
   refine xve 93 IntKind.u64 (IntKind.wrap IntKind.u64 ((z2 : Int) - (z3 : Int))) ((m2 : Int)) v14 ?_
   refine xz [] [(17, .int .u64 (m2 : Int))] ?_
   refine xg ?_
   refine xn 2 [] [(95, .int .u64 (d1 : Int)), (94, .int .u64 (m2 : Int))] ?_
   refine xqo 96 ((m2)) ((d1)) (by omega) (by omega) ?_
   refine xz [] [(18, .int .u64 (((m2 / d1) : Nat) : Int))] ?_
   refine xg ?_
   refine xn 3 [] [(99, .int .u64 (d1 : Int)), (98, .int .u64 (((m2 / d1) : Nat) : Int)), (97, .int .u64 (m2 : Int))] ?_
   refine xve 100 IntKind.u64 (IntKind.wrap IntKind.u64 ((((m2 / d1) : Nat) : Int) * (d1 : Int))) ((((m2 / d1 * d1) : Nat) : Int)) v15 ?_
   refine xve 101 IntKind.u64 (IntKind.wrap IntKind.u64 ((m2 : Int) - (((m2 / d1 * d1) : Nat) : Int))) ((((m2 % d1) : Nat) : Int)) v16 ?_
   refine xz [] [(16, .int .u64 (((m2 % d1) : Nat) : Int))] ?_
   refine SW_cut (fun s' => Weak s' ⟨[(2, .int .u64 (D : Int)), (8, .int .u64 (s : Int)), (14, .int .u64 (u0 : Int)), (15, .int .u64 (q1 : Int)), (17, .int .u64 (m2 : Int)), (18, .int .u64 (q0 : Int))], [], []⟩) ?_ ?_
   ·refine SW_block ?_
    refine SW_loopn (fun M s' => ∃ q r : Nat, q = M ∧ q * d1 + r = m2 ∧ r < 4294967296 ∧ (m2 * 4294967296 + u0) / D ≤ q ∧ q ≤ 4294967297 ∧ Weak s' ⟨[(2, .int .u64 (D : Int)), (8, .int .u64 (s : Int)), (9, .int .u64 (d1 : Int)), (10, .int .u64 (d0 : Int)), (14, .int .u64 (u0 : Int)), (15, .int .u64 (q1 : Int)), (17, .int .u64 (m2 : Int)), (18, .int .u64 (q : Int)), (16, .int .u64 (r : Int))], [], []⟩) (m2 / d1) ⟨m2 / d1, m2 % d1, rfl, j3, j4, f3, f4, ?_⟩ (fun M s' ⟨q, r, k1, k2, k3, k4, k5, hw⟩ => ?_)
    ·exact xw zs0
    ·refine SW_weak hw ?_
     clear hw
     have back : (4294967296 ≤ q ∨ 4294967296 * r + u0 < q * d0) → ∃ p, q = p + 1 ∧ p * d1 + (r + d1) = m2 ∧ (m2 * 4294967296 + u0) / D ≤ p ∧ p ≤ 4294967296 ∧ (4294967296 ≤ r + d1 → p = (m2 * 4294967296 + u0) / D) := fun hc => d64_num hDe hd1 hd0 hu0 hr1 k2 k4 k5 k3 hc
     have w1 : Ve (IntKind.u64.wrap ((r : Int) + (d1 : Int))) ((r + d1 : Nat) : Int) := veU (by omega) (by omega)
     refine SW_seq ?_
     refine SW_cut (fun s' => Weak s' ⟨[(2, .int .u64 (D : Int)), (8, .int .u64 (s : Int)), (9, .int .u64 (d1 : Int)), (10, .int .u64 (d0 : Int)), (14, .int .u64 (u0 : Int)), (15, .int .u64 (q1 : Int)), (17, .int .u64 (m2 : Int)), (18, .int .u64 (q : Int)), (16, .int .u64 (r : Int)), (113, .bool (decide (4294967296 ≤ q ∨ 4294967296 * r + u0 < q * d0)))], [], []⟩) ?_ ?_
     ·by_cases hb : 4294967296 ≤ q
      ·have z : decide ((q : Int) ≥ 4294967296) = true := decide_eq_true (by omega)
       rw [decide_eq_true (show 4294967296 ≤ q ∨ 4294967296 * r + u0 < q * d0 from .inl hb)]
       refine SW_region ?_
       refine xn 3 [] [(104, .bool (decide ((q : Int) ≥ 4294967296)))] ?_
       refine xkt 104 z ?_
       refine xz [] [(113, .bool true)] ?_
       exact xw zs0
      ·have z : decide ((q : Int) ≥ 4294967296) = false := decide_eq_false (by omega)
       have z2 := d64_cond q d0 r u0 (by omega) hd0 k3 hu0
       refine SW_region ?_
       refine xn 3 [] [(104, .bool (decide ((q : Int) ≥ 4294967296)))] ?_
       refine xkf 104 z ?_
       refine xz [] [(113, .bool (decide (IntKind.wrap IntKind.u64 ((q : Int) * (d0 : Int)) > IntKind.wrap IntKind.u64 (IntKind.wrap IntKind.u64 (4294967296 * (r : Int)) + (u0 : Int)))))] ?_
       rw [z2, show decide (4294967296 ≤ q ∨ 4294967296 * r + u0 < q * d0) = decide (4294967296 * r + u0 < q * d0) from decide_eq_decide.2 ⟨fun h => h.elim (fun h => absurd h hb) id, .inr⟩]
       exact xw zs0
     ·rintro s' hw
      refine SW_weak hw ?_
      clear hw
      by_cases hc : 4294967296 ≤ q ∨ 4294967296 * r + u0 < q * d0
      ·rw [decide_eq_true hc]
       obtain ⟨p, rfl, hp1, hp2, hp3, hp4⟩ := back hc
       have w2 : Ve (IntKind.u64.wrap (((p + 1 : Nat) : Int) - 1)) (p : Int) := veU (by omega) (by omega)
       by_cases ho : 4294967296 ≤ r + d1
       ·have z : decide (((r + d1 : Nat) : Int) ≥ 4294967296) = true := decide_eq_true (by omega)
        refine xs1 ?_
        refine SW_skip ?_
        refine SW_block ?_
        refine xg ?_
        refine xn 1 [] [(114, .int .u64 (((p + 1) : Nat) : Int))] ?_
        refine xve 115 IntKind.u64 (IntKind.wrap IntKind.u64 ((((p + 1) : Nat) : Int) - 1)) ((p : Int)) w2 ?_
        refine xz [] [(18, .int .u64 (p : Int))] ?_
        refine xg ?_
        refine xn 2 [] [(117, .int .u64 (d1 : Int)), (116, .int .u64 (r : Int))] ?_
        refine xve 118 IntKind.u64 (IntKind.wrap IntKind.u64 ((r : Int) + (d1 : Int))) ((((r + d1) : Nat) : Int)) w1 ?_
        refine xz [] [(16, .int .u64 (((r + d1) : Nat) : Int))] ?_
        refine xr [] [(120, .bool (decide ((((r + d1) : Nat) : Int) ≥ 4294967296)))] ?_
        refine xst z ?_
        refine SW_exit ?_
        rw [← eq0, ← hp4 ho]
        exact xw zs0
       ·have z : decide (((r + d1 : Nat) : Int) ≥ 4294967296) = false := decide_eq_false (by omega)
        refine xs1 ?_
        refine SW_skip ?_
        refine SW_block ?_
        refine xg ?_
        refine xn 1 [] [(114, .int .u64 (((p + 1) : Nat) : Int))] ?_
        refine xve 115 IntKind.u64 (IntKind.wrap IntKind.u64 ((((p + 1) : Nat) : Int) - 1)) ((p : Int)) w2 ?_
        refine xz [] [(18, .int .u64 (p : Int))] ?_
        refine xg ?_
        refine xn 2 [] [(117, .int .u64 (d1 : Int)), (116, .int .u64 (r : Int))] ?_
        refine xve 118 IntKind.u64 (IntKind.wrap IntKind.u64 ((r : Int) + (d1 : Int))) ((((r + d1) : Nat) : Int)) w1 ?_
        refine xz [] [(16, .int .u64 (((r + d1) : Nat) : Int))] ?_
        refine xr [] [(120, .bool (decide ((((r + d1) : Nat) : Int) ≥ 4294967296)))] ?_
        refine xsf z ?_
        refine SW_skip ?_
        refine ⟨p, by omega, p, r + d1, rfl, hp1, by omega, hp2, by omega, ?_⟩
        exact xw zs0
      ·rw [decide_eq_false hc]
       have he := d64_sure hDe hd1 hd0 hu0 hr1 k2 k4 (fun h => hc (.inr h))
       refine xs0 ?_
       refine SW_exit ?_
       rw [← eq0, ← he]
       exact xw zs0
   ·rintro s' hw
    refine SW_weak hw ?_
    clear hw
    obtain ⟨x1, ⟨e1⟩⟩ := wrap_nat ((m2 : Int) * 4294967296)
    rw [e1] at g3
    have w1 : Ve (IntKind.u64.wrap ((m2 : Int) * 4294967296)) (x1 : Int) := ⟨e1⟩
    clear e1
    obtain ⟨x2, ⟨e2⟩⟩ := wrap_nat ((x1 : Int) + (u0 : Int))
    rw [e2] at g3
    have w2 : Ve (IntKind.u64.wrap ((x1 : Int) + (u0 : Int))) (x2 : Int) := ⟨e2⟩
    clear e2
    obtain ⟨x3, ⟨e3⟩⟩ := wrap_nat ((q0 : Int) * (D : Int))
    rw [e3] at g3
    have w3 : Ve (IntKind.u64.wrap ((q0 : Int) * (D : Int))) (x3 : Int) := ⟨e3⟩
    clear e3
    have v17 : Ve (IntKind.u64.wrap ((x2 : Int) - (x3 : Int))) (r0 : Int) := ⟨g3⟩
    clear g3
    have v18 : Ve (IntKind.u64.wrap ((q1 : Int) * 4294967296)) ((q1 * 4294967296 : Nat) : Int) := veU (by omega) (by omega)
    have v19 : Ve (IntKind.u64.wrap (((q1 * 4294967296 : Nat) : Int) + (q0 : Int))) ((q1 * 4294967296 + q0 : Nat) : Int) := veU (by omega) (by omega)
    have v20 : Ve (shf .u64 (r0 : Int) (s : Int)) ((r0 / 2 ^ s : Nat) : Int) := ⟨shf_nat _ _ (by omega)⟩
    refine xg ?_
    refine xn 1 [] [(121, .int .u64 (q1 : Int))] ?_
    refine xve 122 IntKind.u64 (IntKind.wrap IntKind.u64 ((q1 : Int) * 4294967296)) ((((q1 * 4294967296) : Nat) : Int)) v18 ?_
    refine xn 3 [] [(123, .int .u64 (q0 : Int))] ?_
    refine xve 124 IntKind.u64 (IntKind.wrap IntKind.u64 ((((q1 * 4294967296) : Nat) : Int) + (q0 : Int))) ((((q1 * 4294967296 + q0) : Nat) : Int)) v19 ?_
    refine xn 5 [] [(125, .int .u64 (m2 : Int))] ?_
    refine xve 126 IntKind.u64 (IntKind.wrap IntKind.u64 ((m2 : Int) * 4294967296)) ((x1 : Int)) w1 ?_
    refine xn 7 [] [(127, .int .u64 (u0 : Int))] ?_
    refine xve 128 IntKind.u64 (IntKind.wrap IntKind.u64 ((x1 : Int) + (u0 : Int))) ((x2 : Int)) w2 ?_
    refine xn 10 [] [(130, .int .u64 (D : Int)), (129, .int .u64 (q0 : Int))] ?_
    refine xve 131 IntKind.u64 (IntKind.wrap IntKind.u64 ((q0 : Int) * (D : Int))) ((x3 : Int)) w3 ?_
    refine xve 132 IntKind.u64 (IntKind.wrap IntKind.u64 ((x2 : Int) - (x3 : Int))) ((r0 : Int)) v17 ?_
    refine xn 13 [] [(133, .int .u64 (s : Int))] ?_
    refine xve 134 IntKind.u64 (shf IntKind.u64 (r0 : Int) (s : Int)) ((((r0 / 2 ^ s) : Nat) : Int)) v20 ?_
    refine xz [] [(7, .int .u64 (((r0 / 2 ^ s) : Nat) : Int)), (6, .int .u64 (((q1 * 4294967296 + q0) : Nat) : Int))] ?_
    refine SW_ret ?_
    refine xe () (.tuple #[.int .u64 (((q1 * 4294967296 + q0) : Nat) : Int), .int .u64 (((r0 / 2 ^ s) : Nat) : Int)]) [] ?_ trivial
    rfl
end Go.Proofs.YtgknelgplmohoaaDoor.M
end
section
namespace Go.Proofs.YtgknelgplmohoaaDoor.M
open Go.RowKit Go.Proofs.YtgknelgplmohoaaDoor.G Go.Proofs.YtgknelgplmohoaaDoorV.PrintWords Go.Proofs.YtgknelgplmohoaaDoorV.PrintLast Go.Proofs.YtgknelgplmohoaaDoor.X
set_option linter.unusedVariables false
set_option linter.unusedSimpArgs false
theorem ct_impl_nat_divWord_rows (a : List Int) (A : Option Addr) (c d : Nat) (da : Dig B64 a) (hla : a.length ≤ 1000000) (hd : 0 < d) (hdB : d < 18446744073709551616) : ∀ r, Dig B64 r → Norm r → val B64 r = val B64 a / d → CtRV Tryd.prog 149 [.slice A a.length c, .int .u64 (d : Int)] [Row .u64 A c a] .u64 r (.int .u64 ((val B64 a % d : Nat) : Int)) := by
 intro r dr nr vr
 refine ct_of Tryd.func149 rfl (by kernel_rfl) (fun B w0 => ?_)
 have v0 : Ve (IntKind.i64.wrap ((a.length : Int) - 1)) ((a.length : Int) - 1) := ⟨wrap_i64 (by omega)⟩
 refine xr [] [(5, .int .u64 0), (4, .slice none 0 0)] ?_
 refine xg ?_
 refine xn 2 [] [(10, .int .i64 (((List.length a) : Nat) : Int))] ?_
 refine xma 11 26 (List.length a) IntKind.u64 8 ((((List.length a) : Nat) : Int)) ⟨rfl⟩ (by omega) (fun g0 => ?_)
 refine xz [] [(6, .slice (some ⟨g0, 0, none⟩) (List.length a) (List.length a))] ?_
 refine xr [] [(7, .int .u64 0)] ?_
 refine SW_seq ?_
 refine xg ?_
 refine xn 2 [] [(13, .int .i64 (((List.length a) : Nat) : Int))] ?_
 refine xve 14 IntKind.i64 (IntKind.wrap IntKind.i64 ((((List.length a) : Nat) : Int) - 1)) ((((List.length a) : Nat) : Int) - 1) v0 ?_
 refine xz [] [(8, .int .i64 ((((List.length a) : Nat) : Int) - 1))] ?_
 refine SW_then (fun s' => ∃ O : List Int, O.length = a.length ∧ Dig B64 O ∧ val B64 O * d + val B64 a % d = val B64 a ∧ Weak s' ⟨[(6, .slice (some ⟨g0, 0, none⟩) O.length a.length), (7, .int .u64 ((val B64 a % d : Nat) : Int))], [⟨g0, cl .u64 O [], 26⟩], [Row .u64 A c a]⟩) ?_ ?_
 ·refine SW_block ?_
  refine SW_loopn (fun m s => ∃ (O : List Int) (rest : Nat), m ≤ a.length ∧ O.length = a.length ∧ Dig B64 O ∧ rest < d ∧ val B64 (O.drop m) * d + rest = val B64 (a.drop m) ∧ Weak s ⟨[(0, .slice A a.length c), (1, .int .u64 (d : Int)), (6, .slice (some ⟨g0, 0, none⟩) a.length a.length), (7, .int .u64 (rest : Int)), (8, .int .i64 ((m : Int) - 1))], [⟨g0, cl .u64 O [], 26⟩], [Row .u64 A c a]⟩) a.length ⟨List.replicate a.length 0, 0, Nat.le_refl _, by simp, Dig.zeros B64_pos _, hd, by simp [val], ?_⟩ (fun m s ⟨O, rest, h1, h2, h3, h4, h5, hw⟩ => ?_)
  ·exact xw (zsS zi0 zs0)
  ·refine SW_weak hw ?_
   clear hw
   match m, h1, h5 with
   | 0, h1, h5 =>
    have z : decide (((0 : Nat) : Int) - 1 ≥ 0) = false := rfl
    rw [List.drop_zero, List.drop_zero] at h5
    obtain ⟨e1, e2⟩ := quot_of (show rest + val B64 O * d = val B64 a by omega) h4
    subst e2
    refine SW_seq ?_
    refine xr [] [(16, .bool false)] ?_
    refine xs0 ?_
    refine SW_exit ?_
    refine ⟨O, h2, h3, h5, ?_⟩
    rw [h2]
    exact xw (zsS zi0 zs0)
   | m + 1, h1, h5 =>
    have e0 : ((m + 1 : Nat) : Int) - 1 = (m : Int) := by omega
    rw [e0]
    have z : decide ((m : Int) ≥ 0) = true := decide_eq_true (by omega)
    refine SW_know zi0 (fun w h => row_at h (by omega)) (fun ⟨ad, e⟩ => ?_)
    subst e
    obtain ⟨x, hx, hxB⟩ := nat_rd da m
    have v1 : Ve (rd a (m : Int)) (x : Int) := ⟨hx⟩
    have v2 : Ve (IntKind.i64.wrap ((m : Int) - 1)) ((m : Int) - 1) := ⟨wrap_i64 (by omega)⟩
    have hq : (rest * 18446744073709551616 + x) / d < 18446744073709551616 := div_lt_base h4 hxB
    have hda := val_drop_rd B64 (l := a) (p := m) (by omega)
    rw [hx, Int.toNat_natCast] at hda
    have hdo := val_drop_rd B64 (l := O.set m (((rest * 18446744073709551616 + x) / d : Nat) : Int)) (p := m) (by rw [List.length_set]; omega)
    rw [rd_set_self O m _ (by omega), List.drop_set_of_lt (Nat.lt_succ_self m), Int.toNat_natCast] at hdo
    have hdm := Nat.div_add_mod (rest * 18446744073709551616 + x) d
    have hmod := Nat.mod_lt (rest * 18446744073709551616 + x) hd
    have hs2 : val B64 ((O.set m (((rest * 18446744073709551616 + x) / d : Nat) : Int)).drop m) * d + (rest * 18446744073709551616 + x) % d = val B64 (a.drop m) := by
     rw [hdo, hda, ← h5]
     exact dw_num hdm
    refine SW_seq ?_
    refine xr [] [(16, .bool (decide ((m : Int) ≥ 0)))] ?_
    refine xst z ?_
    refine SW_skip ?_
    refine SW_seq ?_
    refine SW_block ?_
    refine SW_region ?_
    refine xn 5 [] [(24, .int .i64 (m : Int)), (23, .slice (some ad) (List.length a) c), (22, .int .u64 (rest : Int)), (21, .int .i64 (m : Int)), (20, .slice (some ⟨g0, 0, none⟩) (List.length a) (List.length a))] ?_
    refine xfi 25 26 (ad) (List.length a) (c) (m) IntKind.i64 ((m : Int)) ⟨rfl⟩ (by omega) ?_
    refine xfle 26 zi0 (m) ((x : Int)) v1 (by omega) ?_
    refine xn 8 [] [(27, .int .u64 (d : Int))] ?_
    refine xcv 28 (ct_bits_Div64 (rest) (x) (d) hxB hdB h4) zs0 ?_
    refine xn 12 [] [(30, .int .u64 ((((rest * 18446744073709551616 + x) % d) : Nat) : Int)), (29, .int .u64 ((((rest * 18446744073709551616 + x) / d) : Nat) : Int))] ?_
    refine xoi 31 26 (g0) (List.length a) (List.length a) (m) IntKind.i64 ((m : Int)) ⟨rfl⟩ (by omega) ?_
    refine xos 0 (g0) (m) IntKind.u64 (O) ([]) 26 (((((rest * 18446744073709551616 + x) / d) : Nat) : Int)) (by first | omega | (simp <;> omega)) ?_
    refine xz [] [(7, .int .u64 ((((rest * 18446744073709551616 + x) % d) : Nat) : Int))] ?_
    refine SW_region ?_
    refine xn 1 [] [(17, .int .i64 (m : Int))] ?_
    refine xve 18 IntKind.i64 (IntKind.wrap IntKind.i64 ((m : Int) - 1)) ((m : Int) - 1) v2 ?_
    refine xz [] [(8, .int .i64 ((m : Int) - 1))] ?_
    refine ⟨m, by omega, _, _, by omega, by rw [List.length_set]; exact h2, h3.set _ (cast_dig hq), hmod, hs2, ?_⟩
    exact xw (zsS zi0 zs0)
 ·rintro s' ⟨O, h2, h3, h5, hw⟩
  refine SW_weak hw ?_
  clear hw
  have er : trimL O = r := norm_inj B64_pos h3.trim dr (norm_trim _) nr (by rw [val_trim, vr]; exact (quot_of (R := val B64 a % d) (by omega) (Nat.mod_lt _ hd)).1)
  have ct := ct_impl_trimmed O (some ⟨g0, 0, none⟩) O.length (by omega)
  rw [er] at ct
  rw [← h2]
  generalize val B64 a % d = w
  refine xg ?_
  refine xn 1 [] [(32, .slice (some ⟨g0, 0, none⟩) (List.length O) (List.length O))] ?_
  refine NW_fz 0 a.length g0 .u64 O [] 26 (by omega) (by omega) ?_
  rw [← h2]
  refine xcr 33 ct (zsS zi0 zs0) (fun A0 k0 => ?_)
  refine xz [] [(5, .int .u64 (w : Int)), (4, .slice A0 (List.length r) k0)] ?_
  refine SW_ret ?_
  refine xe (A0, k0) (.tuple #[.slice A0 (List.length r) k0, .int .u64 (w : Int)]) [] ?_ (zsS zi0 zs0)
  rfl
end Go.Proofs.YtgknelgplmohoaaDoor.M
end
section
namespace Go.Proofs.YtgknelgplmohoaaDoor.M
open Go.RowKit Go.Proofs.YtgknelgplmohoaaDoor.G Go.Proofs.YtgknelgplmohoaaDoorV.PrintWords Go.Proofs.YtgknelgplmohoaaDoorV.PrintLast Go.Proofs.YtgknelgplmohoaaDoor.X
set_option linter.unusedVariables false
set_option linter.unusedSimpArgs false
theorem carry_ad (a b c : Nat) (ha : a < 18446744073709551616) (hb : b < 18446744073709551616) (hc : c ≤ 1) : ∃ s t : Nat, Ve (add64s (a : Int) (b : Int) (c : Int)) (s : Int) ∧ Ve (add64c (a : Int) (b : Int) (c : Int)) (t : Int) ∧ s < 18446744073709551616 ∧ t ≤ 1 ∧ s + B64 * t = a + b + c := by
  obtain ⟨s1, s2, s3, s4, s5⟩ := add64_spec (a : Int) (b : Int) (c : Int) ⟨by omega, by unfold B64; omega⟩ ⟨by omega, by unfold B64; omega⟩ (by omega)
  refine ⟨(add64s (a : Int) (b : Int) (c : Int)).toNat, (add64c (a : Int) (b : Int) (c : Int)).toNat, ⟨by omega⟩, ⟨by omega⟩, ?_, by omega, by simpa using s5⟩
  unfold B64 at s2
  omega
theorem carry_ad0 (a b : Nat) (ha : a < 18446744073709551616) (hb : b < 18446744073709551616) : ∃ s t : Nat, Ve (add64s (a : Int) (b : Int) 0) (s : Int) ∧ Ve (add64c (a : Int) (b : Int) 0) (t : Int) ∧ s < 18446744073709551616 ∧ t ≤ 1 ∧ s + B64 * t = a + b + 0 := carry_ad a b 0 ha hb (by decide)
theorem carry_sb (a b c : Nat) (ha : a < 18446744073709551616) (hb : b < 18446744073709551616) (hc : c ≤ 1) : ∃ s t : Nat, Ve (sub64s (a : Int) (b : Int) (c : Int)) (s : Int) ∧ Ve (sub64c (a : Int) (b : Int) (c : Int)) (t : Int) ∧ s < 18446744073709551616 ∧ t ≤ 1 ∧ s + b + c = a + B64 * t := by
  obtain ⟨s1, s2, s3, s4, s5⟩ := sub64_spec (a : Int) (b : Int) (c : Int) ⟨by omega, by unfold B64; omega⟩ ⟨by omega, by unfold B64; omega⟩ (by omega)
  refine ⟨(sub64s (a : Int) (b : Int) (c : Int)).toNat, (sub64c (a : Int) (b : Int) (c : Int)).toNat, ⟨by omega⟩, ⟨by omega⟩, ?_, by omega, by simpa using s5⟩
  unfold B64 at s2
  omega
structure Plc (v u : List Int) (j y x w2 w1 w0 Q : Nat) : Prop where
  dv : Dig B64 v
  du : Dig B64 u
  hj : j + v.length < u.length
  hn : 2 ≤ v.length
  hy : rd v ((v.length - 1 : Nat) : Int) = (y : Int)
  hx : rd v ((v.length - 2 : Nat) : Int) = (x : Int)
  h2 : rd u ((j + v.length : Nat) : Int) = (w2 : Int)
  h1 : rd u ((j + v.length - 1 : Nat) : Int) = (w1 : Int)
  h0 : rd u ((j + v.length - 2 : Nat) : Int) = (w0 : Int)
  yB : y < 18446744073709551616
  xB : x < 18446744073709551616
  w2B : w2 < 18446744073709551616
  w1B : w1 < 18446744073709551616
  w0B : w0 < 18446744073709551616
  y0 : 0 < y
  w2y : w2 ≤ y
  V0 : 0 < val B64 v
  VM : val B64 v ≤ B64 ^ (v.length + 1)
  Qe : Q = val B64 (u.drop j) / val B64 v
  QB : Q < B64
  Q1 : Q ≤ (w2 * B64 + w1) / y
  dec : ∀ top, (w2 * B64 + w1) * B64 + w0 < top * (y * B64 + x) → Q + 1 ≤ top
  le2 : ∀ top, top < B64 → top * (y * B64 + x) ≤ (w2 * B64 + w1) * B64 + w0 → top ≤ Q + 1
  z1 : val B64 (u.drop (j + v.length + 1)) = 0
theorem plc (v u : List Int) (hv : Dig B64 v) (hu : Dig B64 u) (j : Nat) (hn : 2 ≤ v.length) (hj : j + v.length < u.length) (hy0 : 0 < rd v ((v.length - 1 : Nat) : Int)) (hlt : val B64 (u.drop (j + 1)) < val B64 v) :
    ∃ y x w2 w1 w0 Q : Nat, Plc v u j y x w2 w1 w0 Q := by
  have hV : 0 < val B64 v := by omega
  obtain ⟨y, hy, yB⟩ := cast_dig64 (hv.rd B64_pos ((v.length - 1 : Nat) : Int))
  obtain ⟨x, hx, xB⟩ := cast_dig64 (hv.rd B64_pos ((v.length - 2 : Nat) : Int))
  obtain ⟨w2, hw2, w2B⟩ := cast_dig64 (hu.rd B64_pos ((j + v.length : Nat) : Int))
  obtain ⟨w1, hw1, w1B⟩ := cast_dig64 (hu.rd B64_pos ((j + v.length - 1 : Nat) : Int))
  obtain ⟨w0, hw0, w0B⟩ := cast_dig64 (hu.rd B64_pos ((j + v.length - 2 : Nat) : Int))
  have hy1 : 0 < y := by omega
  have tv1 : val B64 (v.drop (v.length - 1)) = y := by
    have h := val_drop_rd B64 (l := v) (p := v.length - 1) (by omega)
    rw [show v.length - 1 + 1 = v.length by omega, List.drop_length, hy] at h
    simpa [val] using h
  have tv2 : val B64 (v.drop (v.length - 2)) = y * B64 + x := by
    have h := val_drop_rd B64 (l := v) (p := v.length - 2) (by omega)
    rw [show v.length - 2 + 1 = v.length - 1 by omega, tv1, hx, Int.toNat_natCast, Nat.mul_comm] at h
    omega
  have dv1 : val B64 v / B64 ^ (v.length - 1) = y := by rw [← val_drop B64 B64_pos hv, tv1]
  have dv2 : val B64 v / B64 ^ (v.length - 2) = y * B64 + x := by rw [← val_drop B64 B64_pos hv, tv2]
  have vlt := val_lt hv
  have z1 : val B64 (u.drop (j + v.length + 1)) = 0 := by
    have h := val_drop B64 B64_pos (hu.drop (j + 1)) v.length
    rw [List.drop_drop, show j + 1 + v.length = j + v.length + 1 by omega] at h
    rw [h]
    exact Nat.div_eq_of_lt (by omega)
  have tu0 : val B64 (u.drop (j + v.length)) = w2 := by
    have h := val_drop_rd B64 (l := u) (p := j + v.length) (by omega)
    rw [z1, hw2] at h
    simpa using h
  have tu1 : val B64 (u.drop (j + (v.length - 1))) = w2 * B64 + w1 := by
    have h := val_drop_rd B64 (l := u) (p := j + v.length - 1) (by omega)
    rw [show j + v.length - 1 + 1 = j + v.length by omega, tu0, hw1, Int.toNat_natCast, Nat.mul_comm] at h
    rw [show j + (v.length - 1) = j + v.length - 1 by omega]
    omega
  have tu2 : val B64 (u.drop (j + (v.length - 2))) = (w2 * B64 + w1) * B64 + w0 := by
    have h := val_drop_rd B64 (l := u) (p := j + v.length - 2) (by omega)
    rw [show j + v.length - 2 + 1 = j + (v.length - 1) by omega, tu1, hw0, Int.toNat_natCast, Nat.mul_comm] at h
    rw [show j + (v.length - 2) = j + v.length - 2 by omega]
    omega
  have dw1 : val B64 (u.drop j) / B64 ^ (v.length - 1) = w2 * B64 + w1 := by rw [← val_drop B64 B64_pos (hu.drop j), List.drop_drop, tu1]
  have dw2 : val B64 (u.drop j) / B64 ^ (v.length - 2) = (w2 * B64 + w1) * B64 + w0 := by rw [← val_drop B64 B64_pos (hu.drop j), List.drop_drop, tu2]
  have w2y : w2 ≤ y := by
    have h := val_drop B64 B64_pos (hu.drop (j + 1)) (v.length - 1)
    rw [List.drop_drop, show j + 1 + (v.length - 1) = j + v.length by omega, tu0] at h
    rw [h, ← dv1]
    exact Nat.div_le_div_right (Nat.le_of_lt hlt)
  have hW : val B64 (u.drop j) < B64 * val B64 v := by
    have h := val_drop_rd B64 (l := u) (p := j) (by omega)
    have ej := hu.rd B64_pos (j : Int)
    have h2 := Nat.mul_le_mul_left B64 (show val B64 (u.drop (j + 1)) + 1 ≤ val B64 v from hlt)
    rw [Nat.mul_add] at h2
    omega
  have hBP : B64 * B64 ^ (v.length - 2) ≤ val B64 v := by
    rw [Nat.mul_comm, ← Nat.pow_succ, show (v.length - 2).succ = v.length - 1 by omega]
    have h := Nat.div_mul_le_self (val B64 v) (B64 ^ (v.length - 1))
    rw [dv1] at h
    have h2 := Nat.mul_le_mul_right (B64 ^ (v.length - 1)) (show 1 ≤ y from hy1)
    omega
  have P1 : 0 < B64 ^ (v.length - 1) := Nat.pow_pos B64_pos
  have P2 : 0 < B64 ^ (v.length - 2) := Nat.pow_pos B64_pos
  refine ⟨y, x, w2, w1, w0, _, ⟨hv, hu, hj, hn, hy, hx, hw2, hw1, hw0, yB, xB, w2B, w1B, w0B, hy1, w2y, hV, Nat.le_trans (Nat.le_of_lt vlt) (Nat.pow_le_pow_right B64_pos (by omega)), rfl, (Nat.div_lt_iff_lt_mul hV).2 hW, ?_,
    fun top h => knuth_dec P2 hV (by rw [dw2, dv2]; exact h), fun top htB hle => knuth_le P2 hBP htB (by rw [dw2, dv2]; exact hle), z1⟩⟩
  have h := knuth_start (W := val B64 (u.drop j)) (V := val B64 v) P1 (by rw [dv1]; exact hy1)
  rwa [dw1, dv1] at h
theorem ms_one {v u0 u : List Int} {i j top c b s cc d bb U hi lo : Nat} {x : Nat} (hij : i + j < u.length) (hval : val B64 u + B64 ^ j * (top * val B64 (v.take i)) = val B64 u0 + B64 ^ (j + i) * (c + b)) (hx : rd v (i : Int) = (x : Int)) (hp : lo + B64 * hi = top * x) (h3 : s + B64 * cc = lo + c + 0) (hd : rd u ((i + j : Nat) : Int) = (d : Int)) (h4 : U + s + b = d + B64 * bb) :
    val B64 (u.set (i + j) (U : Int)) + B64 ^ j * (top * val B64 (v.take (i + 1))) = val B64 u0 + B64 ^ (j + (i + 1)) * (hi + cc + bb) := by
  have hset := val_set B64 u (i + j) (U : Int) hij
  rw [hd, Int.toNat_natCast, Int.toNat_natCast] at hset
  have h : i + j = j + i := Nat.add_comm _ _
  have key := ms_num (B := B64) (T := B64 ^ (i + j)) (u0 := val B64 u0) (A := B64 ^ j * (top * val B64 (v.take i))) (hi := hi) (by rw [h]; exact hval) hset (show s + B64 * cc = lo + c by omega) h4
  rw [hp] at key
  have hvs := val_take_succ B64 v i
  rw [hx, Int.toNat_natCast] at hvs
  have e1 : B64 ^ j * (top * val B64 (v.take (i + 1))) = B64 ^ j * (top * val B64 (v.take i)) + B64 ^ (i + j) * (top * x) := by
    rw [hvs, Nat.mul_add, Nat.mul_add, h, Nat.pow_add, Nat.mul_left_comm top, Nat.mul_assoc]
  have e2 : B64 ^ (i + j) * B64 = B64 ^ (j + (i + 1)) := by rw [h, ← Nat.pow_succ]; rfl
  rw [← e1, e2] at key
  exact key
theorem ms_fin {v u0 u : List Int} {j top c b d bb U : Nat} (hd0 : Dig B64 u) (hl : u.length = u0.length) (hj : j + v.length < u.length) (htk : u.take j = u0.take j) (hval : val B64 u + B64 ^ j * (top * val B64 v) = val B64 u0 + B64 ^ (j + v.length) * (c + b)) (hd : rd u ((j + v.length : Nat) : Int) = (d : Int)) (h4 : U + c + b = d + B64 * bb) :
    val B64 ((u.set (j + v.length) (U : Int)).drop j) + top * val B64 v = val B64 (u0.drop j) + B64 ^ (v.length + 1) * bb := by
  have hset := val_set B64 u (j + v.length) (U : Int) hj
  rw [hd, Int.toNat_natCast, Int.toNat_natCast] at hset
  have h := ms_last (B := B64) hval hset h4
  have tk2 : (u.set (j + v.length) (U : Int)).take j = u0.take j := by rw [List.take_set_of_le (by omega), htk]
  have hs2 := val_split B64 (u.set (j + v.length) (U : Int)) j (by rw [List.length_set]; omega)
  have hs := val_split B64 u0 j (by omega)
  rw [tk2] at hs2
  have e1 : B64 ^ (j + v.length) * B64 * bb = B64 ^ j * (B64 ^ (v.length + 1) * bb) := by
    rw [← Nat.mul_assoc, ← Nat.pow_add, ← Nat.pow_succ]
    rfl
  rw [e1, hs2, hs] at h
  exact window_of (Nat.pow_pos B64_pos) h
theorem ab_one {v u0 u : List Int} {i j c s cc d x : Nat} (hij : i + j < u.length) (hval : val B64 u + B64 ^ (j + i) * c = val B64 u0 + B64 ^ j * val B64 (v.take i)) (hx : rd v (i : Int) = (x : Int)) (hd : rd u ((i + j : Nat) : Int) = (d : Int)) (h3 : s + B64 * cc = d + x + c) :
    val B64 (u.set (i + j) (s : Int)) + B64 ^ (j + (i + 1)) * cc = val B64 u0 + B64 ^ j * val B64 (v.take (i + 1)) := by
  have hset := val_set B64 u (i + j) (s : Int) hij
  rw [hd, Int.toNat_natCast, Int.toNat_natCast] at hset
  have h : i + j = j + i := Nat.add_comm _ _
  have key := ab_num (B := B64) (T := B64 ^ (i + j)) (u0 := val B64 u0) (A := B64 ^ j * val B64 (v.take i)) (by rw [h]; exact hval) hset h3
  have hvs := val_take_succ B64 v i
  rw [hx, Int.toNat_natCast] at hvs
  have e1 : B64 ^ j * val B64 (v.take (i + 1)) = B64 ^ j * val B64 (v.take i) + B64 ^ (i + j) * x := by
    rw [hvs, Nat.mul_add, h, Nat.pow_add, Nat.mul_assoc]
  have e2 : B64 ^ (i + j) * B64 = B64 ^ (j + (i + 1)) := by rw [h, ← Nat.pow_succ]; rfl
  rw [← e1, e2] at key
  exact key
theorem ab_fin {v u u2 u3 : List Int} {j D c3 top : Nat} (h2 : Dig B64 u2) (d3 : Dig B64 u3) (l3 : u3.length = u2.length) (hj : j + v.length < u2.length) (hV : 0 < val B64 v) (hVM : val B64 v ≤ B64 ^ (v.length + 1)) (hq : top ≤ val B64 (u.drop j) / val B64 v + 1)
    (hw : val B64 (u2.drop j) + top * val B64 v = val B64 (u.drop j) + B64 ^ (v.length + 1)) (hz : val B64 (u2.drop (j + v.length + 1)) = 0)
    (tk3 : u3.take j = u2.take j) (dr3 : u3.drop (j + v.length) = u2.drop (j + v.length)) (hv3 : val B64 u3 + B64 ^ (j + v.length) * c3 = val B64 u2 + B64 ^ j * val B64 v) (hD : rd u3 ((j + v.length : Nat) : Int) = (D : Int)) :
    top = val B64 (u.drop j) / val B64 v + 1 ∧ Dig B64 (u3.set (j + v.length) (((D + c3) % B64 : Nat) : Int)) ∧ (u3.set (j + v.length) (((D + c3) % B64 : Nat) : Int)).take j = u2.take j ∧
    val B64 ((u3.set (j + v.length) (((D + c3) % B64 : Nat) : Int)).drop j) + (val B64 (u.drop j) / val B64 v) * val B64 v = val B64 (u.drop j) ∧ val B64 ((u3.set (j + v.length) (((D + c3) % B64 : Nat) : Int)).drop j) < val B64 v := by
  have hR : val B64 (u2.drop j) < B64 ^ (v.length + 1) := drop_small B64_pos h2 j (v.length + 1) hz
  have hset := val_set B64 u3 (j + v.length) (((D + c3) % B64 : Nat) : Int) (by omega)
  rw [hD, Int.toNat_natCast, Int.toNat_natCast] at hset
  have hdm : D + c3 = (D + c3) % B64 + B64 * ((D + c3) / B64) := by have := Nat.mod_add_div (D + c3) B64; omega
  have hl := ab_last (B := B64) hv3 hset hdm
  have hmod : (D + c3) % B64 < B64 := Nat.mod_lt _ B64_pos
  have tk4 : (u3.set (j + v.length) (((D + c3) % B64 : Nat) : Int)).take j = u2.take j := by rw [List.take_set_of_le (by omega), tk3]
  have d4 : Dig B64 (u3.set (j + v.length) (((D + c3) % B64 : Nat) : Int)) := d3.set _ (cast_dig hmod)
  have dr4 : (u3.set (j + v.length) (((D + c3) % B64 : Nat) : Int)).drop (j + v.length + 1) = u2.drop (j + v.length + 1) := by
    rw [List.drop_set_of_lt (by omega)]
    have := congrArg (List.drop 1) dr3
    rw [List.drop_drop, List.drop_drop] at this
    exact this
  have hs4 := val_split B64 (u3.set (j + v.length) (((D + c3) % B64 : Nat) : Int)) j (by rw [List.length_set]; omega)
  have hs2 := val_split B64 u2 j (by omega)
  rw [tk4] at hs4
  have R4 := drop_small B64_pos d4 j (v.length + 1) (by rw [show j + (v.length + 1) = j + v.length + 1 by omega, dr4]; exact hz)
  have hwin : val B64 ((u3.set (j + v.length) (((D + c3) % B64 : Nat) : Int)).drop j) + B64 ^ (v.length + 1) * ((D + c3) / B64) = val B64 (u2.drop j) + val B64 v := by
    have e1 : B64 ^ (j + v.length) * B64 * ((D + c3) / B64) = B64 ^ j * (B64 ^ (v.length + 1) * ((D + c3) / B64)) := by
      rw [← Nat.mul_assoc, ← Nat.pow_add, ← Nat.pow_succ]
      rfl
    rw [e1, hs4, hs2] at hl
    exact window_of (Nat.pow_pos B64_pos) hl
  have hmodw : val B64 ((u3.set (j + v.length) (((D + c3) % B64 : Nat) : Int)).drop j) = (val B64 (u2.drop j) + val B64 v) % B64 ^ (v.length + 1) := by
    rw [← hwin, Nat.add_mul_mod_self_left, Nat.mod_eq_of_lt R4]
  obtain ⟨k0, k1, k2⟩ := knuth_back hV hVM hq hw hR hmodw
  exact ⟨k0, d4, tk4, k1, k2⟩
end Go.Proofs.YtgknelgplmohoaaDoor.M
end
