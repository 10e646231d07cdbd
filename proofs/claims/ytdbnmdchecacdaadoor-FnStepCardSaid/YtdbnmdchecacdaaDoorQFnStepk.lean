import Derived.Laws.Externs
import Derived.Test.YtdbnmdchecacdaaDoorQFnStepj
section
namespace Go.Proofs.YtdbnmdchecacdaaDoor.G
set_option linter.unusedVariables false
def add64s (a b c : Int) : Int := ((a.toNat + b.toNat + c.toNat) % 18446744073709551616 : Nat)
def add64c (a b c : Int) : Int := ((a.toNat + b.toNat + c.toNat) / 18446744073709551616 : Nat)
def sub64s (a b c : Int) : Int := ((a.toNat + 18446744073709551616 - b.toNat - c.toNat) % 18446744073709551616 : Nat)
def sub64c (a b c : Int) : Int := if a.toNat < b.toNat + c.toNat then 1 else 0
def sub64Entry : Array Value → Sem Value := fun args => do
  let (x, y, b) ← Extern.MathBitsCarry.three "Sub64" args
  pure (Extern.MathBitsCarry.pair ((x + Extern.MathBitsCarry.m64 - y - b) % Extern.MathBitsCarry.m64) (if x < y + b then 1 else 0))
theorem add64_entry {P : Program} (a b c : Int) (hc : c.toNat ≤ 1) (w : World) :
    (add64Entry #[.int .u64 a, .int .u64 b, .int .u64 c]).run P w = .ok (.tuple #[.int .u64 (add64s a b c), .int .u64 (add64c a b c)]) w := by
  match c, hc with
  | .ofNat 0, _ => rfl
  | .ofNat 1, _ => rfl
  | .ofNat (n + 2), hc => exact absurd (show n + 2 ≤ 1 from hc) (by omega)
  | .negSucc n, _ => rfl
theorem sub64_entry {P : Program} (a b c : Int) (hc : c.toNat ≤ 1) (w : World) :
    (sub64Entry #[.int .u64 a, .int .u64 b, .int .u64 c]).run P w = .ok (.tuple #[.int .u64 (sub64s a b c), .int .u64 (sub64c a b c)]) w := by
  have key : ∀ k : Nat, c.toNat = k → (sub64Entry #[.int .u64 a, .int .u64 b, .int .u64 c]).run P w = .ok (Extern.MathBitsCarry.pair ((a.toNat + Extern.MathBitsCarry.m64 - b.toNat - c.toNat) % Extern.MathBitsCarry.m64) (if a.toNat < b.toNat + c.toNat then 1 else 0)) w := by
    intro k hk
    match c, hc with
    | .ofNat 0, _ => rfl
    | .ofNat 1, _ => rfl
    | .ofNat (n + 2), hc => exact absurd (show n + 2 ≤ 1 from hc) (by omega)
    | .negSucc n, _ => rfl
  rw [key _ rfl]
  unfold sub64c
  by_cases h : a.toNat < b.toNat + c.toNat
  · rw [if_pos h, if_pos h]; rfl
  · rw [if_neg h, if_neg h]; rfl
theorem run_Add64 (a b c : Int) (hc : c.toNat ≤ 1) (w : World) :
    (callFunc 125 #[.int .u64 a, .int .u64 b, .int .u64 c]).run Tryd.prog w = .ok (.value (.tuple #[.int .u64 (add64s a b c), .int .u64 (add64c a b c)])) w := by
  rw [run_callFunc_extern Tryd.func125 (by kernel_rfl) (by kernel_rfl) (by kernel_rfl) (e := add64Entry) (by kernel_rfl), add64_entry a b c hc]
  rfl
theorem run_Sub64 (a b c : Int) (hc : c.toNat ≤ 1) (w : World) :
    (callFunc 126 #[.int .u64 a, .int .u64 b, .int .u64 c]).run Tryd.prog w = .ok (.value (.tuple #[.int .u64 (sub64s a b c), .int .u64 (sub64c a b c)])) w := by
  rw [run_callFunc_extern Tryd.func126 (by kernel_rfl) (by kernel_rfl) (by kernel_rfl) (e := sub64Entry) (by kernel_rfl), sub64_entry a b c hc]
  rfl
end Go.Proofs.YtdbnmdchecacdaaDoor.G
end
section
namespace Go.Proofs.YtdbnmdchecacdaaDoor.M
open Go.RowKit Go.Proofs.YtdbnmdchecacdaaDoor.G Go.Proofs.YtdbnmdchecacdaaDoorV.PrintWords Go.Proofs.YtdbnmdchecacdaaDoorV.PrintLast
set_option linter.unusedVariables false
set_option linter.unusedSimpArgs false
section
def B32 : Nat := 4294967296
def B64 : Nat := 18446744073709551616
theorem B32_pos : 0 < B32 := by unfold B32; omega
theorem B64_pos : 0 < B64 := by unfold B64; omega
def outL : List Int → List Int
  | [] => []
  | [x] => [x]
  | x :: y :: l => (x + y * 4294967296) :: outL l
theorem outL_length : ∀ l : List Int, (outL l).length ≤ l.length
  | [] => Nat.le_refl _
  | [x] => Nat.le_refl _
  | x :: y :: l => by have := outL_length l; simp only [outL, List.length_cons]; omega
theorem outL_dig : ∀ {l : List Int}, Dig B32 l → Dig B64 (outL l)
  | [], _ => Dig.nil _
  | [x], h => by
    have hx := h x (by simp)
    unfold B32 at hx
    exact Dig.cons (by unfold B64; omega) (Dig.nil _)
  | x :: y :: l, h => by
    have hx := h x (by simp)
    have hy := h y (by simp)
    unfold B32 at hx hy
    exact Dig.cons (by unfold B64; omega) (outL_dig (fun z hz => h z (List.mem_cons_of_mem _ (List.mem_cons_of_mem _ hz))))
theorem outL_val : ∀ {l : List Int}, Dig B32 l → val B64 (outL l) = val B32 l
  | [], _ => rfl
  | [x], h => by simp [outL, val]
  | x :: y :: l, h => by
    have hx := h x (by simp)
    have hy := h y (by simp)
    have ih := outL_val (l := l) (fun z hz => h z (List.mem_cons_of_mem _ (List.mem_cons_of_mem _ hz)))
    simp only [outL, val_cons, ih]
    unfold B32 at hx hy
    unfold B32 B64
    omega
theorem norm_iff (l : List Int) : Norm l ↔ ∀ h : l ≠ [], l.getLast h ≠ 0 := by
  rcases Nat.eq_zero_or_pos l.length with h | h
  · have := List.eq_nil_of_length_eq_zero h
    subst this
    exact ⟨fun _ h => absurd rfl h, fun _ => rfl⟩
  · obtain ⟨a, x, rfl⟩ := snoc_of h
    rw [norm_snoc]
    simp
theorem outL_norm : ∀ {l : List Int}, Dig B32 l → Norm l → Norm (outL l)
  | [], _, _ => norm_nil
  | [x], _, h => h
  | [x, y], hd, h => by
    have hx := hd x (by simp)
    have h2 := (norm_iff _).1 h (by simp)
    simp at h2
    have hy := hd y (by simp)
    refine (norm_iff _).2 (fun _ => ?_)
    simp [outL]
    omega
  | x :: y :: z :: l, hd, h => by
    have h2 : Norm (z :: l) := by
      rw [norm_iff] at h ⊢
      intro hn
      have := h (by simp)
      simpa using this
    have ih := outL_norm (l := z :: l) (fun w hw => hd w (List.mem_cons_of_mem _ (List.mem_cons_of_mem _ hw))) h2
    rw [norm_iff] at ih ⊢
    intro hn
    have hne : outL (z :: l) ≠ [] := by cases l <;> simp [outL]
    have := ih hne
    simp only [outL]
    rw [List.getLast_cons hne]
    exact this
def cmpN (x y : Nat) : Int := if x < y then -1 else if x > y then 1 else 0
end
section
def IsNat (l : List Int) (v : Nat) : Prop := Dig B64 l ∧ Norm l ∧ val B64 l = v
theorem IsNat.uniq {a b : List Int} {v : Nat} (h : IsNat a v) (k : IsNat b v) : a = b := norm_inj B64_pos h.1 k.1 h.2.1 k.2.1 (h.2.2.trans k.2.2.symm)
theorem IsNat.nil : IsNat [] 0 := ⟨Dig.nil _, norm_nil, rfl⟩
theorem IsNat.out {l : List Int} {v : Nat} (hd : Dig B32 l) (hn : Norm l) (hv : val B32 l = v) : IsNat (outL l) v := ⟨outL_dig hd, outL_norm hd hn, by rw [outL_val hd, hv]⟩
end
section
theorem mul_step {B : Nat} {a b out : List Int} {i j : Nat} {ai c x c' : Int} (hp : i + j < out.length)
    (hv : val B out + B ^ (i + j) * c.toNat = val B (a.take i) * val B b + B ^ i * (ai.toNat * val B (b.take j)))
    (hx : x.toNat + B * c'.toNat = ai.toNat * (rd b (j : Int)).toNat + (rd out ((i + j : Nat) : Int)).toNat + c.toNat) :
    val B (out.set (i + j) x) + B ^ (i + (j + 1)) * c'.toNat = val B (a.take i) * val B b + B ^ i * (ai.toNat * val B (b.take (j + 1))) := by
  have h1 := val_set B out (i + j) x hp
  rw [val_take_succ, Nat.mul_add, Nat.mul_add, ← Nat.add_assoc i j 1, Nat.pow_succ]
  have h2 := congrArg (B ^ (i + j) * ·) hx
  simp only [Nat.mul_add] at h2
  have h3 : B ^ (i + j) * (B * c'.toNat) = B ^ (i + j) * B * c'.toNat := (Nat.mul_assoc _ _ _).symm
  have h4 : B ^ (i + j) * (ai.toNat * (rd b (j : Int)).toNat) = B ^ i * (ai.toNat * (B ^ j * (rd b (j : Int)).toNat)) := by
    rw [Nat.pow_add]
    simp only [Nat.mul_assoc, Nat.mul_left_comm]
  omega
theorem mul_end {B : Nat} {a b out : List Int} {i : Nat} {c : Int} (hp : i + b.length < out.length) (h0 : rd out ((i + b.length : Nat) : Int) = 0)
    (hv : val B out + B ^ (i + b.length) * c.toNat = val B (a.take i) * val B b + B ^ i * ((rd a (i : Int)).toNat * val B (b.take b.length))) :
    val B (out.set (i + b.length) c) = val B (a.take (i + 1)) * val B b := by
  have h1 := val_set B out (i + b.length) c hp
  rw [h0] at h1
  rw [List.take_length] at hv
  rw [val_take_succ, Nat.add_mul]
  have h2 : B ^ i * (rd a (i : Int)).toNat * val B b = B ^ i * ((rd a (i : Int)).toNat * val B b) := Nat.mul_assoc _ _ _
  simp at h1
  omega
def Clear (l : List Int) (n : Nat) : Prop := ∀ m : Nat, n ≤ m → rd l (m : Int) = 0
theorem Clear.set {l : List Int} {n p : Nat} {x : Int} (h : Clear l n) (hp : p < n) : Clear (l.set p x) n := fun m hm => by rw [rd_set_ne _ _ _ _ (by omega)]; exact h m hm
theorem Clear.more {l : List Int} {n : Nat} (h : Clear l n) (x : Int) : Clear (l.set n x) (n + 1) := fun m hm => by rw [rd_set_ne _ _ _ _ (by omega)]; exact h m (by omega)
theorem Clear.zeros (n m : Nat) : Clear (List.replicate n 0) m := fun k hk => by
  rw [rd_nat, List.getD_eq_getElem?_getD, List.getElem?_replicate]
  split <;> rfl
end
section
theorem cast_dig {B n : Nat} (h : n < B) : 0 ≤ (n : Int) ∧ (n : Int) < (B : Int) := by omega
theorem low32_nat (n : Nat) (h : n < 18446744073709551616) : bits .and .u64 (n : Int) 4294967295 = ((n % 4294967296 : Nat) : Int) := by
  rw [and_low32 _ (by omega) (by omega)]
  omega
def sl (B P : Nat) : Nat → List Int → List Int
  | c, [] => [(c : Int)]
  | c, x :: l => (((x.toNat * P + c) % B : Nat) : Int) :: sl B P ((x.toNat * P + c) / B) l
theorem carry_lt {B P x c : Nat} (hx : x < B) (hc : c < P) : (x * P + c) / B < P := by
  have hB : 0 < B := by omega
  refine Nat.div_lt_of_lt_mul ?_
  have h := Nat.mul_le_mul_right P (show x + 1 ≤ B from hx)
  rw [Nat.add_mul, Nat.one_mul] at h
  omega
def sr (B P : Nat) : List Int → List Int
  | [] => []
  | x :: l => (((x.toNat + B * ((rd l 0).toNat % P)) / P : Nat) : Int) :: sr B P l
theorem val_mod (B P : Nat) (h : P ∣ B) (l : List Int) : val B l % P = (rd l 0).toNat % P := by
  cases l with
  | nil => rfl
  | cons x l =>
    obtain ⟨K, rfl⟩ := h
    rw [val_cons, Nat.mul_assoc, Nat.add_mul_mod_self_left]
    rfl
theorem sr_val {B P : Nat} (hP : 0 < P) (h : P ∣ B) : ∀ l : List Int, val B (sr B P l) = val B l / P
  | [] => by simp [sr, val]
  | x :: l => by
    simp only [sr, val_cons, Int.toNat_natCast]
    rw [sr_val hP h l, ← val_mod B P h l]
    have h1 := Nat.mod_add_div (val B l) P
    have h2 : x.toNat + B * val B l = x.toNat + B * (val B l % P) + P * (B * (val B l / P)) := by
      have h3 := congrArg (B * ·) h1
      simp only [Nat.mul_add] at h3
      rw [Nat.mul_left_comm] at h3
      omega
    rw [h2, Nat.add_mul_div_left _ _ hP]
theorem quot_lt {B P x y : Nat} (hP : 0 < P) (hx : x < B) : (x + B * (y % P)) / P < B := by
  have h1 := Nat.mod_lt y hP
  refine Nat.div_lt_of_lt_mul ?_
  have h := Nat.mul_le_mul_left B (show y % P + 1 ≤ P from h1)
  rw [Nat.mul_add, Nat.mul_one, Nat.mul_comm B P] at h
  omega
theorem sr_dig {B P : Nat} (hP : 0 < P) : ∀ l : List Int, Dig B l → Dig B (sr B P l)
  | [], _ => Dig.nil _
  | x :: l, h => by
    have hx := h x (by simp)
    have h1 : (x.toNat + B * ((rd l 0).toNat % P)) / P < B := quot_lt hP (by omega)
    exact Dig.cons (cast_dig h1) (sr_dig hP l (fun y hy => h y (List.mem_cons_of_mem _ hy)))
theorem sr_length (B P : Nat) : ∀ l : List Int, (sr B P l).length = l.length
  | [] => rfl
  | x :: l => by simp only [sr, List.length_cons, sr_length B P l]
theorem div_split {B P x y : Nat} (hP : 0 < P) (hx : x < B) : (x + B * y) / P % B = (x + B * (y % P)) / P := by
  have h1 := Nat.mod_add_div y P
  have h2 : x + B * y = x + B * (y % P) + P * (B * (y / P)) := by
    have h3 := congrArg (B * ·) h1
    simp only [Nat.mul_add] at h3
    rw [Nat.mul_left_comm] at h3
    omega
  rw [h2, Nat.add_mul_div_left _ _ hP, Nat.add_mul_mod_self_left, Nat.mod_eq_of_lt (quot_lt hP hx)]
theorem shl_nat (x p : Nat) (hp : p ≤ 64) : shl .u64 (x : Int) (p : Int) = ((x * 2 ^ p % 18446744073709551616 : Nat) : Int) := by
  unfold shl
  rw [wrap_u64, Int.toNat_natCast, show IntKind.u64.bits = 64 from rfl, Nat.min_eq_left hp, show ((x : Int) * 2 ^ p) = ((x * 2 ^ p : Nat) : Int) by simp]
  exact (Int.natCast_emod _ 18446744073709551616).symm
theorem or_nat (p x y : Nat) (hp : p ≤ 64) (hx : x < 18446744073709551616) (h : 2 ^ p ∣ x) (hy : y < 2 ^ p) : bits .or .u64 (x : Int) (y : Int) = ((x + y : Nat) : Int) := by
  have h64 : 2 ^ p ≤ 2 ^ 64 := Nat.pow_le_pow_right (by omega) hp
  have hc : ((2 : Int) ^ p) = ((2 ^ p : Nat) : Int) := by simp
  rw [or_join p x y (by omega) (by rw [hc]; have := Nat.mod_eq_zero_of_dvd h; omega) (by omega) (by omega) (by rw [hc]; omega) (by omega)]
  omega
theorem or_nat' (p x y : Nat) (hp : p ≤ 64) (hx : x < 18446744073709551616) (h : 2 ^ p ∣ x) (hy : y < 2 ^ p) : bits .or .u64 (y : Int) (x : Int) = ((y + x : Nat) : Int) := by
  rw [bits_or_comm, or_nat p x y hp hx h hy, Nat.add_comm]
theorem pow_split (w p : Nat) (h : p ≤ w) : 2 ^ w = 2 ^ (w - p) * 2 ^ p := by rw [← Nat.pow_add]; congr 1; omega
theorem pow_div_mod (v w n : Nat) : v / 2 ^ n = v / (2 ^ w) ^ (n / w) / 2 ^ (n % w) := by
  rw [Nat.div_div_eq_div_mul, ← Nat.pow_mul, ← Nat.pow_add]
  congr 2
  exact (Nat.div_add_mod n w).symm
theorem pow_mul_mod (v w n : Nat) : v * 2 ^ n = (2 ^ w) ^ (n / w) * (v * 2 ^ (n % w)) := by
  rw [Nat.mul_left_comm, ← Nat.pow_mul, ← Nat.pow_add, Nat.div_add_mod]
theorem B32_pow : B32 = 2 ^ 32 := by unfold B32; rfl
theorem B64_pow : B64 = 2 ^ 64 := by unfold B64; rfl
theorem val_drop (B : Nat) (hB : 0 < B) {l : List Int} (h : Dig B l) (d : Nat) : val B (l.drop d) = val B l / B ^ d := by
  rcases Nat.lt_or_ge l.length d with hl | hl
  · rw [List.drop_eq_nil_of_le (by omega), Nat.div_eq_of_lt]
    · rfl
    · have h1 := val_lt h
      have h2 : B ^ l.length ≤ B ^ d := Nat.pow_le_pow_right hB (by omega)
      omega
  · have h1 := val_split B l d hl
    have h2 := val_lt (h.take d)
    rw [List.length_take, Nat.min_eq_left hl] at h2
    rw [h1, Nat.add_mul_div_left _ _ (Nat.pow_pos hB), Nat.div_eq_of_lt h2]
    omega
theorem val_shl (B d : Nat) (l : List Int) : val B (List.replicate d 0 ++ l) = B ^ d * val B l := by
  rw [val_append, val_zeros, List.length_replicate]
  omega
end
section
theorem set_mid (acc r : List Int) (c y : Int) (p : Nat) (h : p = acc.length) : (acc ++ c :: r).set p y = acc ++ y :: r := by
  subst h
  rw [List.set_append_right _ _ (Nat.le_refl _), Nat.sub_self]
  rfl
theorem rd_mid (acc r : List Int) (c : Int) (p : Nat) (h : p = acc.length) : rd (acc ++ c :: r) (p : Int) = c := by
  subst h
  simp [rd_nat, List.getD_eq_getElem?_getD]
theorem sh64 (p : Nat) (hp : 0 < p ∧ p < 64) : IntKind.u64.wrap (64 - (p : Int)) = ((64 - p : Nat) : Int) := by
  rw [wrap_u64_id (by omega)]
  omega
theorem place_up (p x c : Nat) (hp : p < 64) (hx : x < B64) (hc : c < 2 ^ p) : bits .or .u64 (c : Int) (shl .u64 (x : Int) (p : Int)) = (((x * 2 ^ p + c) % B64 : Nat) : Int) := by
  have hs := pow_split 64 p (by omega)
  have hK : 0 < 2 ^ (64 - p) := Nat.pow_pos (by omega)
  have hmod : x * 2 ^ p % 18446744073709551616 = x % 2 ^ (64 - p) * 2 ^ p := by
    rw [show 18446744073709551616 = 2 ^ 64 from rfl, hs, Nat.mul_mod_mul_right]
  have hlt := Nat.mod_lt x hK
  have h1 := Nat.mul_le_mul_right (2 ^ p) (show x % 2 ^ (64 - p) + 1 ≤ 2 ^ (64 - p) from hlt)
  rw [Nat.add_mul, Nat.one_mul, ← hs] at h1
  have h2 : (2 : Nat) ^ 64 = 18446744073709551616 := rfl
  rw [h2] at h1
  have h3 : (x * 2 ^ p + c) % B64 = c + x % 2 ^ (64 - p) * 2 ^ p := by
    unfold B64
    rw [Nat.add_mod, hmod, Nat.mod_eq_of_lt (a := c) (by omega), Nat.mod_eq_of_lt (by omega), Nat.add_comm]
  rw [shl_nat _ _ (by omega), hmod, or_nat' p _ _ (by omega) (by omega) (Nat.dvd_mul_left _ _) hc, h3]
theorem up_carry (p x c : Nat) (hp : p < 64) (hc : c < 2 ^ p) : (x * 2 ^ p + c) / B64 = x / 2 ^ (64 - p) := by
  rw [B64_pow, pow_split 64 p (by omega), Nat.mul_comm (2 ^ (64 - p)), ← Nat.div_div_eq_div_mul, Nat.add_comm, Nat.add_mul_div_right _ _ (Nat.pow_pos (by omega)), Nat.div_eq_of_lt hc, Nat.zero_add]
theorem rep_split (n m : Nat) : List.replicate (n + (m + 1)) (0 : Int) = List.replicate n 0 ++ ((0 : Nat) : Int) :: List.replicate m 0 := by
  induction n with
  | zero => rw [Nat.zero_add, List.replicate_succ]; rfl
  | succ n ih => rw [show n + 1 + (m + 1) = (n + (m + 1)) + 1 by omega, List.replicate_succ, ih, List.replicate_succ]; rfl
theorem place_down (p x y : Nat) (hp : 0 < p ∧ p < 64) (hx : x < B64) : bits .or .u64 ((x / 2 ^ p : Nat) : Int) (shl .u64 (y : Int) ((64 - p : Nat) : Int)) = (((x + B64 * (y % 2 ^ p)) / 2 ^ p : Nat) : Int) := by
  have hs := pow_split 64 (64 - p) (by omega)
  rw [show 64 - (64 - p) = p by omega] at hs
  have hP : 0 < 2 ^ p := Nat.pow_pos (by omega)
  have hmod : y * 2 ^ (64 - p) % 18446744073709551616 = y % 2 ^ p * 2 ^ (64 - p) := by
    rw [show 18446744073709551616 = 2 ^ 64 from rfl, hs, Nat.mul_mod_mul_right]
  have hlt := Nat.mod_lt y hP
  have h1 := Nat.mul_le_mul_right (2 ^ (64 - p)) (show y % 2 ^ p + 1 ≤ 2 ^ p from hlt)
  rw [Nat.add_mul, Nat.one_mul, ← hs] at h1
  have h2 : (2 : Nat) ^ 64 = 18446744073709551616 := rfl
  rw [h2] at h1
  have hK : 0 < 2 ^ (64 - p) := Nat.pow_pos (by omega)
  have hxd : x / 2 ^ p < 2 ^ (64 - p) := by
    refine Nat.div_lt_of_lt_mul ?_
    rw [← hs, h2]
    exact hx
  rw [shl_nat _ _ (by omega), hmod, or_nat' (64 - p) _ _ (by omega) (by omega) (Nat.dvd_mul_left _ _) hxd]
  congr 1
  rw [B64_pow, hs, Nat.mul_assoc, Nat.add_mul_div_left _ _ hP, Nat.mul_comm (2 ^ (64 - p))]
def shOk (a : List Int) (n : Int) : Prop := a.length ≤ 1200 ∧ ¬ (n > 80000) ∧ ¬ (n < -80000)
instance (a : List Int) (n : Int) : Decidable (shOk a n) := by unfold shOk; infer_instance
end
section
def IsBits (v n : Nat) : Prop := v < 2 ^ n ∧ (n = 0 ∨ 2 ^ (n - 1) ≤ v)
instance (v n : Nat) : Decidable (IsBits v n) := by unfold IsBits; infer_instance
theorem IsBits.uniq {v n m : Nat} (h : IsBits v n) (k : IsBits v m) : n = m := by
  have one : ∀ a b : Nat, IsBits v a → IsBits v b → a ≤ b := by
    intro a b h k
    rcases h.2 with h2 | h2
    · omega
    · rcases Nat.lt_or_ge b a with h3 | h3
      · have := Nat.pow_le_pow_right (n := 2) (by omega) (show b ≤ a - 1 by omega)
        have := k.1
        omega
      · exact h3
  exact Nat.le_antisymm (one n m h k) (one m n k h)
theorem IsBits.zero : IsBits 0 0 := ⟨by decide, Or.inl rfl⟩
theorem IsBits.pos {v n : Nat} (h : IsBits v n) (hv : 0 < v) : 0 < n := by
  rcases Nat.eq_zero_or_pos n with h2 | h2
  · subst h2
    have := h.1
    simp at this
    omega
  · exact h2
theorem IsBits.up {v m s : Nat} (h : IsBits (v / 2 ^ s) m) (hv : 0 < v / 2 ^ s) : IsBits v (s + m) := by
  have hp : 0 < 2 ^ s := Nat.pow_pos (by omega)
  have hm := h.pos hv
  refine ⟨?_, Or.inr ?_⟩
  · rw [Nat.pow_add, Nat.mul_comm]
    exact (Nat.div_lt_iff_lt_mul hp).1 h.1
  · rcases h.2 with h2 | h2
    · omega
    · rw [show s + m - 1 = s + (m - 1) by omega, Nat.pow_add, Nat.mul_comm]
      exact (Nat.le_div_iff_mul_le hp).1 h2
theorem IsBits.le {v n w : Nat} (h : IsBits v n) (hv : v < 2 ^ w) : n ≤ w := by
  rcases h.2 with h2 | h2
  · omega
  · rcases Nat.lt_or_ge w n with h3 | h3
    · have := Nat.pow_le_pow_right (n := 2) (by omega) (show w ≤ n - 1 by omega)
      omega
    · exact h3
theorem lenT : ∀ i : Nat, i < 256 → IsBits i (bt (⟨#[0, 1, 2, 2, 3, 3, 3, 3, 4, 4, 4, 4, 4, 4, 4, 4, 5, 5, 5, 5, 5, 5, 5, 5, 5, 5, 5, 5, 5, 5, 5, 5, 6, 6, 6, 6, 6, 6, 6, 6, 6, 6, 6, 6, 6, 6, 6, 6, 6, 6, 6, 6, 6, 6, 6, 6, 6, 6, 6, 6, 6, 6, 6, 6, 7, 7, 7, 7, 7, 7, 7, 7, 7, 7, 7, 7, 7, 7, 7, 7, 7, 7, 7, 7, 7, 7, 7, 7, 7, 7, 7, 7, 7, 7, 7, 7, 7, 7, 7, 7, 7, 7, 7, 7, 7, 7, 7, 7, 7, 7, 7, 7, 7, 7, 7, 7, 7, 7, 7, 7, 7, 7, 7, 7, 7, 7, 7, 7, 8, 8, 8, 8, 8, 8, 8, 8, 8, 8, 8, 8, 8, 8, 8, 8, 8, 8, 8, 8, 8, 8, 8, 8, 8, 8, 8, 8, 8, 8, 8, 8, 8, 8, 8, 8, 8, 8, 8, 8, 8, 8, 8, 8, 8, 8, 8, 8, 8, 8, 8, 8, 8, 8, 8, 8, 8, 8, 8, 8, 8, 8, 8, 8, 8, 8, 8, 8, 8, 8, 8, 8, 8, 8, 8, 8, 8, 8, 8, 8, 8, 8, 8, 8, 8, 8, 8, 8, 8, 8, 8, 8, 8, 8, 8, 8, 8, 8, 8, 8, 8, 8, 8, 8, 8, 8, 8, 8, 8, 8, 8, 8, 8, 8, 8, 8, 8, 8, 8, 8, 8, 8, 8, 8, 8, 8, 8, 8]⟩ : ByteArray) (i : Int)).toNat ∧ 0 ≤ bt (⟨#[0, 1, 2, 2, 3, 3, 3, 3, 4, 4, 4, 4, 4, 4, 4, 4, 5, 5, 5, 5, 5, 5, 5, 5, 5, 5, 5, 5, 5, 5, 5, 5, 6, 6, 6, 6, 6, 6, 6, 6, 6, 6, 6, 6, 6, 6, 6, 6, 6, 6, 6, 6, 6, 6, 6, 6, 6, 6, 6, 6, 6, 6, 6, 6, 7, 7, 7, 7, 7, 7, 7, 7, 7, 7, 7, 7, 7, 7, 7, 7, 7, 7, 7, 7, 7, 7, 7, 7, 7, 7, 7, 7, 7, 7, 7, 7, 7, 7, 7, 7, 7, 7, 7, 7, 7, 7, 7, 7, 7, 7, 7, 7, 7, 7, 7, 7, 7, 7, 7, 7, 7, 7, 7, 7, 7, 7, 7, 7, 8, 8, 8, 8, 8, 8, 8, 8, 8, 8, 8, 8, 8, 8, 8, 8, 8, 8, 8, 8, 8, 8, 8, 8, 8, 8, 8, 8, 8, 8, 8, 8, 8, 8, 8, 8, 8, 8, 8, 8, 8, 8, 8, 8, 8, 8, 8, 8, 8, 8, 8, 8, 8, 8, 8, 8, 8, 8, 8, 8, 8, 8, 8, 8, 8, 8, 8, 8, 8, 8, 8, 8, 8, 8, 8, 8, 8, 8, 8, 8, 8, 8, 8, 8, 8, 8, 8, 8, 8, 8, 8, 8, 8, 8, 8, 8, 8, 8, 8, 8, 8, 8, 8, 8, 8, 8, 8, 8, 8, 8, 8, 8, 8, 8, 8, 8, 8, 8, 8, 8, 8, 8, 8, 8, 8, 8, 8, 8]⟩ : ByteArray) (i : Int) := by decide +kernel
end
section
def powOk (m : Nat) (e : Int) : Prop := ¬ (e < 0) ∧ ¬ (e > 20000) ∧ ¬ (wrap64 ((m : Int) * e) > 76800)
instance (m : Nat) (e : Int) : Decidable (powOk m e) := by unfold powOk; infer_instance
end
section
theorem bits_of (v : Nat) (hv : v < 18446744073709551616) : ∃ m : Nat, IsBits v m ∧ m ≤ 64 := by
  by_cases h0 : v = 0
  · subst h0
    exact ⟨0, IsBits.zero, by decide⟩
  · have h1 : v < 2 ^ (v.log2 + 1) := Nat.lt_log2_self
    have h2 : 2 ^ v.log2 ≤ v := Nat.log2_self_le h0
    have h : IsBits v (v.log2 + 1) := ⟨h1, .inr (by rw [Nat.add_sub_cancel]; exact h2)⟩
    exact ⟨v.log2 + 1, h, h.le (w := 64) hv⟩
theorem val_mid (B : Nat) {l : List Int} {p : Nat} (h : p < l.length) : val B l = val B (l.take p) + B ^ p * ((rd l (p : Int)).toNat + B * val B (l.drop (p + 1))) := by
  have h1 := val_split B l p (by omega)
  have h2 : l.drop p = rd l (p : Int) :: l.drop (p + 1) := by
    rw [List.drop_eq_getElem_cons h]
    congr 1
    simp [rd_nat, h]
  rw [h2, val_cons] at h1
  exact h1
end
section
theorem val_drop_rd (B : Nat) {l : List Int} {p : Nat} (h : p < l.length) : val B (l.drop p) = (rd l (p : Int)).toNat + B * val B (l.drop (p + 1)) := by
  rw [List.drop_eq_getElem_cons h, val_cons]
  congr 2
  simp [rd_nat, h]
end
section
theorem len_le_of_val {l : List Int} (hd : Dig B64 l) (hn : Norm l) {m : Nat} (h : val B64 l < B64 ^ m) : l.length ≤ m := by
  rcases Nat.lt_or_ge m l.length with h1 | h1
  · have h2 := val_ge hd hn (by omega)
    have h3 : B64 ^ m ≤ B64 ^ (l.length - 1) := Nat.pow_le_pow_right B64_pos (by omega)
    omega
  · exact h1
end
section
def dv (v : Nat) : List Int → Nat
  | [] => v
  | c :: l => dv (v * 10 + (c - 48).toNat) l
def IsDig (l : List Int) : Prop := ∀ c ∈ l, 48 ≤ c ∧ c ≤ 57
theorem IsDig.take {l : List Int} (h : IsDig l) (k : Nat) : IsDig (l.take k) := fun x hx => h x (List.mem_of_mem_take hx)
theorem IsDig.drop {l : List Int} (h : IsDig l) (k : Nat) : IsDig (l.drop k) := fun x hx => h x (List.mem_of_mem_drop hx)
theorem IsDig.rd {l : List Int} (h : IsDig l) (i : Nat) (hi : i < l.length) : 48 ≤ rd l (i : Int) ∧ rd l (i : Int) ≤ 57 := by
  rw [rd_nat, List.getD_eq_getElem?_getD, List.getElem?_eq_getElem hi]
  exact h _ (List.getElem_mem hi)
end
section
instance (l : List Int) : Decidable (IsDig l) := by unfold IsDig; infer_instance
end
section
def hiI (w : Nat) : Int := ((w / 18446744073709551616 : Nat) : Int)
def loI (w : Nat) : Int := ((w % 18446744073709551616 : Nat) : Int)
abbrev B128 : Nat := 340282366920938463463374607431768211456
theorem hi_lt {w : Nat} (h : w < B128) : w / 18446744073709551616 < 18446744073709551616 := by unfold B128 at h; omega
theorem lo_lt (w : Nat) : w % 18446744073709551616 < 18446744073709551616 := by omega
theorem pow64 : (18446744073709551616 : Nat) = 2 ^ 64 := rfl
theorem split_div (w n : Nat) (hn : n < 64) : w / 2 ^ n / 18446744073709551616 = w / 18446744073709551616 / 2 ^ n ∧ w / 2 ^ n % 18446744073709551616 = w % 18446744073709551616 / 2 ^ n + w / 18446744073709551616 * 2 ^ (64 - n) % 18446744073709551616 := by
  have hp : 0 < 2 ^ n := Nat.pow_pos (by decide)
  have e64 : (18446744073709551616 : Nat) = 2 ^ (64 - n) * 2 ^ n := by rw [← Nat.pow_add, show 64 - n + n = 64 by omega]
  have h1 : w / 2 ^ n / 18446744073709551616 = w / 18446744073709551616 / 2 ^ n := by rw [Nat.div_div_eq_div_mul, Nat.div_div_eq_div_mul, Nat.mul_comm]
  refine ⟨h1, ?_⟩
  have hdm := Nat.div_add_mod w 18446744073709551616
  generalize hH : w / 18446744073709551616 = H at *
  generalize hL : w % 18446744073709551616 = L at *
  have hLl : L < 18446744073709551616 := by rw [← hL]; exact Nat.mod_lt _ (by decide)
  have h2 : w / 2 ^ n = L / 2 ^ n + H * 2 ^ (64 - n) := by
    rw [← hdm, e64, show 2 ^ (64 - n) * 2 ^ n * H + L = L + 2 ^ n * (H * 2 ^ (64 - n)) by rw [Nat.mul_comm (2 ^ (64 - n)), Nat.mul_assoc, Nat.mul_comm (2 ^ (64 - n)) H]; omega, Nat.add_mul_div_left _ _ hp]
  rw [h2]
  have h3 : L / 2 ^ n < 2 ^ (64 - n) := by rw [Nat.div_lt_iff_lt_mul hp, ← e64]; exact hLl
  have h4 : H * 2 ^ (64 - n) % 18446744073709551616 = H % 2 ^ n * 2 ^ (64 - n) := by
    rw [show (18446744073709551616 : Nat) = 2 ^ n * 2 ^ (64 - n) by rw [Nat.mul_comm]; exact e64, Nat.mul_mod_mul_right]
  have h5 : H % 2 ^ n * 2 ^ (64 - n) + 2 ^ (64 - n) ≤ 18446744073709551616 := by
    have := Nat.mul_le_mul_right (2 ^ (64 - n)) (show H % 2 ^ n + 1 ≤ 2 ^ n from Nat.mod_lt _ hp)
    rw [Nat.add_mul, Nat.one_mul, Nat.mul_comm (2 ^ n)] at this
    rwa [← e64] at this
  rw [Nat.add_mod, h4, Nat.mod_eq_of_lt (show L / 2 ^ n < 18446744073709551616 by omega), Nat.mod_eq_of_lt (by omega)]
theorem mul_split (w n : Nat) (hn : n < 64) : (w * 2 ^ n) % B128 / 18446744073709551616 = w / 18446744073709551616 * 2 ^ n % 18446744073709551616 + w % 18446744073709551616 / 2 ^ (64 - n) ∧ (w * 2 ^ n) % B128 % 18446744073709551616 = w % 18446744073709551616 * 2 ^ n % 18446744073709551616 := by
  have hp : 0 < 2 ^ n := Nat.pow_pos (by decide)
  have e64 : (18446744073709551616 : Nat) = 2 ^ (64 - n) * 2 ^ n := by rw [← Nat.pow_add, show 64 - n + n = 64 by omega]
  have hdm := Nat.div_add_mod w 18446744073709551616
  generalize hH : w / 18446744073709551616 = H at *
  generalize hL : w % 18446744073709551616 = L at *
  have hLl : L < 18446744073709551616 := by rw [← hL]; exact Nat.mod_lt _ (by decide)
  have hB : B128 = 18446744073709551616 * 18446744073709551616 := rfl
  have h1 : w * 2 ^ n = 18446744073709551616 * (H * 2 ^ n) + L * 2 ^ n := by rw [← hdm, Nat.add_mul, Nat.mul_assoc]
  have h2 : L * 2 ^ n / 18446744073709551616 = L / 2 ^ (64 - n) := by
    rw [e64, Nat.mul_div_mul_right _ _ hp]
  have h3 : L / 2 ^ (64 - n) < 2 ^ n := by rw [Nat.div_lt_iff_lt_mul (Nat.pow_pos (by decide)), Nat.mul_comm, ← e64]; exact hLl
  have h4 : w * 2 ^ n / 18446744073709551616 = H * 2 ^ n + L / 2 ^ (64 - n) := by
    rw [h1, Nat.mul_add_div (by decide), h2]
  have h5 : H * 2 ^ n % 18446744073709551616 + 2 ^ n ≤ 18446744073709551616 := by
    have e : H * 2 ^ n % 18446744073709551616 = H % 2 ^ (64 - n) * 2 ^ n := by rw [show (18446744073709551616 : Nat) = 2 ^ (64 - n) * 2 ^ n from e64, Nat.mul_mod_mul_right]
    rw [e]
    have := Nat.mul_le_mul_right (2 ^ n) (show H % 2 ^ (64 - n) + 1 ≤ 2 ^ (64 - n) from Nat.mod_lt _ (Nat.pow_pos (by decide)))
    rw [Nat.add_mul, Nat.one_mul] at this
    rwa [← e64] at this
  constructor
  · rw [hB, Nat.mod_mul_right_div_self, h4, Nat.add_mod, Nat.mod_eq_of_lt (show L / 2 ^ (64 - n) < 18446744073709551616 by omega), Nat.mod_eq_of_lt (by omega)]
  · rw [hB, Nat.mod_mul_right_mod, h1, Nat.mul_add_mod]
end
section
theorem rd_val {B : Nat} (hB : 0 < B) {a : List Int} (ha : Dig B a) (p : Nat) : (rd a (p : Int)).toNat = val B a / B ^ p % B := by
  rw [← val_drop B hB ha p, val_mod B B (Nat.dvd_refl _)]
  have h : rd (a.drop p) 0 = rd a (p : Int) := by
    show rd (a.drop p) ((0 : Nat) : Int) = rd a (p : Int)
    rw [rd_nat, rd_nat]
    simp [List.getD_eq_getElem?_getD]
  rw [h]
  have := ha.rd hB (p : Int)
  rw [Nat.mod_eq_of_lt (by omega)]
theorem and1 (x : Nat) (h : x < 18446744073709551616) : bits .and .u64 (x : Int) 1 = ((x % 2 : Nat) : Int) := by
  have := and_mask 1 (by decide) (x : Int) (by omega) (by omega)
  simpa using this
theorem two_digits (l : List Int) (hl : Dig B64 l) (h2 : l.length ≤ 2) : rd (l ++ [0, 0]) 0 = loI (val B64 l) ∧ rd (l ++ [0, 0]) 1 = hiI (val B64 l) ∧ 2 ≤ (l ++ [0, 0]).length := by
  have hB : B64 = 18446744073709551616 := rfl
  match l, hl, h2 with
  | [], _, _ => exact ⟨rfl, rfl, by simp⟩
  | [x], hl, _ =>
    have hx := hl x (by simp)
    refine ⟨?_, ?_, by simp⟩
    · show x = loI (val B64 [x])
      rw [val_one]
      unfold loI
      omega
    · show (0 : Int) = hiI (val B64 [x])
      rw [val_one]
      unfold hiI
      omega
  | [x, y], hl, _ =>
    have hx := hl x (by simp)
    have hy := hl y (by simp)
    refine ⟨?_, ?_, by simp⟩
    · show x = loI (val B64 [x, y])
      rw [val_cons, val_one, hB]
      unfold B64 at hx hy
      unfold loI
      omega
    · show y = hiI (val B64 [x, y])
      rw [val_cons, val_one, hB]
      unfold B64 at hx hy
      unfold hiI
      omega
  | x :: y :: z :: l, _, h2 => simp at h2
end
section
theorem or_nn (a b : Nat) (ha : a < 18446744073709551616) (hb : b < 18446744073709551616) : Go.bits .or .u64 (a : Int) (b : Int) = ((a ||| b : Nat) : Int) :=
  (bits_nat .u64 64 (by decide) wraps_u64 a b ha hb).2
theorem andNot_nn (a b : Nat) (ha : a < 18446744073709551616) (hb : b < 18446744073709551616) : Go.bits .andNot .u64 (a : Int) (b : Int) = (((BitVec.ofNat 64 a &&& ~~~ BitVec.ofNat 64 b).toNat : Nat) : Int) := by
  have h : ∀ x : BitVec 64, IntKind.u64.wrap (x.toNat : Int) = (x.toNat : Int) := fun x => wrap_u64_id (by have := x.isLt; omega)
  exact h _
theorem andNot_high (a m : Nat) (ha : a < 18446744073709551616) (hm : m ≤ 64) : Go.bits .andNot .u64 (a : Int) ((a / 2 ^ m * 2 ^ m : Nat) : Int) = ((a % 2 ^ m : Nat) : Int) := by
  have hle : a / 2 ^ m * 2 ^ m ≤ a := Nat.div_mul_le_self _ _
  rw [andNot_nn _ _ ha (by omega)]
  congr 1
  have hmod : a % 2 ^ m < 2 ^ 64 := Nat.lt_of_le_of_lt (Nat.mod_le _ _) ha
  have : (BitVec.ofNat 64 a &&& ~~~ BitVec.ofNat 64 (a / 2 ^ m * 2 ^ m)) = BitVec.ofNat 64 (a % 2 ^ m) := by
    apply BitVec.eq_of_getLsbD_eq
    intro i hi
    simp only [BitVec.getLsbD_and, BitVec.getLsbD_not, BitVec.getLsbD_ofNat, hi, decide_true, Bool.true_and, Nat.testBit_mul_two_pow, Nat.testBit_div_two_pow, Nat.testBit_mod_two_pow]
    by_cases h : m ≤ i
    · have h2 : ¬ i < m := by omega
      have e : m + (i - m) = i := by omega
      have e' : i - m + m = i := by omega
      simp [h, h2, e, e']
    · have h2 : i < m := by omega
      simp [h, h2]
  rw [this, BitVec.toNat_ofNat, Nat.mod_eq_of_lt hmod]
theorem andNot_self (a : Nat) (ha : a < 18446744073709551616) : Go.bits .andNot .u64 (a : Int) (a : Int) = 0 := by
  have h := andNot_high a 0 ha (by decide)
  rw [Nat.pow_zero, Nat.div_one, Nat.mul_one, Nat.mod_one] at h
  exact h
theorem andNot_zero (a : Nat) (ha : a < 18446744073709551616) : Go.bits .andNot .u64 (a : Int) ((0 : Nat) : Int) = (a : Int) := by
  have h := andNot_high a 64 ha (by decide)
  rw [Nat.div_eq_of_lt (show a < 2 ^ 64 from ha), Nat.zero_mul, Nat.mod_eq_of_lt (show a < 2 ^ 64 from ha)] at h
  exact h
theorem or_zero (a : Nat) (ha : a < 18446744073709551616) : Go.bits .or .u64 (a : Int) 0 = (a : Int) := by
  have h := or_nn a 0 ha (by decide)
  rw [Nat.or_zero] at h
  exact h
theorem high_cells (w n : Nat) : (n < 64 → w / 2 ^ n * 2 ^ n / 18446744073709551616 = w / 18446744073709551616 ∧ w / 2 ^ n * 2 ^ n % 18446744073709551616 = w % 18446744073709551616 / 2 ^ n * 2 ^ n ∧ w % 2 ^ n / 18446744073709551616 = 0 ∧ w % 2 ^ n % 18446744073709551616 = w % 18446744073709551616 % 2 ^ n) ∧
    (64 ≤ n → w / 2 ^ n * 2 ^ n / 18446744073709551616 = w / 18446744073709551616 / 2 ^ (n - 64) * 2 ^ (n - 64) ∧ w / 2 ^ n * 2 ^ n % 18446744073709551616 = 0 ∧ w % 2 ^ n / 18446744073709551616 = w / 18446744073709551616 % 2 ^ (n - 64) ∧ w % 2 ^ n % 18446744073709551616 = w % 18446744073709551616) := by
  constructor
  · intro hn
    have hp : 0 < 2 ^ n := Nat.pow_pos (by decide)
    have e64 : (18446744073709551616 : Nat) = 2 ^ n * 2 ^ (64 - n) := by rw [← Nat.pow_add, show n + (64 - n) = 64 by omega]
    have hlt : 2 ^ n < 18446744073709551616 := by rw [pow64]; exact Nat.pow_lt_pow_right (by decide) hn
    have h1 := Nat.div_add_mod w (2 ^ n)
    have h2 := Nat.mod_lt w hp
    have hdm := Nat.div_add_mod w 18446744073709551616
    have hm : w % 18446744073709551616 % 2 ^ n = w % 2 ^ n := by rw [e64, Nat.mod_mul_right_mod]
    have hd := Nat.div_add_mod (w % 18446744073709551616) (2 ^ n)
    rw [hm] at hd
    have e1 : w / 2 ^ n * 2 ^ n = 18446744073709551616 * (w / 18446744073709551616) + w % 18446744073709551616 / 2 ^ n * 2 ^ n := by
      rw [Nat.mul_comm (w / 2 ^ n), Nat.mul_comm (w % 18446744073709551616 / 2 ^ n)]
      omega
    have hL : w % 18446744073709551616 / 2 ^ n * 2 ^ n < 18446744073709551616 := Nat.lt_of_le_of_lt (Nat.div_mul_le_self _ _) (Nat.mod_lt _ (by decide))
    refine ⟨?_, ?_, Nat.div_eq_of_lt (by omega), ?_⟩
    · rw [e1, Nat.mul_add_div (by decide), Nat.div_eq_of_lt hL, Nat.add_zero]
    · rw [e1, Nat.mul_add_mod, Nat.mod_eq_of_lt hL]
    · rw [hm, Nat.mod_eq_of_lt (by omega)]
  · intro hn
    have e : 2 ^ n = 18446744073709551616 * 2 ^ (n - 64) := by rw [pow64, ← Nat.pow_add, show 64 + (n - 64) = n by omega]
    have e1 : w / 2 ^ n * 2 ^ n = 18446744073709551616 * (w / 18446744073709551616 / 2 ^ (n - 64) * 2 ^ (n - 64)) := by
      rw [e, ← Nat.div_div_eq_div_mul, Nat.mul_left_comm]
    refine ⟨?_, ?_, ?_, ?_⟩
    · rw [e1, Nat.mul_div_cancel_left _ (by decide)]
    · rw [e1, Nat.mul_mod_right]
    · rw [e, Nat.mod_mul_right_div_self]
    · rw [e, Nat.mod_mul_right_mod]
end
section
abbrev Prt : Type := Int × Bool × Int × Int × Int
def badP : Prt := (0, false, 0, 0, 0)
def partsOf (P : Nat) (emin emax : Int) (E : Nat) (e : Nat) (neg : Bool) (rest : Nat) : Prt :=
  if e = 2 ^ E - 1 then (if rest = 0 then (4, neg, 0, 0, 0) else (5, false, 0, 0, 0))
  else if e = 0 then (if rest = 0 then (1, neg, 0, 0, 0) else (2, neg, hiI rest, loI rest, emin - P + 1))
  else (3, neg, hiI (rest + 2 ^ (P - 1)), loI (rest + 2 ^ (P - 1)), e - emax - P + 1)
def fracN (P : Nat) (ex : Bool) : Nat := if ex = true then P else P - 1
def unpN (P : Nat) (emin emax : Int) (W E : Nat) (ex : Bool) (w : Nat) : Prt :=
  if 2 ^ W ≤ w then badP
  else if ex = true then
    (if (2 ^ (P - 1) ≤ w % 2 ^ P ↔ w / 2 ^ P % 2 ^ E ≠ 0) then partsOf P emin emax E (w / 2 ^ P % 2 ^ E) (decide (w / 2 ^ (W - 1) % 2 = 1)) (w % 2 ^ P % 2 ^ (P - 1)) else badP)
  else partsOf P emin emax E (w / 2 ^ (P - 1) % 2 ^ E) (decide (w / 2 ^ (W - 1) % 2 = 1)) (w % 2 ^ (P - 1))
structure Fmt (P : Nat) (emin emax : Int) (W E : Nat) (ex : Bool) : Prop where
  p0 : 2 ≤ P
  p1 : P ≤ 113
  e0 : 1 ≤ E
  e1 : E ≤ 15
  w1 : fracN P ex + E + 1 = W
  w2 : W ≤ 128
  m0 : -20000 ≤ emin ∧ emin ≤ 20000
  m1 : -20000 ≤ emax ∧ emax ≤ 20000
section
variable {P : Nat} {emin emax : Int} {W E : Nat} {ex : Bool}
theorem Fmt.plt (h : Fmt P emin emax W E ex) : 2 ^ E ≤ 32768 := by
  have := Nat.pow_le_pow_right (n := 2) (by decide) h.e1
  exact this
end
end
section
theorem bit_top {v m : Nat} (h : v < 2 ^ (m + 1)) : v / 2 ^ m % 2 = if 2 ^ m ≤ v then 1 else 0 := by
  have hp : 0 < 2 ^ m := Nat.pow_pos (by decide)
  rw [Nat.pow_succ] at h
  have h2 : v / 2 ^ m < 2 := by rw [Nat.div_lt_iff_lt_mul hp, Nat.mul_comm]; exact h
  by_cases hv : 2 ^ m ≤ v
  · rw [if_pos hv]
    have := (Nat.le_div_iff_mul_le hp).2 (show 1 * 2 ^ m ≤ v by omega)
    omega
  · rw [if_neg hv, Nat.div_eq_of_lt (by omega)]
end
section
theorem word_ne (x : Nat) : (!(hiI x == 0) || (!(loI x == 0))) = decide (x ≠ 0) := by
  unfold hiI loI
  by_cases h : x = 0
  · subst h; rfl
  · rw [decide_eq_true h]
    by_cases h1 : x / 18446744073709551616 = 0
    · have h2 : x % 18446744073709551616 ≠ 0 := by omega
      have : (((x % 18446744073709551616 : Nat) : Int) == 0) = false := by rw [beq_eq_false_iff_ne]; omega
      rw [this]; simp
    · have : (((x / 18446744073709551616 : Nat) : Int) == 0) = false := by rw [beq_eq_false_iff_ne]; omega
      rw [this]; rfl
theorem word_eq0 (x : Nat) : (hiI x == 0 && (loI x == 0)) = decide (x = 0) := by
  have h := word_ne x
  have h2 : (hiI x == 0 && (loI x == 0)) = !(!(hiI x == 0) || (!(loI x == 0))) := by cases (hiI x == 0) <;> cases (loI x == 0) <;> rfl
  rw [h2, h]
  by_cases h0 : x = 0
  · rw [decide_eq_true h0, decide_eq_false (by simpa using h0)]; rfl
  · rw [decide_eq_false h0, decide_eq_true h0]; rfl
section
variable {P : Nat} {emin emax : Int} {W E : Nat} {ex : Bool}
theorem small2 (q : Nat) (h : q < 2) : q ≠ 0 ↔ q % 2 = 1 := by omega
end
end
section
theorem fmt0 : Fmt 24 (-126) 127 32 8 false := ⟨by decide, by decide, by decide, by decide, by decide, by decide, by decide, by decide⟩
theorem fmt1 : Fmt 53 (-1022) 1023 64 11 false := ⟨by decide, by decide, by decide, by decide, by decide, by decide, by decide, by decide⟩
theorem fmt2 : Fmt 64 (-16382) 16383 80 15 true := ⟨by decide, by decide, by decide, by decide, by decide, by decide, by decide, by decide⟩
theorem fmt3 : Fmt 113 (-16382) 16383 128 15 false := ⟨by decide, by decide, by decide, by decide, by decide, by decide, by decide, by decide⟩
end
end Go.Proofs.YtdbnmdchecacdaaDoor.M
end
section
namespace Go.Proofs.YtdbnmdchecacdaaDoor.M
open Go.RowKit Go.Proofs.YtdbnmdchecacdaaDoor.G Go.Proofs.YtdbnmdchecacdaaDoorV.PrintWords Go.Proofs.YtdbnmdchecacdaaDoorV.PrintLast Go.Proofs.YtdbnmdchecacdaaDoor.X
set_option linter.unusedVariables false
set_option linter.unusedSimpArgs false
def shf (k : IntKind) (x y : Int) : Int := Int.fdiv x (2 ^ min y.toNat k.bits)
theorem shf_nat (x p : Nat) (hp : p ≤ 64) : shf .u64 (x : Int) (p : Int) = ((x / 2 ^ p : Nat) : Int) := by
 unfold shf
 rw [Int.toNat_natCast, show IntKind.u64.bits = 64 from rfl, Nat.min_eq_left hp, Int.fdiv_eq_ediv_of_nonneg _ (Int.pow_nonneg (by decide))]
 have : (2 : Int) ^ p = ((2 ^ p : Nat) : Int) := by rw [Int.natCast_pow]; rfl
 rw [this]
 rfl
theorem set_rep (O : List Int) (k : Nat) (v : Int) : (O ++ List.replicate (k + 1) 0).set O.length v = (O ++ [v]) ++ List.replicate k 0 := by
 rw [List.set_append_right _ _ (Nat.le_refl _), Nat.sub_self, List.replicate_succ, List.set_cons_zero, List.append_assoc]
 rfl
theorem run_ext3 {ρ : Operand → Value} {o : Oper} {x y z : Operand} {f : FuncId} {ts : Array TypeId} {v : Value} {w : World} (ho : o.op = .call { callee := .value (.func f), args := #[x, y, z], argTypes := ts })
  (hf : ρ (.func f) = .func (.func f) #[] #[]) (hr : (callFunc f #[ρ x, ρ y, ρ z]).run Tryd.prog w = .ok (.value v) w) : (execOp ρ o).run Tryd.prog w = .ok (.value v) w := by
 unfold execOp
 simp only [ho, resolve, Sem.run_bind, Sem.run_pure, Result.andThen_ok, List.map_toArray, List.map_cons, List.map_nil, hf]
 simpa [Deferred.ofValue, invoke] using hr
section
variable {B : List Nat} {w0 : Base} {n : Nat} {env : List (Nat × Value)} {bs : List Box} {fs : List Fact} {K : Exit → St → Prop} {ops : Array Oper} {j : Nat}
theorem xad (d : Nat) (a b c : Int) {o : Oper} {x y z : Operand} {ts : Array TypeId} (hc : c.toNat ≤ 1) (h : NW ⟨Tryd.prog, n, B, w0⟩ ops (Nat.succ j) ⟨(d, .tuple #[.int .u64 (add64s a b c), .int .u64 (add64c a b c)]) :: env, bs, fs⟩ K)
  (ho : ops[j]? = some o := by rfl) (hop : o.op = .call { callee := .value (.func 125), args := #[x, y, z], argTypes := ts } := by rfl) (hg : guardD ops env o = some true := by kernel_rfl) (hf : fitO n env o = true := by kernel_rfl) (hd : o.dst = some d := by rfl)
  (hx : evD env x = .int .u64 a := by kernel_rfl) (hy : evD env y = .int .u64 b := by kernel_rfl) (hz : evD env z = .int .u64 c := by kernel_rfl) : NW ⟨Tryd.prog, n, B, w0⟩ ops j ⟨env, bs, fs⟩ K :=
 nv (X := ⟨Tryd.prog, n, B, w0⟩) _ d _ ho hg hf hd (fun w _ _ => run_ext3 hop rfl (by rw [hx, hy, hz]; exact run_Add64 a b c hc w)) rfl h
theorem xsb (d : Nat) (a b c : Int) {o : Oper} {x y z : Operand} {ts : Array TypeId} (hc : c.toNat ≤ 1) (h : NW ⟨Tryd.prog, n, B, w0⟩ ops (Nat.succ j) ⟨(d, .tuple #[.int .u64 (sub64s a b c), .int .u64 (sub64c a b c)]) :: env, bs, fs⟩ K)
  (ho : ops[j]? = some o := by rfl) (hop : o.op = .call { callee := .value (.func 126), args := #[x, y, z], argTypes := ts } := by rfl) (hg : guardD ops env o = some true := by kernel_rfl) (hf : fitO n env o = true := by kernel_rfl) (hd : o.dst = some d := by rfl)
  (hx : evD env x = .int .u64 a := by kernel_rfl) (hy : evD env y = .int .u64 b := by kernel_rfl) (hz : evD env z = .int .u64 c := by kernel_rfl) : NW ⟨Tryd.prog, n, B, w0⟩ ops j ⟨env, bs, fs⟩ K :=
 nv (X := ⟨Tryd.prog, n, B, w0⟩) _ d _ ho hg hf hd (fun w _ _ => run_ext3 hop rfl (by rw [hx, hy, hz]; exact run_Sub64 a b c hc w)) rfl h
end
theorem trimL_take (n : Nat) : ∀ {l : List Int} {m : Nat}, l.length = n → m ≤ l.length → (∀ i : Nat, m ≤ i → rd l i = 0) → (0 < m → rd l ((m - 1 : Nat) : Int) ≠ 0) → trimL l = l.take m := by
 induction n with
 | zero =>
  intro l m hl hm _ _
  have : l = [] := List.eq_nil_of_length_eq_zero hl
  subst this
  simp
  rfl
 | succ n ih =>
  intro l m hl hm hz hn
  obtain ⟨a, x, rfl⟩ := snoc_of (l := l) (by omega)
  have ha : a.length = n := by simp at hl; exact hl
  have hx : rd (a ++ [x]) (a.length : Int) = x := by simp [rd_nat]
  by_cases he : m = a.length + 1
  ·subst he
   have h1 := hn (by omega)
   rw [show a.length + 1 - 1 = a.length by omega, hx] at h1
   rw [List.take_of_length_le (by simp)]
   exact norm_snoc.2 h1
  ·have hm' : m ≤ a.length := by simp at hm; omega
   have h0 := hz a.length hm'
   rw [hx] at h0
   subst h0
   rw [trimL_snoc_zero, List.take_append_of_le_length hm']
   refine ih ha hm' (fun i hi => ?_) (fun hp => ?_)
   ·rcases Nat.lt_or_ge i a.length with h | h
    ·have := hz i hi
     rwa [rd_append_left _ _ _ (by simpa using h)] at this
    ·exact rd_of_ge a i (by simpa using h)
   ·have := hn hp
    rwa [rd_append_left _ _ _ (by simp; omega)] at this
theorem ct_impl_trimmed (l : List Int) (A : Option Addr) (c : Nat) (hl : l.length ≤ 1000000000) : CtR Tryd.prog 103 [.slice A l.length c] [Row .u64 A c l] .u64 (trimL l) := by
 refine ct_of Tryd.func103 rfl (by kernel_rfl) (fun B w0 => ?_)
 refine SW_know zi0 (fun w h => h.2) (fun hc => ?_)
 refine xr [] [(2, .slice none 0 0)] ?_
 refine xr [] [(3, .int .i64 (((List.length l) : Nat) : Int))] ?_
 refine SW_seq ?_
 refine SW_block ?_
 refine SW_loopn (fun m s => m ≤ l.length ∧ (∀ i : Nat, m ≤ i → rd l i = 0) ∧ Weak s ⟨[(0, .slice A l.length c), (3, .int .i64 (m : Int))], [], [Row .u64 A c l]⟩) l.length ⟨Nat.le_refl _, fun i hi => rd_of_ge l i (by simpa using hi), ?_⟩ (fun m s ⟨h1, h2, hw⟩ => ?_)
 ·exact xw (zsS zi0 zs0)
 ·refine SW_weak hw ?_
  clear hw
  have fin : ∀ {A}, trimL l = l.take m → ∀ w, Row .u64 A c l w → Row .u64 A m (trimL l) w := fun e w h => e ▸ row_take m m (Nat.le_refl m) h
  have len : trimL l = l.take m → (trimL l).length = m := fun e => by rw [e, List.length_take]; omega
  by_cases h0 : m = 0
  ·have z0 : decide ((m : Int) > 0) = false := decide_eq_false (by omega)
   have e := trimL_take _ rfl h1 h2 (fun z => absurd h0 (by omega))
   refine SW_fact zi0 (fin e) ?_
   refine SW_seq ?_
   refine xg ?_
   refine xn 3 [] [(8, .bool (decide ((m : Int) > 0)))] ?_
   refine xkf 8 z0 ?_
   refine xz [] [(15, .bool false)] ?_
   refine xs0 ?_
   refine SW_exit ?_
   refine xg ?_
   refine xn 3 [] [(20, .int .i64 (m : Int)), (19, .int .i64 (m : Int)), (18, .slice A (List.length l) c)] ?_
   refine xsx 21 22 (A) (List.length l) (c) (m) IntKind.i64 IntKind.i64 ((m : Int)) ⟨rfl⟩ (by omega) ?_
   refine xz [] [(2, .slice A m m)] ?_
   refine SW_ret ?_
   refine xe (A, m) (.slice A m m) [] ?_ (zsS zi0 zs0)
   rw [len e]
  ·have z0 : decide ((m : Int) > 0) = true := decide_eq_true (by omega)
   refine SW_know zi0 (fun w h => row_at h (by omega)) (fun ⟨ad, e⟩ => ?_)
   subst e
   have wi : IntKind.i64.wrap ((m : Int) - 1) = ((m - 1 : Nat) : Int) := by rw [wrap_i64 (by omega)]; omega
   refine SW_seq ?_
   refine xg ?_
   refine xn 3 [] [(8, .bool (decide ((m : Int) > 0)))] ?_
   refine xkt 8 z0 ?_
   refine xn 6 [] [(11, .int .i64 (IntKind.wrap IntKind.i64 ((m : Int) - 1))), (9, .slice (some ad) (List.length l) c)] ?_
   refine xfi 12 22 (ad) (List.length l) (c) ((m) - 1) IntKind.i64 (IntKind.wrap IntKind.i64 ((m : Int) - 1)) (Nn.w (Nn.sub ⟨rfl⟩ ⟨rfl⟩ (by omega)) (by omega)) (by omega) ?_
   refine xfl 13 zi0 (m - 1) (by omega) ?_
   refine xz [] [(15, .bool (rd l (((m - 1) : Nat) : Int) == 0))] ?_
   refine xs (rd l (((m - 1) : Nat) : Int) == 0) (fun q0 => ?_) (fun q0 => ?_)
   ·refine SW_skip ?_
    refine SW_block ?_
    refine xrl [] [(3, .int .i64 (IntKind.wrap IntKind.i64 ((m : Int) - 1)))] ?_
    rw [wi]
    refine ⟨m - 1, by omega, by omega, fun i hi => ?_, ?_⟩
    ·rcases Nat.eq_or_lt_of_le hi with h | h
     ·rw [← h]; simpa using q0
     ·exact h2 i (by omega)
    ·exact xw (zsS zi0 zs0)
   ·have e := trimL_take _ rfl h1 h2 (fun _ => by simpa using q0)
    refine SW_fact zi0 (fin e) ?_
    refine SW_exit ?_
    refine xg ?_
    refine xn 3 [] [(20, .int .i64 (m : Int)), (19, .int .i64 (m : Int)), (18, .slice (some ad) (List.length l) c)] ?_
    refine xsx 21 22 (some ad) (List.length l) (c) (m) IntKind.i64 IntKind.i64 ((m : Int)) ⟨rfl⟩ (by omega) ?_
    refine xz [] [(2, .slice (some ad) m m)] ?_
    refine SW_ret ?_
    refine xe (some ad, m) (.slice (some ad) m m) [] ?_ (zsS zi0 zs0)
    rw [len e]
theorem add64_val {a b c : Int} (ha : 0 ≤ a ∧ a < (B64 : Int)) (hb : 0 ≤ b ∧ b < (B64 : Int)) (hc : 0 ≤ c ∧ c ≤ 1) : (0 ≤ add64s a b c ∧ add64s a b c < (B64 : Int)) ∧ (0 ≤ add64c a b c ∧ add64c a b c ≤ 1) ∧ (add64s a b c).toNat + B64 * (add64c a b c).toNat = a.toNat + b.toNat + c.toNat := by
 unfold add64s add64c
 unfold B64 at *
 omega
theorem sub64_val {a b c : Int} (ha : 0 ≤ a ∧ a < (B64 : Int)) (hb : 0 ≤ b ∧ b < (B64 : Int)) (hc : 0 ≤ c ∧ c ≤ 1) : (0 ≤ sub64s a b c ∧ sub64s a b c < (B64 : Int)) ∧ (0 ≤ sub64c a b c ∧ sub64c a b c ≤ 1) ∧ (sub64s a b c).toNat + b.toNat + c.toNat = a.toNat + B64 * (sub64c a b c).toNat := by
 unfold sub64s sub64c
 unfold B64 at *
 split <;> omega
theorem add_step {a b O : List Int} {i : Nat} {c : Int} (da : Dig B64 a) (db : Dig B64 b) (dO : Dig B64 O) (hl : O.length = i) (hc : 0 ≤ c ∧ c ≤ 1) (hv : val B64 O + B64 ^ i * c.toNat = val B64 (a.take i) + val B64 (b.take i)) :
  Dig B64 (O ++ [add64s (rd a i) (rd b i) c]) ∧ (0 ≤ add64c (rd a i) (rd b i) c ∧ add64c (rd a i) (rd b i) c ≤ 1) ∧ val B64 (O ++ [add64s (rd a i) (rd b i) c]) + B64 ^ (i + 1) * (add64c (rd a i) (rd b i) c).toNat = val B64 (a.take (i + 1)) + val B64 (b.take (i + 1)) := by
 obtain ⟨h1, h2, h3⟩ := add64_val (da.rd B64_pos i) (db.rd B64_pos i) hc
 refine ⟨dO.snoc h1, h2, ?_⟩
 rw [val_snoc, val_take_succ, val_take_succ, hl, Nat.pow_succ, Nat.mul_assoc]
 have h4 : B64 ^ i * (add64s (rd a i) (rd b i) c).toNat + B64 ^ i * (B64 * (add64c (rd a i) (rd b i) c).toNat) = B64 ^ i * (rd a i).toNat + B64 ^ i * (rd b i).toNat + B64 ^ i * c.toNat := by
  rw [← Nat.mul_add, h3, Nat.mul_add, Nat.mul_add]
 omega
theorem sub_step {a b O : List Int} {i : Nat} {c : Int} (da : Dig B64 a) (db : Dig B64 b) (dO : Dig B64 O) (hl : O.length = i) (hc : 0 ≤ c ∧ c ≤ 1) (hv : val B64 O + val B64 (b.take i) = val B64 (a.take i) + B64 ^ i * c.toNat) :
  Dig B64 (O ++ [sub64s (rd a i) (rd b i) c]) ∧ (0 ≤ sub64c (rd a i) (rd b i) c ∧ sub64c (rd a i) (rd b i) c ≤ 1) ∧ val B64 (O ++ [sub64s (rd a i) (rd b i) c]) + val B64 (b.take (i + 1)) = val B64 (a.take (i + 1)) + B64 ^ (i + 1) * (sub64c (rd a i) (rd b i) c).toNat := by
 obtain ⟨h1, h2, h3⟩ := sub64_val (da.rd B64_pos i) (db.rd B64_pos i) hc
 refine ⟨dO.snoc h1, h2, ?_⟩
 rw [val_snoc, val_take_succ, val_take_succ, hl, Nat.pow_succ, Nat.mul_assoc]
 have h4 : B64 ^ i * (sub64s (rd a i) (rd b i) c).toNat + B64 ^ i * (rd b i).toNat + B64 ^ i * c.toNat = B64 ^ i * (rd a i).toNat + B64 ^ i * (B64 * (sub64c (rd a i) (rd b i) c).toNat) := by
  rw [← Nat.mul_add, ← Nat.mul_add, ← Nat.mul_add, h3]
 omega
theorem ct_impl_nat_add_rows (a b : List Int) (A A' : Option Addr) (c c' : Nat) (da : Dig B64 a) (db : Dig B64 b) (hla : a.length ≤ 1000000) (hlb : b.length ≤ 1000000) : ∀ r, Dig B64 r → Norm r → val B64 r = val B64 a + val B64 b → CtR Tryd.prog 84 [.slice A a.length c, .slice A' b.length c'] [Row .u64 A c a, Row .u64 A' c' b] .u64 r := by
 intro r dr nr vr
 refine ct_of Tryd.func84 rfl (by kernel_rfl) (fun B w0 => ?_)
 refine xr [] [] ?_
 refine SW_cut (fun s' => ∃ p q C C' k k', (Dig B64 p ∧ Dig B64 q) ∧ (p.length ≤ 1000000 ∧ q.length ≤ p.length) ∧ val B64 r = val B64 p + val B64 q ∧ Weak s' ⟨[(0, .slice C p.length k), (1, .slice C' q.length k')], [], [Row .u64 C k p, Row .u64 C' k' q]⟩) ?_ ?_
 ·by_cases h : a.length < b.length
  ·have z0 : decide ((a.length : Int) < (b.length : Int)) = true := decide_eq_true (by omega)
   refine xr [] [(13, .bool (decide ((((List.length a) : Nat) : Int) < (((List.length b) : Nat) : Int))))] ?_
   refine xst z0 ?_
   refine xrl [] [(1, .slice A (List.length a) c), (0, .slice A' (List.length b) c')] ?_
   refine ⟨b, a, A', A, c', c, ⟨db, da⟩, ⟨hlb, by omega⟩, by omega, ?_⟩
   exact xw (zsS (ziS zi0) (zsS zi0 zs0))
  ·have z0 : decide ((a.length : Int) < (b.length : Int)) = false := decide_eq_false (by omega)
   refine xr [] [(13, .bool (decide ((((List.length a) : Nat) : Int) < (((List.length b) : Nat) : Int))))] ?_
   refine xsf z0 ?_
   refine SW_skip ?_
   refine ⟨a, b, A, A', c, c', ⟨da, db⟩, ⟨hla, by omega⟩, by omega, ?_⟩
   exact xw (zsS zi0 (zsS (ziS zi0) zs0))
 ·rintro s' ⟨p, q, C, C', k, k', ⟨dp, dq⟩, ⟨hlp, hlq⟩, hv, hw⟩
  refine SW_weak hw ?_
  clear hw
  refine xg ?_
  refine xn 3 [] [(18, .int .i64 (IntKind.wrap IntKind.i64 ((((List.length p) : Nat) : Int) + 1)))] ?_
  refine xma 19 22 ((List.length p) + 1) IntKind.u64 8 (IntKind.wrap IntKind.i64 ((((List.length p) : Nat) : Int) + 1)) (Nn.w (Nn.add ⟨rfl⟩ ⟨rfl⟩) (by omega)) (by omega) (fun g0 => ?_)
  refine xz [] [(5, .slice (some ⟨g0, 0, none⟩) (List.length p + 1) (List.length p + 1))] ?_
  refine xr [] [(6, .int .u64 0)] ?_
  refine SW_seq ?_
  refine xr [] [(22, .int .i64 0), (21, .int .i64 (((List.length p) : Nat) : Int))] ?_
  refine SW_block ?_
  refine SW_loopn (fun n s => ∃ i O cy, n + i = p.length ∧ O.length = i ∧ Dig B64 O ∧ (0 ≤ cy ∧ cy ≤ 1) ∧ val B64 O + B64 ^ i * cy.toNat = val B64 (p.take i) + val B64 (q.take i) ∧ Weak s ⟨[(0, .slice C p.length k), (1, .slice C' q.length k'), (5, .slice (some ⟨g0, 0, none⟩) (p.length + 1) (p.length + 1)), (6, .int .u64 cy), (21, .int .i64 p.length), (22, .int .i64 (i : Int))], [⟨g0, cl .u64 (O ++ List.replicate (n + 1) 0) [], 22⟩], [Row .u64 C k p, Row .u64 C' k' q]⟩) p.length ⟨0, [], 0, rfl, rfl, Dig.nil _, by decide, by simp [val_nil], ?_⟩ (fun n s ⟨i, O, cy, h1, h2, h3, h4, h5, hw⟩ => ?_)
  ·exact xw (zsS zi0 (zsS (ziS zi0) zs0))
  ·refine SW_weak hw ?_
   clear hw
   by_cases hi : i < p.length
   ·have z0 : decide ((i : Int) < (p.length : Int)) = true := decide_eq_true (by omega)
    refine SW_know zi0 (fun w h => row_at h (by omega)) (fun ⟨ad, e⟩ => ?_)
    subst e
    obtain ⟨n, rfl⟩ : ∃ n', n = n' + 1 := ⟨n - 1, by omega⟩
    obtain ⟨s1, s2, s3⟩ := add_step dp dq h3 h2 h4 h5
    refine xr [] [(23, .bool (decide ((i : Int) < (((List.length p) : Nat) : Int))))] ?_
    refine SW_seq ?_
    refine xst z0 ?_
    refine SW_skip ?_
    refine SW_seq ?_
    refine SW_block ?_
    refine xr [] [(7, .int .i64 (i : Int))] ?_
    refine xr [] [(8, .int .u64 0)] ?_
    refine SW_cut (fun s' => Weak s' ⟨[(0, .slice (some ad) p.length k), (1, .slice C' q.length k'), (5, .slice (some ⟨g0, 0, none⟩) (p.length + 1) (p.length + 1)), (6, .int .u64 cy), (7, .int .i64 (i : Int)), (8, .int .u64 (rd q i)), (21, .int .i64 p.length), (22, .int .i64 (i : Int))], [⟨g0, cl .u64 (O ++ List.replicate (n + 1 + 1) 0) [], 22⟩], [Row .u64 (some ad) k p, Row .u64 C' k' q]⟩) ?_ ?_
    ·by_cases hq : i < q.length
     ·have z1 : decide ((i : Int) < (q.length : Int)) = true := decide_eq_true (by omega)
      refine SW_know (ziS zi0) (fun w h => row_at h (by omega)) (fun ⟨ad', e⟩ => ?_)
      subst e
      refine xr [] [(28, .bool (decide ((i : Int) < (((List.length q) : Nat) : Int))))] ?_
      refine xst z1 ?_
      refine SW_region ?_
      refine xn 2 [] [(30, .int .i64 (i : Int)), (29, .slice (some ad') (List.length q) k')] ?_
      refine xfi 31 22 (ad') (List.length q) (k') (i) IntKind.i64 ((i : Int)) ⟨rfl⟩ (by omega) ?_
      refine xfl 32 (ziS zi0) (i) (by omega) ?_
      refine xz [] [(8, .int .u64 (rd q (i : Int)))] ?_
      exact xw (zsS zi0 (zsS (ziS zi0) zs0))
     ·have z1 : decide ((i : Int) < (q.length : Int)) = false := decide_eq_false (by omega)
      refine xr [] [(28, .bool (decide ((i : Int) < (((List.length q) : Nat) : Int))))] ?_
      refine xsf z1 ?_
      refine SW_skip ?_
      rw [rd_of_ge q i (by simpa using hq)]
      exact xw (zsS zi0 (zsS (ziS zi0) zs0))
    ·rintro s' hw
     refine SW_weak hw ?_
     clear hw
     refine SW_region ?_
     refine xn 4 [] [(37, .int .i64 (i : Int)), (36, .slice (some ad) (List.length p) k), (35, .int .i64 (i : Int)), (34, .slice (some ⟨g0, 0, none⟩) (List.length p + 1) (List.length p + 1))] ?_
     refine xfi 38 22 (ad) (List.length p) (k) (i) IntKind.i64 ((i : Int)) ⟨rfl⟩ (by omega) ?_
     refine xfl 39 zi0 (i) (by omega) ?_
     refine xn 8 [] [(41, .int .u64 cy), (40, .int .u64 (rd q (i : Int)))] ?_
     refine xad 42 (rd p (i : Int)) (rd q (i : Int)) (cy) (by omega) ?_
     refine xn 12 [] [(44, .int .u64 (add64c (rd p (i : Int)) (rd q (i : Int)) cy)), (43, .int .u64 (add64s (rd p (i : Int)) (rd q (i : Int)) cy))] ?_
     refine xoi 45 22 (g0) (List.length p + 1) (List.length p + 1) (i) IntKind.i64 ((i : Int)) ⟨rfl⟩ (by omega) ?_
     refine xos 0 (g0) (i) IntKind.u64 (O ++ List.replicate (n + 1 + 1) 0) ([]) 22 (add64s (rd p (i : Int)) (rd q (i : Int)) cy) (by first | omega | (simp <;> omega)) ?_
     refine xz [] [(6, .int .u64 (add64c (rd p (i : Int)) (rd q (i : Int)) cy))] ?_
     refine xrl [] [(22, .int .i64 (IntKind.wrap IntKind.i64 ((i : Int) + 1)))] ?_
     have wi : IntKind.i64.wrap ((i : Int) + 1) = ((i + 1 : Nat) : Int) := by rw [wrap_i64 (by omega)]; omega
     have es : ∀ v, (O ++ List.replicate (n + 1 + 1) 0).set i v = (O ++ [v]) ++ List.replicate (n + 1) 0 := fun v => by rw [← h2]; exact set_rep O (n + 1) v
     rw [wi, es]
     refine ⟨n, by omega, i + 1, O ++ [add64s (rd p i) (rd q i) cy], _, by omega, by simp; omega, s1, s2, s3, ?_⟩
     exact xw (zsS zi0 (zsS (ziS zi0) zs0))
   ·have z0 : decide ((i : Int) < (p.length : Int)) = false := decide_eq_false (by omega)
    obtain rfl : n = 0 := by omega
    have er : trimL (O ++ [cy]) = r := by
     refine norm_inj B64_pos (h3.snoc (by unfold B64; omega)).trim dr (norm_trim _) nr ?_
     rw [val_trim, val_snoc, h2, h5, val_take_all _ _ _ (by omega), val_take_all _ _ _ (by omega), hv]
    have ct := ct_impl_trimmed (O ++ [cy]) (some ⟨g0, 0, none⟩) (O ++ [cy]).length (by simp; omega)
    rw [er] at ct
    refine xr [] [(23, .bool (decide ((i : Int) < (((List.length p) : Nat) : Int))))] ?_
    refine SW_seq ?_
    refine xsf z0 ?_
    refine SW_exit ?_
    refine xg ?_
    refine xn 4 [] [(50, .int .u64 cy), (49, .int .i64 (((List.length p) : Nat) : Int)), (47, .slice (some ⟨g0, 0, none⟩) (List.length p + 1) (List.length p + 1))] ?_
    refine xoi 51 22 (g0) (List.length p + 1) (List.length p + 1) (List.length p) IntKind.i64 ((((List.length p) : Nat) : Int)) ⟨rfl⟩ (by omega) ?_
    refine xos 0 (g0) (List.length p) IntKind.u64 (O ++ List.replicate (0 + 1) 0) ([]) 22 (cy) (by first | omega | (simp <;> omega)) ?_
    refine xz [] [] ?_
    refine xg ?_
    refine xn 1 [] [(52, .slice (some ⟨g0, 0, none⟩) (List.length p + 1) (List.length p + 1))] ?_
    have es : (O ++ List.replicate (0 + 1) 0).set p.length cy = O ++ [cy] := by
     rw [show p.length = O.length by omega]
     exact (set_rep O 0 cy).trans (by simp)
    have el : p.length + 1 = (O ++ [cy]).length := by simp; omega
    rw [es]
    refine NW_fz 0 (p.length + 1) g0 .u64 (O ++ [cy]) [] 22 (by simp; omega) (by simp; omega) ?_
    rw [el]
    refine xcr 53 ct (zsS zi0 zs0) (fun A0 k0 => ?_)
    refine xz [] [(4, .slice A0 (List.length r) k0)] ?_
    refine SW_ret ?_
    refine xe (A0, k0) (.slice A0 (List.length r) k0) [] ?_ (zsS zi0 zs0)
    rfl
theorem ct_impl_nat_sub_rows (a b : List Int) (A A' : Option Addr) (c c' : Nat) (da : Dig B64 a) (db : Dig B64 b) (hla : a.length ≤ 1000000) (hlb : b.length ≤ a.length) : ∀ r, Dig B64 r → Norm r → val B64 r + val B64 b = val B64 a → CtR Tryd.prog 86 [.slice A a.length c, .slice A' b.length c'] [Row .u64 A c a, Row .u64 A' c' b] .u64 r := by
 intro r dr nr vr
 refine ct_of Tryd.func86 rfl (by kernel_rfl) (fun B w0 => ?_)
 refine xr [] [(4, .slice none 0 0)] ?_
 refine xg ?_
 refine xn 2 [] [(10, .int .i64 (((List.length a) : Nat) : Int))] ?_
 refine xma 11 22 (List.length a) IntKind.u64 8 ((((List.length a) : Nat) : Int)) ⟨rfl⟩ (by omega) (fun g0 => ?_)
 refine xz [] [(5, .slice (some ⟨g0, 0, none⟩) (List.length a) (List.length a))] ?_
 refine xr [] [(6, .int .u64 0)] ?_
 refine SW_seq ?_
 refine xr [] [(14, .int .i64 0), (13, .int .i64 (((List.length a) : Nat) : Int))] ?_
 refine SW_block ?_
 refine SW_loopn (fun n s => ∃ i O cy, n + i = a.length ∧ O.length = i ∧ Dig B64 O ∧ (0 ≤ cy ∧ cy ≤ 1) ∧ val B64 O + val B64 (b.take i) = val B64 (a.take i) + B64 ^ i * cy.toNat ∧ Weak s ⟨[(0, .slice A a.length c), (1, .slice A' b.length c'), (5, .slice (some ⟨g0, 0, none⟩) a.length a.length), (6, .int .u64 cy), (13, .int .i64 a.length), (14, .int .i64 (i : Int))], [⟨g0, cl .u64 (O ++ List.replicate n 0) [], 22⟩], [Row .u64 A c a, Row .u64 A' c' b]⟩) a.length ⟨0, [], 0, rfl, rfl, Dig.nil _, by decide, by simp [val_nil], ?_⟩ (fun n s ⟨i, O, cy, h1, h2, h3, h4, h5, hw⟩ => ?_)
 ·exact xw (zsS zi0 (zsS (ziS zi0) zs0))
 ·refine SW_weak hw ?_
  clear hw
  by_cases hi : i < a.length
  ·have z0 : decide ((i : Int) < (a.length : Int)) = true := decide_eq_true (by omega)
   refine SW_know zi0 (fun w h => row_at h (by omega)) (fun ⟨ad, e⟩ => ?_)
   subst e
   obtain ⟨n, rfl⟩ : ∃ n', n = n' + 1 := ⟨n - 1, by omega⟩
   obtain ⟨s1, s2, s3⟩ := sub_step da db h3 h2 h4 h5
   refine xr [] [(15, .bool (decide ((i : Int) < (((List.length a) : Nat) : Int))))] ?_
   refine SW_seq ?_
   refine xst z0 ?_
   refine SW_skip ?_
   refine SW_seq ?_
   refine SW_block ?_
   refine xr [] [(7, .int .i64 (i : Int))] ?_
   refine xr [] [(8, .int .u64 0)] ?_
   refine SW_cut (fun s' => Weak s' ⟨[(0, .slice (some ad) a.length c), (1, .slice A' b.length c'), (5, .slice (some ⟨g0, 0, none⟩) a.length a.length), (6, .int .u64 cy), (7, .int .i64 (i : Int)), (8, .int .u64 (rd b i)), (13, .int .i64 a.length), (14, .int .i64 (i : Int))], [⟨g0, cl .u64 (O ++ List.replicate (n + 1) 0) [], 22⟩], [Row .u64 (some ad) c a, Row .u64 A' c' b]⟩) ?_ ?_
   ·by_cases hq : i < b.length
    ·have z1 : decide ((i : Int) < (b.length : Int)) = true := decide_eq_true (by omega)
     refine SW_know (ziS zi0) (fun w h => row_at h (by omega)) (fun ⟨ad', e⟩ => ?_)
     subst e
     refine xr [] [(20, .bool (decide ((i : Int) < (((List.length b) : Nat) : Int))))] ?_
     refine xst z1 ?_
     refine SW_region ?_
     refine xn 2 [] [(22, .int .i64 (i : Int)), (21, .slice (some ad') (List.length b) c')] ?_
     refine xfi 23 22 (ad') (List.length b) (c') (i) IntKind.i64 ((i : Int)) ⟨rfl⟩ (by omega) ?_
     refine xfl 24 (ziS zi0) (i) (by omega) ?_
     refine xz [] [(8, .int .u64 (rd b (i : Int)))] ?_
     exact xw (zsS zi0 (zsS (ziS zi0) zs0))
    ·have z1 : decide ((i : Int) < (b.length : Int)) = false := decide_eq_false (by omega)
     refine xr [] [(20, .bool (decide ((i : Int) < (((List.length b) : Nat) : Int))))] ?_
     refine xsf z1 ?_
     refine SW_skip ?_
     rw [rd_of_ge b i (by simpa using hq)]
     exact xw (zsS zi0 (zsS (ziS zi0) zs0))
   ·rintro s' hw
    refine SW_weak hw ?_
    clear hw
    refine SW_region ?_
    refine xn 4 [] [(29, .int .i64 (i : Int)), (28, .slice (some ad) (List.length a) c), (27, .int .i64 (i : Int)), (26, .slice (some ⟨g0, 0, none⟩) (List.length a) (List.length a))] ?_
    refine xfi 30 22 (ad) (List.length a) (c) (i) IntKind.i64 ((i : Int)) ⟨rfl⟩ (by omega) ?_
    refine xfl 31 zi0 (i) (by omega) ?_
    refine xn 8 [] [(33, .int .u64 cy), (32, .int .u64 (rd b (i : Int)))] ?_
    refine xsb 34 (rd a (i : Int)) (rd b (i : Int)) (cy) (by omega) ?_
    refine xn 12 [] [(36, .int .u64 (sub64c (rd a (i : Int)) (rd b (i : Int)) cy)), (35, .int .u64 (sub64s (rd a (i : Int)) (rd b (i : Int)) cy))] ?_
    refine xoi 37 22 (g0) (List.length a) (List.length a) (i) IntKind.i64 ((i : Int)) ⟨rfl⟩ (by omega) ?_
    refine xos 0 (g0) (i) IntKind.u64 (O ++ List.replicate (n + 1) 0) ([]) 22 (sub64s (rd a (i : Int)) (rd b (i : Int)) cy) (by first | omega | (simp <;> omega)) ?_
    refine xz [] [(6, .int .u64 (sub64c (rd a (i : Int)) (rd b (i : Int)) cy))] ?_
    refine xrl [] [(14, .int .i64 (IntKind.wrap IntKind.i64 ((i : Int) + 1)))] ?_
    have wi : IntKind.i64.wrap ((i : Int) + 1) = ((i + 1 : Nat) : Int) := by rw [wrap_i64 (by omega)]; omega
    have es : ∀ v, (O ++ List.replicate (n + 1) 0).set i v = (O ++ [v]) ++ List.replicate n 0 := fun v => by rw [← h2]; exact set_rep O n v
    rw [wi, es]
    refine ⟨n, by omega, i + 1, O ++ [sub64s (rd a i) (rd b i) cy], _, by omega, by simp; omega, s1, s2, s3, ?_⟩
    exact xw (zsS zi0 (zsS (ziS zi0) zs0))
  ·have z0 : decide ((i : Int) < (a.length : Int)) = false := decide_eq_false (by omega)
   obtain rfl : n = 0 := by omega
   have e0 : O ++ List.replicate 0 0 = O := by simp
   have el : a.length = O.length := by omega
   have hv2 : val B64 O = val B64 r := by
    have hlt := val_lt h3
    rw [val_take_all _ _ _ (by omega), val_take_all _ _ _ (by omega)] at h5
    rcases (show cy = 0 ∨ cy = 1 by omega) with rfl | rfl
    ·simp at h5; omega
    ·simp at h5; rw [h2] at hlt; omega
   have er : trimL O = r := norm_inj B64_pos h3.trim dr (norm_trim _) nr (by rw [val_trim, hv2])
   have ct := ct_impl_trimmed O (some ⟨g0, 0, none⟩) O.length (by omega)
   rw [er] at ct
   refine xr [] [(15, .bool (decide ((i : Int) < (((List.length a) : Nat) : Int))))] ?_
   refine SW_seq ?_
   refine xsf z0 ?_
   refine SW_exit ?_
   refine xg ?_
   refine xn 1 [] [(39, .slice (some ⟨g0, 0, none⟩) (List.length a) (List.length a))] ?_
   rw [e0]
   refine NW_fz 0 a.length g0 .u64 O [] 22 (by omega) (by omega) ?_
   rw [el]
   refine xcr 40 ct (zsS zi0 zs0) (fun A0 k0 => ?_)
   refine xz [] [(4, .slice A0 (List.length r) k0)] ?_
   refine SW_ret ?_
   refine xe (A0, k0) (.slice A0 (List.length r) k0) [] ?_ (zsS zi0 zs0)
   rfl
end Go.Proofs.YtdbnmdchecacdaaDoor.M
end
section
namespace Go.Proofs.YtdbnmdchecacdaaDoor.M
open Go.RowKit Go.Proofs.YtdbnmdchecacdaaDoor.G Go.Proofs.YtdbnmdchecacdaaDoorV.PrintWords Go.Proofs.YtdbnmdchecacdaaDoorV.PrintLast Go.Proofs.YtdbnmdchecacdaaDoor.X
set_option linter.unusedVariables false
set_option linter.unusedSimpArgs false
theorem val_at {B : Nat} (hB : 0 < B) {a b : List Int} (da : Dig B a) (db : Dig B b) {k : Nat} (hk : k < a.length) (hl : a.length = b.length) (hd : a.drop (k + 1) = b.drop (k + 1)) (hr : rd a k < rd b k) : val B a < val B b := by
 have hk2 : k < b.length := by omega
 rw [val_mid B hk, val_mid B hk2, hd]
 have h1 := val_lt (da.take k)
 rw [List.length_take, Nat.min_eq_left (by omega)] at h1
 have h2 : (rd a k).toNat + 1 ≤ (rd b k).toNat := by have := (da.rd hB k).1; omega
 have h3 := Nat.mul_le_mul_left (B ^ k) h2
 rw [Nat.mul_add, Nat.mul_add]
 rw [Nat.mul_add, Nat.mul_one] at h3
 omega
theorem ct_impl_nat_cmp_rows (a b : List Int) (A A' : Option Addr) (c c' : Nat) (da : Dig B64 a) (db : Dig B64 b) (na : Norm a) (nb : Norm b) (hla : a.length ≤ 1000000000) (hlb : b.length ≤ 1000000000) : CtV Tryd.prog 77 [.slice A a.length c, .slice A' b.length c'] [Row .u64 A c a, Row .u64 A' c' b] (.int .i64 (cmpN (val B64 a) (val B64 b))) := by
 refine ct_of Tryd.func77 rfl (by kernel_rfl) (fun B w0 => ?_)
 by_cases hl : a.length = b.length
 ·have z0 : ((a.length : Int) != (b.length : Int)) = false := by rw [hl]; simp
  refine xr [] [(4, .int .i64 0)] ?_
  refine SW_seq ?_
  refine xr [] [(10, .bool ((((List.length a) : Nat) : Int) != (((List.length b) : Nat) : Int)))] ?_
  refine xsf z0 ?_
  refine SW_skip ?_
  refine SW_seq ?_
  refine xr [] [(5, .int .i64 (IntKind.wrap IntKind.i64 ((((List.length a) : Nat) : Int) - 1)))] ?_
  refine SW_block ?_
  refine SW_loopn (fun n s => n ≤ a.length ∧ a.drop n = b.drop n ∧ Weak s ⟨[(0, .slice A a.length c), (1, .slice A' b.length c'), (5, .int .i64 ((n : Int) - 1))], [], [Row .u64 A c a, Row .u64 A' c' b]⟩) a.length ⟨Nat.le_refl _, by rw [List.drop_eq_nil_of_le (Nat.le_refl _), List.drop_eq_nil_of_le (by omega)], ?_⟩ (fun n s ⟨h1, h2, hw⟩ => ?_)
  ·rw [wrap_i64 (by omega)]
   exact xw (zsS zi0 (zsS (ziS zi0) zs0))
  ·refine SW_weak hw ?_
   clear hw
   by_cases hn : n = 0
   ·have z1 : decide ((n : Int) - 1 ≥ 0) = false := decide_eq_false (by omega)
    refine SW_seq ?_
    refine xr [] [(20, .bool (decide ((n : Int) - 1 ≥ 0)))] ?_
    refine xsf z1 ?_
    refine SW_exit ?_
    refine xr [] [(4, .int .i64 0)] ?_
    refine SW_ret ?_
    refine xe () (.int .i64 0) [] ?_ trivial
    subst hn
    have : a = b := by simpa using h2
    rw [this, cmpN, if_neg (by omega), if_neg (by omega)]
   ·have z1 : decide ((n : Int) - 1 ≥ 0) = true := decide_eq_true (by omega)
    have hN : Nn ((n : Int) - 1) (n - 1) := ⟨by omega⟩
    refine SW_know zi0 (fun w h => row_at h (by omega)) (fun ⟨ad, e⟩ => ?_)
    subst e
    refine SW_know (ziS zi0) (fun w h => row_at h (by omega)) (fun ⟨ad', e⟩ => ?_)
    subst e
    have hk : (n - 1) + 1 = n := by omega
    have wi : IntKind.i64.wrap ((n : Int) - 1 - 1) = ((n - 1 : Nat) : Int) - 1 := by rw [wrap_i64 (by omega)]; omega
    by_cases he : rd a ((n - 1 : Nat) : Int) = rd b ((n - 1 : Nat) : Int)
    ·have z2 : (rd a ((n - 1 : Nat) : Int) != rd b ((n - 1 : Nat) : Int)) = false := by rw [he]; simp
     refine SW_seq ?_
     refine xr [] [(20, .bool (decide ((n : Int) - 1 ≥ 0)))] ?_
     refine xst z1 ?_
     refine SW_skip ?_
     refine SW_seq ?_
     refine SW_block ?_
     refine xd (fun hB => ?_)
     refine xdk [(0, []), (1, []), (4, []), (5, [])] [(28, .int .i64 ((n : Int) - 1)), (27, .slice (some ad') (List.length b) c'), (24, .int .i64 ((n : Int) - 1)), (23, .slice (some ad) (List.length a) c)] hB ?_
     refine xdfi 2 hB 25 22 (ad) (List.length a) (c) (n - 1) IntKind.i64 ((n : Int) - 1) hN (by omega) ?_
     refine xdfl 3 hB 26 zi0 (n - 1) (by omega) ?_
     refine xdfi 6 hB 29 22 (ad') (List.length b) (c') (n - 1) IntKind.i64 ((n : Int) - 1) hN (by omega) ?_
     refine xdfl 7 hB 30 (ziS zi0) (n - 1) (by omega) ?_
     refine xdk [(8, [])] [(31, .bool (rd a (((n - 1) : Nat) : Int) != rd b (((n - 1) : Nat) : Int)))] hB ?_
     refine xdz ?_
     refine xsf z2 ?_
     refine SW_skip ?_
     refine xrl [] [(5, .int .i64 (IntKind.wrap IntKind.i64 ((n : Int) - 1 - 1)))] ?_
     rw [wi]
     refine ⟨n - 1, by omega, by omega, ?_, ?_⟩
     ·have hka : n - 1 < a.length := by omega
      have hkb : n - 1 < b.length := by omega
      rw [List.drop_eq_getElem_cons hka, List.drop_eq_getElem_cons hkb, hk, h2]
      have e1 := rd_some hka
      have e2 := rd_some hkb
      rw [List.getElem?_eq_getElem hka] at e1
      rw [List.getElem?_eq_getElem hkb] at e2
      rw [Option.some.inj e1, Option.some.inj e2, he]
     ·exact xw (zsS zi0 (zsS (ziS zi0) zs0))
    ·have z2 : (rd a ((n - 1 : Nat) : Int) != rd b ((n - 1 : Nat) : Int)) = true := by simpa using he
     by_cases hlt : rd a ((n - 1 : Nat) : Int) < rd b ((n - 1 : Nat) : Int)
     ·have z3 : decide (rd a ((n - 1 : Nat) : Int) < rd b ((n - 1 : Nat) : Int)) = true := decide_eq_true hlt
      refine SW_seq ?_
      refine xr [] [(20, .bool (decide ((n : Int) - 1 ≥ 0)))] ?_
      refine xst z1 ?_
      refine SW_skip ?_
      refine SW_seq ?_
      refine SW_block ?_
      refine xd (fun hB => ?_)
      refine xdk [(0, []), (1, []), (4, []), (5, [])] [(28, .int .i64 ((n : Int) - 1)), (27, .slice (some ad') (List.length b) c'), (24, .int .i64 ((n : Int) - 1)), (23, .slice (some ad) (List.length a) c)] hB ?_
      refine xdfi 2 hB 25 22 (ad) (List.length a) (c) (n - 1) IntKind.i64 ((n : Int) - 1) hN (by omega) ?_
      refine xdfl 3 hB 26 zi0 (n - 1) (by omega) ?_
      refine xdfi 6 hB 29 22 (ad') (List.length b) (c') (n - 1) IntKind.i64 ((n : Int) - 1) hN (by omega) ?_
      refine xdfl 7 hB 30 (ziS zi0) (n - 1) (by omega) ?_
      refine xdk [(8, [])] [(31, .bool (rd a (((n - 1) : Nat) : Int) != rd b (((n - 1) : Nat) : Int)))] hB ?_
      refine xdz ?_
      refine xst z2 ?_
      refine SW_seq ?_
      refine xd (fun hB => ?_)
      refine xdk [(0, []), (1, []), (4, []), (5, [])] [(37, .int .i64 ((n : Int) - 1)), (36, .slice (some ad') (List.length b) c'), (33, .int .i64 ((n : Int) - 1)), (32, .slice (some ad) (List.length a) c)] hB ?_
      refine xdfi 2 hB 34 22 (ad) (List.length a) (c) (n - 1) IntKind.i64 ((n : Int) - 1) hN (by omega) ?_
      refine xdfl 3 hB 35 zi0 (n - 1) (by omega) ?_
      refine xdfi 6 hB 38 22 (ad') (List.length b) (c') (n - 1) IntKind.i64 ((n : Int) - 1) hN (by omega) ?_
      refine xdfl 7 hB 39 (ziS zi0) (n - 1) (by omega) ?_
      refine xdk [(8, [])] [(40, .bool (decide (rd a (((n - 1) : Nat) : Int) < rd b (((n - 1) : Nat) : Int))))] hB ?_
      refine xdz ?_
      refine xst z3 ?_
      refine xr [] [(4, .int .i64 (-1))] ?_
      refine SW_ret ?_
      refine xe () (.int .i64 (-1)) [] ?_ trivial
      rw [cmpN, if_pos (val_at B64_pos da db (by omega) hl (by rw [hk]; exact h2) hlt)]
     ·have z3 : decide (rd a ((n - 1 : Nat) : Int) < rd b ((n - 1 : Nat) : Int)) = false := decide_eq_false hlt
      refine SW_seq ?_
      refine xr [] [(20, .bool (decide ((n : Int) - 1 ≥ 0)))] ?_
      refine xst z1 ?_
      refine SW_skip ?_
      refine SW_seq ?_
      refine SW_block ?_
      refine xd (fun hB => ?_)
      refine xdk [(0, []), (1, []), (4, []), (5, [])] [(28, .int .i64 ((n : Int) - 1)), (27, .slice (some ad') (List.length b) c'), (24, .int .i64 ((n : Int) - 1)), (23, .slice (some ad) (List.length a) c)] hB ?_
      refine xdfi 2 hB 25 22 (ad) (List.length a) (c) (n - 1) IntKind.i64 ((n : Int) - 1) hN (by omega) ?_
      refine xdfl 3 hB 26 zi0 (n - 1) (by omega) ?_
      refine xdfi 6 hB 29 22 (ad') (List.length b) (c') (n - 1) IntKind.i64 ((n : Int) - 1) hN (by omega) ?_
      refine xdfl 7 hB 30 (ziS zi0) (n - 1) (by omega) ?_
      refine xdk [(8, [])] [(31, .bool (rd a (((n - 1) : Nat) : Int) != rd b (((n - 1) : Nat) : Int)))] hB ?_
      refine xdz ?_
      refine xst z2 ?_
      refine SW_seq ?_
      refine xd (fun hB => ?_)
      refine xdk [(0, []), (1, []), (4, []), (5, [])] [(37, .int .i64 ((n : Int) - 1)), (36, .slice (some ad') (List.length b) c'), (33, .int .i64 ((n : Int) - 1)), (32, .slice (some ad) (List.length a) c)] hB ?_
      refine xdfi 2 hB 34 22 (ad) (List.length a) (c) (n - 1) IntKind.i64 ((n : Int) - 1) hN (by omega) ?_
      refine xdfl 3 hB 35 zi0 (n - 1) (by omega) ?_
      refine xdfi 6 hB 38 22 (ad') (List.length b) (c') (n - 1) IntKind.i64 ((n : Int) - 1) hN (by omega) ?_
      refine xdfl 7 hB 39 (ziS zi0) (n - 1) (by omega) ?_
      refine xdk [(8, [])] [(40, .bool (decide (rd a (((n - 1) : Nat) : Int) < rd b (((n - 1) : Nat) : Int))))] hB ?_
      refine xdz ?_
      refine xsf z3 ?_
      refine SW_skip ?_
      refine xr [] [(4, .int .i64 1)] ?_
      refine SW_ret ?_
      refine xe () (.int .i64 1) [] ?_ trivial
      have := val_at B64_pos db da (k := n - 1) (by omega) hl.symm (by rw [hk]; exact h2.symm) (by omega)
      rw [cmpN, if_neg (by omega), if_pos this]
 ·have z0 : ((a.length : Int) != (b.length : Int)) = true := by simp; omega
  have key : ∀ {p q : List Int}, Dig B64 p → Dig B64 q → Norm q → p.length < q.length → val B64 p < val B64 q := fun dp dq nq h => val_lt_of_length B64_pos dp dq nq h
  by_cases h2 : a.length < b.length
  ·have z1 : decide ((a.length : Int) < (b.length : Int)) = true := decide_eq_true (by omega)
   refine xr [] [(4, .int .i64 0)] ?_
   refine SW_seq ?_
   refine xr [] [(10, .bool ((((List.length a) : Nat) : Int) != (((List.length b) : Nat) : Int)))] ?_
   refine xst z0 ?_
   refine SW_seq ?_
   refine xr [] [(15, .bool (decide ((((List.length a) : Nat) : Int) < (((List.length b) : Nat) : Int))))] ?_
   refine xst z1 ?_
   refine xr [] [(4, .int .i64 (-1))] ?_
   refine SW_ret ?_
   refine xe () (.int .i64 (-1)) [] ?_ trivial
   rw [cmpN, if_pos (key da db nb h2)]
  ·have z1 : decide ((a.length : Int) < (b.length : Int)) = false := decide_eq_false (by omega)
   refine xr [] [(4, .int .i64 0)] ?_
   refine SW_seq ?_
   refine xr [] [(10, .bool ((((List.length a) : Nat) : Int) != (((List.length b) : Nat) : Int)))] ?_
   refine xst z0 ?_
   refine SW_seq ?_
   refine xr [] [(15, .bool (decide ((((List.length a) : Nat) : Int) < (((List.length b) : Nat) : Int))))] ?_
   refine xsf z1 ?_
   refine SW_skip ?_
   refine xr [] [(4, .int .i64 1)] ?_
   refine SW_ret ?_
   refine xe () (.int .i64 1) [] ?_ trivial
   have := key db da na (by omega)
   rw [cmpN, if_neg (by omega), if_pos this]
theorem ct_impl_nat_left_rows (a : List Int) (A : Option Addr) (c : Nat) (da : Dig B64 a) (hla : a.length ≤ 1000000) (N : Int) (n : Nat) (hN : Nn N n) (hn : n ≤ 1000000) : ∀ r, Dig B64 r → Norm r → val B64 r = val B64 a * 2 ^ n → CtR Tryd.prog 83 [.slice A a.length c, .int .i64 N] [Row .u64 A c a] .u64 r := by
 intro r dr nr vr
 obtain ⟨rfl⟩ := hN
 refine ct_of Tryd.func83 rfl (by kernel_rfl) (fun B w0 => ?_)
 by_cases h0 : a.length = 0
 ·have z0 : ((a.length : Int) == 0) = true := by rw [h0]; rfl
  have ea : a = [] := List.eq_nil_of_length_eq_zero h0
  have er : r = [] := (norm_zero B64_pos dr nr).2 (by rw [vr, ea, val_nil, Nat.zero_mul])
  subst er
  refine SW_tru (Row_nil .u64 0) ?_
  refine xr [] [(4, .slice none 0 0)] ?_
  refine SW_seq ?_
  refine xr [] [(11, .bool ((((List.length a) : Nat) : Int) == 0))] ?_
  refine xst z0 ?_
  refine xr [] [(4, .slice none 0 0)] ?_
  refine SW_ret ?_
  refine xe (none, 0) (.slice none 0 0) [] ?_ (zsS zi0 zs0)
  rfl
 ·have z0 : ((a.length : Int) == 0) = false := by rw [beq_eq_false_iff_ne]; omega
  have hp : n % 64 < 64 := Nat.mod_lt _ (by decide)
  generalize hpd : n % 64 = p at hp
  have wp : IntKind.u64.wrap (Int.tmod (n : Int) 64) = (p : Int) := by rw [← hpd]; exact ((Nn.mod ⟨rfl⟩ ⟨rfl⟩ : Nn (Int.tmod (n : Int) 64) (n % 64)).u (by omega)).out
  refine xr [] [(4, .slice none 0 0)] ?_
  refine SW_seq ?_
  refine xr [] [(11, .bool ((((List.length a) : Nat) : Int) == 0))] ?_
  refine xsf z0 ?_
  refine SW_skip ?_
  refine xg ?_
  refine xn 6 [] [(17, .int .i64 (IntKind.wrap IntKind.i64 (IntKind.wrap IntKind.i64 ((((List.length a) : Nat) : Int) + IntKind.wrap IntKind.i64 (Int.tdiv (n : Int) 64)) + 1)))] ?_
  refine xma 18 22 (((List.length a) + ((n) / 64)) + 1) IntKind.u64 8 (IntKind.wrap IntKind.i64 (IntKind.wrap IntKind.i64 ((((List.length a) : Nat) : Int) + IntKind.wrap IntKind.i64 (Int.tdiv (n : Int) 64)) + 1)) (Nn.w (Nn.add (Nn.w (Nn.add ⟨rfl⟩ (Nn.w (Nn.div ⟨rfl⟩ ⟨rfl⟩) (by omega))) (by omega)) ⟨rfl⟩) (by omega)) (by omega) (fun g0 => ?_)
  refine xz [] [(5, .slice (some ⟨g0, 0, none⟩) (List.length a + n / 64 + 1) (List.length a + n / 64 + 1))] ?_
  refine xr [] [(6, .int .u64 (IntKind.wrap IntKind.u64 (Int.tmod (n : Int) 64)))] ?_
  refine SW_seq ?_
  refine xr [] [(24, .int .i64 0), (23, .int .i64 (((List.length a) : Nat) : Int)), (22, .slice A (List.length a) c)] ?_
  refine SW_block ?_
  rw [wp]
  refine SW_loopn (fun m s => ∃ i O C, m + i = a.length ∧ O.length = i ∧ Dig B64 O ∧ C < 2 ^ p ∧ val B64 O + B64 ^ i * C = val B64 (a.take i) * 2 ^ p ∧ Weak s ⟨[(0, .slice A a.length c), (1, .int .i64 (n : Int)), (5, .slice (some ⟨g0, 0, none⟩) (a.length + n / 64 + 1) (a.length + n / 64 + 1)), (6, .int .u64 (p : Int)), (22, .slice A a.length c), (23, .int .i64 a.length), (24, .int .i64 (i : Int))], [⟨g0, cl .u64 ((List.replicate (n / 64) 0 ++ O) ++ ((C : Nat) : Int) :: List.replicate m 0) [], 22⟩], [Row .u64 A c a]⟩) a.length ⟨0, [], 0, rfl, rfl, Dig.nil _, Nat.pow_pos (by decide), by simp [val_nil], ?_⟩ (fun m s ⟨i, O, C, h1, h2, h3, h4, h5, hw⟩ => ?_)
  ·have e0 : List.replicate (a.length + n / 64 + 1) 0 = (List.replicate (n / 64) 0 ++ ([] : List Int)) ++ ((0 : Nat) : Int) :: List.replicate a.length 0 := by
    rw [show a.length + n / 64 + 1 = n / 64 + (a.length + 1) by omega, rep_split, List.append_nil]
   rw [e0]
   exact xw (zsS zi0 zs0)
  ·refine SW_weak hw ?_
   clear hw
   by_cases hi : i < a.length
   ·have z1 : decide ((i : Int) < (a.length : Int)) = true := decide_eq_true (by omega)
    refine SW_know zi0 (fun w h => row_at h (by omega)) (fun ⟨ad, e⟩ => ?_)
    subst e
    obtain ⟨m, rfl⟩ : ∃ m', m = m' + 1 := ⟨m - 1, by omega⟩
    have hx0 := da.rd B64_pos i
    obtain ⟨x, hx⟩ : ∃ x : Nat, rd a (i : Int) = (x : Int) := ⟨(rd a i).toNat, by omega⟩
    have hxB : x < B64 := by omega
    have hrep : (List.replicate (n / 64) 0 ++ O).length = i + n / 64 := by simp; omega
    have v1 : Ve (rd (List.replicate (n / 64) 0 ++ O ++ ((C : Nat) : Int) :: List.replicate (m + 1) 0) ((i + n / 64 : Nat) : Int)) (C : Int) := ⟨rd_mid _ _ _ _ hrep.symm⟩
    have v2 : Ve (bits .or .u64 (C : Int) (shl .u64 (x : Int) (p : Int))) (((x * 2 ^ p + C) % B64 : Nat) : Int) := ⟨place_up p x C hp hxB h4⟩
    have v3 : Ve (IntKind.i64.wrap ((i : Int) + 1)) ((i + 1 : Nat) : Int) := ⟨(Nn.w (Nn.add ⟨rfl⟩ ⟨rfl⟩ : Nn ((i : Int) + 1) (i + 1)) (by omega)).out⟩
    have v4 : Ve (rd a (i : Int)) (x : Int) := ⟨hx⟩
    have hset : ∀ y : Int, (List.replicate (n / 64) 0 ++ O ++ ((C : Nat) : Int) :: List.replicate (m + 1) 0).set (i + n / 64) y = (List.replicate (n / 64) 0 ++ (O ++ [y])) ++ ((0 : Nat) : Int) :: List.replicate m 0 := fun y => by
     rw [set_mid _ _ _ _ _ hrep.symm, List.replicate_succ, ← List.append_assoc, List.append_assoc _ [y]]
     rfl
    have hrep2 : ∀ y : Int, (List.replicate (n / 64) 0 ++ (O ++ [y])).length = i + n / 64 + 1 := fun y => by simp; omega
    have hC : (x * 2 ^ p + C) / B64 < 2 ^ p := carry_lt hxB h4
    have hval : val B64 (O ++ [(((x * 2 ^ p + C) % B64 : Nat) : Int)]) + B64 ^ (i + 1) * ((x * 2 ^ p + C) / B64) = val B64 (a.take (i + 1)) * 2 ^ p := by
     rw [val_snoc, val_take_succ, h2, Nat.pow_succ, Nat.mul_assoc, hx, Int.toNat_natCast, Int.toNat_natCast, Nat.add_mul, ← h5, Nat.add_assoc, ← Nat.mul_add, Nat.mod_add_div, Nat.mul_add, Nat.mul_assoc]
     omega
    have hdig : Dig B64 (O ++ [(((x * 2 ^ p + C) % B64 : Nat) : Int)]) := h3.snoc (cast_dig (Nat.mod_lt _ B64_pos))
    by_cases h0p : p = 0
    ·have z2 : decide ((p : Int) > 0) = false := decide_eq_false (by omega)
     have hC0 : (x * 2 ^ p + C) / B64 = 0 := by
      have e1 : 2 ^ p = 1 := by rw [h0p]
      have hC' := hC
      rw [e1] at hC' ⊢
      exact Nat.lt_one_iff.1 hC'
     refine xr [] [(25, .bool (decide ((i : Int) < (((List.length a) : Nat) : Int))))] ?_
     refine SW_seq ?_
     refine xst z1 ?_
     refine SW_skip ?_
     refine SW_seq ?_
     refine SW_block ?_
     refine xg ?_
     refine xn 1 [] [(26, .int .i64 (i : Int))] ?_
     refine xfi 27 22 (ad) (List.length a) (c) (i) IntKind.i64 ((i : Int)) ⟨rfl⟩ (by omega) ?_
     refine xfle 28 zi0 (i) ((x : Int)) v4 (by omega) ?_
     refine xz [] [(8, .int .u64 (x : Int)), (7, .int .i64 (i : Int))] ?_
     refine xg ?_
     refine xn 5 [] [(33, .int .i64 (IntKind.wrap IntKind.i64 ((i : Int) + IntKind.wrap IntKind.i64 (Int.tdiv (n : Int) 64)))), (29, .slice (some ⟨g0, 0, none⟩) (List.length a + n / 64 + 1) (List.length a + n / 64 + 1))] ?_
     refine xoi 34 22 (g0) (List.length a + n / 64 + 1) (List.length a + n / 64 + 1) ((i) + ((n) / 64)) IntKind.i64 (IntKind.wrap IntKind.i64 ((i : Int) + IntKind.wrap IntKind.i64 (Int.tdiv (n : Int) 64))) (Nn.w (Nn.add ⟨rfl⟩ (Nn.w (Nn.div ⟨rfl⟩ ⟨rfl⟩) (by omega))) (by omega)) (by omega) ?_
     refine xole 35 0 (g0) (i + n / 64) IntKind.u64 (List.replicate (n / 64) 0 ++ O ++ (C : Int) :: List.replicate (m + 1) 0) ([]) 22 ((C : Int)) v1 (by first | omega | (simp <;> omega)) ?_
     refine xn 10 [] [(38, .int .u64 (IntKind.wrap IntKind.u64 ((x : Int) * 2 ^ min (Int.toNat (p : Int)) (IntKind.bits IntKind.u64))))] ?_
     refine xve 39 IntKind.u64 (bits BinOp.or IntKind.u64 (C : Int) (shl IntKind.u64 (x : Int) (p : Int))) (((((x * 2 ^ p + C) % B64) : Nat) : Int)) v2 ?_
     refine xoi 40 22 (g0) (List.length a + n / 64 + 1) (List.length a + n / 64 + 1) ((i) + ((n) / 64)) IntKind.i64 (IntKind.wrap IntKind.i64 ((i : Int) + IntKind.wrap IntKind.i64 (Int.tdiv (n : Int) 64))) (Nn.w (Nn.add ⟨rfl⟩ (Nn.w (Nn.div ⟨rfl⟩ ⟨rfl⟩) (by omega))) (by omega)) (by omega) ?_
     refine xos 0 (g0) (i + n / 64) IntKind.u64 (List.replicate (n / 64) 0 ++ O ++ (C : Int) :: List.replicate (m + 1) 0) ([]) 22 (((((x * 2 ^ p + C) % B64) : Nat) : Int)) (by first | omega | (simp <;> omega)) ?_
     refine xz [] [] ?_
     refine xr [] [(42, .bool (decide ((p : Int) > 0)))] ?_
     refine xsf z2 ?_
     refine SW_skip ?_
     refine SW_region ?_
     refine xve 57 IntKind.i64 (IntKind.wrap IntKind.i64 ((i : Int) + 1)) ((((i + 1) : Nat) : Int)) v3 ?_
     refine xz [] [(24, .int .i64 (((i + 1) : Nat) : Int))] ?_
     rw [hset]
     refine ⟨m, by omega, i + 1, O ++ [(((x * 2 ^ p + C) % B64 : Nat) : Int)], 0, by omega, by simp; omega, hdig, Nat.pow_pos (by decide), by rw [hC0] at hval; exact hval, ?_⟩
     exact xw (zsS zi0 zs0)
    ·have z2 : decide ((p : Int) > 0) = true := decide_eq_true (by omega)
     have v5 : Ve (rd ((List.replicate (n / 64) 0 ++ O ++ ((C : Nat) : Int) :: List.replicate (m + 1) 0).set (i + n / 64) (((x * 2 ^ p + C) % B64 : Nat) : Int)) ((i + n / 64 + 1 : Nat) : Int)) ((0 : Nat) : Int) := ⟨by rw [hset]; exact rd_mid _ _ _ _ (hrep2 _).symm⟩
     have v6 : Ve (IntKind.u64.wrap (64 - (p : Int))) ((64 - p : Nat) : Int) := ⟨sh64 p (by omega)⟩
     have v7 : Ve (bits .or .u64 ((0 : Nat) : Int) (shf .u64 (x : Int) ((64 - p : Nat) : Int))) (((x * 2 ^ p + C) / B64 : Nat) : Int) := ⟨by
      rw [shf_nat x (64 - p) (by omega), or_nat' 0 (x / 2 ^ (64 - p)) 0 (by omega) (by have := Nat.div_le_self x (2 ^ (64 - p)); unfold B64 at hxB; omega) (Nat.one_dvd _) (by decide), Nat.zero_add, up_carry p x C hp h4]⟩
     refine xr [] [(25, .bool (decide ((i : Int) < (((List.length a) : Nat) : Int))))] ?_
     refine SW_seq ?_
     refine xst z1 ?_
     refine SW_skip ?_
     refine SW_seq ?_
     refine SW_block ?_
     refine xg ?_
     refine xn 1 [] [(26, .int .i64 (i : Int))] ?_
     refine xfi 27 22 (ad) (List.length a) (c) (i) IntKind.i64 ((i : Int)) ⟨rfl⟩ (by omega) ?_
     refine xfle 28 zi0 (i) ((x : Int)) v4 (by omega) ?_
     refine xz [] [(8, .int .u64 (x : Int)), (7, .int .i64 (i : Int))] ?_
     refine xg ?_
     refine xn 5 [] [(33, .int .i64 (IntKind.wrap IntKind.i64 ((i : Int) + IntKind.wrap IntKind.i64 (Int.tdiv (n : Int) 64)))), (29, .slice (some ⟨g0, 0, none⟩) (List.length a + n / 64 + 1) (List.length a + n / 64 + 1))] ?_
     refine xoi 34 22 (g0) (List.length a + n / 64 + 1) (List.length a + n / 64 + 1) ((i) + ((n) / 64)) IntKind.i64 (IntKind.wrap IntKind.i64 ((i : Int) + IntKind.wrap IntKind.i64 (Int.tdiv (n : Int) 64))) (Nn.w (Nn.add ⟨rfl⟩ (Nn.w (Nn.div ⟨rfl⟩ ⟨rfl⟩) (by omega))) (by omega)) (by omega) ?_
     refine xole 35 0 (g0) (i + n / 64) IntKind.u64 (List.replicate (n / 64) 0 ++ O ++ (C : Int) :: List.replicate (m + 1) 0) ([]) 22 ((C : Int)) v1 (by first | omega | (simp <;> omega)) ?_
     refine xn 10 [] [(38, .int .u64 (IntKind.wrap IntKind.u64 ((x : Int) * 2 ^ min (Int.toNat (p : Int)) (IntKind.bits IntKind.u64))))] ?_
     refine xve 39 IntKind.u64 (bits BinOp.or IntKind.u64 (C : Int) (shl IntKind.u64 (x : Int) (p : Int))) (((((x * 2 ^ p + C) % B64) : Nat) : Int)) v2 ?_
     refine xoi 40 22 (g0) (List.length a + n / 64 + 1) (List.length a + n / 64 + 1) ((i) + ((n) / 64)) IntKind.i64 (IntKind.wrap IntKind.i64 ((i : Int) + IntKind.wrap IntKind.i64 (Int.tdiv (n : Int) 64))) (Nn.w (Nn.add ⟨rfl⟩ (Nn.w (Nn.div ⟨rfl⟩ ⟨rfl⟩) (by omega))) (by omega)) (by omega) ?_
     refine xos 0 (g0) (i + n / 64) IntKind.u64 (List.replicate (n / 64) 0 ++ O ++ (C : Int) :: List.replicate (m + 1) 0) ([]) 22 (((((x * 2 ^ p + C) % B64) : Nat) : Int)) (by first | omega | (simp <;> omega)) ?_
     refine xz [] [] ?_
     refine xr [] [(42, .bool (decide ((p : Int) > 0)))] ?_
     refine xst z2 ?_
     refine SW_region ?_
     refine xn 6 [] [(48, .int .i64 (IntKind.wrap IntKind.i64 (IntKind.wrap IntKind.i64 ((i : Int) + IntKind.wrap IntKind.i64 (Int.tdiv (n : Int) 64)) + 1))), (43, .slice (some ⟨g0, 0, none⟩) (List.length a + n / 64 + 1) (List.length a + n / 64 + 1))] ?_
     refine xoi 49 22 (g0) (List.length a + n / 64 + 1) (List.length a + n / 64 + 1) (((i) + ((n) / 64)) + 1) IntKind.i64 (IntKind.wrap IntKind.i64 (IntKind.wrap IntKind.i64 ((i : Int) + IntKind.wrap IntKind.i64 (Int.tdiv (n : Int) 64)) + 1)) (Nn.w (Nn.add (Nn.w (Nn.add ⟨rfl⟩ (Nn.w (Nn.div ⟨rfl⟩ ⟨rfl⟩) (by omega))) (by omega)) ⟨rfl⟩) (by omega)) (by omega) ?_
     refine xole 50 0 (g0) (i + n / 64 + 1) IntKind.u64 (List.set (List.replicate (n / 64) 0 ++ O ++ (C : Int) :: List.replicate (m + 1) 0) (i + n / 64) ((((x * 2 ^ p + C) % B64) : Nat) : Int)) ([]) 22 ((0 : Int)) v5 (by first | omega | (simp <;> omega)) ?_
     refine xn 10 [] [(52, .int .u64 (p : Int)), (51, .int .u64 (x : Int))] ?_
     refine xve 53 IntKind.u64 (IntKind.wrap IntKind.u64 (64 - (p : Int))) ((((64 - p) : Nat) : Int)) v6 ?_
     refine xn 12 [] [(54, .int .u64 (Int.fdiv (x : Int) (2 ^ min (Int.toNat (((64 - p) : Nat) : Int)) (IntKind.bits IntKind.u64))))] ?_
     refine xve 55 IntKind.u64 (bits BinOp.or IntKind.u64 (0 : Int) (shf IntKind.u64 (x : Int) (((64 - p) : Nat) : Int))) (((((x * 2 ^ p + C) / B64) : Nat) : Int)) v7 ?_
     refine xoi 56 22 (g0) (List.length a + n / 64 + 1) (List.length a + n / 64 + 1) (((i) + ((n) / 64)) + 1) IntKind.i64 (IntKind.wrap IntKind.i64 (IntKind.wrap IntKind.i64 ((i : Int) + IntKind.wrap IntKind.i64 (Int.tdiv (n : Int) 64)) + 1)) (Nn.w (Nn.add (Nn.w (Nn.add ⟨rfl⟩ (Nn.w (Nn.div ⟨rfl⟩ ⟨rfl⟩) (by omega))) (by omega)) ⟨rfl⟩) (by omega)) (by omega) ?_
     refine xos 0 (g0) (i + n / 64 + 1) IntKind.u64 (List.set (List.replicate (n / 64) 0 ++ O ++ (C : Int) :: List.replicate (m + 1) 0) (i + n / 64) ((((x * 2 ^ p + C) % B64) : Nat) : Int)) ([]) 22 (((((x * 2 ^ p + C) / B64) : Nat) : Int)) (by first | omega | (simp <;> omega)) ?_
     refine xz [] [] ?_
     refine SW_region ?_
     refine xve 57 IntKind.i64 (IntKind.wrap IntKind.i64 ((i : Int) + 1)) ((((i + 1) : Nat) : Int)) v3 ?_
     refine xz [] [(24, .int .i64 (((i + 1) : Nat) : Int))] ?_
     rw [hset, set_mid _ _ _ _ _ (hrep2 _).symm]
     refine ⟨m, by omega, i + 1, O ++ [(((x * 2 ^ p + C) % B64 : Nat) : Int)], (x * 2 ^ p + C) / B64, by omega, by simp; omega, hdig, hC, hval, ?_⟩
     exact xw (zsS zi0 zs0)
   ·have z1 : decide ((i : Int) < (a.length : Int)) = false := decide_eq_false (by omega)
    obtain rfl : m = 0 := by omega
    have el : a.length + n / 64 + 1 = (List.replicate (n / 64) 0 ++ O ++ ((C : Nat) : Int) :: List.replicate 0 0).length := by simp; omega
    have hCB : C < B64 := Nat.lt_trans h4 (by unfold B64; exact Nat.pow_lt_pow_right (a := 2) (n := 64) (by decide) hp)
    have hdL : Dig B64 (List.replicate (n / 64) 0 ++ O ++ ((C : Nat) : Int) :: List.replicate 0 0) := ((Dig.zeros B64_pos _).append h3).append (Dig.cons (cast_dig hCB) (Dig.nil _))
    have er : trimL (List.replicate (n / 64) 0 ++ O ++ ((C : Nat) : Int) :: List.replicate 0 0) = r := by
     refine norm_inj B64_pos hdL.trim dr (norm_trim _) nr ?_
     have e1 : List.replicate (n / 64) 0 ++ O ++ ((C : Nat) : Int) :: List.replicate 0 0 = List.replicate (n / 64) 0 ++ (O ++ [((C : Nat) : Int)]) := by simp
     rw [val_trim, e1, val_shl, val_snoc, h2, Int.toNat_natCast, h5, val_take_all _ _ _ (by omega), vr, ← hpd]
     rw [show B64 = 2 ^ 64 from rfl, pow_mul_mod _ 64 n]
    have ct := ct_impl_trimmed (List.replicate (n / 64) 0 ++ O ++ ((C : Nat) : Int) :: List.replicate 0 0) (some ⟨g0, 0, none⟩) (List.replicate (n / 64) 0 ++ O ++ ((C : Nat) : Int) :: List.replicate 0 0).length (by omega)
    rw [er] at ct
    refine xr [] [(25, .bool (decide ((i : Int) < (((List.length a) : Nat) : Int))))] ?_
    refine SW_seq ?_
    refine xsf z1 ?_
    refine SW_exit ?_
    refine xg ?_
    refine xn 1 [] [(58, .slice (some ⟨g0, 0, none⟩) (List.length a + n / 64 + 1) (List.length a + n / 64 + 1))] ?_
    refine NW_fz 0 (a.length + n / 64 + 1) g0 .u64 (List.replicate (n / 64) 0 ++ O ++ ((C : Nat) : Int) :: List.replicate 0 0) [] 22 (by omega) (by omega) ?_
    rw [el]
    refine xcr 59 ct (zsS zi0 zs0) (fun A0 k0 => ?_)
    refine xz [] [(4, .slice A0 (List.length r) k0)] ?_
    refine SW_ret ?_
    refine xe (A0, k0) (.slice A0 (List.length r) k0) [] ?_ (zsS zi0 zs0)
    rfl
end Go.Proofs.YtdbnmdchecacdaaDoor.M
end
section
namespace Go.Proofs.YtdbnmdchecacdaaDoor.M
open Go.RowKit Go.Proofs.YtdbnmdchecacdaaDoor.G Go.Proofs.YtdbnmdchecacdaaDoorV.PrintWords Go.Proofs.YtdbnmdchecacdaaDoorV.PrintLast Go.Proofs.YtdbnmdchecacdaaDoor.X
set_option linter.unusedVariables false
set_option linter.unusedSimpArgs false
theorem sr_get {B P : Nat} : ∀ (l : List Int) (i : Nat), i < l.length → (sr B P l)[i]? = some (((((rd l (i : Int)).toNat + B * ((rd l ((i + 1 : Nat) : Int)).toNat % P)) / P : Nat) : Int))
 | [], i, h => by simp at h
 | x :: l, 0, h => by
  simp only [sr, List.getElem?_cons_zero]
  rfl
 | x :: l, i + 1, h => by
  simp only [sr, List.getElem?_cons_succ]
  rw [sr_get l i (by simpa using h)]
  rfl
theorem sr_take {B P : Nat} {l : List Int} {i : Nat} (h : i < l.length) {y : Int} (hy : y = ((((rd l (i : Int)).toNat + B * ((rd l ((i + 1 : Nat) : Int)).toNat % P)) / P : Nat) : Int)) : (sr B P l).take i ++ [y] = (sr B P l).take (i + 1) := by
 rw [List.take_add_one, sr_get l i h, hy]
 rfl
theorem ct_impl_nat_right_rows (a : List Int) (A : Option Addr) (c : Nat) (da : Dig B64 a) (hla : a.length ≤ 1000000) (N : Int) (n : Nat) (hN : Nn N n) (hn : n ≤ 1000000000) : ∀ r, Dig B64 r → Norm r → val B64 r = val B64 a / 2 ^ n → CtR Tryd.prog 129 [.slice A a.length c, .int .i64 N] [Row .u64 A c a] .u64 r := by
 intro r dr nr vr
 obtain ⟨rfl⟩ := hN
 refine ct_of Tryd.func129 rfl (by kernel_rfl) (fun B w0 => ?_)
 have wd : IntKind.i64.wrap (Int.tdiv (n : Int) 64) = ((n / 64 : Nat) : Int) := (Nn.w (Nn.div ⟨rfl⟩ ⟨rfl⟩ : Nn (Int.tdiv (n : Int) 64) (n / 64)) (by omega)).out
 have vd : Ve (IntKind.i64.wrap (Int.tdiv (n : Int) 64)) ((n / 64 : Nat) : Int) := ⟨wd⟩
 by_cases h0 : a.length ≤ n / 64
 ·have z0 : decide (((n / 64 : Nat) : Int) ≥ (a.length : Int)) = true := decide_eq_true (by omega)
  have hlt : val B64 a < 2 ^ n := by
   refine Nat.lt_of_lt_of_le (val_lt da) ?_
   rw [show B64 = 2 ^ 64 from rfl, ← Nat.pow_mul]
   exact Nat.pow_le_pow_right (by decide) (by omega)
  have er : r = [] := (norm_zero B64_pos dr nr).2 (by rw [vr, Nat.div_eq_of_lt hlt])
  subst er
  refine SW_tru (Row_nil .u64 0) ?_
  refine xr [] [(4, .slice none 0 0)] ?_
  refine SW_seq ?_
  refine xg ?_
  refine xn 1 [] [(8, .int .i64 (n : Int))] ?_
  refine xve 9 IntKind.i64 (IntKind.wrap IntKind.i64 (Int.tdiv (n : Int) 64)) ((((n / 64) : Nat) : Int)) vd ?_
  refine xz [] [(12, .bool (decide ((((n / 64) : Nat) : Int) ≥ (((List.length a) : Nat) : Int))))] ?_
  refine xst z0 ?_
  refine xr [] [(4, .slice none 0 0)] ?_
  refine SW_ret ?_
  refine xe (none, 0) (.slice none 0 0) [] ?_ (zsS zi0 zs0)
  rfl
 ·have z0 : decide (((n / 64 : Nat) : Int) ≥ (a.length : Int)) = false := decide_eq_false (by omega)
  have hp : n % 64 < 64 := Nat.mod_lt _ (by decide)
  generalize hpd : n % 64 = p at hp
  have vp : Ve (IntKind.u64.wrap (Int.tmod (n : Int) 64)) (p : Int) := ⟨by rw [← hpd]; exact ((Nn.mod ⟨rfl⟩ ⟨rfl⟩ : Nn (Int.tmod (n : Int) 64) (n % 64)).u (by omega)).out⟩
  have hll : (a.drop (n / 64)).length = a.length - n / 64 := List.length_drop ..
  have dl : Dig B64 (a.drop (n / 64)) := da.drop _
  have vl : val B64 (a.drop (n / 64)) = val B64 a / B64 ^ (n / 64) := val_drop B64 B64_pos da _
  refine xr [] [(4, .slice none 0 0)] ?_
  refine SW_seq ?_
  refine xg ?_
  refine xn 1 [] [(8, .int .i64 (n : Int))] ?_
  refine xve 9 IntKind.i64 (IntKind.wrap IntKind.i64 (Int.tdiv (n : Int) 64)) ((((n / 64) : Nat) : Int)) vd ?_
  refine xz [] [(12, .bool (decide ((((n / 64) : Nat) : Int) ≥ (((List.length a) : Nat) : Int))))] ?_
  refine xsf z0 ?_
  refine SW_skip ?_
  refine xg ?_
  refine xn 2 [] [(14, .int .i64 (n : Int)), (13, .slice A (List.length a) c)] ?_
  refine xve 15 IntKind.i64 (IntKind.wrap IntKind.i64 (Int.tdiv (n : Int) 64)) ((((n / 64) : Nat) : Int)) vd ?_
  refine xsl 16 22 (n / 64) IntKind.i64 ((((n / 64) : Nat) : Int)) zi0 ⟨rfl⟩ (by omega) (fun A0 => ?_)
  refine xz [] [(0, .slice A0 (List.length (List.drop (n / 64) a)) (c - n / 64))] ?_
  refine xg ?_
  refine xn 2 [] [(18, .int .i64 (((List.length (List.drop (n / 64) a)) : Nat) : Int))] ?_
  refine xma 19 22 (List.length (List.drop (n / 64) a)) IntKind.u64 8 ((((List.length (List.drop (n / 64) a)) : Nat) : Int)) ⟨rfl⟩ (by omega) (fun g0 => ?_)
  refine xz [] [(5, .slice (some ⟨g0, 0, none⟩) (List.length (List.drop (n / 64) a)) (List.length (List.drop (n / 64) a)))] ?_
  refine xg ?_
  refine xn 2 [] [(21, .int .i64 (Int.tmod (n : Int) 64))] ?_
  refine xve 22 IntKind.u64 (IntKind.wrap IntKind.u64 (Int.tmod (n : Int) 64)) ((p : Int)) vp ?_
  refine xz [] [(6, .int .u64 (p : Int))] ?_
  refine SW_seq ?_
  refine xr [] [(25, .int .i64 0), (24, .int .i64 (((List.length (List.drop (n / 64) a)) : Nat) : Int))] ?_
  refine SW_block ?_
  generalize a.drop (n / 64) = l at hll dl vl
  have hP : 0 < 2 ^ p := Nat.pow_pos (by decide)
  have dsr : Dig B64 (sr B64 (2 ^ p) l) := sr_dig hP l dl
  have lsr : (sr B64 (2 ^ p) l).length = l.length := sr_length _ _ l
  refine SW_loopn (fun m s => ∃ i, m + i = l.length ∧ Weak s ⟨[(0, .slice A0 l.length (c - n / 64)), (5, .slice (some ⟨g0, 0, none⟩) l.length l.length), (6, .int .u64 (p : Int)), (24, .int .i64 l.length), (25, .int .i64 (i : Int))], [⟨g0, cl .u64 ((sr B64 (2 ^ p) l).take i ++ List.replicate m 0) [], 22⟩], [Row .u64 A0 (c - n / 64) l]⟩) l.length ⟨0, rfl, ?_⟩ (fun m s ⟨i, h1, hw⟩ => ?_)
  ·rw [List.take_zero, List.nil_append]
   exact xw (zsS zi0 zs0)
  ·refine SW_weak hw ?_
   clear hw
   by_cases hi : i < l.length
   ·have z1 : decide ((i : Int) < (l.length : Int)) = true := decide_eq_true (by omega)
    refine SW_know zi0 (fun w h => row_at h (by omega)) (fun ⟨ad, e⟩ => ?_)
    subst e
    obtain ⟨m, rfl⟩ : ∃ m', m = m' + 1 := ⟨m - 1, by omega⟩
    have hx0 := dl.rd B64_pos i
    obtain ⟨x, hx⟩ : ∃ x : Nat, rd l (i : Int) = (x : Int) := ⟨(rd l i).toNat, by omega⟩
    have hy0 := dl.rd B64_pos ((i + 1 : Nat) : Int)
    obtain ⟨y, hy⟩ : ∃ y : Nat, rd l ((i + 1 : Nat) : Int) = (y : Int) := ⟨(rd l ((i + 1 : Nat) : Int)).toNat, by omega⟩
    have hxB : x < B64 := by omega
    have v1 : Ve (rd l (i : Int)) (x : Int) := ⟨hx⟩
    have v2 : Ve (shf .u64 (x : Int) (p : Int)) ((x / 2 ^ p : Nat) : Int) := ⟨shf_nat x p (by omega)⟩
    have v3 : Ve (IntKind.i64.wrap ((i : Int) + 1)) ((i + 1 : Nat) : Int) := ⟨(Nn.w (Nn.add ⟨rfl⟩ ⟨rfl⟩ : Nn ((i : Int) + 1) (i + 1)) (by omega)).out⟩
    have lt : ((sr B64 (2 ^ p) l).take i).length = i := by rw [List.length_take]; omega
    have hset : ∀ v : Int, ((sr B64 (2 ^ p) l).take i ++ List.replicate (m + 1) 0).set i v = (sr B64 (2 ^ p) l).take i ++ [v] ++ List.replicate m 0 := fun v => by
     have := set_rep ((sr B64 (2 ^ p) l).take i) m v
     rwa [lt] at this
    have key : ∀ v : Int, v = (((x + B64 * (y % 2 ^ p)) / 2 ^ p : Nat) : Int) → (sr B64 (2 ^ p) l).take i ++ [v] = (sr B64 (2 ^ p) l).take (i + 1) := fun v hv => sr_take hi (by rw [hx, hy, Int.toNat_natCast, Int.toNat_natCast]; exact hv)
    by_cases h0p : p = 0
    ·have z2 : decide ((p : Int) > 0) = false := decide_eq_false (by omega)
     have ek := key ((x / 2 ^ p : Nat) : Int) (by rw [h0p]; simp [Nat.mod_one])
     refine xr [] [(26, .bool (decide ((i : Int) < (((List.length l) : Nat) : Int))))] ?_
     refine SW_seq ?_
     refine xst z1 ?_
     refine SW_skip ?_
     refine SW_seq ?_
     refine SW_block ?_
     refine xr [] [(7, .int .i64 (i : Int))] ?_
     refine xg ?_
     refine xn 4 [] [(31, .int .i64 (i : Int)), (30, .slice (some ad) (List.length l) (c - n / 64)), (29, .int .i64 (i : Int)), (28, .slice (some ⟨g0, 0, none⟩) (List.length l) (List.length l))] ?_
     refine xfi 32 22 (ad) (List.length l) (c - n / 64) (i) IntKind.i64 ((i : Int)) ⟨rfl⟩ (by omega) ?_
     refine xfle 33 zi0 (i) ((x : Int)) v1 (by omega) ?_
     refine xn 7 [] [(34, .int .u64 (p : Int))] ?_
     refine xve 35 IntKind.u64 (shf IntKind.u64 (x : Int) (p : Int)) ((((x / 2 ^ p) : Nat) : Int)) v2 ?_
     refine xoi 36 22 (g0) (List.length l) (List.length l) (i) IntKind.i64 ((i : Int)) ⟨rfl⟩ (by omega) ?_
     refine xos 0 (g0) (i) IntKind.u64 (List.take i (sr B64 (2 ^ p) l) ++ List.replicate (m + 1) 0) ([]) 22 ((((x / 2 ^ p) : Nat) : Int)) (by first | omega | (simp <;> omega)) ?_
     refine xz [] [] ?_
     refine xg ?_
     refine xn 3 [] [(39, .bool (decide ((p : Int) > 0)))] ?_
     refine xkf 39 z2 ?_
     refine xz [] [(45, .bool false)] ?_
     refine xs0 ?_
     refine SW_skip ?_
     refine SW_region ?_
     refine xve 60 IntKind.i64 (IntKind.wrap IntKind.i64 ((i : Int) + 1)) ((((i + 1) : Nat) : Int)) v3 ?_
     refine xz [] [(25, .int .i64 (((i + 1) : Nat) : Int))] ?_
     rw [hset, ek]
     refine ⟨m, by omega, i + 1, by omega, ?_⟩
     exact xw (zsS zi0 zs0)
    ·have z2 : decide ((p : Int) > 0) = true := decide_eq_true (by omega)
     by_cases hi2 : i + 1 < l.length
     ·have z3 : decide (((i + 1 : Nat) : Int) < (l.length : Int)) = true := decide_eq_true (by omega)
      have v4 : Ve (rd l ((i + 1 : Nat) : Int)) (y : Int) := ⟨hy⟩
      have v5 : Ve (rd (((sr B64 (2 ^ p) l).take i ++ List.replicate (m + 1) 0).set i ((x / 2 ^ p : Nat) : Int)) (i : Int)) ((x / 2 ^ p : Nat) : Int) := ⟨rd_set_self _ _ _ (by simp; omega)⟩
      have v6 : Ve (IntKind.u64.wrap (64 - (p : Int))) ((64 - p : Nat) : Int) := ⟨sh64 p (by omega)⟩
      have v7 : Ve (bits .or .u64 ((x / 2 ^ p : Nat) : Int) (shl .u64 (y : Int) ((64 - p : Nat) : Int))) (((x + B64 * (y % 2 ^ p)) / 2 ^ p : Nat) : Int) := ⟨place_down p x y (by omega) hxB⟩
      have ek := key _ rfl
      refine xr [] [(26, .bool (decide ((i : Int) < (((List.length l) : Nat) : Int))))] ?_
      refine SW_seq ?_
      refine xst z1 ?_
      refine SW_skip ?_
      refine SW_seq ?_
      refine SW_block ?_
      refine xr [] [(7, .int .i64 (i : Int))] ?_
      refine xg ?_
      refine xn 4 [] [(31, .int .i64 (i : Int)), (30, .slice (some ad) (List.length l) (c - n / 64)), (29, .int .i64 (i : Int)), (28, .slice (some ⟨g0, 0, none⟩) (List.length l) (List.length l))] ?_
      refine xfi 32 22 (ad) (List.length l) (c - n / 64) (i) IntKind.i64 ((i : Int)) ⟨rfl⟩ (by omega) ?_
      refine xfle 33 zi0 (i) ((x : Int)) v1 (by omega) ?_
      refine xn 7 [] [(34, .int .u64 (p : Int))] ?_
      refine xve 35 IntKind.u64 (shf IntKind.u64 (x : Int) (p : Int)) ((((x / 2 ^ p) : Nat) : Int)) v2 ?_
      refine xoi 36 22 (g0) (List.length l) (List.length l) (i) IntKind.i64 ((i : Int)) ⟨rfl⟩ (by omega) ?_
      refine xos 0 (g0) (i) IntKind.u64 (List.take i (sr B64 (2 ^ p) l) ++ List.replicate (m + 1) 0) ([]) 22 ((((x / 2 ^ p) : Nat) : Int)) (by first | omega | (simp <;> omega)) ?_
      refine xz [] [] ?_
      refine xg ?_
      refine xn 3 [] [(39, .bool (decide ((p : Int) > 0)))] ?_
      refine xkt 39 z2 ?_
      refine xn 4 [] [(40, .int .i64 (i : Int))] ?_
      refine xve 41 IntKind.i64 (IntKind.wrap IntKind.i64 ((i : Int) + 1)) ((((i + 1) : Nat) : Int)) v3 ?_
      refine xz [] [(45, .bool (decide ((((i + 1) : Nat) : Int) < (((List.length l) : Nat) : Int))))] ?_
      refine xst z3 ?_
      refine xdl (fun hB => ?_)
      refine xdk [(0, []), (1, []), (4, []), (5, []), (9, [])] [(55, .int .u64 (p : Int)), (51, .int .i64 (i : Int)), (50, .slice (some ad) (List.length l) (c - n / 64)), (47, .int .i64 (i : Int)), (46, .slice (some ⟨g0, 0, none⟩) (List.length l) (List.length l))] hB ?_
      refine xdve 6 hB 52 IntKind.i64 (IntKind.wrap IntKind.i64 ((i : Int) + 1)) ((((i + 1) : Nat) : Int)) v3 ?_
      refine xdve 10 hB 56 IntKind.u64 (IntKind.wrap IntKind.u64 (64 - (p : Int))) ((((64 - p) : Nat) : Int)) v6 ?_
      refine xdoi 2 hB 48 22 (g0) (List.length l) (List.length l) (i) IntKind.i64 ((i : Int)) ⟨rfl⟩ (by omega) ?_
      refine xdole 3 hB 49 0 (g0) (i) IntKind.u64 (List.set (List.take i (sr B64 (2 ^ p) l) ++ List.replicate (m + 1) 0) i (((x / 2 ^ p) : Nat) : Int)) ([]) 22 ((((x / 2 ^ p) : Nat) : Int)) v5 (by first | omega | (simp <;> omega)) ?_
      refine xdfi 7 hB 53 22 (ad) (List.length l) (c - n / 64) (i + 1) IntKind.i64 ((((i + 1) : Nat) : Int)) ⟨rfl⟩ (by omega) ?_
      refine xdfle 8 hB 54 zi0 (i + 1) ((y : Int)) v4 (by omega) ?_
      refine xdk [(11, [])] [(57, .int .u64 (IntKind.wrap IntKind.u64 ((y : Int) * 2 ^ min (Int.toNat (((64 - p) : Nat) : Int)) (IntKind.bits IntKind.u64))))] hB ?_
      refine xdve 12 hB 58 IntKind.u64 (bits BinOp.or IntKind.u64 (((x / 2 ^ p) : Nat) : Int) (shl IntKind.u64 (y : Int) (((64 - p) : Nat) : Int))) (((((x + B64 * (y % 2 ^ p)) / 2 ^ p) : Nat) : Int)) v7 ?_
      refine xdoi 13 hB 59 22 (g0) (List.length l) (List.length l) (i) IntKind.i64 ((i : Int)) ⟨rfl⟩ (by omega) ?_
      refine xdos 14 hB 0 (g0) (i) IntKind.u64 (List.set (List.take i (sr B64 (2 ^ p) l) ++ List.replicate (m + 1) 0) i (((x / 2 ^ p) : Nat) : Int)) ([]) 22 (((((x + B64 * (y % 2 ^ p)) / 2 ^ p) : Nat) : Int)) (by first | omega | (simp <;> omega)) ?_
      refine xdz ?_
      refine SW_region ?_
      refine xve 60 IntKind.i64 (IntKind.wrap IntKind.i64 ((i : Int) + 1)) ((((i + 1) : Nat) : Int)) v3 ?_
      refine xz [] [(25, .int .i64 (((i + 1) : Nat) : Int))] ?_
      rw [List.set_set, hset (((x + B64 * (y % 2 ^ p)) / 2 ^ p : Nat) : Int), ek]
      refine ⟨m, by omega, i + 1, by omega, ?_⟩
      exact xw (zsS zi0 zs0)
     ·have z3 : decide (((i + 1 : Nat) : Int) < (l.length : Int)) = false := decide_eq_false (by omega)
      have hy00 : y = 0 := by
       have := rd_of_ge l ((i + 1 : Nat) : Int) (by simp; omega)
       omega
      have ek := key ((x / 2 ^ p : Nat) : Int) (by rw [hy00]; simp)
      refine xr [] [(26, .bool (decide ((i : Int) < (((List.length l) : Nat) : Int))))] ?_
      refine SW_seq ?_
      refine xst z1 ?_
      refine SW_skip ?_
      refine SW_seq ?_
      refine SW_block ?_
      refine xr [] [(7, .int .i64 (i : Int))] ?_
      refine xg ?_
      refine xn 4 [] [(31, .int .i64 (i : Int)), (30, .slice (some ad) (List.length l) (c - n / 64)), (29, .int .i64 (i : Int)), (28, .slice (some ⟨g0, 0, none⟩) (List.length l) (List.length l))] ?_
      refine xfi 32 22 (ad) (List.length l) (c - n / 64) (i) IntKind.i64 ((i : Int)) ⟨rfl⟩ (by omega) ?_
      refine xfle 33 zi0 (i) ((x : Int)) v1 (by omega) ?_
      refine xn 7 [] [(34, .int .u64 (p : Int))] ?_
      refine xve 35 IntKind.u64 (shf IntKind.u64 (x : Int) (p : Int)) ((((x / 2 ^ p) : Nat) : Int)) v2 ?_
      refine xoi 36 22 (g0) (List.length l) (List.length l) (i) IntKind.i64 ((i : Int)) ⟨rfl⟩ (by omega) ?_
      refine xos 0 (g0) (i) IntKind.u64 (List.take i (sr B64 (2 ^ p) l) ++ List.replicate (m + 1) 0) ([]) 22 ((((x / 2 ^ p) : Nat) : Int)) (by first | omega | (simp <;> omega)) ?_
      refine xz [] [] ?_
      refine xg ?_
      refine xn 3 [] [(39, .bool (decide ((p : Int) > 0)))] ?_
      refine xkt 39 z2 ?_
      refine xn 4 [] [(40, .int .i64 (i : Int))] ?_
      refine xve 41 IntKind.i64 (IntKind.wrap IntKind.i64 ((i : Int) + 1)) ((((i + 1) : Nat) : Int)) v3 ?_
      refine xz [] [(45, .bool (decide ((((i + 1) : Nat) : Int) < (((List.length l) : Nat) : Int))))] ?_
      refine xsf z3 ?_
      refine SW_skip ?_
      refine SW_region ?_
      refine xve 60 IntKind.i64 (IntKind.wrap IntKind.i64 ((i : Int) + 1)) ((((i + 1) : Nat) : Int)) v3 ?_
      refine xz [] [(25, .int .i64 (((i + 1) : Nat) : Int))] ?_
      rw [hset, ek]
      refine ⟨m, by omega, i + 1, by omega, ?_⟩
      exact xw (zsS zi0 zs0)
   ·have z1 : decide ((i : Int) < (l.length : Int)) = false := decide_eq_false (by omega)
    obtain rfl : m = 0 := by omega
    have e0 : (sr B64 (2 ^ p) l).take i ++ List.replicate 0 0 = sr B64 (2 ^ p) l := by
     rw [List.take_of_length_le (by omega)]
     simp
    have er : trimL (sr B64 (2 ^ p) l) = r := by
     refine norm_inj B64_pos dsr.trim dr (norm_trim _) nr ?_
     rw [val_trim, sr_val hP (by rw [B64_pow]; exact Nat.pow_dvd_pow 2 (by omega)), vl, vr, ← hpd]
     exact (pow_div_mod _ 64 n).symm
    have ct := ct_impl_trimmed (sr B64 (2 ^ p) l) (some ⟨g0, 0, none⟩) (sr B64 (2 ^ p) l).length (by omega)
    rw [er] at ct
    refine xr [] [(26, .bool (decide ((i : Int) < (((List.length l) : Nat) : Int))))] ?_
    refine SW_seq ?_
    refine xsf z1 ?_
    refine SW_exit ?_
    refine xg ?_
    refine xn 1 [] [(61, .slice (some ⟨g0, 0, none⟩) (List.length l) (List.length l))] ?_
    rw [e0]
    refine NW_fz 0 l.length g0 .u64 (sr B64 (2 ^ p) l) [] 22 (by omega) (by omega) ?_
    rw [show l.length = (sr B64 (2 ^ p) l).length by omega]
    refine xcr 62 ct (zsS zi0 zs0) (fun A1 k1 => ?_)
    refine xz [] [(4, .slice A1 (List.length r) k1)] ?_
    refine SW_ret ?_
    refine xe (A1, k1) (.slice A1 (List.length r) k1) [] ?_ (zsS zi0 zs0)
    rfl
theorem ct_impl_word_rows (a : Int) (n : Nat) (ha : Nn a n) (hn : n < B64) : ∀ r, Dig B64 r → Norm r → val B64 r = n → CtR Tryd.prog 85 [.int .u64 a] [] .u64 r := by
 intro r dr nr vr
 obtain ⟨rfl⟩ := ha
 have er : trimL [(n : Int)] = r := norm_inj B64_pos (Dig.cons (cast_dig hn) (Dig.nil _)).trim dr (norm_trim _) nr (by rw [val_trim, val_one, vr]; rfl)
 refine ct_of Tryd.func85 rfl (by kernel_rfl) (fun B w0 => ?_)
 refine xr [] [(2, .slice none 0 0)] ?_
 refine xg ?_
 refine xn 1 [] [(3, .int .u64 (n : Int))] ?_
 refine xbl 4 [.int .u64 (n : Int)] 22 1 (fun g0 => ?_)
 have ct := ct_impl_trimmed [(n : Int)] (some ⟨g0, 0, none⟩) 1 (by simp)
 rw [er] at ct
 refine NW_fz 0 1 g0 .u64 [(n : Int)] [] 22 (by simp) (by simp) ?_
 refine xcr 5 ct (zsS zi0 zs0) (fun A0 k0 => ?_)
 refine xz [] [(2, .slice A0 (List.length r) k0)] ?_
 refine SW_ret ?_
 refine xe (A0, k0) (.slice A0 (List.length r) k0) [] ?_ (zsS zi0 zs0)
 rfl
def len8tab : ByteArray := (⟨#[0, 1, 2, 2, 3, 3, 3, 3, 4, 4, 4, 4, 4, 4, 4, 4, 5, 5, 5, 5, 5, 5, 5, 5, 5, 5, 5, 5, 5, 5, 5, 5, 6, 6, 6, 6, 6, 6, 6, 6, 6, 6, 6, 6, 6, 6, 6, 6, 6, 6, 6, 6, 6, 6, 6, 6, 6, 6, 6, 6, 6, 6, 6, 6, 7, 7, 7, 7, 7, 7, 7, 7, 7, 7, 7, 7, 7, 7, 7, 7, 7, 7, 7, 7, 7, 7, 7, 7, 7, 7, 7, 7, 7, 7, 7, 7, 7, 7, 7, 7, 7, 7, 7, 7, 7, 7, 7, 7, 7, 7, 7, 7, 7, 7, 7, 7, 7, 7, 7, 7, 7, 7, 7, 7, 7, 7, 7, 7, 8, 8, 8, 8, 8, 8, 8, 8, 8, 8, 8, 8, 8, 8, 8, 8, 8, 8, 8, 8, 8, 8, 8, 8, 8, 8, 8, 8, 8, 8, 8, 8, 8, 8, 8, 8, 8, 8, 8, 8, 8, 8, 8, 8, 8, 8, 8, 8, 8, 8, 8, 8, 8, 8, 8, 8, 8, 8, 8, 8, 8, 8, 8, 8, 8, 8, 8, 8, 8, 8, 8, 8, 8, 8, 8, 8, 8, 8, 8, 8, 8, 8, 8, 8, 8, 8, 8, 8, 8, 8, 8, 8, 8, 8, 8, 8, 8, 8, 8, 8, 8, 8, 8, 8, 8, 8, 8, 8, 8, 8, 8, 8, 8, 8, 8, 8, 8, 8, 8, 8, 8, 8, 8, 8, 8, 8, 8, 8]⟩ : ByteArray)
theorem len8 : ∀ i : Nat, i < 256 → IsBits i (bt len8tab i).toNat ∧ 0 ≤ bt len8tab i := fun i hi => lenT i hi
theorem run_sidx {P : Program} {t : TypeId} {ρ : Operand → Value} {o : Oper} {x ix : Operand} {s : ByteArray} {k : IntKind} {i : Nat} (ho : o.op = .index t x ix) (hx : ρ x = .string s) (hi : ρ ix = .int k (i : Int)) (ht : ∀ w, (underlying t).run P w = .ok .string w) (h1 : i < s.size) (w : World) : (execOp ρ o).run P w = .ok (.value (.int .u8 (bt s i))) w := by
 have e : bt s (i : Int) = ((s[i]'h1).toNat : Int) := by
  have := bt_at s (i : Int) (by simpa using h1)
  simp only [Int.toNat_natCast] at this
  exact this.symm
 unfold execOp
 simp only [ho, hx, hi]
 simp [Instr.index, Sem.run_bind, Result.andThen, asIntOf, ht, h1, e]
section
variable {X : Cx} {env : List (Nat × Value)} {bs : List Box} {fs : List Fact} {K : Exit → St → Prop} {ops : Array Oper} {j : Nat}
theorem xsi (d : Nat) (s : ByteArray) (k : IntKind) (y : Nat) (v : Int) (hv : bt s (y : Int) = v) (h1 : y < s.size) {o : Oper} {t : TypeId} {x ix : Operand} (h : NW X ops (Nat.succ j) ⟨(d, .int .u8 v) :: env, bs, fs⟩ K)
  (ho : ops[j]? = some o := by rfl) (hop : o.op = .index t x ix := by rfl) (hg : guardD ops env o = some true := by kernel_rfl) (hf : fitO X.n env o = true := by kernel_rfl) (hd : o.dst = some d := by rfl)
  (hx : evD env x = .string s := by kernel_rfl) (hi : evD env ix = .int k (y : Int) := by kernel_rfl) (ht : ∀ w, (underlying t).run X.P w = .ok .string w := by intro w; kernel_rfl) : NW X ops j ⟨env, bs, fs⟩ K := by
 subst hv
 exact nv _ d _ ho hg hf hd (fun w _ _ => run_sidx hop hx hi ht h1 w) rfl h
end
theorem bits_down {x m s : Nat} (h : IsBits x m) (hx : x < 18446744073709551616) (hs : 2 ^ s ≤ x) : ∃ m', IsBits (x / 2 ^ s) m' ∧ m = s + m' := by
 obtain ⟨m', h1, _⟩ := bits_of (x / 2 ^ s) (Nat.lt_of_le_of_lt (Nat.div_le_self _ _) hx)
 exact ⟨m', h1, h.uniq (h1.up (Nat.div_pos hs (Nat.pow_pos (by decide))))⟩
theorem ct_bits_Len64 (x : Nat) (hx : x < 18446744073709551616) (m : Nat) (hm : IsBits x m) : CtV Tryd.prog 165 [.int .u64 (x : Int)] [] (.int .i64 (m : Int)) := by
 refine ct_of Tryd.func165 rfl (by kernel_rfl) (fun B w0 => ?_)
 refine xr [] [(2, .int .i64 0)] ?_
 have hm64 : m ≤ 64 := hm.le (w := 64) hx
 have stage : ∀ (S : Nat) (y s m' : Nat), y < 18446744073709551616 → IsBits y m' → m = s + m' → 2 ^ S ≤ y → ∃ m2, IsBits (y / 2 ^ S) m2 ∧ m = s + S + m2 := fun S y s m' hy h1 h2 h3 => by
  obtain ⟨m2, h4, h5⟩ := bits_down h1 hy h3
  exact ⟨m2, h4, by omega⟩
 refine SW_cut (fun s' => ∃ y s m', y < 4294967296 ∧ IsBits y m' ∧ m = s + m' ∧ Weak s' ⟨[(0, .int .u64 (y : Int)), (2, .int .i64 (s : Int))], [], []⟩) ?_ ?_
 ·by_cases h : 4294967296 ≤ x
  ·have z : decide ((x : Int) ≥ 4294967296) = true := decide_eq_true (by omega)
   have v : Ve (shf .u64 (x : Int) 32) ((x / 2 ^ 32 : Nat) : Int) := ⟨shf_nat x 32 (by decide)⟩
   obtain ⟨m2, h4, h5⟩ := stage 32 x 0 m hx hm (by omega) h
   refine xr [] [(4, .bool (decide ((x : Int) ≥ 4294967296)))] ?_
   refine xst z ?_
   refine xg ?_
   refine xn 1 [] [(5, .int .u64 (x : Int))] ?_
   refine xve 6 IntKind.u64 (shf IntKind.u64 (x : Int) 32) ((((x / 2 ^ 32) : Nat) : Int)) v ?_
   refine xz [] [(0, .int .u64 (((x / 2 ^ 32) : Nat) : Int))] ?_
   refine xrl [] [(2, .int .i64 32)] ?_
   refine ⟨x / 2 ^ 32, 32, m2, by omega, h4, by omega, ?_⟩
   exact xw zs0
  ·have z : decide ((x : Int) ≥ 4294967296) = false := decide_eq_false (by omega)
   refine xr [] [(4, .bool (decide ((x : Int) ≥ 4294967296)))] ?_
   refine xsf z ?_
   refine SW_skip ?_
   refine ⟨x, 0, m, by omega, hm, by omega, ?_⟩
   exact xw zs0
 ·rintro s' ⟨y, s, m', hy, h1, h2, hw⟩
  refine SW_weak hw ?_
  clear hw
  refine SW_cut (fun s' => ∃ y s m', y < 65536 ∧ IsBits y m' ∧ m = s + m' ∧ Weak s' ⟨[(0, .int .u64 (y : Int)), (2, .int .i64 (s : Int))], [], []⟩) ?_ ?_
  ·by_cases h : 65536 ≤ y
   ·have z : decide ((y : Int) ≥ 65536) = true := decide_eq_true (by omega)
    have v : Ve (shf .u64 (y : Int) 16) ((y / 2 ^ 16 : Nat) : Int) := ⟨shf_nat y 16 (by decide)⟩
    have v2 : Ve (IntKind.i64.wrap ((s : Int) + 16)) ((s + 16 : Nat) : Int) := ⟨(Nn.w (Nn.add ⟨rfl⟩ ⟨rfl⟩ : Nn ((s : Int) + 16) (s + 16)) (by omega)).out⟩
    obtain ⟨m2, h4, h5⟩ := stage 16 y s m' (by omega) h1 h2 h
    refine xr [] [(8, .bool (decide ((y : Int) ≥ 65536)))] ?_
    refine xst z ?_
    refine xg ?_
    refine xn 1 [] [(9, .int .u64 (y : Int))] ?_
    refine xve 10 IntKind.u64 (shf IntKind.u64 (y : Int) 16) ((((y / 2 ^ 16) : Nat) : Int)) v ?_
    refine xz [] [(0, .int .u64 (((y / 2 ^ 16) : Nat) : Int))] ?_
    refine SW_region ?_
    refine xn 1 [] [(11, .int .i64 (s : Int))] ?_
    refine xve 12 IntKind.i64 (IntKind.wrap IntKind.i64 ((s : Int) + 16)) ((((s + 16) : Nat) : Int)) v2 ?_
    refine xz [] [(2, .int .i64 (((s + 16) : Nat) : Int))] ?_
    refine ⟨y / 2 ^ 16, s + 16, m2, by omega, h4, by omega, ?_⟩
    exact xw zs0
   ·have z : decide ((y : Int) ≥ 65536) = false := decide_eq_false (by omega)
    refine xr [] [(8, .bool (decide ((y : Int) ≥ 65536)))] ?_
    refine xsf z ?_
    refine SW_skip ?_
    refine ⟨y, s, m', by omega, h1, h2, ?_⟩
    exact xw zs0
  ·rintro s' ⟨y, s, m', hy, h1, h2, hw⟩
   refine SW_weak hw ?_
   clear hw
   refine SW_cut (fun s' => ∃ y s m', y < 256 ∧ IsBits y m' ∧ m = s + m' ∧ Weak s' ⟨[(0, .int .u64 (y : Int)), (2, .int .i64 (s : Int))], [], []⟩) ?_ ?_
   ·by_cases h : 256 ≤ y
    ·have z : decide ((y : Int) ≥ 256) = true := decide_eq_true (by omega)
     have v : Ve (shf .u64 (y : Int) 8) ((y / 2 ^ 8 : Nat) : Int) := ⟨shf_nat y 8 (by decide)⟩
     have v2 : Ve (IntKind.i64.wrap ((s : Int) + 8)) ((s + 8 : Nat) : Int) := ⟨(Nn.w (Nn.add ⟨rfl⟩ ⟨rfl⟩ : Nn ((s : Int) + 8) (s + 8)) (by omega)).out⟩
     obtain ⟨m2, h4, h5⟩ := stage 8 y s m' (by omega) h1 h2 h
     refine xr [] [(14, .bool (decide ((y : Int) ≥ 256)))] ?_
     refine xst z ?_
     refine xg ?_
     refine xn 1 [] [(15, .int .u64 (y : Int))] ?_
     refine xve 16 IntKind.u64 (shf IntKind.u64 (y : Int) 8) ((((y / 2 ^ 8) : Nat) : Int)) v ?_
     refine xz [] [(0, .int .u64 (((y / 2 ^ 8) : Nat) : Int))] ?_
     refine SW_region ?_
     refine xn 1 [] [(17, .int .i64 (s : Int))] ?_
     refine xve 18 IntKind.i64 (IntKind.wrap IntKind.i64 ((s : Int) + 8)) ((((s + 8) : Nat) : Int)) v2 ?_
     refine xz [] [(2, .int .i64 (((s + 8) : Nat) : Int))] ?_
     refine ⟨y / 2 ^ 8, s + 8, m2, by omega, h4, by omega, ?_⟩
     exact xw zs0
    ·have z : decide ((y : Int) ≥ 256) = false := decide_eq_false (by omega)
     refine xr [] [(14, .bool (decide ((y : Int) ≥ 256)))] ?_
     refine xsf z ?_
     refine SW_skip ?_
     refine ⟨y, s, m', by omega, h1, h2, ?_⟩
     exact xw zs0
   ·rintro s' ⟨y, s, m', hy, h1, h2, hw⟩
    refine SW_weak hw ?_
    clear hw
    obtain ⟨k1, k2⟩ := len8 y hy
    have hu := k1.uniq h1
    have hv : bt len8tab y = (m' : Int) := by omega
    have hsz : len8tab.size = 256 := by kernel_rfl
    have v3 : Ve (IntKind.u8.wrap (y : Int)) (y : Int) := ⟨by simp [IntKind.wrap, IntKind.bits, IntKind.signed]; omega⟩
    have v4 : Ve (IntKind.i64.wrap (m' : Int)) (m' : Int) := ⟨wrap_i64 (by omega)⟩
    have v5 : Ve (IntKind.i64.wrap ((s : Int) + (m' : Int))) (m : Int) := ⟨by rw [wrap_i64 (by omega)]; omega⟩
    refine xg ?_
    refine xn 2 [] [(20, .int .u64 (y : Int)), (19, .int .i64 (s : Int))] ?_
    refine xve 21 IntKind.u8 (IntKind.wrap IntKind.u8 (y : Int)) ((y : Int)) v3 ?_
    refine xsi 22 len8tab .u8 y (m' : Int) hv (by omega) ?_
    refine xve 23 IntKind.i64 (IntKind.wrap IntKind.i64 ((m' : Nat) : Int)) (((m' : Nat) : Int)) v4 ?_
    refine xve 24 IntKind.i64 (IntKind.wrap IntKind.i64 ((s : Int) + ((m' : Nat) : Int))) ((m : Int)) v5 ?_
    refine xz [] [(2, .int .i64 (m : Int))] ?_
    refine SW_ret ?_
    refine xe () (.int .i64 (m : Int)) [] ?_ trivial
    rfl
theorem ct_bits_LeadingZeros64 (x : Nat) (hx : x < 18446744073709551616) (m : Nat) (hm : IsBits x m) : CtV Tryd.prog 148 [.int .u64 (x : Int)] [] (.int .i64 ((64 - m : Nat) : Int)) := by
 have hm64 : m ≤ 64 := hm.le (w := 64) hx
 refine ct_of Tryd.func148 rfl (by kernel_rfl) (fun B w0 => ?_)
 have v : Ve (IntKind.i64.wrap (64 - (m : Int))) ((64 - m : Nat) : Int) := ⟨(Nn.w (Nn.sub ⟨rfl⟩ ⟨rfl⟩ hm64 : Nn (64 - (m : Int)) (64 - m)) (by omega)).out⟩
 refine xr [] [(2, .int .i64 0)] ?_
 refine xg ?_
 refine xn 1 [] [(3, .int .u64 (x : Int))] ?_
 refine xcv 4 (ct_bits_Len64 (x) hx (m) hm) zs0 ?_
 refine xve 5 IntKind.i64 (IntKind.wrap IntKind.i64 (64 - (m : Int))) ((((64 - m) : Nat) : Int)) v ?_
 refine xz [] [(2, .int .i64 (((64 - m) : Nat) : Int))] ?_
 refine SW_ret ?_
 refine xe () (.int .i64 (((64 - m) : Nat) : Int)) [] ?_ trivial
 rfl
theorem top_bits {l : List Int} (dl : Dig B64 l) (nl : Norm l) (hl : 0 < l.length) {m : Nat} (hm : IsBits (rd l ((l.length - 1 : Nat) : Int)).toNat m) : IsBits (val B64 l) (64 * (l.length - 1) + m) := by
 have h1 := val_mid B64 (l := l) (p := l.length - 1) (by omega)
 rw [List.drop_eq_nil_of_le (by omega), val_nil, Nat.mul_zero, Nat.add_zero] at h1
 have h2 := val_lt (dl.take (l.length - 1))
 rw [List.length_take, Nat.min_eq_left (by omega)] at h2
 have hp : B64 ^ (l.length - 1) = 2 ^ (64 * (l.length - 1)) := by rw [show B64 = 2 ^ 64 from rfl, ← Nat.pow_mul]
 have hd : val B64 l / 2 ^ (64 * (l.length - 1)) = (rd l ((l.length - 1 : Nat) : Int)).toNat := by
  rw [h1, ← hp, Nat.add_mul_div_left _ _ (Nat.pow_pos B64_pos), Nat.div_eq_of_lt h2, Nat.zero_add]
 have h3 := norm_last nl hl
 have h4 := (dl.rd B64_pos ((l.length - 1 : Nat) : Int)).1
 rw [show ((l.length : Int) - 1) = ((l.length - 1 : Nat) : Int) by omega] at h3
 exact IsBits.up (by rw [hd]; exact hm) (by rw [hd]; omega)
theorem ct_impl_nat_bits_rows (l : List Int) (A : Option Addr) (c : Nat) (dl : Dig B64 l) (nl : Norm l) (hl : l.length ≤ 1000000000) (m : Nat) (hm : IsBits (val B64 l) m) : CtV Tryd.prog 128 [.slice A l.length c] [Row .u64 A c l] (.int .i64 (m : Int)) := by
 refine ct_of Tryd.func128 rfl (by kernel_rfl) (fun B w0 => ?_)
 by_cases h0 : l.length = 0
 ·have z : ((l.length : Int) == 0) = true := by rw [h0]; rfl
  have e0 : l = [] := List.eq_nil_of_length_eq_zero h0
  rw [e0, val_nil] at hm
  have := hm.uniq IsBits.zero
  subst this
  refine xr [] [(2, .int .i64 0)] ?_
  refine SW_seq ?_
  refine xr [] [(5, .bool ((((List.length l) : Nat) : Int) == 0))] ?_
  refine xst z ?_
  refine xr [] [(2, .int .i64 0)] ?_
  refine SW_ret ?_
  refine xe () (.int .i64 0) [] ?_ trivial
  rfl
 ·have z : ((l.length : Int) == 0) = false := by rw [beq_eq_false_iff_ne]; omega
  refine SW_know zi0 (fun w h => row_at h (by omega)) (fun ⟨ad, e⟩ => ?_)
  subst e
  have hx0 := dl.rd B64_pos ((l.length - 1 : Nat) : Int)
  obtain ⟨x, hx⟩ : ∃ x : Nat, rd l ((l.length - 1 : Nat) : Int) = (x : Int) := ⟨(rd l ((l.length - 1 : Nat) : Int)).toNat, by omega⟩
  have hxB : x < 18446744073709551616 := by unfold B64 at hx0; omega
  obtain ⟨k, hk, hk64⟩ := bits_of x hxB
  have hmk : m = 64 * (l.length - 1) + k := hm.uniq (top_bits dl nl (by omega) (by rw [hx, Int.toNat_natCast]; exact hk))
  have v1 : Ve (rd l ((l.length - 1 : Nat) : Int)) (x : Int) := ⟨hx⟩
  have v2 : Ve (IntKind.i64.wrap (64 * (l.length : Int))) ((64 * l.length : Nat) : Int) := ⟨by rw [wrap_i64 (by omega)]; omega⟩
  have v3 : Ve (IntKind.i64.wrap (((64 * l.length : Nat) : Int) - ((64 - k : Nat) : Int))) (m : Int) := ⟨by rw [wrap_i64 (by omega)]; omega⟩
  refine xr [] [(2, .int .i64 0)] ?_
  refine SW_seq ?_
  refine xr [] [(5, .bool ((((List.length l) : Nat) : Int) == 0))] ?_
  refine xsf z ?_
  refine SW_skip ?_
  refine xg ?_
  refine xn 2 [] [(7, .int .i64 (((List.length l) : Nat) : Int))] ?_
  refine xve 8 IntKind.i64 (IntKind.wrap IntKind.i64 (64 * (((List.length l) : Nat) : Int))) ((((64 * List.length l) : Nat) : Int)) v2 ?_
  refine xn 7 [] [(12, .int .i64 (IntKind.wrap IntKind.i64 ((((List.length l) : Nat) : Int) - 1))), (9, .slice (some ad) (List.length l) c)] ?_
  refine xfi 13 22 (ad) (List.length l) (c) ((List.length l) - 1) IntKind.i64 (IntKind.wrap IntKind.i64 ((((List.length l) : Nat) : Int) - 1)) (Nn.w (Nn.sub ⟨rfl⟩ ⟨rfl⟩ (by omega)) (by omega)) (by omega) ?_
  refine xfle 14 zi0 (List.length l - 1) ((x : Int)) v1 (by omega) ?_
  refine xcv 15 (ct_bits_LeadingZeros64 (x) hxB (k) hk) zs0 ?_
  refine xve 16 IntKind.i64 (IntKind.wrap IntKind.i64 ((((64 * List.length l) : Nat) : Int) - (((64 - k) : Nat) : Int))) ((m : Int)) v3 ?_
  refine xz [] [(2, .int .i64 (m : Int))] ?_
  refine SW_ret ?_
  refine xe () (.int .i64 (m : Int)) [] ?_ trivial
  rfl
end Go.Proofs.YtdbnmdchecacdaaDoor.M
end
section
namespace Go.Proofs.YtdbnmdchecacdaaDoor.M
open Go.RowKit Go.Proofs.YtdbnmdchecacdaaDoor.G Go.Proofs.YtdbnmdchecacdaaDoorV.PrintWords Go.Proofs.YtdbnmdchecacdaaDoorV.PrintLast Go.Proofs.YtdbnmdchecacdaaDoor.X
set_option linter.unusedVariables false
set_option linter.unusedSimpArgs false
theorem veU {z : Int} {n : Nat} (h : z = (n : Int)) (hn : n < 18446744073709551616) : Ve (IntKind.u64.wrap z) (n : Int) := ⟨by rw [h]; exact wrap_u64_id (by omega)⟩
theorem veI {z : Int} {n : Nat} (h : z = (n : Int)) (hn : n ≤ 9223372036854775807) : Ve (IntKind.i64.wrap z) (n : Int) := ⟨by rw [h]; exact wrap_i64 (by omega)⟩
theorem low_ve (x : Nat) (h : x < 18446744073709551616) : Ve (bits .and .u64 (x : Int) 4294967295) ((x % 4294967296 : Nat) : Int) := ⟨low32_nat x h⟩
theorem high_ve (x : Nat) : Ve (shf .u64 (x : Int) 32) ((x / 4294967296 : Nat) : Int) := ⟨shf_nat x 32 (by decide)⟩
theorem nat_rd {l : List Int} (d : Dig B64 l) (i : Nat) : ∃ x : Nat, rd l (i : Int) = (x : Int) ∧ x < 18446744073709551616 := ⟨(rd l i).toNat, by have := (d.rd B64_pos i).1; omega, by have := d.rd B64_pos i; unfold B64 at this; omega⟩
end Go.Proofs.YtdbnmdchecacdaaDoor.M
end
section
namespace Go.Proofs.YtdbnmdchecacdaaDoor.M
open Go.RowKit Go.Proofs.YtdbnmdchecacdaaDoor.G Go.Proofs.YtdbnmdchecacdaaDoorV.PrintWords Go.Proofs.YtdbnmdchecacdaaDoorV.PrintLast Go.Proofs.YtdbnmdchecacdaaDoor.X
set_option linter.unusedVariables false
set_option linter.unusedSimpArgs false
theorem ct_spec_l1Trim (l : List Int) (A : Option Addr) (c : Nat) (hl : l.length ≤ 1000000000000) : CtR Tryd.prog 123 [.slice A l.length c] [Row .u64 A c l] .u64 (trimL l) := by
 refine ct_of Tryd.func123 rfl (by kernel_rfl) (fun B w0 => ?_)
 refine SW_know zi0 (fun w h => h.2) (fun hc => ?_)
 refine xr [] [(2, .slice none 0 0)] ?_
 refine xr [] [(3, .int .i64 (((List.length l) : Nat) : Int))] ?_
 refine SW_cut (fun s' => ∃ m : Nat, m ≤ l.length ∧ trimL l = l.take m ∧ Weak s' ⟨[(0, .slice A l.length c), (3, .int .i64 (m : Int))], [], [Row .u64 A c l]⟩) ?_ ?_
 ·refine SW_block ?_
  refine SW_loopn (fun m s => m ≤ l.length ∧ (∀ i : Nat, m ≤ i → rd l i = 0) ∧ Weak s ⟨[(0, .slice A l.length c), (3, .int .i64 (m : Int))], [], [Row .u64 A c l]⟩) l.length ⟨Nat.le_refl _, fun i hi => rd_of_ge l i (by simpa using hi), ?_⟩ (fun m s hI => ?_)
  ·exact xw (zsS zi0 zs0)
  ·obtain ⟨h1, h2, hw⟩ := hI
   refine SW_weak hw ?_
   clear hw
   by_cases h0 : m = 0
   ·have z0 : decide ((m : Int) > 0) = false := decide_eq_false (by omega)
    have e := trimL_take _ rfl h1 h2 (fun z => absurd h0 (by omega))
    refine SW_seq ?_
    refine xg ?_
    refine xn 3 [] [(9, .bool (decide ((m : Int) > 0)))] ?_
    refine xkf 9 z0 ?_
    refine xz [] [(16, .bool false)] ?_
    refine xs0 ?_
    refine SW_exit ?_
    refine ⟨m, h1, e, ?_⟩
    exact xw (zsS zi0 zs0)
   ·have z0 : decide ((m : Int) > 0) = true := decide_eq_true (by omega)
    refine SW_know zi0 (fun w h => row_at h (by omega)) (fun ⟨ad, e⟩ => ?_)
    subst e
    have wi : Ve (IntKind.i64.wrap ((m : Int) - 1)) ((m - 1 : Nat) : Int) := veI (by omega) (by omega)
    by_cases hz : rd l ((m - 1 : Nat) : Int) = 0
    ·have z1 : (rd l ((m - 1 : Nat) : Int) == 0) = true := beq_iff_eq.2 hz
     refine SW_seq ?_
     refine xg ?_
     refine xn 3 [] [(9, .bool (decide ((m : Int) > 0)))] ?_
     refine xkt 9 z0 ?_
     refine xn 5 [] [(11, .int .i64 (m : Int)), (10, .slice (some ad) (List.length l) c)] ?_
     refine xve 12 IntKind.i64 (IntKind.wrap IntKind.i64 ((m : Int) - 1)) ((((m - 1) : Nat) : Int)) wi ?_
     refine xfi 13 22 (ad) (List.length l) (c) (m - 1) IntKind.i64 ((((m - 1) : Nat) : Int)) ⟨rfl⟩ (by omega) ?_
     refine xfl 14 zi0 (m - 1) (by omega) ?_
     refine xz [] [(16, .bool (rd l (((m - 1) : Nat) : Int) == 0))] ?_
     refine xst z1 ?_
     refine SW_skip ?_
     refine SW_block ?_
     refine SW_region ?_
     refine xn 1 [] [(17, .int .i64 (m : Int))] ?_
     refine xve 18 IntKind.i64 (IntKind.wrap IntKind.i64 ((m : Int) - 1)) ((((m - 1) : Nat) : Int)) wi ?_
     refine xz [] [(3, .int .i64 (((m - 1) : Nat) : Int))] ?_
     refine ⟨m - 1, by omega, by omega, fun i hi => ?_, ?_⟩
     ·rcases Nat.eq_or_lt_of_le hi with h | h
      ·rw [← h]; exact hz
      ·exact h2 i (by omega)
     ·exact xw (zsS zi0 zs0)
    ·have z1 : (rd l ((m - 1 : Nat) : Int) == 0) = false := by rw [beq_eq_false_iff_ne]; exact hz
     have e := trimL_take _ rfl h1 h2 (fun _ => hz)
     refine SW_seq ?_
     refine xg ?_
     refine xn 3 [] [(9, .bool (decide ((m : Int) > 0)))] ?_
     refine xkt 9 z0 ?_
     refine xn 5 [] [(11, .int .i64 (m : Int)), (10, .slice (some ad) (List.length l) c)] ?_
     refine xve 12 IntKind.i64 (IntKind.wrap IntKind.i64 ((m : Int) - 1)) ((((m - 1) : Nat) : Int)) wi ?_
     refine xfi 13 22 (ad) (List.length l) (c) (m - 1) IntKind.i64 ((((m - 1) : Nat) : Int)) ⟨rfl⟩ (by omega) ?_
     refine xfl 14 zi0 (m - 1) (by omega) ?_
     refine xz [] [(16, .bool (rd l (((m - 1) : Nat) : Int) == 0))] ?_
     refine xsf z1 ?_
     refine SW_exit ?_
     refine ⟨m, h1, e, ?_⟩
     exact xw (zsS zi0 zs0)
 ·rintro s' ⟨m, h1, e, hw⟩
  refine SW_weak hw ?_
  clear hw
  rw [e]
  obtain ⟨y, hy⟩ : ∃ y, l.take m = y := ⟨_, rfl⟩
  obtain rfl : m = y.length := by rw [← hy, List.length_take]; omega
  have hz : y ++ (List.replicate y.length 0).drop y.length = y := by simp
  refine SW_fact (G := Row .u64 A c y) zi0 (fun w h => by have := row_take y.length c (by omega) h; rwa [hy] at this) ?_
  rw [hy]
  clear e
  refine xg ?_
  refine xn 1 [] [(19, .int .i64 (((List.length y) : Nat) : Int))] ?_
  refine xma 20 22 (List.length y) IntKind.u64 8 ((((List.length y) : Nat) : Int)) ⟨rfl⟩ (by omega) (fun g0 => ?_)
  refine xz [] [(4, .slice (some ⟨g0, 0, none⟩) (List.length y) (List.length y))] ?_
  refine xg ?_
  refine xn 3 [] [(23, .int .i64 (((List.length y) : Nat) : Int)), (22, .slice A (List.length l) c), (21, .slice (some ⟨g0, 0, none⟩) (List.length y) (List.length y))] ?_
  refine xsh 24 22 (A) (List.length l) (c) (List.length y) IntKind.i64 ((((List.length y) : Nat) : Int)) ⟨rfl⟩ (by omega) ?_
  refine xcq 25 0 22 (g0) (List.length y) (List.length y) (c) (List.replicate (List.length y) 0) ([]) zi0 (by first | rfl | (simp <;> omega)) (by first | omega | (simp <;> omega)) hz ?_
  refine xz [] [] ?_
  refine xr [] [(2, .slice (some ⟨g0, 0, none⟩) (List.length y) (List.length y))] ?_
  refine SW_fz 0 (List.length y) (g0) IntKind.u64 (y) ([]) 22 (by first | omega | (simp <;> omega)) (by first | omega | (simp <;> omega)) ?_
  refine SW_ret ?_
  refine xe (some ⟨g0, 0, none⟩, List.length y) (.slice (some ⟨g0, 0, none⟩) (List.length y) (List.length y)) [] ?_ (zsS zi0 zs0)
  rfl
theorem nat_rd32 {l : List Int} (d : Dig B32 l) (i : Nat) : ∃ x : Nat, rd l (i : Int) = (x : Int) ∧ x < 4294967296 := ⟨(rd l i).toNat, by have := (d.rd B32_pos i).1; omega, by have := d.rd B32_pos i; unfold B32 at this; omega⟩
theorem ct_spec_l1At (l : List Int) (A : Option Addr) (c : Nat) (N : Int) (n : Nat) (hN : Nn N n) (x : Int) (hx : Ve (rd l (n : Int)) x) (hl : l.length ≤ 1000000000000) : CtV Tryd.prog 112 [.slice A l.length c, .int .i64 N] [Row .u64 A c l] (.int .u64 x) := by
 obtain ⟨rfl⟩ := hN
 obtain ⟨rfl⟩ := hx
 refine ct_of Tryd.func112 rfl (by kernel_rfl) (fun B w0 => ?_)
 by_cases h : n < l.length
 ·have z : decide ((n : Int) < (l.length : Int)) = true := decide_eq_true (by omega)
  refine SW_know zi0 (fun w h => row_at h (by omega)) (fun ⟨ad, e⟩ => ?_)
  subst e
  refine xr [] [(4, .int .u64 0)] ?_
  refine SW_seq ?_
  refine xr [] [(8, .bool (decide ((n : Int) < (((List.length l) : Nat) : Int))))] ?_
  refine xst z ?_
  refine xg ?_
  refine xn 2 [] [(10, .int .i64 (n : Int)), (9, .slice (some ad) (List.length l) c)] ?_
  refine xfi 11 22 (ad) (List.length l) (c) (n) IntKind.i64 ((n : Int)) ⟨rfl⟩ (by omega) ?_
  refine xfl 12 zi0 (n) (by omega) ?_
  refine xz [] [(4, .int .u64 (rd l (n : Int)))] ?_
  refine SW_ret ?_
  refine xe () (.int .u64 (rd l (n : Int))) [] ?_ trivial
  rfl
 ·have z : decide ((n : Int) < (l.length : Int)) = false := decide_eq_false (by omega)
  rw [rd_of_ge l n (by simpa using h)]
  refine xr [] [(4, .int .u64 0)] ?_
  refine SW_seq ?_
  refine xr [] [(8, .bool (decide ((n : Int) < (((List.length l) : Nat) : Int))))] ?_
  refine xsf z ?_
  refine SW_skip ?_
  refine xr [] [(4, .int .u64 0)] ?_
  refine SW_ret ?_
  refine xe () (.int .u64 0) [] ?_ trivial
  rfl
theorem add32_step {a b O : List Int} {i x y cy : Nat} (hx : rd a (i : Int) = (x : Int)) (hy : rd b (i : Int) = (y : Int)) (hl : O.length = i) (hv : val B32 O + B32 ^ i * cy = val B32 (a.take i) + val B32 (b.take i)) :
  val B32 (O ++ [(((x + y + cy) % 4294967296 : Nat) : Int)]) + B32 ^ (i + 1) * ((x + y + cy) / 4294967296) = val B32 (a.take (i + 1)) + val B32 (b.take (i + 1)) := by
 rw [val_snoc, val_take_succ, val_take_succ, hl, hx, hy, Nat.pow_succ, Nat.mul_assoc]
 simp only [Int.toNat_natCast]
 have h := congrArg (B32 ^ i * ·) (Nat.mod_add_div (x + y + cy) 4294967296)
 rw [show B32 * ((x + y + cy) / 4294967296) = 4294967296 * ((x + y + cy) / 4294967296) from rfl]
 generalize (x + y + cy) % 4294967296 = m at *
 generalize 4294967296 * ((x + y + cy) / 4294967296) = q at *
 generalize B32 ^ i = P at *
 simp only [Nat.mul_add] at h ⊢
 omega
theorem cast_dig32 {n : Nat} (h : n < 4294967296) : 0 ≤ (n : Int) ∧ (n : Int) < (B32 : Int) := by unfold B32; omega
theorem val_lt_len {B : Nat} (hB : 0 < B) {l : List Int} (h : Dig B l) {n : Nat} (hn : l.length ≤ n) : val B l < B ^ n := Nat.lt_of_lt_of_le (val_lt h) (Nat.pow_le_pow_right hB hn)
theorem ct_spec_l1Add_rows (a b : List Int) (A A' : Option Addr) (c c' : Nat) (da : Dig B32 a) (db : Dig B32 b) (hla : a.length ≤ 1000000000) (hlb : b.length ≤ 1000000000) : ∀ r, Dig B32 r → Norm r → val B32 r = val B32 a + val B32 b → CtR Tryd.prog 63 [.slice A a.length c, .slice A' b.length c'] [Row .u64 A c a, Row .u64 A' c' b] .u64 r := by
 intro r dr nr vr
 refine ct_of Tryd.func63 rfl (by kernel_rfl) (fun B w0 => ?_)
 obtain ⟨n, hn, hn1, hn2, hn3⟩ : ∃ n, n = max a.length b.length ∧ a.length ≤ n ∧ b.length ≤ n ∧ n ≤ 1000000000 := ⟨_, rfl, by omega, by omega, by omega⟩
 refine xr [] [(4, .slice none 0 0)] ?_
 refine xr [] [(5, .int .i64 (((List.length a) : Nat) : Int))] ?_
 refine SW_cut (fun s' => Weak s' ⟨[(0, .slice A a.length c), (1, .slice A' b.length c'), (5, .int .i64 (n : Int))], [], [Row .u64 A c a, Row .u64 A' c' b]⟩) ?_ ?_
 ·by_cases h : b.length > a.length
  ·have z : decide ((b.length : Int) > (a.length : Int)) = true := decide_eq_true (by omega)
   obtain rfl : n = b.length := by omega
   refine xr [] [(15, .bool (decide ((((List.length b) : Nat) : Int) > (((List.length a) : Nat) : Int))))] ?_
   refine xst z ?_
   refine xrl [] [(5, .int .i64 (((List.length b) : Nat) : Int))] ?_
   exact xw (zsS zi0 (zsS (ziS zi0) zs0))
  ·have z : decide ((b.length : Int) > (a.length : Int)) = false := decide_eq_false (by omega)
   obtain rfl : n = a.length := by omega
   refine xr [] [(15, .bool (decide ((((List.length b) : Nat) : Int) > (((List.length a) : Nat) : Int))))] ?_
   refine xsf z ?_
   refine SW_skip ?_
   exact xw (zsS zi0 (zsS (ziS zi0) zs0))
 ·rintro s' hw
  refine SW_weak hw ?_
  clear hw
  refine xr [] [(6, .slice none 0 0)] ?_
  refine xr [] [(7, .int .u64 0)] ?_
  refine SW_seq ?_
  refine xr [] [(8, .int .i64 0)] ?_
  refine SW_then (fun s' => ∃ (sl : Value) (bs : List Box) (O : List Int), Own 22 .u64 sl bs O ∧ Dig B32 O ∧ O.length = n + 1 ∧ val B32 O = val B32 a + val B32 b ∧ Weak s' ⟨[(6, sl)], bs, []⟩) ?_ ?_
  ·refine SW_block ?_
   refine SW_loopn (fun m s' => ∃ (sl : Value) (bs : List Box) (O : List Int) (i cy : Nat), m + i = n + 1 ∧ Own 22 .u64 sl bs O ∧ Dig B32 O ∧ O.length = i ∧ cy ≤ 1 ∧ val B32 O + B32 ^ i * cy = val B32 (a.take i) + val B32 (b.take i) ∧ Weak s' ⟨[(0, .slice A a.length c), (1, .slice A' b.length c'), (5, .int .i64 (n : Int)), (6, sl), (7, .int .u64 (cy : Int)), (8, .int .i64 (i : Int))], bs, [Row .u64 A c a, Row .u64 A' c' b]⟩) (n + 1) ⟨_, _, [], 0, 0, rfl, Own.nil 22 .u64, Dig.nil _, rfl, by decide, rfl, ?_⟩ (fun m s' hI => ?_)
   ·exact xw (zsS zi0 (zsS (ziS zi0) zs0))
   ·obtain ⟨sl0, bs0, O, i, cy, k1, hO0, k3, k4, k5, k6, hw⟩ := hI
    refine SW_weak hw ?_
    clear hw
    by_cases hi : i ≤ n
    ·have z : decide ((i : Int) ≤ (n : Int)) = true := decide_eq_true (by omega)
     obtain ⟨m, rfl⟩ : ∃ m', m = m' + 1 := ⟨m - 1, by omega⟩
     obtain ⟨x, hx, hxB⟩ := nat_rd32 da i
     obtain ⟨y, hy, hyB⟩ := nat_rd32 db i
     have v1 : Ve (rd a (i : Int)) (x : Int) := ⟨hx⟩
     have v2 : Ve (rd b (i : Int)) (y : Int) := ⟨hy⟩
     have v3 : Ve (IntKind.u64.wrap ((x : Int) + (y : Int))) ((x + y : Nat) : Int) := veU (by omega) (by omega)
     have v4 : Ve (IntKind.u64.wrap (((x + y : Nat) : Int) + (cy : Int))) ((x + y + cy : Nat) : Int) := veU (by omega) (by omega)
     have v5 := low_ve (x + y + cy) (by omega)
     have v6 := high_ve (x + y + cy)
     have v7 : Ve (IntKind.i64.wrap ((i : Int) + 1)) ((i + 1 : Nat) : Int) := veI (by omega) (by omega)
     have hst := add32_step hx hy k4 k6
     refine SW_seq ?_
     refine xr [] [(20, .bool (decide ((i : Int) ≤ (n : Int))))] ?_
     refine xst z ?_
     refine SW_skip ?_
     refine SW_seq ?_
     refine SW_block ?_
     refine xg ?_
     refine xn 2 [] [(24, .int .i64 (i : Int)), (23, .slice A (List.length a) c)] ?_
     refine xcv 25 (ct_spec_l1At (a) (A) (c) ((i : Int)) (i) ⟨rfl⟩ ((x : Int)) v1 (by omega)) (zsS zi0 zs0) ?_
     refine xn 5 [] [(27, .int .i64 (i : Int)), (26, .slice A' (List.length b) c')] ?_
     refine xcv 28 (ct_spec_l1At (b) (A') (c') ((i : Int)) (i) ⟨rfl⟩ ((y : Int)) v2 (by omega)) (zsS (ziS zi0) zs0) ?_
     refine xve 29 IntKind.u64 (IntKind.wrap IntKind.u64 ((x : Int) + (y : Int))) ((((x + y) : Nat) : Int)) v3 ?_
     refine xn 8 [] [(30, .int .u64 (cy : Int))] ?_
     refine xve 31 IntKind.u64 (IntKind.wrap IntKind.u64 ((((x + y) : Nat) : Int) + (cy : Int))) ((((x + y + cy) : Nat) : Int)) v4 ?_
     refine xz [] [(9, .int .u64 (((x + y + cy) : Nat) : Int))] ?_
     refine xg ?_
     refine xn 2 [] [(33, .int .u64 (((x + y + cy) : Nat) : Int)), (32, sl0)] ?_
     refine xve 34 IntKind.u64 (bits BinOp.and IntKind.u64 (((x + y + cy) : Nat) : Int) 4294967295) (((((x + y + cy) % 4294967296) : Nat) : Int)) v5 ?_
     refine xbl 35 [.int .u64 ((((x + y + cy) % 4294967296) : Nat) : Int)] 22 1 (fun g0 => ?_)
     refine xow 36 8 (g0) (1) [((((x + y + cy) % 4294967296) : Nat) : Int)] hO0 (by first | omega | (simp <;> omega)) (fun sl1 bs1 hO1 => ?_)
     refine xz [] [(6, sl1)] ?_
     refine SW_region ?_
     refine xn 1 [] [(37, .int .u64 (((x + y + cy) : Nat) : Int))] ?_
     refine xve 38 IntKind.u64 (shf IntKind.u64 (((x + y + cy) : Nat) : Int) 32) (((((x + y + cy) / 4294967296) : Nat) : Int)) v6 ?_
     refine xz [] [(7, .int .u64 ((((x + y + cy) / 4294967296) : Nat) : Int))] ?_
     refine SW_region ?_
     refine xn 1 [] [(21, .int .i64 (i : Int))] ?_
     refine xve 22 IntKind.i64 (IntKind.wrap IntKind.i64 ((i : Int) + 1)) ((((i + 1) : Nat) : Int)) v7 ?_
     refine xz [] [(8, .int .i64 (((i + 1) : Nat) : Int))] ?_
     refine ⟨m, by omega, sl1, bs1, _, i + 1, (x + y + cy) / 4294967296, by omega, hO1, k3.snoc (cast_dig32 (Nat.mod_lt _ (by decide))), by rw [List.length_append, k4]; rfl, by omega, hst, ?_⟩
     exact xw (zsS zi0 (zsS (ziS zi0) zs0))
    ·have z : decide ((i : Int) ≤ (n : Int)) = false := decide_eq_false (by omega)
     obtain rfl : i = n + 1 := by omega
     rw [List.take_of_length_le (by omega), List.take_of_length_le (by omega)] at k6
     have hcy : cy = 0 := by
      have h1 := val_lt_len B32_pos da hn1
      have h2 := val_lt_len B32_pos db hn2
      rcases Nat.lt_or_ge cy 1 with h | h
      ·omega
      ·obtain rfl : cy = 1 := by omega
       rw [Nat.pow_succ, Nat.mul_one] at k6
       have h3 : B32 ^ n * 2 ≤ B32 ^ n * B32 := Nat.mul_le_mul_left _ (by unfold B32; decide)
       omega
     rw [hcy, Nat.mul_zero, Nat.add_zero] at k6
     refine SW_seq ?_
     refine xr [] [(20, .bool (decide ((((n + 1) : Nat) : Int) ≤ (n : Int))))] ?_
     refine xsf z ?_
     refine SW_exit ?_
     refine ⟨sl0, bs0, O, hO0, k3, k4, k6, ?_⟩
     exact xw zs0
  ·rintro s' ⟨sl, bs, O, hO, dO, lO, vO, hw⟩
   refine SW_weak hw ?_
   clear hw
   refine SW_own hO (by omega) (fun Ao co e => ?_)
   subst e
   have er : trimL O = r := norm_inj B32_pos dO.trim dr (norm_trim _) nr (by rw [val_trim, vO, vr])
   have ct := ct_spec_l1Trim O Ao co (by omega)
   rw [er] at ct
   refine xg ?_
   refine xn 1 [] [(39, .slice Ao (List.length O) co)] ?_
   refine xcr 40 ct (zsS zi0 zs0) (fun A0 k0 => ?_)
   refine xz [] [(4, .slice A0 (List.length r) k0)] ?_
   refine SW_ret ?_
   refine xe (A0, k0) (.slice A0 (List.length r) k0) [] ?_ (zsS zi0 zs0)
   rfl
end Go.Proofs.YtdbnmdchecacdaaDoor.M
end
section
namespace Go.Proofs.YtdbnmdchecacdaaDoor.M
open Go.RowKit Go.Proofs.YtdbnmdchecacdaaDoor.G Go.Proofs.YtdbnmdchecacdaaDoorV.PrintWords Go.Proofs.YtdbnmdchecacdaaDoorV.PrintLast Go.Proofs.YtdbnmdchecacdaaDoor.X
set_option linter.unusedVariables false
set_option linter.unusedSimpArgs false
theorem rd_cons0 (x : Int) (l : List Int) : rd (x :: l) ((0 : Nat) : Int) = x := rfl
theorem rd_consS (x : Int) (l : List Int) (i : Nat) : rd (x :: l) ((i + 1 : Nat) : Int) = rd l (i : Int) := by rw [rd_nat, rd_nat]; simp [List.getD_eq_getElem?_getD]
theorem val_rd0 {B : Nat} : ∀ {b : List Int}, (∀ i : Nat, rd b (i : Int) = 0) → val B b = 0
 | [], _ => rfl
 | x :: l, h => by
  rw [val_cons, val_rd0 (fun i => by rw [← rd_consS x l i]; exact h (i + 1)), ← rd_cons0 x l, h 0]
  rfl
theorem val_congr {B : Nat} : ∀ {a b : List Int}, (∀ i : Nat, rd a (i : Int) = rd b (i : Int)) → val B a = val B b
 | [], b, h => (val_rd0 (fun i => by rw [← h i]; exact rd_of_ge [] i (Nat.zero_le _))).symm
 | x :: l, [], h => val_rd0 (fun i => by rw [h i]; exact rd_of_ge [] i (Nat.zero_le _))
 | x :: l, y :: m, h => by
  have h0 := h 0
  rw [rd_cons0, rd_cons0] at h0
  rw [val_cons, val_cons, h0, val_congr (a := l) (b := m) (fun i => by have := h (i + 1); rwa [rd_consS, rd_consS] at this)]
theorem rd_drop (l : List Int) (k i : Nat) : rd (l.drop k) (i : Int) = rd l ((k + i : Nat) : Int) := by rw [rd_nat, rd_nat]; simp [List.getD_eq_getElem?_getD, List.getElem?_drop]
theorem val_cut (B : Nat) (l : List Int) (k : Nat) : val B l = val B (l.take k) + B ^ k * val B (l.drop k) := by
 rcases Nat.le_total k l.length with h | h
 ·exact val_split B l k h
 ·rw [List.take_of_length_le h, List.drop_eq_nil_of_le h]
  simp [val]
theorem val_less {B : Nat} (hB : 0 < B) {a b : List Int} (da : Dig B a) (db : Dig B b) {k : Nat} (hd : ∀ i : Nat, k < i → rd a (i : Int) = rd b (i : Int)) (hr : rd a (k : Int) < rd b (k : Int)) : val B a < val B b := by
 have e : val B (a.drop (k + 1)) = val B (b.drop (k + 1)) := val_congr (fun i => by rw [rd_drop, rd_drop]; exact hd _ (by omega))
 rw [val_cut B a (k + 1), val_cut B b (k + 1), e, val_take_succ, val_take_succ]
 have h1 : val B (a.take k) < B ^ k := val_lt_len hB (da.take k) (by rw [List.length_take]; omega)
 have h2 : (rd a (k : Int)).toNat + 1 ≤ (rd b (k : Int)).toNat := by have := (da.rd hB k).1; omega
 have h3 := Nat.mul_le_mul_left (B ^ k) h2
 rw [Nat.mul_add, Nat.mul_one] at h3
 omega
theorem ct_spec_l1Cmp_rows (a b : List Int) (A A' : Option Addr) (c c' : Nat) (da : Dig B32 a) (db : Dig B32 b) (hla : a.length ≤ 1000000000) (hlb : b.length ≤ 1000000000) : CtV Tryd.prog 74 [.slice A a.length c, .slice A' b.length c'] [Row .u64 A c a, Row .u64 A' c' b] (.int .i64 (cmpN (val B32 a) (val B32 b))) := by
 refine ct_of Tryd.func74 rfl (by kernel_rfl) (fun B w0 => ?_)
 obtain ⟨n, hn, hn1, hn2, hn3⟩ : ∃ n, n = max a.length b.length ∧ a.length ≤ n ∧ b.length ≤ n ∧ n ≤ 1000000000 := ⟨_, rfl, by omega, by omega, by omega⟩
 refine xr [] [(4, .int .i64 0)] ?_
 refine xr [] [(5, .int .i64 (((List.length a) : Nat) : Int))] ?_
 refine SW_cut (fun s' => Weak s' ⟨[(0, .slice A a.length c), (1, .slice A' b.length c'), (5, .int .i64 (n : Int))], [], [Row .u64 A c a, Row .u64 A' c' b]⟩) ?_ ?_
 ·by_cases h : b.length > a.length
  ·have z : decide ((b.length : Int) > (a.length : Int)) = true := decide_eq_true (by omega)
   obtain rfl : n = b.length := by omega
   refine xr [] [(12, .bool (decide ((((List.length b) : Nat) : Int) > (((List.length a) : Nat) : Int))))] ?_
   refine xst z ?_
   refine xrl [] [(5, .int .i64 (((List.length b) : Nat) : Int))] ?_
   exact xw (zsS zi0 (zsS (ziS zi0) zs0))
  ·have z : decide ((b.length : Int) > (a.length : Int)) = false := decide_eq_false (by omega)
   obtain rfl : n = a.length := by omega
   refine xr [] [(12, .bool (decide ((((List.length b) : Nat) : Int) > (((List.length a) : Nat) : Int))))] ?_
   refine xsf z ?_
   refine SW_skip ?_
   exact xw (zsS zi0 (zsS (ziS zi0) zs0))
 ·rintro s' hw
  refine SW_weak hw ?_
  clear hw
  have v0 : Ve (IntKind.i64.wrap ((n : Int) - 1)) ((n : Int) - 1) := ⟨wrap_i64 (by omega)⟩
  refine SW_seq ?_
  refine xg ?_
  refine xn 1 [] [(15, .int .i64 (n : Int))] ?_
  refine xve 16 IntKind.i64 (IntKind.wrap IntKind.i64 ((n : Int) - 1)) ((n : Int) - 1) v0 ?_
  refine xz [] [(6, .int .i64 ((n : Int) - 1))] ?_
  refine SW_then (fun s' => val B32 a = val B32 b ∧ Weak s' ⟨[], [], []⟩) ?_ ?_
  ·refine SW_block ?_
   refine SW_loopn (fun m s' => (∀ i : Nat, m ≤ i → rd a (i : Int) = rd b (i : Int)) ∧ m ≤ n ∧ Weak s' ⟨[(0, .slice A a.length c), (1, .slice A' b.length c'), (6, .int .i64 ((m : Int) - 1))], [], [Row .u64 A c a, Row .u64 A' c' b]⟩) n ⟨fun i hi => by rw [rd_of_ge a i (by simp; omega), rd_of_ge b i (by simp; omega)], Nat.le_refl _, ?_⟩ (fun m s' hI => ?_)
   ·exact xw (zsS zi0 (zsS (ziS zi0) zs0))
   ·obtain ⟨h1, h2, hw⟩ := hI
    refine SW_weak hw ?_
    clear hw
    match m, h1, h2 with
    | 0, h1, h2 =>
     have z : decide (((0 : Nat) : Int) - 1 ≥ 0) = false := rfl
     have e := val_congr (B := B32) (a := a) (b := b) (fun i => h1 i (Nat.zero_le _))
     refine SW_seq ?_
     refine xr [] [(18, .bool false)] ?_
     refine xs0 ?_
     refine SW_exit ?_
     refine ⟨e, ?_⟩
     exact xw zs0
    | m + 1, h1, h2 =>
     rw [show ((m + 1 : Nat) : Int) - 1 = (m : Int) by omega]
     have z : decide ((m : Int) ≥ 0) = true := decide_eq_true (by omega)
     obtain ⟨x, hx, hxB⟩ := nat_rd32 da m
     obtain ⟨y, hy, hyB⟩ := nat_rd32 db m
     have v1 : Ve (rd a (m : Int)) (x : Int) := ⟨hx⟩
     have v2 : Ve (rd b (m : Int)) (y : Int) := ⟨hy⟩
     have v3 : Ve (IntKind.i64.wrap ((m : Int) - 1)) ((m : Int) - 1) := ⟨wrap_i64 (by omega)⟩
     by_cases hlt : x < y
     ·have z1 : decide ((x : Int) < (y : Int)) = true := decide_eq_true (by omega)
      have hv := val_less B32_pos da db (k := m) (fun i hi => h1 i hi) (by rw [hx, hy]; omega)
      rw [cmpN, if_pos hv]
      refine SW_seq ?_
      refine xr [] [(18, .bool (decide ((m : Int) ≥ 0)))] ?_
      refine xst z ?_
      refine SW_skip ?_
      refine SW_seq ?_
      refine SW_block ?_
      refine SW_seq ?_
      refine xg ?_
      refine xn 2 [] [(22, .int .i64 (m : Int)), (21, .slice A (List.length a) c)] ?_
      refine xcv 23 (ct_spec_l1At (a) (A) (c) ((m : Int)) (m) ⟨rfl⟩ ((x : Int)) v1 (by omega)) (zsS zi0 zs0) ?_
      refine xn 5 [] [(25, .int .i64 (m : Int)), (24, .slice A' (List.length b) c')] ?_
      refine xcv 26 (ct_spec_l1At (b) (A') (c') ((m : Int)) (m) ⟨rfl⟩ ((y : Int)) v2 (by omega)) (zsS (ziS zi0) zs0) ?_
      refine xz [] [(27, .bool (decide ((x : Int) < (y : Int))))] ?_
      refine xst z1 ?_
      refine xr [] [(4, .int .i64 (-1))] ?_
      refine SW_ret ?_
      refine xe () (.int .i64 (-1)) [] ?_ trivial
      rfl
     ·have z1 : decide ((x : Int) < (y : Int)) = false := decide_eq_false (by omega)
      by_cases hgt : y < x
      ·have z2 : decide ((x : Int) > (y : Int)) = true := decide_eq_true (by omega)
       have hv := val_less B32_pos db da (k := m) (fun i hi => (h1 i hi).symm) (by rw [hx, hy]; omega)
       rw [cmpN, if_neg (by omega), if_pos hv]
       refine SW_seq ?_
       refine xr [] [(18, .bool (decide ((m : Int) ≥ 0)))] ?_
       refine xst z ?_
       refine SW_skip ?_
       refine SW_seq ?_
       refine SW_block ?_
       refine SW_seq ?_
       refine xg ?_
       refine xn 2 [] [(22, .int .i64 (m : Int)), (21, .slice A (List.length a) c)] ?_
       refine xcv 23 (ct_spec_l1At (a) (A) (c) ((m : Int)) (m) ⟨rfl⟩ ((x : Int)) v1 (by omega)) (zsS zi0 zs0) ?_
       refine xn 5 [] [(25, .int .i64 (m : Int)), (24, .slice A' (List.length b) c')] ?_
       refine xcv 26 (ct_spec_l1At (b) (A') (c') ((m : Int)) (m) ⟨rfl⟩ ((y : Int)) v2 (by omega)) (zsS (ziS zi0) zs0) ?_
       refine xz [] [(27, .bool (decide ((x : Int) < (y : Int))))] ?_
       refine xsf z1 ?_
       refine SW_skip ?_
       refine xg ?_
       refine xn 2 [] [(29, .int .i64 (m : Int)), (28, .slice A (List.length a) c)] ?_
       refine xcv 30 (ct_spec_l1At (a) (A) (c) ((m : Int)) (m) ⟨rfl⟩ ((x : Int)) v1 (by omega)) (zsS zi0 zs0) ?_
       refine xn 5 [] [(32, .int .i64 (m : Int)), (31, .slice A' (List.length b) c')] ?_
       refine xcv 33 (ct_spec_l1At (b) (A') (c') ((m : Int)) (m) ⟨rfl⟩ ((y : Int)) v2 (by omega)) (zsS (ziS zi0) zs0) ?_
       refine xz [] [(34, .bool (decide ((x : Int) > (y : Int))))] ?_
       refine xst z2 ?_
       refine xr [] [(4, .int .i64 1)] ?_
       refine SW_ret ?_
       refine xe () (.int .i64 1) [] ?_ trivial
       rfl
      ·have z2 : decide ((x : Int) > (y : Int)) = false := decide_eq_false (by omega)
       refine SW_seq ?_
       refine xr [] [(18, .bool (decide ((m : Int) ≥ 0)))] ?_
       refine xst z ?_
       refine SW_skip ?_
       refine SW_seq ?_
       refine SW_block ?_
       refine SW_seq ?_
       refine xg ?_
       refine xn 2 [] [(22, .int .i64 (m : Int)), (21, .slice A (List.length a) c)] ?_
       refine xcv 23 (ct_spec_l1At (a) (A) (c) ((m : Int)) (m) ⟨rfl⟩ ((x : Int)) v1 (by omega)) (zsS zi0 zs0) ?_
       refine xn 5 [] [(25, .int .i64 (m : Int)), (24, .slice A' (List.length b) c')] ?_
       refine xcv 26 (ct_spec_l1At (b) (A') (c') ((m : Int)) (m) ⟨rfl⟩ ((y : Int)) v2 (by omega)) (zsS (ziS zi0) zs0) ?_
       refine xz [] [(27, .bool (decide ((x : Int) < (y : Int))))] ?_
       refine xsf z1 ?_
       refine SW_skip ?_
       refine xg ?_
       refine xn 2 [] [(29, .int .i64 (m : Int)), (28, .slice A (List.length a) c)] ?_
       refine xcv 30 (ct_spec_l1At (a) (A) (c) ((m : Int)) (m) ⟨rfl⟩ ((x : Int)) v1 (by omega)) (zsS zi0 zs0) ?_
       refine xn 5 [] [(32, .int .i64 (m : Int)), (31, .slice A' (List.length b) c')] ?_
       refine xcv 33 (ct_spec_l1At (b) (A') (c') ((m : Int)) (m) ⟨rfl⟩ ((y : Int)) v2 (by omega)) (zsS (ziS zi0) zs0) ?_
       refine xz [] [(34, .bool (decide ((x : Int) > (y : Int))))] ?_
       refine xsf z2 ?_
       refine SW_skip ?_
       refine SW_region ?_
       refine xn 1 [] [(19, .int .i64 (m : Int))] ?_
       refine xve 20 IntKind.i64 (IntKind.wrap IntKind.i64 ((m : Int) - 1)) ((m : Int) - 1) v3 ?_
       refine xz [] [(6, .int .i64 ((m : Int) - 1))] ?_
       refine ⟨m, by omega, fun i hi => ?_, by omega, ?_⟩
       ·rcases Nat.eq_or_lt_of_le hi with h | h
        ·rw [← h, hx, hy]; omega
        ·exact h1 i h
       ·exact xw (zsS zi0 (zsS (ziS zi0) zs0))
  ·rintro s' ⟨e, hw⟩
   refine SW_weak hw ?_
   rw [e, cmpN, if_neg (by omega), if_neg (by omega)]
   refine xr [] [(4, .int .i64 0)] ?_
   refine SW_ret ?_
   refine xe () (.int .i64 0) [] ?_ trivial
   rfl
theorem ct_spec_l1Of_rows (X : Int) (x : Nat) (hX : Nn X x) (hx : x < 18446744073709551616) : ∀ r, Dig B32 r → Norm r → val B32 r = x → CtR Tryd.prog 90 [.int .u64 X] [] .u64 r := by
 intro r dr nr vr
 obtain ⟨rfl⟩ := hX
 refine ct_of Tryd.func90 rfl (by kernel_rfl) (fun B w0 => ?_)
 have v5 := low_ve x hx
 have v6 := high_ve x
 have e : trimL [((x % 4294967296 : Nat) : Int), ((x / 4294967296 : Nat) : Int)] = r := norm_inj B32_pos (Dig.trim (Dig.cons (cast_dig32 (Nat.mod_lt _ (by decide))) (Dig.cons (cast_dig32 (by omega)) (Dig.nil _)))) dr (norm_trim _) nr (by
  rw [val_trim, vr]
  simp only [val_cons, Int.toNat_natCast]
  unfold B32
  simp only [val]
  omega)
 refine xr [] [(2, .slice none 0 0)] ?_
 refine xg ?_
 refine xn 1 [] [(3, .int .u64 (x : Int))] ?_
 refine xve 4 IntKind.u64 (bits BinOp.and IntKind.u64 (x : Int) 4294967295) ((((x % 4294967296) : Nat) : Int)) v5 ?_
 refine xn 3 [] [(5, .int .u64 (x : Int))] ?_
 refine xve 6 IntKind.u64 (shf IntKind.u64 (x : Int) 32) ((((x / 4294967296) : Nat) : Int)) v6 ?_
 refine xbl 7 [.int .u64 (((x % 4294967296) : Nat) : Int), .int .u64 (((x / 4294967296) : Nat) : Int)] 22 2 (fun g0 => ?_)
 refine NW_fz 0 2 g0 .u64 [((x % 4294967296 : Nat) : Int), ((x / 4294967296 : Nat) : Int)] [] 22 (by simp) (by simp) ?_
 have ct : CtR Tryd.prog 123 [.slice (some ⟨g0, 0, none⟩) 2 2] [Row .u64 (some ⟨g0, 0, none⟩) 2 [((x % 4294967296 : Nat) : Int), ((x / 4294967296 : Nat) : Int)]] .u64 r := by
  rw [← e]
  exact ct_spec_l1Trim _ _ 2 (by simp)
 refine xcr 8 ct (zsS zi0 zs0) (fun A0 k0 => ?_)
 refine xz [] [(2, .slice A0 (List.length r) k0)] ?_
 refine SW_ret ?_
 refine xe (A0, k0) (.slice A0 (List.length r) k0) [] ?_ (zsS zi0 zs0)
 rfl
theorem in_step {l O : List Int} {i x : Nat} (hx : rd l (i : Int) = (x : Int)) (hl : O.length = 2 * i) (hv : val B32 O = val B64 (l.take i)) : val B32 (O ++ [((x % 4294967296 : Nat) : Int), ((x / 4294967296 : Nat) : Int)]) = val B64 (l.take (i + 1)) := by
 rw [val_append, val_take_succ, hx, hv, hl, Nat.pow_mul, show B32 ^ 2 = B64 from rfl]
 congr 2
 simp only [val_cons, Int.toNat_natCast]
 unfold B32
 simp only [val]
 omega
theorem ct_spec_l1In_rows (l : List Int) (A : Option Addr) (c : Nat) (dl : Dig B64 l) (hl : l.length ≤ 1000000000) : ∀ r, Dig B32 r → Norm r → val B32 r = val B64 l → CtR Tryd.prog 98 [.slice A l.length c] [Row .u64 A c l] .u64 r := by
 intro r dr nr vr
 refine ct_of Tryd.func98 rfl (by kernel_rfl) (fun B w0 => ?_)
 refine xr [] [(2, .slice none 0 0)] ?_
 refine xr [] [(3, .slice none 0 0)] ?_
 refine SW_seq ?_
 refine xr [] [(8, .int .i64 0), (7, .int .i64 (((List.length l) : Nat) : Int)), (6, .slice A (List.length l) c)] ?_
 refine SW_then (fun s' => ∃ (sl : Value) (bs : List Box) (O : List Int), Own 22 .u64 sl bs O ∧ Dig B32 O ∧ O.length = 2 * l.length ∧ val B32 O = val B64 l ∧ Weak s' ⟨[(3, sl)], bs, []⟩) ?_ ?_
 ·refine SW_block ?_
  refine SW_loopn (fun m s' => ∃ (sl : Value) (bs : List Box) (O : List Int) (i : Nat), m + i = l.length ∧ Own 22 .u64 sl bs O ∧ Dig B32 O ∧ O.length = 2 * i ∧ val B32 O = val B64 (l.take i) ∧ Weak s' ⟨[(3, sl), (6, .slice A l.length c), (7, .int .i64 (l.length : Int)), (8, .int .i64 (i : Int))], bs, [Row .u64 A c l]⟩) l.length ⟨_, _, [], 0, rfl, Own.nil 22 .u64, Dig.nil _, rfl, rfl, ?_⟩ (fun m s' hI => ?_)
  ·exact xw (zsS zi0 zs0)
  ·obtain ⟨sl0, bs0, O, i, k1, hO0, k3, k4, k6, hw⟩ := hI
   refine SW_weak hw ?_
   clear hw
   by_cases hi : i < l.length
   ·have z : decide ((i : Int) < (l.length : Int)) = true := decide_eq_true (by omega)
    obtain ⟨m, rfl⟩ : ∃ m', m = m' + 1 := ⟨m - 1, by omega⟩
    refine SW_know zi0 (fun w h => row_at h (by omega)) (fun ⟨ad, e⟩ => ?_)
    subst e
    obtain ⟨x, hx, hxB⟩ := nat_rd dl i
    have v1 : Ve (rd l (i : Int)) (x : Int) := ⟨hx⟩
    have v5 := low_ve x hxB
    have v6 := high_ve x
    have v7 : Ve (IntKind.i64.wrap ((i : Int) + 1)) ((i + 1 : Nat) : Int) := veI (by omega) (by omega)
    have hst := in_step hx k4 k6
    refine xr [] [(9, .bool (decide ((i : Int) < (((List.length l) : Nat) : Int))))] ?_
    refine SW_seq ?_
    refine xst z ?_
    refine SW_skip ?_
    refine SW_seq ?_
    refine SW_block ?_
    refine xg ?_
    refine xfi 10 22 (ad) (List.length l) (c) (i) IntKind.i64 ((i : Int)) ⟨rfl⟩ (by omega) ?_
    refine xfle 11 zi0 (i) ((x : Int)) v1 (by omega) ?_
    refine xz [] [(5, .int .u64 (x : Int))] ?_
    refine SW_region ?_
    refine xn 2 [] [(13, .int .u64 (x : Int)), (12, sl0)] ?_
    refine xve 14 IntKind.u64 (bits BinOp.and IntKind.u64 (x : Int) 4294967295) ((((x % 4294967296) : Nat) : Int)) v5 ?_
    refine xn 4 [] [(15, .int .u64 (x : Int))] ?_
    refine xve 16 IntKind.u64 (shf IntKind.u64 (x : Int) 32) ((((x / 4294967296) : Nat) : Int)) v6 ?_
    refine xbl 17 [.int .u64 (((x % 4294967296) : Nat) : Int), .int .u64 (((x / 4294967296) : Nat) : Int)] 22 2 (fun g0 => ?_)
    refine xow 18 8 (g0) (2) [(((x % 4294967296) : Nat) : Int), (((x / 4294967296) : Nat) : Int)] hO0 (by first | omega | (simp <;> omega)) (fun sl1 bs1 hO1 => ?_)
    refine xz [] [(3, sl1)] ?_
    refine SW_region ?_
    refine xve 19 IntKind.i64 (IntKind.wrap IntKind.i64 ((i : Int) + 1)) ((((i + 1) : Nat) : Int)) v7 ?_
    refine xz [] [(8, .int .i64 (((i + 1) : Nat) : Int))] ?_
    refine ⟨m, by omega, sl1, bs1, _, i + 1, by omega, hO1, k3.append (Dig.cons (cast_dig32 (Nat.mod_lt _ (by decide))) (Dig.cons (cast_dig32 (by omega)) (Dig.nil _))), by rw [List.length_append, k4]; simp; omega, hst, ?_⟩
    exact xw (zsS zi0 zs0)
   ·have z : decide ((i : Int) < (l.length : Int)) = false := decide_eq_false (by omega)
    obtain rfl : i = l.length := by omega
    rw [List.take_length] at k6
    refine xr [] [(9, .bool (decide ((((List.length l) : Nat) : Int) < (((List.length l) : Nat) : Int))))] ?_
    refine SW_seq ?_
    refine xsf z ?_
    refine SW_exit ?_
    refine ⟨sl0, bs0, O, hO0, k3, k4, k6, ?_⟩
    exact xw zs0
 ·rintro s' ⟨sl, bs, O, hO, dO, lO, vO, hw⟩
  refine SW_weak hw ?_
  clear hw
  refine SW_own hO (by omega) (fun Ao co e => ?_)
  subst e
  have er : trimL O = r := norm_inj B32_pos dO.trim dr (norm_trim _) nr (by rw [val_trim, vO, vr])
  have ct := ct_spec_l1Trim O Ao co (by omega)
  rw [er] at ct
  refine xg ?_
  refine xn 1 [] [(20, .slice Ao (List.length O) co)] ?_
  refine xcr 21 ct (zsS zi0 zs0) (fun A0 k0 => ?_)
  refine xz [] [(2, .slice A0 (List.length r) k0)] ?_
  refine SW_ret ?_
  refine xe (A0, k0) (.slice A0 (List.length r) k0) [] ?_ (zsS zi0 zs0)
  rfl
end Go.Proofs.YtdbnmdchecacdaaDoor.M
end
section
namespace Go.Proofs.YtdbnmdchecacdaaDoor.M
open Go.RowKit Go.Proofs.YtdbnmdchecacdaaDoor.G Go.Proofs.YtdbnmdchecacdaaDoorV.PrintWords Go.Proofs.YtdbnmdchecacdaaDoorV.PrintLast Go.Proofs.YtdbnmdchecacdaaDoor.X
set_option linter.unusedVariables false
set_option linter.unusedSimpArgs false
theorem drop_two {l : List Int} {i : Nat} (h : i + 1 < l.length) : l.drop i = rd l (i : Int) :: rd l ((i + 1 : Nat) : Int) :: l.drop (i + 2) := by
 have e1 := rd_some (xs := l) (i := i) (by omega)
 have e2 := rd_some (xs := l) (i := i + 1) h
 rw [List.getElem?_eq_getElem (by omega)] at e1 e2
 rw [List.drop_eq_getElem_cons (show i < l.length by omega), List.drop_eq_getElem_cons h, Option.some.inj e1, Option.some.inj e2]
theorem drop_one {l : List Int} {i : Nat} (h : i + 1 = l.length) : l.drop i = [rd l (i : Int)] := by
 have e1 := rd_some (xs := l) (i := i) (by omega)
 rw [List.getElem?_eq_getElem (by omega)] at e1
 rw [List.drop_eq_getElem_cons (show i < l.length by omega), Option.some.inj e1, List.drop_eq_nil_of_le (by omega)]
theorem ct_spec_l1Out_own (l : List Int) (A : Option Addr) (c : Nat) (dl : Dig B32 l) (nl : Norm l) (hl : l.length ≤ 1000000000) : ∀ r, Dig B64 r → Norm r → val B64 r = val B32 l → CtW Tryd.prog 82 [.slice A l.length c] [Row .u64 A c l] 22 .u64 r := by
 intro r dr nr vr
 have er : outL l = r := norm_inj B64_pos (outL_dig dl) dr (outL_norm dl nl) nr (by rw [outL_val dl, vr])
 refine ctW_of Tryd.func82 rfl (by kernel_rfl) (fun B w0 => ?_)
 refine xr [] [(2, .slice none 0 0)] ?_
 refine xr [] [(3, .slice none 0 0)] ?_
 refine SW_seq ?_
 refine xr [] [(4, .int .i64 0)] ?_
 refine SW_then (fun s' => ∃ (sl : Value) (bs : List Box), Own 22 .u64 sl bs r ∧ Weak s' ⟨[(3, sl)], bs, []⟩) ?_ ?_
 ·refine SW_block ?_
  refine SW_loopn (fun m s' => ∃ (sl : Value) (bs : List Box) (O : List Int) (i : Nat), (m + i = l.length ∨ (m = 0 ∧ i = l.length + 1)) ∧ Own 22 .u64 sl bs O ∧ O.length ≤ i ∧ O ++ outL (l.drop i) = r ∧ Weak s' ⟨[(0, .slice A l.length c), (3, sl), (4, .int .i64 (i : Int))], bs, [Row .u64 A c l]⟩) l.length ⟨_, _, [], 0, .inl rfl, Own.nil 22 .u64, Nat.le_refl _, er, ?_⟩ (fun m s' hI => ?_)
  ·exact xw (zsS zi0 zs0)
  ·obtain ⟨sl0, bs0, O, i, k1, hO0, k3, k4, hw⟩ := hI
   refine SW_weak hw ?_
   clear hw
   by_cases hi : i < l.length
   ·have z : decide ((i : Int) < (l.length : Int)) = true := decide_eq_true (by omega)
    refine SW_know zi0 (fun w h => row_at h (by omega)) (fun ⟨ad, e⟩ => ?_)
    subst e
    obtain ⟨x, hx, hxB⟩ := nat_rd32 dl i
    have v1 : Ve (rd l (i : Int)) (x : Int) := ⟨hx⟩
    have v2 : Ve (IntKind.i64.wrap ((i : Int) + 1)) ((i + 1 : Nat) : Int) := veI (by omega) (by omega)
    have v3 : Ve (IntKind.i64.wrap ((i : Int) + 2)) ((i + 2 : Nat) : Int) := veI (by omega) (by omega)
    by_cases h2 : i + 1 < l.length
    ·have z2 : decide (((i + 1 : Nat) : Int) < (l.length : Int)) = true := decide_eq_true (by omega)
     obtain ⟨y, hy, hyB⟩ := nat_rd32 dl (i + 1)
     have v4 : Ve (rd l ((i + 1 : Nat) : Int)) (y : Int) := ⟨hy⟩
     have v5 : Ve (shl .u64 (y : Int) 32) ((y * 4294967296 : Nat) : Int) := ⟨by have := shl_nat y 32 (by omega); rw [show ((32 : Nat) : Int) = 32 from rfl] at this; rw [this]; omega⟩
     have v6 : Ve (bits .or .u64 (x : Int) ((y * 4294967296 : Nat) : Int)) ((x + y * 4294967296 : Nat) : Int) := ⟨or_nat' 32 (y * 4294967296) x (by omega) (by omega) (Nat.dvd_mul_left _ _) hxB⟩
     rw [drop_two h2, outL, hx, hy] at k4
     refine SW_seq ?_
     refine xr [] [(9, .bool (decide ((i : Int) < (((List.length l) : Nat) : Int))))] ?_
     refine xst z ?_
     refine SW_skip ?_
     refine SW_seq ?_
     refine SW_block ?_
     refine xg ?_
     refine xn 2 [] [(13, .int .i64 (i : Int)), (12, .slice (some ad) (List.length l) c)] ?_
     refine xfi 14 22 (ad) (List.length l) (c) (i) IntKind.i64 ((i : Int)) ⟨rfl⟩ (by omega) ?_
     refine xfle 15 zi0 (i) ((x : Int)) v1 (by omega) ?_
     refine xz [] [(5, .int .u64 (x : Int))] ?_
     refine SW_seq ?_
     refine xg ?_
     refine xn 1 [] [(16, .int .i64 (i : Int))] ?_
     refine xve 17 IntKind.i64 (IntKind.wrap IntKind.i64 ((i : Int) + 1)) ((((i + 1) : Nat) : Int)) v2 ?_
     refine xz [] [(20, .bool (decide ((((i + 1) : Nat) : Int) < (((List.length l) : Nat) : Int))))] ?_
     refine xst z2 ?_
     refine SW_region ?_
     refine xn 3 [] [(23, .int .i64 (i : Int)), (22, .slice (some ad) (List.length l) c), (21, .int .u64 (x : Int))] ?_
     refine xve 24 IntKind.i64 (IntKind.wrap IntKind.i64 ((i : Int) + 1)) ((((i + 1) : Nat) : Int)) v2 ?_
     refine xfi 25 22 (ad) (List.length l) (c) (i + 1) IntKind.i64 ((((i + 1) : Nat) : Int)) ⟨rfl⟩ (by omega) ?_
     refine xfle 26 zi0 (i + 1) ((y : Int)) v4 (by omega) ?_
     refine xve 27 IntKind.u64 (shl IntKind.u64 (y : Int) 32) ((((y * 4294967296) : Nat) : Int)) v5 ?_
     refine xve 28 IntKind.u64 (bits BinOp.or IntKind.u64 (x : Int) (((y * 4294967296) : Nat) : Int)) ((((x + y * 4294967296) : Nat) : Int)) v6 ?_
     refine xz [] [(5, .int .u64 (((x + y * 4294967296) : Nat) : Int))] ?_
     refine SW_region ?_
     refine xn 2 [] [(30, .int .u64 (((x + y * 4294967296) : Nat) : Int)), (29, sl0)] ?_
     refine xbl 31 [.int .u64 (((x + y * 4294967296) : Nat) : Int)] 22 1 (fun g0 => ?_)
     refine xow 32 8 (g0) (1) [(((x + y * 4294967296) : Nat) : Int)] hO0 (by first | omega | (simp <;> omega)) (fun sl1 bs1 hO1 => ?_)
     refine xz [] [(3, sl1)] ?_
     refine SW_region ?_
     refine xn 1 [] [(10, .int .i64 (i : Int))] ?_
     refine xve 11 IntKind.i64 (IntKind.wrap IntKind.i64 ((i : Int) + 2)) ((((i + 2) : Nat) : Int)) v3 ?_
     refine xz [] [(4, .int .i64 (((i + 2) : Nat) : Int))] ?_
     refine ⟨m - 2, by omega, sl1, bs1, _, i + 2, by omega, hO1, by rw [List.length_append]; simp; omega, ?_, ?_⟩
     ·rw [List.append_assoc, ← k4]
      congr 1
     ·exact xw (zsS zi0 zs0)
    ·have z2 : decide (((i + 1 : Nat) : Int) < (l.length : Int)) = false := decide_eq_false (by omega)
     rw [drop_one (by omega), outL, hx] at k4
     refine SW_seq ?_
     refine xr [] [(9, .bool (decide ((i : Int) < (((List.length l) : Nat) : Int))))] ?_
     refine xst z ?_
     refine SW_skip ?_
     refine SW_seq ?_
     refine SW_block ?_
     refine xg ?_
     refine xn 2 [] [(13, .int .i64 (i : Int)), (12, .slice (some ad) (List.length l) c)] ?_
     refine xfi 14 22 (ad) (List.length l) (c) (i) IntKind.i64 ((i : Int)) ⟨rfl⟩ (by omega) ?_
     refine xfle 15 zi0 (i) ((x : Int)) v1 (by omega) ?_
     refine xz [] [(5, .int .u64 (x : Int))] ?_
     refine SW_seq ?_
     refine xg ?_
     refine xn 1 [] [(16, .int .i64 (i : Int))] ?_
     refine xve 17 IntKind.i64 (IntKind.wrap IntKind.i64 ((i : Int) + 1)) ((((i + 1) : Nat) : Int)) v2 ?_
     refine xz [] [(20, .bool (decide ((((i + 1) : Nat) : Int) < (((List.length l) : Nat) : Int))))] ?_
     refine xsf z2 ?_
     refine SW_skip ?_
     refine SW_region ?_
     refine xn 2 [] [(30, .int .u64 (x : Int)), (29, sl0)] ?_
     refine xbl 31 [.int .u64 (x : Int)] 22 1 (fun g0 => ?_)
     refine xow 32 8 (g0) (1) [(x : Int)] hO0 (by first | omega | (simp <;> omega)) (fun sl1 bs1 hO1 => ?_)
     refine xz [] [(3, sl1)] ?_
     refine SW_region ?_
     refine xn 1 [] [(10, .int .i64 (i : Int))] ?_
     refine xve 11 IntKind.i64 (IntKind.wrap IntKind.i64 ((i : Int) + 2)) ((((i + 2) : Nat) : Int)) v3 ?_
     refine xz [] [(4, .int .i64 (((i + 2) : Nat) : Int))] ?_
     refine ⟨0, by omega, sl1, bs1, _, i + 2, by omega, hO1, by rw [List.length_append]; simp; omega, ?_, ?_⟩
     ·rw [List.drop_eq_nil_of_le (by omega), outL, List.append_nil, ← k4]
     ·exact xw (zsS zi0 zs0)
   ·have z : decide ((i : Int) < (l.length : Int)) = false := decide_eq_false (by omega)
    rw [List.drop_eq_nil_of_le (by omega), outL, List.append_nil] at k4
    subst k4
    refine SW_seq ?_
    refine xr [] [(9, .bool (decide ((i : Int) < (((List.length l) : Nat) : Int))))] ?_
    refine xsf z ?_
    refine SW_exit ?_
    refine ⟨sl0, bs0, hO0, ?_⟩
    exact xw zs0
 ·rintro s' ⟨sl, bs, hO, hw⟩
  refine SW_weak hw ?_
  clear hw
  refine xr [] [(2, sl)] ?_
  refine SW_ret ?_
  exact ⟨sl, [], [], by kernel_rfl, hO⟩
theorem ct_spec_l1Out_rows (l : List Int) (A : Option Addr) (c : Nat) (dl : Dig B32 l) (nl : Norm l) (hl : l.length ≤ 1000000000) : ∀ r, Dig B64 r → Norm r → val B64 r = val B32 l → CtR Tryd.prog 82 [.slice A l.length c] [Row .u64 A c l] .u64 r := fun r dr nr vr => ctR_of_W (by
 have er : outL l = r := norm_inj B64_pos (outL_dig dl) dr (outL_norm dl nl) nr (by rw [outL_val dl, vr])
 have := outL_length l
 rw [← er]
 omega) (ct_spec_l1Out_own l A c dl nl hl r dr nr vr)
end Go.Proofs.YtdbnmdchecacdaaDoor.M
end
section
namespace Go.Proofs.YtdbnmdchecacdaaDoor.M
open Go.RowKit Go.Proofs.YtdbnmdchecacdaaDoor.G Go.Proofs.YtdbnmdchecacdaaDoorV.PrintWords Go.Proofs.YtdbnmdchecacdaaDoorV.PrintLast Go.Proofs.YtdbnmdchecacdaaDoor.X
set_option linter.unusedVariables false
set_option linter.unusedSimpArgs false
theorem sub32_step {a b O : List Int} {i x y bo D bo' : Nat} (hx : rd a (i : Int) = (x : Int)) (hy : rd b (i : Int) = (y : Int)) (hl : O.length = i) (hD : D + y + bo = 4294967296 + x) (hb : bo' + D / 4294967296 = 1) (hv : val B32 O + val B32 (b.take i) = val B32 (a.take i) + B32 ^ i * bo) :
  val B32 (O ++ [((D % 4294967296 : Nat) : Int)]) + val B32 (b.take (i + 1)) = val B32 (a.take (i + 1)) + B32 ^ (i + 1) * bo' := by
 rw [val_snoc, val_take_succ, val_take_succ, hl, hx, hy, Nat.pow_succ, Nat.mul_assoc]
 simp only [Int.toNat_natCast]
 rw [show B32 * bo' = 4294967296 * bo' from rfl]
 have h : D % 4294967296 + y + bo = x + 4294967296 * bo' := by omega
 have h2 := congrArg (B32 ^ i * ·) h
 generalize D % 4294967296 = m at *
 generalize 4294967296 * bo' = q at *
 generalize B32 ^ i = P at *
 simp only [Nat.mul_add] at h2 ⊢
 omega
theorem ct_spec_l1Sub_rows (a b : List Int) (A A' : Option Addr) (c c' : Nat) (da : Dig B32 a) (db : Dig B32 b) (hla : a.length ≤ 1000000000) (hlb : b.length ≤ 1000000000) : ∀ r, Dig B32 r → Norm r → val B32 r + val B32 b = val B32 a → CtR Tryd.prog 89 [.slice A a.length c, .slice A' b.length c'] [Row .u64 A c a, Row .u64 A' c' b] .u64 r := by
 intro r dr nr vr
 refine ct_of Tryd.func89 rfl (by kernel_rfl) (fun B w0 => ?_)
 refine xr [] [(4, .slice none 0 0)] ?_
 refine xr [] [(5, .slice none 0 0)] ?_
 refine xr [] [(6, .int .u64 0)] ?_
 refine SW_seq ?_
 refine xr [] [(7, .int .i64 0)] ?_
 refine SW_then (fun s' => ∃ (sl : Value) (bs : List Box) (O : List Int), Own 22 .u64 sl bs O ∧ Dig B32 O ∧ O.length = a.length ∧ val B32 O = val B32 r ∧ Weak s' ⟨[(5, sl)], bs, []⟩) ?_ ?_
 ·refine SW_block ?_
  refine SW_loopn (fun m s' => ∃ (sl : Value) (bs : List Box) (O : List Int) (i bo : Nat), m + i = a.length ∧ Own 22 .u64 sl bs O ∧ Dig B32 O ∧ O.length = i ∧ bo ≤ 1 ∧ val B32 O + val B32 (b.take i) = val B32 (a.take i) + B32 ^ i * bo ∧ Weak s' ⟨[(0, .slice A a.length c), (1, .slice A' b.length c'), (5, sl), (6, .int .u64 (bo : Int)), (7, .int .i64 (i : Int))], bs, [Row .u64 A c a, Row .u64 A' c' b]⟩) a.length ⟨_, _, [], 0, 0, rfl, Own.nil 22 .u64, Dig.nil _, rfl, by decide, rfl, ?_⟩ (fun m s' hI => ?_)
  ·exact xw (zsS zi0 (zsS (ziS zi0) zs0))
  ·obtain ⟨sl0, bs0, O, i, bo, k1, hO0, k3, k4, k5, k6, hw⟩ := hI
   refine SW_weak hw ?_
   clear hw
   by_cases hi : i < a.length
   ·have z : decide ((i : Int) < (a.length : Int)) = true := decide_eq_true (by omega)
    obtain ⟨m, rfl⟩ : ∃ m', m = m' + 1 := ⟨m - 1, by omega⟩
    refine SW_know zi0 (fun w h => row_at h (by omega)) (fun ⟨ad, e⟩ => ?_)
    subst e
    obtain ⟨x, hx, hxB⟩ := nat_rd32 da i
    obtain ⟨y, hy, hyB⟩ := nat_rd32 db i
    obtain ⟨D, hD⟩ : ∃ D, D + y + bo = 4294967296 + x := ⟨4294967296 + x - y - bo, by omega⟩
    have v1 : Ve (rd a (i : Int)) (x : Int) := ⟨hx⟩
    have v2 : Ve (rd b (i : Int)) (y : Int) := ⟨hy⟩
    have v3 : Ve (IntKind.u64.wrap (4294967296 + (x : Int))) ((4294967296 + x : Nat) : Int) := veU (by omega) (by omega)
    have v4 : Ve (IntKind.u64.wrap (((4294967296 + x : Nat) : Int) - (y : Int))) ((4294967296 + x - y : Nat) : Int) := veU (by omega) (by omega)
    have v4' : Ve (IntKind.u64.wrap (((4294967296 + x - y : Nat) : Int) - (bo : Int))) (D : Int) := veU (by omega) (by omega)
    have v5 := low_ve D (by omega)
    have v6 := high_ve D
    obtain ⟨bo', hbo⟩ : ∃ bo', bo' + D / 4294967296 = 1 := ⟨1 - D / 4294967296, by omega⟩
    have v8 : Ve (IntKind.u64.wrap (1 - ((D / 4294967296 : Nat) : Int))) (bo' : Int) := veU (by omega) (by omega)
    have v7 : Ve (IntKind.i64.wrap ((i : Int) + 1)) ((i + 1 : Nat) : Int) := veI (by omega) (by omega)
    have hst := sub32_step hx hy k4 hD hbo k6
    refine SW_seq ?_
    refine xr [] [(12, .bool (decide ((i : Int) < (((List.length a) : Nat) : Int))))] ?_
    refine xst z ?_
    refine SW_skip ?_
    refine SW_seq ?_
    refine SW_block ?_
    refine xd (fun hB => ?_)
    refine xdk [(0, []), (1, []), (5, []), (6, []), (9, [])] [(24, .int .u64 (bo : Int)), (21, .int .i64 (i : Int)), (20, .slice A' (List.length b) c'), (16, .int .i64 (i : Int)), (15, .slice (some ad) (List.length a) c)] hB ?_
    refine xdfi 2 hB 17 22 (ad) (List.length a) (c) (i) IntKind.i64 ((i : Int)) ⟨rfl⟩ (by omega) ?_
    refine xdfle 3 hB 18 zi0 (i) ((x : Int)) v1 (by omega) ?_
    refine xdve 4 hB 19 IntKind.u64 (IntKind.wrap IntKind.u64 (4294967296 + (x : Int))) ((((4294967296 + x) : Nat) : Int)) v3 ?_
    refine xdv 7 22 (ct_spec_l1At (b) (A') (c') ((i : Int)) (i) ⟨rfl⟩ ((y : Int)) v2 (by omega)) (zsS (ziS zi0) zs0) ?_
    refine xdve 8 hB 23 IntKind.u64 (IntKind.wrap IntKind.u64 ((((4294967296 + x) : Nat) : Int) - (y : Int))) ((((4294967296 + x - y) : Nat) : Int)) v4 ?_
    refine xdve 10 hB 25 IntKind.u64 (IntKind.wrap IntKind.u64 ((((4294967296 + x - y) : Nat) : Int) - (bo : Int))) ((D : Int)) v4' ?_
    refine xdk [(11, [])] [(8, .int .u64 (D : Int))] hB ?_
    refine xdz ?_
    refine xg ?_
    refine xn 2 [] [(27, .int .u64 (D : Int)), (26, sl0)] ?_
    refine xve 28 IntKind.u64 (bits BinOp.and IntKind.u64 (D : Int) 4294967295) ((((D % 4294967296) : Nat) : Int)) v5 ?_
    refine xbl 29 [.int .u64 (((D % 4294967296) : Nat) : Int)] 22 1 (fun g0 => ?_)
    refine xow 30 8 (g0) (1) [(((D % 4294967296) : Nat) : Int)] hO0 (by first | omega | (simp <;> omega)) (fun sl1 bs1 hO1 => ?_)
    refine xz [] [(5, sl1)] ?_
    refine SW_region ?_
    refine xn 1 [] [(31, .int .u64 (D : Int))] ?_
    refine xve 32 IntKind.u64 (shf IntKind.u64 (D : Int) 32) ((((D / 4294967296) : Nat) : Int)) v6 ?_
    refine xve 33 IntKind.u64 (IntKind.wrap IntKind.u64 (1 - (((D / 4294967296) : Nat) : Int))) (((bo' : Nat) : Int)) v8 ?_
    refine xz [] [(6, .int .u64 ((bo' : Nat) : Int))] ?_
    refine SW_region ?_
    refine xn 1 [] [(13, .int .i64 (i : Int))] ?_
    refine xve 14 IntKind.i64 (IntKind.wrap IntKind.i64 ((i : Int) + 1)) ((((i + 1) : Nat) : Int)) v7 ?_
    refine xz [] [(7, .int .i64 (((i + 1) : Nat) : Int))] ?_
    refine ⟨m, by omega, sl1, bs1, _, i + 1, bo', by omega, hO1, k3.snoc (cast_dig32 (Nat.mod_lt _ (by decide))), by rw [List.length_append, k4]; rfl, by omega, hst, ?_⟩
    exact xw (zsS zi0 (zsS (ziS zi0) zs0))
   ·have z : decide ((i : Int) < (a.length : Int)) = false := decide_eq_false (by omega)
    obtain rfl : i = a.length := by omega
    rw [List.take_length] at k6
    have hO := val_lt_len B32_pos k3 (Nat.le_of_eq k4)
    have hA := val_lt da
    have hb := val_cut B32 b a.length
    have hd : val B32 (b.drop a.length) = 0 := by
     rcases Nat.eq_zero_or_pos (val B32 (b.drop a.length)) with h | h
     ·exact h
     ·have := Nat.mul_le_mul_left (B32 ^ a.length) h
      omega
    rw [hd, Nat.mul_zero, Nat.add_zero] at hb
    have hbo : bo = 0 := by
     rcases Nat.lt_or_ge bo 1 with h | h
     ·omega
     ·obtain rfl : bo = 1 := by omega
      omega
    rw [hbo, Nat.mul_zero, Nat.add_zero] at k6
    have hval : val B32 O = val B32 r := by omega
    refine SW_seq ?_
    refine xr [] [(12, .bool (decide ((((List.length a) : Nat) : Int) < (((List.length a) : Nat) : Int))))] ?_
    refine xsf z ?_
    refine SW_exit ?_
    refine ⟨sl0, bs0, O, hO0, k3, k4, hval, ?_⟩
    exact xw zs0
 ·rintro s' ⟨sl, bs, O, hO, dO, lO, vO, hw⟩
  refine SW_weak hw ?_
  clear hw
  refine SW_own hO (by omega) (fun Ao co e => ?_)
  subst e
  have er : trimL O = r := norm_inj B32_pos dO.trim dr (norm_trim _) nr (by rw [val_trim, vO])
  have ct := ct_spec_l1Trim O Ao co (by omega)
  rw [er] at ct
  refine xg ?_
  refine xn 1 [] [(34, .slice Ao (List.length O) co)] ?_
  refine xcr 35 ct (zsS zi0 zs0) (fun A0 k0 => ?_)
  refine xz [] [(4, .slice A0 (List.length r) k0)] ?_
  refine SW_ret ?_
  refine xe (A0, k0) (.slice A0 (List.length r) k0) [] ?_ (zsS zi0 zs0)
  rfl
end Go.Proofs.YtdbnmdchecacdaaDoor.M
end
section
namespace Go.Proofs.YtdbnmdchecacdaaDoor.M
open Go.RowKit Go.Proofs.YtdbnmdchecacdaaDoor.G Go.Proofs.YtdbnmdchecacdaaDoorV.PrintWords Go.Proofs.YtdbnmdchecacdaaDoorV.PrintLast Go.Proofs.YtdbnmdchecacdaaDoor.X
set_option linter.unusedVariables false
set_option linter.unusedSimpArgs false
theorem ct_spec_l1Mul_rows (a b : List Int) (A A' : Option Addr) (c c' : Nat) (da : Dig B32 a) (db : Dig B32 b) (hla : a.length ≤ 1000000000) (hlb : b.length ≤ 1000000000) : ∀ r, Dig B32 r → Norm r → val B32 r = val B32 a * val B32 b → CtR Tryd.prog 99 [.slice A a.length c, .slice A' b.length c'] [Row .u64 A c a, Row .u64 A' c' b] .u64 r := by
 intro r dr nr vr
 refine ct_of Tryd.func99 rfl (by kernel_rfl) (fun B w0 => ?_)
 refine xr [] [(4, .slice none 0 0)] ?_
 refine xg ?_
 refine xn 6 [] [(15, .int .i64 (IntKind.wrap IntKind.i64 (IntKind.wrap IntKind.i64 ((((List.length a) : Nat) : Int) + (((List.length b) : Nat) : Int)) + 1)))] ?_
 refine xma 16 22 (((List.length a) + (List.length b)) + 1) IntKind.u64 8 (IntKind.wrap IntKind.i64 (IntKind.wrap IntKind.i64 ((((List.length a) : Nat) : Int) + (((List.length b) : Nat) : Int)) + 1)) (Nn.w (Nn.add (Nn.w (Nn.add ⟨rfl⟩ ⟨rfl⟩) (by omega)) ⟨rfl⟩) (by omega)) (by omega) (fun g0 => ?_)
 refine xz [] [(5, .slice (some ⟨g0, 0, none⟩) (List.length a + List.length b + 1) (List.length a + List.length b + 1))] ?_
 refine SW_seq ?_
 refine xr [] [(6, .int .i64 0)] ?_
 refine SW_block ?_
 refine SW_loopn (fun m s => ∃ (i : Nat) (O : List Int), m + i = a.length ∧ O.length = a.length + b.length + 1 ∧ Dig B32 O ∧ Clear O (i + b.length) ∧ val B32 O = val B32 (a.take i) * val B32 b ∧ Weak s ⟨[(0, .slice A a.length c), (1, .slice A' b.length c'), (5, .slice (some ⟨g0, 0, none⟩) (a.length + b.length + 1) (a.length + b.length + 1)), (6, .int .i64 (i : Int))], [⟨g0, cl .u64 O [], 22⟩], [Row .u64 A c a, Row .u64 A' c' b]⟩) a.length ⟨0, List.replicate (a.length + b.length + 1) 0, rfl, by simp, Dig.zeros B32_pos _, Clear.zeros _ _, by rw [val_zeros]; simp [val], ?_⟩ (fun m s hI => ?_)
 ·exact xw (zsS zi0 (zsS (ziS zi0) zs0))
 ·obtain ⟨i, O, h1, h2, h3, h4, h5, hw⟩ := hI
  refine SW_weak hw ?_
  clear hw
  by_cases hi : i < a.length
  ·have z1 : decide ((i : Int) < (a.length : Int)) = true := decide_eq_true (by omega)
   refine SW_know zi0 (fun w h => row_at h (by omega)) (fun ⟨ad, e⟩ => ?_)
   subst e
   obtain ⟨m, rfl⟩ : ∃ m', m = m' + 1 := ⟨m - 1, by omega⟩
   obtain ⟨x, hx, hxB⟩ := nat_rd32 da i
   have v1 : Ve (rd a (i : Int)) (x : Int) := ⟨hx⟩
   have vi : Ve (IntKind.i64.wrap ((i : Int) + 1)) ((i + 1 : Nat) : Int) := veI (by omega) (by omega)
   have vn : Ve (IntKind.i64.wrap ((i : Int) + (b.length : Int))) ((i + b.length : Nat) : Int) := veI (by omega) (by omega)
   refine SW_seq ?_
   refine xr [] [(20, .bool (decide ((i : Int) < (((List.length a) : Nat) : Int))))] ?_
   refine xst z1 ?_
   refine SW_skip ?_
   refine SW_seq ?_
   refine SW_block ?_
   refine xr [] [(7, .int .u64 0)] ?_
   refine SW_seq ?_
   refine xr [] [(8, .int .i64 0)] ?_
   refine SW_then (fun s' => ∃ (O : List Int) (cy : Nat), O.length = a.length + b.length + 1 ∧ Dig B32 O ∧ Clear O (i + b.length) ∧ cy < 4294967296 ∧ val B32 O + B32 ^ (i + b.length) * ((cy : Nat) : Int).toNat = val B32 (a.take i) * val B32 b + B32 ^ i * ((x : Int).toNat * val B32 (b.take b.length)) ∧ Weak s' ⟨[(0, .slice (some ad) a.length c), (1, .slice A' b.length c'), (5, .slice (some ⟨g0, 0, none⟩) (a.length + b.length + 1) (a.length + b.length + 1)), (6, .int .i64 (i : Int)), (7, .int .u64 (cy : Int))], [⟨g0, cl .u64 O [], 22⟩], [Row .u64 (some ad) c a, Row .u64 A' c' b]⟩) ?_ ?_
   ·refine SW_block ?_
    refine SW_loopn (fun k s => ∃ (j : Nat) (O : List Int) (cy : Nat), k + j = b.length ∧ O.length = a.length + b.length + 1 ∧ Dig B32 O ∧ Clear O (i + b.length) ∧ cy < 4294967296 ∧ val B32 O + B32 ^ (i + j) * ((cy : Nat) : Int).toNat = val B32 (a.take i) * val B32 b + B32 ^ i * ((x : Int).toNat * val B32 (b.take j)) ∧ Weak s ⟨[(0, .slice (some ad) a.length c), (1, .slice A' b.length c'), (5, .slice (some ⟨g0, 0, none⟩) (a.length + b.length + 1) (a.length + b.length + 1)), (6, .int .i64 (i : Int)), (7, .int .u64 (cy : Int)), (8, .int .i64 (j : Int))], [⟨g0, cl .u64 O [], 22⟩], [Row .u64 (some ad) c a, Row .u64 A' c' b]⟩) b.length ⟨0, O, 0, rfl, h2, h3, h4, by decide, by simp [val, h5], ?_⟩ (fun k s hI => ?_)
    ·exact xw (zsS zi0 (zsS (ziS zi0) zs0))
    ·clear h2 h3 h4 h5
     obtain ⟨j, O, cy, k1, k2, k3, k4, k5, k6, hw⟩ := hI
     refine SW_weak hw ?_
     clear hw
     by_cases hj : j < b.length
     ·have z2 : decide ((j : Int) < (b.length : Int)) = true := decide_eq_true (by omega)
      refine SW_know (ziS zi0) (fun w h => row_at h (by omega)) (fun ⟨ad', e⟩ => ?_)
      subst e
      obtain ⟨k, rfl⟩ : ∃ k', k = k' + 1 := ⟨k - 1, by omega⟩
      obtain ⟨y, hy, hyB⟩ := nat_rd32 db j
      obtain ⟨o, ho, hoB⟩ := nat_rd32 k3 (i + j)
      have v2 : Ve (rd b (j : Int)) (y : Int) := ⟨hy⟩
      have v3 : Ve (rd O ((i + j : Nat) : Int)) (o : Int) := ⟨ho⟩
      have vj : Ve (IntKind.i64.wrap ((j : Int) + 1)) ((j + 1 : Nat) : Int) := veI (by omega) (by omega)
      have vij : Ve (IntKind.i64.wrap ((i : Int) + (j : Int))) ((i + j : Nat) : Int) := veI (by omega) (by omega)
      have hP : x * y ≤ 4294967295 * 4294967295 := Nat.mul_le_mul (by omega) (by omega)
      obtain ⟨p, hp⟩ : ∃ p, x * y = p := ⟨_, rfl⟩
      rw [hp] at hP
      have v4 : Ve (IntKind.u64.wrap ((x : Int) * (y : Int))) (p : Int) := veU (by rw [← Int.natCast_mul, hp]) (by omega)
      have v5 : Ve (IntKind.u64.wrap ((p : Int) + (o : Int))) ((p + o : Nat) : Int) := veU (by omega) (by omega)
      have v6 : Ve (IntKind.u64.wrap (((p + o : Nat) : Int) + (cy : Int))) ((p + o + cy : Nat) : Int) := veU (by omega) (by omega)
      have v7 := low_ve (p + o + cy) (by omega)
      have v8 := high_ve (p + o + cy)
      have hst := mul_step (B := B32) (a := a) (b := b) (out := O) (i := i) (j := j) (ai := (x : Int)) (c := (cy : Int)) (x := (((p + o + cy) % 4294967296 : Nat) : Int)) (c' := (((p + o + cy) / 4294967296 : Nat) : Int)) (by omega) k6 (by
       rw [hy, ho]
       simp only [Int.toNat_natCast]
       rw [hp]
       unfold B32
       omega)
      refine SW_seq ?_
      refine xr [] [(26, .bool (decide ((j : Int) < (((List.length b) : Nat) : Int))))] ?_
      refine xst z2 ?_
      refine SW_skip ?_
      refine SW_seq ?_
      refine SW_block ?_
      refine xd (fun hB => ?_)
      refine xdk [(0, []), (1, []), (4, []), (5, []), (9, []), (10, []), (11, []), (16, [])] [(45, .int .u64 (cy : Int)), (40, .int .i64 (j : Int)), (39, .int .i64 (i : Int)), (38, .slice (some ⟨g0, 0, none⟩) (List.length a + List.length b + 1) (List.length a + List.length b + 1)), (34, .int .i64 (j : Int)), (33, .slice (some ad') (List.length b) c'), (30, .int .i64 (i : Int)), (29, .slice (some ad) (List.length a) c)] hB ?_
      refine xdve 12 hB 41 IntKind.i64 (IntKind.wrap IntKind.i64 ((i : Int) + (j : Int))) ((((i + j) : Nat) : Int)) vij ?_
      refine xdfi 2 hB 31 22 (ad) (List.length a) (c) (i) IntKind.i64 ((i : Int)) ⟨rfl⟩ (by omega) ?_
      refine xdfle 3 hB 32 zi0 (i) ((x : Int)) v1 (by omega) ?_
      refine xdfi 6 hB 35 22 (ad') (List.length b) (c') (j) IntKind.i64 ((j : Int)) ⟨rfl⟩ (by omega) ?_
      refine xdfle 7 hB 36 (ziS zi0) (j) ((y : Int)) v2 (by omega) ?_
      refine xdve 8 hB 37 IntKind.u64 (IntKind.wrap IntKind.u64 ((x : Int) * (y : Int))) ((p : Int)) v4 ?_
      refine xdoi 13 hB 42 22 (g0) (List.length a + List.length b + 1) (List.length a + List.length b + 1) (i + j) IntKind.i64 ((((i + j) : Nat) : Int)) ⟨rfl⟩ (by omega) ?_
      refine xdole 14 hB 43 0 (g0) (i + j) IntKind.u64 (O) ([]) 22 ((o : Int)) v3 (by first | omega | (simp <;> omega)) ?_
      refine xdve 15 hB 44 IntKind.u64 (IntKind.wrap IntKind.u64 ((p : Int) + (o : Int))) ((((p + o) : Nat) : Int)) v5 ?_
      refine xdve 17 hB 46 IntKind.u64 (IntKind.wrap IntKind.u64 ((((p + o) : Nat) : Int) + (cy : Int))) ((((p + o + cy) : Nat) : Int)) v6 ?_
      refine xdk [(18, [])] [(9, .int .u64 (((p + o + cy) : Nat) : Int))] hB ?_
      refine xdz ?_
      refine xg ?_
      refine xn 3 [] [(49, .int .i64 (j : Int)), (48, .int .i64 (i : Int)), (47, .slice (some ⟨g0, 0, none⟩) (List.length a + List.length b + 1) (List.length a + List.length b + 1))] ?_
      refine xve 50 IntKind.i64 (IntKind.wrap IntKind.i64 ((i : Int) + (j : Int))) ((((i + j) : Nat) : Int)) vij ?_
      refine xn 5 [] [(51, .int .u64 (((p + o + cy) : Nat) : Int))] ?_
      refine xve 52 IntKind.u64 (bits BinOp.and IntKind.u64 (((p + o + cy) : Nat) : Int) 4294967295) (((((p + o + cy) % 4294967296) : Nat) : Int)) v7 ?_
      refine xoi 53 22 (g0) (List.length a + List.length b + 1) (List.length a + List.length b + 1) (i + j) IntKind.i64 ((((i + j) : Nat) : Int)) ⟨rfl⟩ (by omega) ?_
      refine xos 0 (g0) (i + j) IntKind.u64 (O) ([]) 22 (((((p + o + cy) % 4294967296) : Nat) : Int)) (by first | omega | (simp <;> omega)) ?_
      refine xz [] [] ?_
      refine SW_region ?_
      refine xn 1 [] [(54, .int .u64 (((p + o + cy) : Nat) : Int))] ?_
      refine xve 55 IntKind.u64 (shf IntKind.u64 (((p + o + cy) : Nat) : Int) 32) (((((p + o + cy) / 4294967296) : Nat) : Int)) v8 ?_
      refine xz [] [(7, .int .u64 ((((p + o + cy) / 4294967296) : Nat) : Int))] ?_
      refine SW_region ?_
      refine xn 1 [] [(27, .int .i64 (j : Int))] ?_
      refine xve 28 IntKind.i64 (IntKind.wrap IntKind.i64 ((j : Int) + 1)) ((((j + 1) : Nat) : Int)) vj ?_
      refine xz [] [(8, .int .i64 (((j + 1) : Nat) : Int))] ?_
      refine ⟨k, by omega, j + 1, _, _, by omega, by rw [List.length_set]; exact k2, k3.set _ (cast_dig32 (Nat.mod_lt _ (by decide))), k4.set (by omega), by omega, hst, ?_⟩
      exact xw (zsS zi0 (zsS (ziS zi0) zs0))
     ·have z2 : decide ((j : Int) < (b.length : Int)) = false := decide_eq_false (by omega)
      obtain rfl : j = b.length := by omega
      refine SW_seq ?_
      refine xr [] [(26, .bool (decide ((((List.length b) : Nat) : Int) < (((List.length b) : Nat) : Int))))] ?_
      refine xsf z2 ?_
      refine SW_exit ?_
      refine ⟨O, cy, k2, k3, k4, k5, k6, ?_⟩
      exact xw (zsS zi0 (zsS (ziS zi0) zs0))
   ·clear h2 h3 h4 h5
    rintro s' ⟨O, cy, k2, k3, k4, k5, k6, hw⟩
    refine SW_weak hw ?_
    clear hw
    have hend := mul_end (B := B32) (a := a) (b := b) (out := O) (i := i) (c := (cy : Int)) (by omega) (k4 _ (Nat.le_refl _)) (by rw [hx]; exact k6)
    refine SW_region ?_
    refine xn 4 [] [(59, .int .i64 (((List.length b) : Nat) : Int)), (57, .int .i64 (i : Int)), (56, .slice (some ⟨g0, 0, none⟩) (List.length a + List.length b + 1) (List.length a + List.length b + 1))] ?_
    refine xve 60 IntKind.i64 (IntKind.wrap IntKind.i64 ((i : Int) + (((List.length b) : Nat) : Int))) ((((i + List.length b) : Nat) : Int)) vn ?_
    refine xn 6 [] [(61, .int .u64 (cy : Int))] ?_
    refine xoi 62 22 (g0) (List.length a + List.length b + 1) (List.length a + List.length b + 1) (i + List.length b) IntKind.i64 ((((i + List.length b) : Nat) : Int)) ⟨rfl⟩ (by omega) ?_
    refine xos 0 (g0) (i + List.length b) IntKind.u64 (O) ([]) 22 ((cy : Int)) (by first | omega | (simp <;> omega)) ?_
    refine xz [] [] ?_
    refine SW_region ?_
    refine xn 1 [] [(21, .int .i64 (i : Int))] ?_
    refine xve 22 IntKind.i64 (IntKind.wrap IntKind.i64 ((i : Int) + 1)) ((((i + 1) : Nat) : Int)) vi ?_
    refine xz [] [(6, .int .i64 (((i + 1) : Nat) : Int))] ?_
    refine ⟨m, by omega, i + 1, _, by omega, by rw [List.length_set]; exact k2, k3.set _ (cast_dig32 k5), ?_, hend, ?_⟩
    ·have := k4.more (cy : Int)
     rwa [show i + b.length + 1 = i + 1 + b.length by omega] at this
    ·exact xw (zsS zi0 (zsS (ziS zi0) zs0))
  ·have z1 : decide ((i : Int) < (a.length : Int)) = false := decide_eq_false (by omega)
   obtain rfl : i = a.length := by omega
   rw [List.take_length] at h5
   have er : trimL O = r := norm_inj B32_pos h3.trim dr (norm_trim _) nr (by rw [val_trim, h5, vr])
   have ct := ct_spec_l1Trim O (some ⟨g0, 0, none⟩) O.length (by omega)
   rw [er] at ct
   refine SW_seq ?_
   refine xr [] [(20, .bool (decide ((((List.length a) : Nat) : Int) < (((List.length a) : Nat) : Int))))] ?_
   refine xsf z1 ?_
   refine SW_exit ?_
   refine xg ?_
   refine xn 1 [] [(63, .slice (some ⟨g0, 0, none⟩) (List.length a + List.length b + 1) (List.length a + List.length b + 1))] ?_
   refine NW_fz 0 (a.length + b.length + 1) g0 .u64 O [] 22 (by omega) (by omega) ?_
   rw [← h2]
   refine xcr 64 ct (zsS zi0 zs0) (fun A0 k0 => ?_)
   refine xz [] [(4, .slice A0 (List.length r) k0)] ?_
   refine SW_ret ?_
   refine xe (A0, k0) (.slice A0 (List.length r) k0) [] ?_ (zsS zi0 zs0)
   rfl
theorem half_veU (x : Nat) : Ve (shf .u64 (x : Int) 1) ((x / 2 : Nat) : Int) := ⟨by have := shf_nat x 1 (by decide); rw [show ((1 : Nat) : Int) = 1 from rfl] at this; rw [this]⟩
theorem IsBits.half {v k : Nat} (h : IsBits v (k + 1)) : IsBits (v / 2) k := by
 obtain ⟨h1, h2⟩ := h
 rw [Nat.pow_succ] at h1
 refine ⟨by omega, ?_⟩
 rcases h2 with h2 | h2
 ·omega
 ·rw [Nat.add_sub_cancel] at h2
  rcases Nat.eq_zero_or_pos k with h | h
  ·exact .inl h
  ·right
   rw [show k = (k - 1) + 1 by omega, Nat.pow_succ] at h2
   omega
theorem bits_top {B w : Nat} (hB : B = 2 ^ w) {l : List Int} (dl : Dig B l) (h : 0 < l.length) {m : Nat} (ht : IsBits (rd l ((l.length - 1 : Nat) : Int)).toNat m) (h0 : 0 < (rd l ((l.length - 1 : Nat) : Int)).toNat) : IsBits (val B l) (w * (l.length - 1) + m) := by
 have hp : 0 < B := by rw [hB]; exact Nat.pow_pos (by decide)
 have hv := val_mid B (l := l) (p := l.length - 1) (by omega)
 rw [show l.length - 1 + 1 = l.length by omega, List.drop_length] at hv
 have hlo := val_lt (dl.take (l.length - 1))
 rw [List.length_take, Nat.min_eq_left (by omega)] at hlo
 refine IsBits.up (s := w * (l.length - 1)) ?_ ?_
 ·rw [Nat.pow_mul, ← hB, hv]
  simp only [val, Nat.mul_zero, Nat.add_zero]
  rw [Nat.add_mul_div_left _ _ (Nat.pow_pos hp), Nat.div_eq_of_lt hlo, Nat.zero_add]
  exact ht
 ·rw [Nat.pow_mul, ← hB, hv]
  simp only [val, Nat.mul_zero, Nat.add_zero]
  rw [Nat.add_mul_div_left _ _ (Nat.pow_pos hp), Nat.div_eq_of_lt hlo, Nat.zero_add]
  exact h0
theorem ct_spec_l1Bits_rows (l : List Int) (A : Option Addr) (c : Nat) (dl : Dig B32 l) (nl : Norm l) (hl : l.length ≤ 1000000000) (m : Nat) (hm : IsBits (val B32 l) m) : CtV Tryd.prog 59 [.slice A l.length c] [Row .u64 A c l] (.int .i64 (m : Int)) := by
 refine ct_of Tryd.func59 rfl (by kernel_rfl) (fun B w0 => ?_)
 by_cases h0 : l.length = 0
 ·have z : ((l.length : Int) == 0) = true := beq_iff_eq.2 (by omega)
  obtain rfl := List.eq_nil_of_length_eq_zero h0
  obtain rfl : m = 0 := hm.uniq IsBits.zero
  refine xr [] [(2, .int .i64 0)] ?_
  refine SW_seq ?_
  refine xr [] [(7, .bool true)] ?_
  refine xs1 ?_
  refine xr [] [(2, .int .i64 0)] ?_
  refine SW_ret ?_
  refine xe () (.int .i64 0) [] ?_ trivial
  rfl
 ·have z : ((l.length : Int) == 0) = false := by rw [beq_eq_false_iff_ne]; omega
  refine SW_know zi0 (fun w h => row_at h (by omega)) (fun ⟨ad, e⟩ => ?_)
  subst e
  obtain ⟨t, ht, htB⟩ := nat_rd32 dl (l.length - 1)
  have ht0 : 0 < t := by
   have h := norm_last nl (by omega)
   rw [show ((l.length : Int) - 1) = ((l.length - 1 : Nat) : Int) by omega, ht] at h
   omega
  obtain ⟨k, hk, hk64⟩ := bits_of t (by omega)
  obtain rfl : m = 32 * (l.length - 1) + k := hm.uniq (bits_top B32_pow dl (by omega) (by rw [ht]; exact hk) (by rw [ht]; exact ht0))
  have v1 : Ve (rd l ((l.length - 1 : Nat) : Int)) (t : Int) := ⟨ht⟩
  have v2 : Ve (IntKind.i64.wrap ((l.length : Int) - 1)) ((l.length - 1 : Nat) : Int) := veI (by omega) (by omega)
  have v3 : Ve (IntKind.i64.wrap (32 * ((l.length - 1 : Nat) : Int))) ((32 * (l.length - 1) : Nat) : Int) := veI (by omega) (by omega)
  obtain ⟨T, hT⟩ : ∃ T, 32 * (l.length - 1) = T := ⟨_, rfl⟩
  have hT1 : T ≤ 32000000000 := by omega
  rw [hT] at v3
  rw [hT]
  refine xr [] [(2, .int .i64 0)] ?_
  refine SW_seq ?_
  refine xr [] [(7, .bool ((((List.length l) : Nat) : Int) == 0))] ?_
  refine xsf z ?_
  refine SW_skip ?_
  refine xg ?_
  refine xn 2 [] [(9, .int .i64 (((List.length l) : Nat) : Int))] ?_
  refine xve 10 IntKind.i64 (IntKind.wrap IntKind.i64 ((((List.length l) : Nat) : Int) - 1)) ((((List.length l - 1) : Nat) : Int)) v2 ?_
  refine xve 11 IntKind.i64 (IntKind.wrap IntKind.i64 (32 * (((List.length l - 1) : Nat) : Int))) ((T : Int)) v3 ?_
  refine xz [] [(3, .int .i64 (T : Int))] ?_
  refine SW_seq ?_
  refine xg ?_
  refine xn 3 [] [(14, .int .i64 (((List.length l) : Nat) : Int)), (12, .slice (some ad) (List.length l) c)] ?_
  refine xve 15 IntKind.i64 (IntKind.wrap IntKind.i64 ((((List.length l) : Nat) : Int) - 1)) ((((List.length l - 1) : Nat) : Int)) v2 ?_
  refine xfi 16 22 (ad) (List.length l) (c) (List.length l - 1) IntKind.i64 ((((List.length l - 1) : Nat) : Int)) ⟨rfl⟩ (by omega) ?_
  refine xfle 17 zi0 (List.length l - 1) ((t : Int)) v1 (by omega) ?_
  refine xz [] [(4, .int .u64 (t : Int))] ?_
  refine SW_then (fun s' => Weak s' ⟨[(3, .int .i64 ((T + k : Nat) : Int))], [], []⟩) ?_ ?_
  ·refine SW_block ?_
   refine SW_loopn (fun n s' => ∃ u i : Nat, IsBits u n ∧ u < 4294967296 ∧ i + n = T + k ∧ n ≤ 64 ∧ Weak s' ⟨[(3, .int .i64 (i : Int)), (4, .int .u64 (u : Int))], [], []⟩) k ⟨t, T, hk, htB, rfl, hk64, ?_⟩ (fun n s' hI => ?_)
   ·exact xw zs0
   ·obtain ⟨u, i, i1, i2, i3, i4, hw⟩ := hI
    refine SW_weak hw ?_
    clear hw
    by_cases hu : 0 < u
    ·have z1 : decide ((u : Int) > 0) = true := decide_eq_true (by omega)
     have hn := i1.pos hu
     obtain ⟨n, rfl⟩ : ∃ n', n = n' + 1 := ⟨n - 1, by omega⟩
     have v4 := half_veU u
     have v5 : Ve (IntKind.i64.wrap ((i : Int) + 1)) ((i + 1 : Nat) : Int) := veI (by omega) (by omega)
     refine SW_seq ?_
     refine xr [] [(19, .bool (decide ((u : Int) > 0)))] ?_
     refine xst z1 ?_
     refine SW_skip ?_
     refine SW_seq ?_
     refine SW_block ?_
     refine SW_region ?_
     refine xn 1 [] [(22, .int .i64 (i : Int))] ?_
     refine xve 23 IntKind.i64 (IntKind.wrap IntKind.i64 ((i : Int) + 1)) ((((i + 1) : Nat) : Int)) v5 ?_
     refine xz [] [(3, .int .i64 (((i + 1) : Nat) : Int))] ?_
     refine SW_region ?_
     refine xn 1 [] [(20, .int .u64 (u : Int))] ?_
     refine xve 21 IntKind.u64 (shf IntKind.u64 (u : Int) 1) ((((u / 2) : Nat) : Int)) v4 ?_
     refine xz [] [(4, .int .u64 (((u / 2) : Nat) : Int))] ?_
     refine ⟨n, by omega, u / 2, i + 1, i1.half, by omega, by omega, by omega, ?_⟩
     exact xw zs0
    ·have z1 : decide ((u : Int) > 0) = false := decide_eq_false (by omega)
     obtain rfl : u = 0 := by omega
     obtain rfl : n = 0 := i1.uniq IsBits.zero
     obtain rfl : i = T + k := by omega
     refine SW_seq ?_
     refine xr [] [(19, .bool false)] ?_
     refine xs0 ?_
     refine SW_exit ?_
     exact xw zs0
  ·rintro s' hw
   refine SW_weak hw ?_
   refine xr [] [(2, .int .i64 (((T + k) : Nat) : Int))] ?_
   refine SW_ret ?_
   refine xe () (.int .i64 (((T + k) : Nat) : Int)) [] ?_ trivial
   rfl
end Go.Proofs.YtdbnmdchecacdaaDoor.M
end
section
namespace Go.Proofs.YtdbnmdchecacdaaDoor.M
open Go.RowKit Go.Proofs.YtdbnmdchecacdaaDoor.G Go.Proofs.YtdbnmdchecacdaaDoorV.PrintWords Go.Proofs.YtdbnmdchecacdaaDoorV.PrintLast Go.Proofs.YtdbnmdchecacdaaDoor.X
set_option linter.unusedVariables false
set_option linter.unusedSimpArgs false
theorem quo32 (n : Nat) (h : n ≤ 9223372036854775807) : Ve (IntKind.i64.wrap (Int.tdiv (n : Int) 32)) ((n / 32 : Nat) : Int) := ⟨(Nn.w (Nn.div ⟨rfl⟩ ⟨rfl⟩ : Nn (Int.tdiv (n : Int) 32) (n / 32)) (by omega)).out⟩
theorem rem32 (n : Nat) : Ve (Int.tmod (n : Int) 32) ((n % 32 : Nat) : Int) := ⟨(Nn.mod ⟨rfl⟩ ⟨rfl⟩ : Nn (Int.tmod (n : Int) 32) (n % 32)).out⟩
theorem conv32 (n : Nat) : Ve (IntKind.u64.wrap ((n % 32 : Nat) : Int)) ((n % 32 : Nat) : Int) := veU rfl (by omega)
theorem bit_at {x z p : Nat} (hp : p < 32) : (x + B32 * z) / 2 ^ p % 2 = x / 2 ^ p % 2 := by
 have h1 := pow_split 32 p (by omega)
 have h2 : 2 ^ (32 - p) = 2 * 2 ^ (31 - p) := by rw [show 32 - p = (31 - p) + 1 by omega, Nat.pow_succ, Nat.mul_comm]
 rw [B32_pow, h1, Nat.mul_right_comm, Nat.add_mul_div_right _ _ (Nat.pow_pos (by decide)), h2, Nat.mul_assoc, Nat.add_mul_mod_self_left]
theorem val_bit {l : List Int} (dl : Dig B32 l) (n : Nat) {x : Nat} (hx : rd l ((n / 32 : Nat) : Int) = (x : Int)) : val B32 l / 2 ^ n % 2 = x / 2 ^ (n % 32) % 2 := by
 rw [pow_div_mod _ 32 n, ← B32_pow, ← val_drop B32 B32_pos dl]
 have h : val B32 (l.drop (n / 32)) = x + B32 * val B32 (l.drop (n / 32 + 1)) := by
  rcases Nat.lt_or_ge (n / 32) l.length with h | h
  ·have := val_drop_rd B32 h
   rwa [hx, Int.toNat_natCast] at this
  ·rw [List.drop_eq_nil_of_le h, List.drop_eq_nil_of_le (by omega)]
   have := rd_of_ge l ((n / 32 : Nat) : Int) (by rw [Int.toNat_natCast]; exact h)
   rw [hx] at this
   have : x = 0 := by omega
   rw [this]
   rfl
 rw [h, bit_at (Nat.mod_lt _ (by decide))]
theorem ct_spec_l1Bit_rows (l : List Int) (A : Option Addr) (c : Nat) (dl : Dig B32 l) (hl : l.length ≤ 1000000000) (N : Int) (n : Nat) (hN : Nn N n) (hn : n ≤ 100000000000) : CtV Tryd.prog 61 [.slice A l.length c, .int .i64 N] [Row .u64 A c l] (.int .u64 ((val B32 l / 2 ^ n % 2 : Nat) : Int)) := by
 obtain ⟨rfl⟩ := hN
 refine ct_of Tryd.func61 rfl (by kernel_rfl) (fun B w0 => ?_)
 obtain ⟨x, hx, hxB⟩ := nat_rd32 dl (n / 32)
 have v1 : Ve (rd l ((n / 32 : Nat) : Int)) (x : Int) := ⟨hx⟩
 have v2 := quo32 n (by omega)
 have v3 := rem32 n
 have v3' := conv32 n
 have v4 : Ve (shf .u64 (x : Int) ((n % 32 : Nat) : Int)) ((x / 2 ^ (n % 32) : Nat) : Int) := ⟨shf_nat x (n % 32) (by omega)⟩
 have v5 : Ve (bits .and .u64 ((x / 2 ^ (n % 32) : Nat) : Int) 1) ((x / 2 ^ (n % 32) % 2 : Nat) : Int) := ⟨and1 _ (by have := Nat.div_le_self x (2 ^ (n % 32)); omega)⟩
 rw [val_bit dl n hx]
 refine xr [] [(4, .int .u64 0)] ?_
 refine xg ?_
 refine xn 2 [] [(6, .int .i64 (n : Int)), (5, .slice A (List.length l) c)] ?_
 refine xve 7 IntKind.i64 (IntKind.wrap IntKind.i64 (Int.tdiv (n : Int) 32)) ((((n / 32) : Nat) : Int)) v2 ?_
 refine xcv 8 (ct_spec_l1At (l) (A) (c) ((((n / 32) : Nat) : Int)) (n / 32) ⟨rfl⟩ ((x : Int)) v1 (by omega)) (zsS zi0 zs0) ?_
 refine xn 5 [] [(9, .int .i64 (n : Int))] ?_
 refine xve 10 IntKind.i64 (Int.tmod (n : Int) 32) ((((n % 32) : Nat) : Int)) v3 ?_
 refine xve 11 IntKind.u64 (IntKind.wrap IntKind.u64 (((n % 32) : Nat) : Int)) ((((n % 32) : Nat) : Int)) v3' ?_
 refine xve 12 IntKind.u64 (shf IntKind.u64 (x : Int) (((n % 32) : Nat) : Int)) ((((x / 2 ^ (n % 32)) : Nat) : Int)) v4 ?_
 refine xve 13 IntKind.u64 (bits BinOp.and IntKind.u64 (((x / 2 ^ (n % 32)) : Nat) : Int) 1) ((((x / 2 ^ (n % 32) % 2) : Nat) : Int)) v5 ?_
 refine xz [] [(4, .int .u64 (((x / 2 ^ (n % 32) % 2) : Nat) : Int))] ?_
 refine SW_ret ?_
 refine xe () (.int .u64 (((x / 2 ^ (n % 32) % 2) : Nat) : Int)) [] ?_ trivial
 rfl
theorem left32 {a O : List Int} {i x p cy : Nat} (hx : rd a (i : Int) = (x : Int)) (hl : O.length = i) (hv : val B32 O + B32 ^ i * cy = val B32 (a.take i) * 2 ^ p) :
  val B32 (O ++ [(((x * 2 ^ p + cy) % 4294967296 : Nat) : Int)]) + B32 ^ (i + 1) * ((x * 2 ^ p + cy) / 4294967296) = val B32 (a.take (i + 1)) * 2 ^ p := by
 rw [val_snoc, val_take_succ, hl, hx, Nat.pow_succ, Nat.mul_assoc, Nat.add_mul, ← hv, Nat.mul_assoc]
 simp only [Int.toNat_natCast]
 rw [show B32 * ((x * 2 ^ p + cy) / 4294967296) = 4294967296 * ((x * 2 ^ p + cy) / 4294967296) from rfl]
 have h := congrArg (B32 ^ i * ·) (Nat.mod_add_div (x * 2 ^ p + cy) 4294967296)
 generalize (x * 2 ^ p + cy) % 4294967296 = m at *
 generalize 4294967296 * ((x * 2 ^ p + cy) / 4294967296) = q at *
 generalize B32 ^ i = P at *
 simp only [Nat.mul_add] at h ⊢
 omega
theorem ct_spec_l1Left_rows (a : List Int) (A : Option Addr) (c : Nat) (da : Dig B32 a) (hla : a.length ≤ 1000000000) (N : Int) (n : Nat) (hN : Nn N n) (hn : n ≤ 100000000000) : ∀ r, Dig B32 r → Norm r → val B32 r = val B32 a * 2 ^ n → CtR Tryd.prog 92 [.slice A a.length c, .int .i64 N] [Row .u64 A c a] .u64 r := by
 intro r dr nr vr
 obtain ⟨rfl⟩ := hN
 refine ct_of Tryd.func92 rfl (by kernel_rfl) (fun B w0 => ?_)
 have v2 := quo32 n (by omega)
 have v3 := rem32 n
 have v3' := conv32 n
 obtain ⟨q, hq⟩ : ∃ q, n / 32 = q := ⟨_, rfl⟩
 have hp : n % 32 < 32 := Nat.mod_lt _ (by decide)
 obtain ⟨p, hpe⟩ : ∃ p, n % 32 = p := ⟨_, rfl⟩
 have hsp : val B32 a * 2 ^ n = B32 ^ q * (val B32 a * 2 ^ p) := by rw [pow_mul_mod _ 32 n, hq, hpe, ← B32_pow]
 have hq1 : q ≤ 10000000000 := by omega
 rw [hq] at v2
 rw [hpe] at v3 v3' hp
 clear hq hpe
 have hP : 0 < 2 ^ p := Nat.pow_pos (by decide)
 have hP1 : 2 ^ p ≤ 2147483648 := by
  have : 2 ^ p ≤ 2 ^ 31 := Nat.pow_le_pow_right (by decide) (by omega)
  exact this
 refine xr [] [(4, .slice none 0 0)] ?_
 refine xg ?_
 refine xn 1 [] [(9, .int .i64 (n : Int))] ?_
 refine xve 10 IntKind.i64 (IntKind.wrap IntKind.i64 (Int.tdiv (n : Int) 32)) ((q : Int)) v2 ?_
 refine xma 11 22 (q) IntKind.u64 8 ((q : Int)) ⟨rfl⟩ (by omega) (fun g0 => ?_)
 refine xz [] [(5, .slice (some ⟨g0, 0, none⟩) q q)] ?_
 refine xr [] [(6, .int .u64 0)] ?_
 refine SW_seq ?_
 refine xr [] [(7, .int .i64 0)] ?_
 refine SW_then (fun s' => ∃ (sl : Value) (bs : List Box) (O : List Int), Own 22 .u64 sl bs (List.replicate q 0 ++ O) ∧ Dig B32 O ∧ O.length = a.length + 1 ∧ val B32 O = val B32 a * 2 ^ p ∧ Weak s' ⟨[(5, sl)], bs, []⟩) ?_ ?_
 ·refine SW_block ?_
  refine SW_loopn (fun m s' => ∃ (sl : Value) (bs : List Box) (O : List Int) (i cy : Nat), m + i = a.length + 1 ∧ Own 22 .u64 sl bs (List.replicate q 0 ++ O) ∧ Dig B32 O ∧ O.length = i ∧ cy < 2 ^ p ∧ val B32 O + B32 ^ i * cy = val B32 (a.take i) * 2 ^ p ∧ Weak s' ⟨[(0, .slice A a.length c), (1, .int .i64 (n : Int)), (5, sl), (6, .int .u64 (cy : Int)), (7, .int .i64 (i : Int))], bs, [Row .u64 A c a]⟩) (a.length + 1) ⟨.slice (some ⟨g0, 0, none⟩) q q, [⟨g0, cl .u64 (List.replicate q 0) [], 22⟩], [], 0, 0, rfl, .inr ⟨g0, [], q, by simp, by simp, by simp⟩, Dig.nil _, rfl, hP, by simp [val], ?_⟩ (fun m s' hI => ?_)
  ·exact xw (zsS zi0 zs0)
  ·obtain ⟨sl0, bs0, O, i, cy, k1, hO0, k3, k4, k5, k6, hw⟩ := hI
   refine SW_weak hw ?_
   clear hw
   by_cases hi : i ≤ a.length
   ·have z : decide ((i : Int) ≤ (a.length : Int)) = true := decide_eq_true (by omega)
    obtain ⟨m, rfl⟩ : ∃ m', m = m' + 1 := ⟨m - 1, by omega⟩
    obtain ⟨x, hx, hxB⟩ := nat_rd32 da i
    have v1 : Ve (rd a (i : Int)) (x : Int) := ⟨hx⟩
    have hmx : x * 2 ^ p ≤ 4294967295 * 2 ^ p := Nat.mul_le_mul_right _ (by omega)
    have v4 : Ve (shl .u64 (x : Int) (p : Int)) ((x * 2 ^ p : Nat) : Int) := ⟨by rw [shl_nat x p (by omega), Nat.mod_eq_of_lt (by omega)]⟩
    have v5 : Ve (bits .or .u64 ((x * 2 ^ p : Nat) : Int) (cy : Int)) ((x * 2 ^ p + cy : Nat) : Int) := ⟨or_nat p (x * 2 ^ p) cy (by omega) (by omega) (Nat.dvd_mul_left _ _) k5⟩
    have v6 := low_ve (x * 2 ^ p + cy) (by omega)
    have v7 := high_ve (x * 2 ^ p + cy)
    have v8 : Ve (IntKind.i64.wrap ((i : Int) + 1)) ((i + 1 : Nat) : Int) := veI (by omega) (by omega)
    have hst := left32 hx k4 k6
    refine SW_seq ?_
    refine xr [] [(15, .bool (decide ((i : Int) ≤ (((List.length a) : Nat) : Int))))] ?_
    refine xst z ?_
    refine SW_skip ?_
    refine SW_seq ?_
    refine SW_block ?_
    refine xg ?_
    refine xn 2 [] [(19, .int .i64 (i : Int)), (18, .slice A (List.length a) c)] ?_
    refine xcv 20 (ct_spec_l1At (a) (A) (c) ((i : Int)) (i) ⟨rfl⟩ ((x : Int)) v1 (by omega)) (zsS zi0 zs0) ?_
    refine xn 4 [] [(21, .int .i64 (n : Int))] ?_
    refine xve 22 IntKind.i64 (Int.tmod (n : Int) 32) ((p : Int)) v3 ?_
    refine xve 23 IntKind.u64 (IntKind.wrap IntKind.u64 (p : Int)) ((p : Int)) v3' ?_
    refine xve 24 IntKind.u64 (shl IntKind.u64 (x : Int) (p : Int)) ((((x * 2 ^ p) : Nat) : Int)) v4 ?_
    refine xn 8 [] [(25, .int .u64 (cy : Int))] ?_
    refine xve 26 IntKind.u64 (bits BinOp.or IntKind.u64 (((x * 2 ^ p) : Nat) : Int) (cy : Int)) ((((x * 2 ^ p + cy) : Nat) : Int)) v5 ?_
    refine xz [] [(8, .int .u64 (((x * 2 ^ p + cy) : Nat) : Int))] ?_
    refine xg ?_
    refine xn 2 [] [(28, .int .u64 (((x * 2 ^ p + cy) : Nat) : Int)), (27, sl0)] ?_
    refine xve 29 IntKind.u64 (bits BinOp.and IntKind.u64 (((x * 2 ^ p + cy) : Nat) : Int) 4294967295) (((((x * 2 ^ p + cy) % 4294967296) : Nat) : Int)) v6 ?_
    refine xbl 30 [.int .u64 ((((x * 2 ^ p + cy) % 4294967296) : Nat) : Int)] 22 1 (fun g1 => ?_)
    refine xow 31 8 (g1) (1) [((((x * 2 ^ p + cy) % 4294967296) : Nat) : Int)] hO0 (by first | omega | (simp <;> omega)) (fun sl1 bs1 hO1 => ?_)
    refine xz [] [(5, sl1)] ?_
    refine SW_region ?_
    refine xn 1 [] [(32, .int .u64 (((x * 2 ^ p + cy) : Nat) : Int))] ?_
    refine xve 33 IntKind.u64 (shf IntKind.u64 (((x * 2 ^ p + cy) : Nat) : Int) 32) (((((x * 2 ^ p + cy) / 4294967296) : Nat) : Int)) v7 ?_
    refine xz [] [(6, .int .u64 ((((x * 2 ^ p + cy) / 4294967296) : Nat) : Int))] ?_
    refine SW_region ?_
    refine xn 1 [] [(16, .int .i64 (i : Int))] ?_
    refine xve 17 IntKind.i64 (IntKind.wrap IntKind.i64 ((i : Int) + 1)) ((((i + 1) : Nat) : Int)) v8 ?_
    refine xz [] [(7, .int .i64 (((i + 1) : Nat) : Int))] ?_
    refine ⟨m, by omega, sl1, bs1, O ++ [(((x * 2 ^ p + cy) % 4294967296 : Nat) : Int)], i + 1, (x * 2 ^ p + cy) / 4294967296, by omega, by rw [← List.append_assoc]; exact hO1, k3.snoc (cast_dig32 (Nat.mod_lt _ (by decide))), by rw [List.length_append, k4]; rfl, by omega, hst, ?_⟩
    exact xw (zsS zi0 zs0)
   ·have z : decide ((i : Int) ≤ (a.length : Int)) = false := decide_eq_false (by omega)
    obtain rfl : i = a.length + 1 := by omega
    rw [List.take_of_length_le (by omega)] at k6
    have hcy : cy = 0 := by
     rcases Nat.eq_zero_or_pos cy with h | h
     ·exact h
     ·have h1 := val_lt da
      have h2 := Nat.mul_le_mul (Nat.le_of_lt h1) hP1
      have h3 := Nat.mul_le_mul_left (B32 ^ (a.length + 1)) h
      rw [Nat.pow_succ] at h3 k6
      have h4 : B32 ^ a.length * 2147483648 < B32 ^ a.length * B32 := Nat.mul_lt_mul_of_pos_left (by unfold B32; decide) (Nat.pow_pos B32_pos)
      omega
    rw [hcy, Nat.mul_zero, Nat.add_zero] at k6
    refine SW_seq ?_
    refine xr [] [(15, .bool (decide ((((List.length a + 1) : Nat) : Int) ≤ (((List.length a) : Nat) : Int))))] ?_
    refine xsf z ?_
    refine SW_exit ?_
    refine ⟨sl0, bs0, O, hO0, k3, k4, k6, ?_⟩
    exact xw zs0
 ·rintro s' ⟨sl, bs, O, hO, dO, lO, vO, hw⟩
  refine SW_weak hw ?_
  clear hw
  have lQ : (List.replicate q 0 ++ O).length = q + a.length + 1 := by rw [List.length_append, List.length_replicate, lO]; omega
  have dQ : Dig B32 (List.replicate q 0 ++ O) := (Dig.zeros B32_pos q).append dO
  have vQ : val B32 (List.replicate q 0 ++ O) = val B32 r := by rw [val_append, val_zeros, List.length_replicate, Nat.zero_add, vO, vr, hsp]
  obtain ⟨Q, hQ⟩ : ∃ Q, List.replicate q 0 ++ O = Q := ⟨_, rfl⟩
  rw [hQ] at hO lQ dQ vQ
  refine SW_own hO (by omega) (fun Ao co e => ?_)
  subst e
  have er : trimL Q = r := norm_inj B32_pos dQ.trim dr (norm_trim _) nr (by rw [val_trim, vQ])
  have ct := ct_spec_l1Trim Q Ao co (by omega)
  rw [er] at ct
  refine xg ?_
  refine xn 1 [] [(34, .slice Ao (List.length Q) co)] ?_
  refine xcr 35 ct (zsS zi0 zs0) (fun A0 k0 => ?_)
  refine xz [] [(4, .slice A0 (List.length r) k0)] ?_
  refine SW_ret ?_
  refine xe (A0, k0) (.slice A0 (List.length r) k0) [] ?_ (zsS zi0 zs0)
  rfl
theorem ct_spec_l1Right_rows (a : List Int) (A : Option Addr) (c : Nat) (da : Dig B32 a) (hla : a.length ≤ 1000000000) (N : Int) (n : Nat) (hN : Nn N n) (hn : n ≤ 100000000000) : ∀ r, Dig B32 r → Norm r → val B32 r = val B32 a / 2 ^ n → CtR Tryd.prog 91 [.slice A a.length c, .int .i64 N] [Row .u64 A c a] .u64 r := by
 intro r dr nr vr
 obtain ⟨rfl⟩ := hN
 refine ct_of Tryd.func91 rfl (by kernel_rfl) (fun B w0 => ?_)
 have v2 := quo32 n (by omega)
 have v3 := rem32 n
 have v3' := conv32 n
 obtain ⟨q, hq⟩ : ∃ q, n / 32 = q := ⟨_, rfl⟩
 have hp : n % 32 < 32 := Nat.mod_lt _ (by decide)
 obtain ⟨p, hpe⟩ : ∃ p, n % 32 = p := ⟨_, rfl⟩
 have hsp : val B32 a / 2 ^ n = val B32 a / B32 ^ q / 2 ^ p := by rw [pow_div_mod _ 32 n, hq, hpe, ← B32_pow]
 have hq1 : q ≤ 10000000000 := by omega
 rw [hq] at v2
 rw [hpe] at v3 v3' hp
 clear hq hpe
 have hP : 0 < 2 ^ p := Nat.pow_pos (by decide)
 obtain ⟨l, hl⟩ : ∃ l, a.drop q = l := ⟨_, rfl⟩
 have ll : l.length = a.length - q := by rw [← hl]; exact List.length_drop ..
 have dl : Dig B32 l := by rw [← hl]; exact da.drop q
 have vl : val B32 l = val B32 a / B32 ^ q := by rw [← hl]; exact val_drop B32 B32_pos da q
 have rl : ∀ k : Nat, rd a ((q + k : Nat) : Int) = rd l (k : Int) := fun k => by rw [← hl, rd_drop]
 have lsr : (sr B32 (2 ^ p) l).length = l.length := sr_length _ _ l
 refine xr [] [(4, .slice none 0 0)] ?_
 refine xr [] [(5, .slice none 0 0)] ?_
 refine SW_seq ?_
 refine xg ?_
 refine xn 1 [] [(8, .int .i64 (n : Int))] ?_
 refine xve 9 IntKind.i64 (IntKind.wrap IntKind.i64 (Int.tdiv (n : Int) 32)) ((q : Int)) v2 ?_
 refine xz [] [(6, .int .i64 (q : Int))] ?_
 refine SW_then (fun s' => ∃ (sl : Value) (bs : List Box), Own 22 .u64 sl bs (sr B32 (2 ^ p) l) ∧ Weak s' ⟨[(5, sl)], bs, []⟩) ?_ ?_
 ·refine SW_block ?_
  refine SW_loopn (fun m s' => ∃ (sl : Value) (bs : List Box) (k : Nat), m + k = l.length ∧ Own 22 .u64 sl bs ((sr B32 (2 ^ p) l).take k) ∧ Weak s' ⟨[(0, .slice A a.length c), (1, .int .i64 (n : Int)), (5, sl), (6, .int .i64 ((q + k : Nat) : Int))], bs, [Row .u64 A c a]⟩) l.length ⟨_, _, 0, rfl, Own.nil 22 .u64, ?_⟩ (fun m s' hI => ?_)
  ·exact xw (zsS zi0 zs0)
  ·obtain ⟨sl0, bs0, k, k1, hO0, hw⟩ := hI
   refine SW_weak hw ?_
   clear hw
   by_cases hi : k < l.length
   ·have z : decide (((q + k : Nat) : Int) < (a.length : Int)) = true := decide_eq_true (by omega)
    obtain ⟨m, rfl⟩ : ∃ m', m = m' + 1 := ⟨m - 1, by omega⟩
    obtain ⟨x, hx, hxB⟩ := nat_rd32 dl k
    obtain ⟨y, hy, hyB⟩ := nat_rd32 dl (k + 1)
    have v1 : Ve (rd a ((q + k : Nat) : Int)) (x : Int) := ⟨by rw [rl, hx]⟩
    have v1' : Ve (rd a ((q + k + 1 : Nat) : Int)) (y : Int) := ⟨by rw [Nat.add_assoc, rl, hy]⟩
    have v4 : Ve (shl .u64 (y : Int) 32) ((y * 4294967296 : Nat) : Int) := ⟨by have := shl_nat y 32 (by omega); rw [show ((32 : Nat) : Int) = 32 from rfl] at this; rw [this]; omega⟩
    have v5 : Ve (bits .or .u64 (x : Int) ((y * 4294967296 : Nat) : Int)) ((x + y * 4294967296 : Nat) : Int) := ⟨or_nat' 32 (y * 4294967296) x (by omega) (by omega) (Nat.dvd_mul_left _ _) hxB⟩
    have v6 : Ve (shf .u64 ((x + y * 4294967296 : Nat) : Int) (p : Int)) (((x + y * 4294967296) / 2 ^ p : Nat) : Int) := ⟨shf_nat _ p (by omega)⟩
    have v7 := low_ve ((x + y * 4294967296) / 2 ^ p) (by have := Nat.div_le_self (x + y * 4294967296) (2 ^ p); omega)
    have v8 : Ve (IntKind.i64.wrap (((q + k : Nat) : Int) + 1)) ((q + k + 1 : Nat) : Int) := veI (by omega) (by omega)
    have hs := sr_take (B := B32) (P := 2 ^ p) hi (y := (((x + y * 4294967296) / 2 ^ p % 4294967296 : Nat) : Int)) (by
     rw [hx, hy, Int.toNat_natCast, Int.toNat_natCast, ← div_split hP (show x < B32 from hxB), Nat.mul_comm y]
     rfl)
    refine SW_seq ?_
    refine xr [] [(13, .bool (decide ((((q + k) : Nat) : Int) < (((List.length a) : Nat) : Int))))] ?_
    refine xst z ?_
    refine SW_skip ?_
    refine SW_seq ?_
    refine SW_block ?_
    refine xg ?_
    refine xn 2 [] [(17, .int .i64 (((q + k) : Nat) : Int)), (16, .slice A (List.length a) c)] ?_
    refine xcv 18 (ct_spec_l1At (a) (A) (c) ((((q + k) : Nat) : Int)) (q + k) ⟨rfl⟩ ((x : Int)) v1 (by omega)) (zsS zi0 zs0) ?_
    refine xn 5 [] [(20, .int .i64 (((q + k) : Nat) : Int)), (19, .slice A (List.length a) c)] ?_
    refine xve 21 IntKind.i64 (IntKind.wrap IntKind.i64 ((((q + k) : Nat) : Int) + 1)) ((((q + k + 1) : Nat) : Int)) v8 ?_
    refine xcv 22 (ct_spec_l1At (a) (A) (c) ((((q + k + 1) : Nat) : Int)) (q + k + 1) ⟨rfl⟩ ((y : Int)) v1' (by omega)) (zsS zi0 zs0) ?_
    refine xve 23 IntKind.u64 (shl IntKind.u64 (y : Int) 32) ((((y * 4294967296) : Nat) : Int)) v4 ?_
    refine xve 24 IntKind.u64 (bits BinOp.or IntKind.u64 (x : Int) (((y * 4294967296) : Nat) : Int)) ((((x + y * 4294967296) : Nat) : Int)) v5 ?_
    refine xz [] [(7, .int .u64 (((x + y * 4294967296) : Nat) : Int))] ?_
    refine SW_region ?_
    refine xn 3 [] [(27, .int .i64 (n : Int)), (26, .int .u64 (((x + y * 4294967296) : Nat) : Int)), (25, sl0)] ?_
    refine xve 28 IntKind.i64 (Int.tmod (n : Int) 32) ((p : Int)) v3 ?_
    refine xve 29 IntKind.u64 (IntKind.wrap IntKind.u64 (p : Int)) ((p : Int)) v3' ?_
    refine xve 30 IntKind.u64 (shf IntKind.u64 (((x + y * 4294967296) : Nat) : Int) (p : Int)) (((((x + y * 4294967296) / 2 ^ p) : Nat) : Int)) v6 ?_
    refine xve 31 IntKind.u64 (bits BinOp.and IntKind.u64 ((((x + y * 4294967296) / 2 ^ p) : Nat) : Int) 4294967295) (((((x + y * 4294967296) / 2 ^ p % 4294967296) : Nat) : Int)) v7 ?_
    refine xbl 32 [.int .u64 ((((x + y * 4294967296) / 2 ^ p % 4294967296) : Nat) : Int)] 22 1 (fun g0 => ?_)
    refine xow 33 8 (g0) (1) [((((x + y * 4294967296) / 2 ^ p % 4294967296) : Nat) : Int)] hO0 (by first | omega | (simp <;> omega)) (fun sl1 bs1 hO1 => ?_)
    refine xz [] [(5, sl1)] ?_
    refine SW_region ?_
    refine xn 1 [] [(14, .int .i64 (((q + k) : Nat) : Int))] ?_
    refine xve 15 IntKind.i64 (IntKind.wrap IntKind.i64 ((((q + k) : Nat) : Int) + 1)) ((((q + k + 1) : Nat) : Int)) v8 ?_
    refine xz [] [(6, .int .i64 (((q + k + 1) : Nat) : Int))] ?_
    rw [hs] at hO1
    refine ⟨m, by omega, sl1, bs1, k + 1, by omega, hO1, ?_⟩
    exact xw (zsS zi0 zs0)
   ·have z : decide (((q + k : Nat) : Int) < (a.length : Int)) = false := decide_eq_false (by omega)
    rw [List.take_of_length_le (by omega)] at hO0
    refine SW_seq ?_
    refine xr [] [(13, .bool (decide ((((q + k) : Nat) : Int) < (((List.length a) : Nat) : Int))))] ?_
    refine xsf z ?_
    refine SW_exit ?_
    refine ⟨sl0, bs0, hO0, ?_⟩
    exact xw zs0
 ·rintro s' ⟨sl, bs, hO, hw⟩
  refine SW_weak hw ?_
  clear hw
  have er : trimL (sr B32 (2 ^ p) l) = r := norm_inj B32_pos (sr_dig hP l dl).trim dr (norm_trim _) nr (by rw [val_trim, sr_val hP (by rw [B32_pow]; exact Nat.pow_dvd_pow 2 (by omega)), vl, vr, hsp])
  obtain ⟨Q, hQ⟩ : ∃ Q, sr B32 (2 ^ p) l = Q := ⟨_, rfl⟩
  rw [hQ] at hO er lsr
  refine SW_own hO (by omega) (fun Ao co e => ?_)
  subst e
  have ct := ct_spec_l1Trim Q Ao co (by omega)
  rw [er] at ct
  refine xg ?_
  refine xn 1 [] [(34, .slice Ao (List.length Q) co)] ?_
  refine xcr 35 ct (zsS zi0 zs0) (fun A0 k0 => ?_)
  refine xz [] [(4, .slice A0 (List.length r) k0)] ?_
  refine SW_ret ?_
  refine xe (A0, k0) (.slice A0 (List.length r) k0) [] ?_ (zsS zi0 zs0)
  rfl
end Go.Proofs.YtdbnmdchecacdaaDoor.M
end
section
namespace Go.Proofs.YtdbnmdchecacdaaDoor.M
open Go.RowKit Go.Proofs.YtdbnmdchecacdaaDoor.G Go.Proofs.YtdbnmdchecacdaaDoorV.PrintWords Go.Proofs.YtdbnmdchecacdaaDoorV.PrintLast Go.Proofs.YtdbnmdchecacdaaDoor.X
set_option linter.unusedVariables false
set_option linter.unusedSimpArgs false
theorem digits_exist {B : Nat} (hB : 2 ≤ B) (n : Nat) : ∃ l, Dig B l ∧ Norm l ∧ val B l = n := by
  induction n using Nat.strongRecOn with
  | _ n ih =>
    by_cases h0 : n = 0
    · exact ⟨[], Dig.nil _, norm_nil, by rw [h0]; rfl⟩
    · obtain ⟨l, h1, h2, h3⟩ := ih (n / B) (Nat.div_lt_self (by omega) hB)
      have hm : n % B < B := Nat.mod_lt _ (by omega)
      have hv : val B (((n % B : Nat) : Int) :: l) = n := by
        rw [val_cons, h3, Int.toNat_natCast]
        exact Nat.mod_add_div n B
      refine ⟨((n % B : Nat) : Int) :: l, Dig.cons ⟨by omega, by omega⟩ h1, ?_, hv⟩
      rcases Nat.eq_zero_or_pos l.length with hl | hl
      · have : l = [] := List.eq_nil_of_length_eq_zero hl
        subst this
        have h4 : n / B = 0 := by rw [← h3]; rfl
        have h5 : n % B = n := Nat.mod_eq_of_lt (by
          rcases Nat.lt_or_ge n B with h | h
          · exact h
          · have := Nat.div_pos h (by omega); omega)
        have : ((((n % B : Nat) : Int)) :: ([] : List Int)) = [] ++ [((n % B : Nat) : Int)] := rfl
        rw [this, norm_snoc, h5]
        omega
      · obtain ⟨a, y, rfl⟩ := snoc_of hl
        have : (((n % B : Nat) : Int)) :: (a ++ [y]) = (((n % B : Nat) : Int) :: a) ++ [y] := rfl
        rw [this, norm_snoc]
        exact norm_snoc.1 h2
noncomputable def ofN (B n : Nat) : List Int := @dite _ (∃ l, Dig B l ∧ Norm l ∧ val B l = n) (Classical.propDecidable _) (fun h => Classical.choose h) (fun _ => [])
theorem ofN_spec {B : Nat} (hB : 2 ≤ B) (n : Nat) : Dig B (ofN B n) ∧ Norm (ofN B n) ∧ val B (ofN B n) = n := by
  unfold ofN
  rw [dif_pos (digits_exist hB n)]
  exact Classical.choose_spec (digits_exist hB n)
theorem B32_2 : 2 ≤ B32 := by unfold B32; omega
theorem B64_2 : 2 ≤ B64 := by unfold B64; omega
theorem ofN_zero {B : Nat} (hB : 2 ≤ B) (n : Nat) : (ofN B n).length = 0 ↔ n = 0 := by
  obtain ⟨k1, k2, k3⟩ := ofN_spec hB n
  have := norm_zero (by omega) k1 k2
  rw [k3] at this
  rw [← this]
  exact ⟨fun h => List.eq_nil_of_length_eq_zero h, fun h => by rw [h]; rfl⟩
theorem ofN_nil {B : Nat} (hB : 2 ≤ B) : ofN B 0 = [] := List.eq_nil_of_length_eq_zero ((ofN_zero hB 0).2 rfl)
theorem ofN_len {B : Nat} (hB : 2 ≤ B) {n k : Nat} (h : n < B ^ k) : (ofN B n).length ≤ k := by
  obtain ⟨k1, k2, k3⟩ := ofN_spec hB n
  rcases Nat.lt_or_ge k (ofN B n).length with hk | hk
  · have h1 := val_ge k1 k2 (by omega)
    rw [k3] at h1
    have h2 := Nat.pow_le_pow_right (n := B) (by omega) (show k ≤ (ofN B n).length - 1 by omega)
    omega
  · exact hk
def capL : Nat := 100000
def Sm (n : Nat) : Prop := n < B32 ^ capL
theorem capL_le : capL ≤ 100000 := Nat.le_refl _
theorem Sm.len {n : Nat} (h : Sm n) : (ofN B32 n).length ≤ 100000 := by
  unfold Sm at h
  exact Nat.le_trans (ofN_len B32_2 h) capL_le
theorem pow_base {n : Nat} : B32 ^ n = 2 ^ (32 * n) := by rw [show B32 = 2 ^ 32 from rfl, ← Nat.pow_mul]
theorem Sm.of {n k : Nat} (h : n < 2 ^ k) (hk : k ≤ 3200000) : Sm n := by
  unfold Sm
  rw [pow_base]
  exact Nat.lt_of_lt_of_le h (Nat.pow_le_pow_right (by decide) (by unfold capL; omega))
theorem Sm.mono {n m : Nat} (h : Sm m) (hn : n ≤ m) : Sm n := Nat.lt_of_le_of_lt hn h
theorem wsi {x : Int} (h : -9223372036854775808 ≤ x ∧ x ≤ 9223372036854775807) : IntKind.i64.wrap x = x := wrap_i64 h
structure Wd (h l : Int) (x : Nat) : Prop where
  hi : h = hiI x
  lo : l = loI x
theorem B64_sq : B64 = B32 ^ 2 := by decide
def capH : Nat := 50000
theorem capL_half : capL = 2 * capH := by unfold capL capH; rfl
theorem capH_le : capH ≤ 50000 := Nat.le_refl _
theorem Sm.len64 {n : Nat} (h : Sm n) : (ofN B64 n).length ≤ 50000 := by
  unfold Sm at h
  rw [capL_half, Nat.pow_mul, ← B64_sq] at h
  exact Nat.le_trans (ofN_len B64_2 h) capH_le
def prtV (u : Prt) : Value := .agg #[.int .i64 u.1, .bool u.2.1, .int .u64 u.2.2.1, .int .u64 u.2.2.2.1, .int .i64 u.2.2.2.2]
abbrev dscV (P : Nat) (emin emax : Int) (W E : Nat) (ex : Bool) : Value := .agg #[.int .i64 P, .int .i64 emin, .int .i64 emax, .int .i64 W, .int .i64 E, .bool ex]
section
theorem ct_spec_l1Of (a : Int) (n : Nat) (ha : Nn a n) (hn : n < 18446744073709551616) : CtR Tryd.prog 90 [.int .u64 a] [] .u64 (ofN B32 n) := by
  obtain ⟨d, m, v⟩ := ofN_spec B32_2 n
  exact ct_spec_l1Of_rows a n ha hn _ d m v
theorem ct_spec_l1Bits (x : Nat) (A : Option Addr) (c : Nat) (hx : Sm x) (m : Nat) (hm : IsBits x m) : CtV Tryd.prog 59 [.slice A (ofN B32 x).length c] [Row .u64 A c (ofN B32 x)] (.int .i64 m) := by
  obtain ⟨d, n, v⟩ := ofN_spec B32_2 x
  have hl := hx.len
  exact ct_spec_l1Bits_rows _ A c d n (by omega) m (by rw [v]; exact hm)
theorem ct_spec_l1Bit (x : Nat) (A : Option Addr) (c : Nat) (a : Int) (i : Nat) (ha : Nn a i) (hi : i ≤ 100000000000) (hx : Sm x) : CtV Tryd.prog 61 [.slice A (ofN B32 x).length c, .int .i64 a] [Row .u64 A c (ofN B32 x)] (.int .u64 ((x / 2 ^ i % 2 : Nat) : Int)) := by
  obtain ⟨d, n, v⟩ := ofN_spec B32_2 x
  have hl := hx.len
  have := ct_spec_l1Bit_rows _ A c d (by omega) a i ha hi
  rwa [v] at this
theorem ct_spec_l1Left (x : Nat) (A : Option Addr) (c : Nat) (a : Int) (i : Nat) (ha : Nn a i) (hi : i ≤ 100000000000) (hx : Sm x) : CtR Tryd.prog 92 [.slice A (ofN B32 x).length c, .int .i64 a] [Row .u64 A c (ofN B32 x)] .u64 (ofN B32 (x * 2 ^ i)) := by
  obtain ⟨d, n, v⟩ := ofN_spec B32_2 x
  obtain ⟨d2, n2, v2⟩ := ofN_spec B32_2 (x * 2 ^ i)
  have hl := hx.len
  exact ct_spec_l1Left_rows _ A c d (by omega) a i ha hi _ d2 n2 (by rw [v2, v])
theorem ct_spec_l1Right (x : Nat) (A : Option Addr) (c : Nat) (a : Int) (i : Nat) (ha : Nn a i) (hi : i ≤ 100000000000) (hx : Sm x) : CtR Tryd.prog 91 [.slice A (ofN B32 x).length c, .int .i64 a] [Row .u64 A c (ofN B32 x)] .u64 (ofN B32 (x / 2 ^ i)) := by
  obtain ⟨d, n, v⟩ := ofN_spec B32_2 x
  obtain ⟨d2, n2, v2⟩ := ofN_spec B32_2 (x / 2 ^ i)
  have hl := hx.len
  exact ct_spec_l1Right_rows _ A c d (by omega) a i ha hi _ d2 n2 (by rw [v2, v])
theorem ct_spec_l1Add (x y : Nat) (A A' : Option Addr) (c c' : Nat) (hx : Sm x) (hy : Sm y) : CtR Tryd.prog 63 [.slice A (ofN B32 x).length c, .slice A' (ofN B32 y).length c'] [Row .u64 A c (ofN B32 x), Row .u64 A' c' (ofN B32 y)] .u64 (ofN B32 (x + y)) := by
  obtain ⟨d, n, v⟩ := ofN_spec B32_2 x
  obtain ⟨d', n', v'⟩ := ofN_spec B32_2 y
  obtain ⟨d2, n2, v2⟩ := ofN_spec B32_2 (x + y)
  have hl := hx.len
  have hl' := hy.len
  exact ct_spec_l1Add_rows _ _ A A' c c' d d' (by omega) (by omega) _ d2 n2 (by rw [v2, v, v'])
theorem ct_spec_l1Sub (x y : Nat) (A A' : Option Addr) (c c' : Nat) (hx : Sm x) (hy : y ≤ x) : CtR Tryd.prog 89 [.slice A (ofN B32 x).length c, .slice A' (ofN B32 y).length c'] [Row .u64 A c (ofN B32 x), Row .u64 A' c' (ofN B32 y)] .u64 (ofN B32 (x - y)) := by
  obtain ⟨d, n, v⟩ := ofN_spec B32_2 x
  obtain ⟨d', n', v'⟩ := ofN_spec B32_2 y
  obtain ⟨d2, n2, v2⟩ := ofN_spec B32_2 (x - y)
  have hl := hx.len
  have hl' := (hx.mono hy).len
  exact ct_spec_l1Sub_rows _ _ A A' c c' d d' (by omega) (by omega) _ d2 n2 (by rw [v2, v, v']; omega)
theorem ct_spec_l1Mul (x y : Nat) (A A' : Option Addr) (c c' : Nat) (hx : Sm x) (hy : Sm y) : CtR Tryd.prog 99 [.slice A (ofN B32 x).length c, .slice A' (ofN B32 y).length c'] [Row .u64 A c (ofN B32 x), Row .u64 A' c' (ofN B32 y)] .u64 (ofN B32 (x * y)) := by
  obtain ⟨d, n, v⟩ := ofN_spec B32_2 x
  obtain ⟨d', n', v'⟩ := ofN_spec B32_2 y
  obtain ⟨d2, n2, v2⟩ := ofN_spec B32_2 (x * y)
  have hl := hx.len
  have hl' := hy.len
  exact ct_spec_l1Mul_rows _ _ A A' c c' d d' (by omega) (by omega) _ d2 n2 (by rw [v2, v, v'])
theorem ct_spec_l1Cmp (x y : Nat) (A A' : Option Addr) (c c' : Nat) (hx : Sm x) (hy : Sm y) : CtV Tryd.prog 74 [.slice A (ofN B32 x).length c, .slice A' (ofN B32 y).length c'] [Row .u64 A c (ofN B32 x), Row .u64 A' c' (ofN B32 y)] (.int .i64 (cmpN x y)) := by
  obtain ⟨d, n, v⟩ := ofN_spec B32_2 x
  obtain ⟨d', n', v'⟩ := ofN_spec B32_2 y
  have hl := hx.len
  have hl' := hy.len
  have := ct_spec_l1Cmp_rows _ _ A A' c c' d d' (by omega) (by omega)
  rwa [v, v'] at this
theorem ct_spec_l1In (x : Nat) (A : Option Addr) (c : Nat) (hx : Sm x) : CtR Tryd.prog 98 [.slice A (ofN B64 x).length c] [Row .u64 A c (ofN B64 x)] .u64 (ofN B32 x) := by
  obtain ⟨d, n, v⟩ := ofN_spec B64_2 x
  obtain ⟨d2, n2, v2⟩ := ofN_spec B32_2 x
  have hl := hx.len64
  exact ct_spec_l1In_rows _ A c d (by omega) _ d2 n2 (by rw [v2, v])
theorem ct_spec_l1Out (x : Nat) (A : Option Addr) (c : Nat) (hx : Sm x) : CtR Tryd.prog 82 [.slice A (ofN B32 x).length c] [Row .u64 A c (ofN B32 x)] .u64 (ofN B64 x) := by
  obtain ⟨d, n, v⟩ := ofN_spec B32_2 x
  obtain ⟨d2, n2, v2⟩ := ofN_spec B64_2 x
  have hl := hx.len
  exact ct_spec_l1Out_rows _ A c d n (by omega) _ d2 n2 (by rw [v2, v])
theorem ct_impl_word (a : Int) (n : Nat) (ha : Nn a n) (hn : n < 18446744073709551616) : CtR Tryd.prog 85 [.int .u64 a] [] .u64 (ofN B64 n) := by
  obtain ⟨d, m, v⟩ := ofN_spec B64_2 n
  exact ct_impl_word_rows a n ha hn _ d m v
theorem ct_impl_nat_add (x y : Nat) (A A' : Option Addr) (c c' : Nat) (hx : Sm x) (hy : Sm y) : CtR Tryd.prog 84 [.slice A (ofN B64 x).length c, .slice A' (ofN B64 y).length c'] [Row .u64 A c (ofN B64 x), Row .u64 A' c' (ofN B64 y)] .u64 (ofN B64 (x + y)) := by
  obtain ⟨d, n, v⟩ := ofN_spec B64_2 x
  obtain ⟨d', n', v'⟩ := ofN_spec B64_2 y
  obtain ⟨d2, n2, v2⟩ := ofN_spec B64_2 (x + y)
  have hl := hx.len64
  have hl' := hy.len64
  exact ct_impl_nat_add_rows _ _ A A' c c' d d' (by omega) (by omega) _ d2 n2 (by rw [v2, v, v'])
theorem ct_impl_nat_sub (x y : Nat) (A A' : Option Addr) (c c' : Nat) (hx : Sm x) (hy : y ≤ x) : CtR Tryd.prog 86 [.slice A (ofN B64 x).length c, .slice A' (ofN B64 y).length c'] [Row .u64 A c (ofN B64 x), Row .u64 A' c' (ofN B64 y)] .u64 (ofN B64 (x - y)) := by
  obtain ⟨d, n, v⟩ := ofN_spec B64_2 x
  obtain ⟨d', n', v'⟩ := ofN_spec B64_2 y
  obtain ⟨d2, n2, v2⟩ := ofN_spec B64_2 (x - y)
  have hl := hx.len64
  have hl' : (ofN B64 y).length ≤ (ofN B64 x).length := len_le_of_val d' n' (by rw [v']; exact Nat.lt_of_le_of_lt hy (by have := val_lt d; rwa [v] at this))
  exact ct_impl_nat_sub_rows _ _ A A' c c' d d' (by omega) hl' _ d2 n2 (by rw [v2, v, v']; omega)
theorem ct_impl_nat_left (x : Nat) (A : Option Addr) (c : Nat) (a : Int) (i : Nat) (ha : Nn a i) (hi : i ≤ 1000000) (hx : Sm x) : CtR Tryd.prog 83 [.slice A (ofN B64 x).length c, .int .i64 a] [Row .u64 A c (ofN B64 x)] .u64 (ofN B64 (x * 2 ^ i)) := by
  obtain ⟨d, n, v⟩ := ofN_spec B64_2 x
  obtain ⟨d2, n2, v2⟩ := ofN_spec B64_2 (x * 2 ^ i)
  have hl := hx.len64
  exact ct_impl_nat_left_rows _ A c d (by omega) a i ha hi _ d2 n2 (by rw [v2, v])
theorem ct_impl_nat_right (x : Nat) (A : Option Addr) (c : Nat) (a : Int) (i : Nat) (ha : Nn a i) (hi : i ≤ 1000000000) (hx : Sm x) : CtR Tryd.prog 129 [.slice A (ofN B64 x).length c, .int .i64 a] [Row .u64 A c (ofN B64 x)] .u64 (ofN B64 (x / 2 ^ i)) := by
  obtain ⟨d, n, v⟩ := ofN_spec B64_2 x
  obtain ⟨d2, n2, v2⟩ := ofN_spec B64_2 (x / 2 ^ i)
  have hl := hx.len64
  exact ct_impl_nat_right_rows _ A c d (by omega) a i ha hi _ d2 n2 (by rw [v2, v])
theorem ct_impl_nat_bits (x : Nat) (A : Option Addr) (c : Nat) (hx : Sm x) (m : Nat) (hm : IsBits x m) : CtV Tryd.prog 128 [.slice A (ofN B64 x).length c] [Row .u64 A c (ofN B64 x)] (.int .i64 m) := by
  obtain ⟨d, n, v⟩ := ofN_spec B64_2 x
  have hl := hx.len64
  exact ct_impl_nat_bits_rows _ A c d n (by omega) m (by rw [v]; exact hm)
theorem ct_impl_nat_cmp (x y : Nat) (A A' : Option Addr) (c c' : Nat) (hx : Sm x) (hy : Sm y) : CtV Tryd.prog 77 [.slice A (ofN B64 x).length c, .slice A' (ofN B64 y).length c'] [Row .u64 A c (ofN B64 x), Row .u64 A' c' (ofN B64 y)] (.int .i64 (cmpN x y)) := by
  obtain ⟨d, n, v⟩ := ofN_spec B64_2 x
  obtain ⟨d', n', v'⟩ := ofN_spec B64_2 y
  have hl := hx.len64
  have hl' := hy.len64
  have := ct_impl_nat_cmp_rows _ _ A A' c c' d d' n n' (by omega) (by omega)
  rwa [v, v'] at this
end
end Go.Proofs.YtdbnmdchecacdaaDoor.M
end
section
namespace Go.Proofs.YtdbnmdchecacdaaDoor.M
open Go.RowKit Go.Proofs.YtdbnmdchecacdaaDoor.G Go.Proofs.YtdbnmdchecacdaaDoorV.PrintWords Go.Proofs.YtdbnmdchecacdaaDoorV.PrintLast Go.Proofs.YtdbnmdchecacdaaDoor.X
set_option linter.unusedVariables false
set_option linter.unusedSimpArgs false
theorem two_val {x : Nat} (hx : x < B128) : Dig B64 [loI x, hiI x] ∧ val B64 [loI x, hiI x] = x := by
 have h1 := hi_lt hx
 have h2 := lo_lt x
 refine ⟨Dig.cons (by unfold loI B64; omega) (Dig.cons (by unfold hiI B64; omega) (Dig.nil _)), ?_⟩
 rw [val_cons, val_one]
 unfold hiI loI B64
 rw [Int.toNat_natCast, Int.toNat_natCast]
 omega
theorem ct_spec_l2Of (x : Nat) (hx : x < B128) : CtR Tryd.prog 58 [.agg #[.int .u64 (hiI x), .int .u64 (loI x)]] [] .u64 (ofN B32 x) := by
 refine ct_of Tryd.func58 rfl (by kernel_rfl) (fun B w0 => ?_)
 obtain ⟨d, v⟩ := two_val hx
 obtain ⟨d2, n2, v2⟩ := ofN_spec B32_2 x
 refine xg ?_
 refine xb 1 [.int .u64 (hiI x), .int .u64 (loI x)] 25 (fun g0 => ?_)
 refine xz [] [(2, .slice none 0 0)] ?_
 refine xg ?_
 refine xn 4 [(1, [0]), (3, [0])] [(6, .int .u64 (hiI x)), (4, .int .u64 (loI x))] ?_
 refine xbl 7 [.int .u64 (loI x), .int .u64 (hiI x)] 22 2 (fun g1 => ?_)
 refine NW_fz 1 2 g1 .u64 [loI x, hiI x] [] 22 (by simp) (by simp) ?_
 have ct : CtR Tryd.prog 98 [.slice (some ⟨g1, 0, none⟩) 2 2] [Row .u64 (some ⟨g1, 0, none⟩) 2 [loI x, hiI x]] .u64 (ofN B32 x) := ct_spec_l1In_rows [loI x, hiI x] _ 2 d (by simp) _ d2 n2 (by rw [v2, v])
 refine xcr 8 ct (zsS zi0 zs0) (fun A0 k0 => ?_)
 refine xz [] [(2, .slice A0 (List.length (ofN B32 x)) k0)] ?_
 refine SW_ret ?_
 refine xe (A0, k0) (.slice A0 (List.length (ofN B32 x)) k0) [] ?_ (zsS zi0 zs0)
 rfl
theorem ct_spec_l2Two (a : Int) (i : Nat) (ha : Nn a i) (hi : i ≤ 100000) : CtR Tryd.prog 64 [.int .i64 a] [] .u64 (ofN B32 (2 ^ i)) := by
 obtain ⟨rfl⟩ := ha
 refine ct_of Tryd.func64 rfl (by kernel_rfl) (fun B w0 => ?_)
 have h1 : Sm 1 := Sm.of (k := 1) (by decide) (by decide)
 rw [← Nat.one_mul (2 ^ i)]
 refine xr [] [(2, .slice none 0 0)] ?_
 refine xg ?_
 refine xcr 3 (ct_spec_l1Of (1) (1) ⟨rfl⟩ (by omega)) zs0 (fun A0 k0 => ?_)
 refine xn 2 [] [(4, .int .i64 (i : Int))] ?_
 refine xcr 5 (ct_spec_l1Left (1) (A0) (k0) ((i : Int)) (i) ⟨rfl⟩ (by omega) h1) (zsS zi0 zs0) (fun A1 k1 => ?_)
 refine xz [] [(2, .slice A1 (List.length (ofN B32 (1 * 2 ^ i))) k1)] ?_
 refine SW_ret ?_
 refine xe (A1, k1) (.slice A1 (List.length (ofN B32 (1 * 2 ^ i))) k1) [] ?_ (zsS zi0 zs0)
 rfl
theorem ct_spec_l2Low (x : Nat) (A : Option Addr) (c : Nat) (a : Int) (i : Nat) (ha : Nn a i) (hi : i ≤ 100000) (hx : Sm x) : CtR Tryd.prog 60 [.slice A (ofN B32 x).length c, .int .i64 a] [Row .u64 A c (ofN B32 x)] .u64 (ofN B32 (x % 2 ^ i)) := by
 obtain ⟨rfl⟩ := ha
 refine ct_of Tryd.func60 rfl (by kernel_rfl) (fun B w0 => ?_)
 have h1 : Sm (x / 2 ^ i) := hx.mono (Nat.div_le_self _ _)
 have h2 : x / 2 ^ i * 2 ^ i ≤ x := Nat.div_mul_le_self _ _
 have h3 : x - x / 2 ^ i * 2 ^ i = x % 2 ^ i := by have := Nat.div_add_mod x (2 ^ i); rw [Nat.mul_comm] at this; omega
 rw [← h3]
 refine xr [] [(4, .slice none 0 0)] ?_
 refine xg ?_
 refine xn 3 [] [(7, .int .i64 (i : Int)), (6, .slice A (List.length (ofN B32 x)) c), (5, .slice A (List.length (ofN B32 x)) c)] ?_
 refine xcr 8 (ct_spec_l1Right (x) (A) (c) ((i : Int)) (i) ⟨rfl⟩ (by omega) hx) (zsS zi0 zs0) (fun A0 k0 => ?_)
 refine xn 5 [] [(9, .int .i64 (i : Int))] ?_
 refine xcr 10 (ct_spec_l1Left (x / 2 ^ i) (A0) (k0) ((i : Int)) (i) ⟨rfl⟩ (by omega) h1) (zsS zi0 zs0) (fun A1 k1 => ?_)
 refine xcr 11 (ct_spec_l1Sub (x) (x / 2 ^ i * 2 ^ i) (A) (A1) (c) (k1) hx h2) (zsS (ziS (ziS zi0)) (zsS zi0 zs0)) (fun A2 k2 => ?_)
 refine xz [] [(4, .slice A2 (List.length (ofN B32 (x - x / 2 ^ i * 2 ^ i))) k2)] ?_
 refine SW_ret ?_
 refine xe (A2, k2) (.slice A2 (List.length (ofN B32 (x - x / 2 ^ i * 2 ^ i))) k2) [] ?_ (zsS zi0 zs0)
 rfl
theorem ct_impl_Word_nat (x : Nat) (hx : x < B128) : CtR Tryd.prog 76 [.agg #[.int .u64 (hiI x), .int .u64 (loI x)]] [] .u64 (ofN B64 x) := by
 refine ct_of Tryd.func76 rfl (by kernel_rfl) (fun B w0 => ?_)
 obtain ⟨d, v⟩ := two_val hx
 obtain ⟨d2, n2, v2⟩ := ofN_spec B64_2 x
 have e : trimL [loI x, hiI x] = ofN B64 x := norm_inj B64_pos d.trim d2 (norm_trim _) n2 (by rw [val_trim, v2, v])
 refine xg ?_
 refine xb 1 [.int .u64 (hiI x), .int .u64 (loI x)] 25 (fun g0 => ?_)
 refine xz [] [(2, .slice none 0 0)] ?_
 refine xg ?_
 refine xn 4 [(1, [0]), (3, [0])] [(6, .int .u64 (hiI x)), (4, .int .u64 (loI x))] ?_
 refine xbl 7 [.int .u64 (loI x), .int .u64 (hiI x)] 22 2 (fun g1 => ?_)
 refine NW_fz 1 2 g1 .u64 [loI x, hiI x] [] 22 (by simp) (by simp) ?_
 have ct : CtR Tryd.prog 103 [.slice (some ⟨g1, 0, none⟩) 2 2] [Row .u64 (some ⟨g1, 0, none⟩) 2 [loI x, hiI x]] .u64 (ofN B64 x) := by
  rw [← e]
  exact ct_impl_trimmed [loI x, hiI x] _ 2 (by simp)
 refine xcr 8 ct (zsS zi0 zs0) (fun A0 k0 => ?_)
 refine xz [] [(2, .slice A0 (List.length (ofN B64 x)) k0)] ?_
 refine SW_ret ?_
 refine xe (A0, k0) (.slice A0 (List.length (ofN B64 x)) k0) [] ?_ (zsS zi0 zs0)
 rfl
theorem ct_spec_l2Word (x : Nat) (A : Option Addr) (c : Nat) (hx : x < B128) : CtV Tryd.prog 62 [.slice A (ofN B32 x).length c] [Row .u64 A c (ofN B32 x)] (.agg #[.int .u64 (hiI x), .int .u64 (loI x)]) := by
 refine ct_of Tryd.func62 rfl (by kernel_rfl) (fun B w0 => ?_)
 obtain ⟨d, n, v⟩ := ofN_spec B32_2 x
 obtain ⟨d2, n2, v2⟩ := ofN_spec B64_2 x
 have hl : (ofN B32 x).length ≤ 4 := ofN_len B32_2 (show x < B32 ^ 4 from hx)
 have ct := ct_spec_l1Out_own _ A c d n (by omega) _ d2 n2 (by rw [v2, v])
 have hl2 : (ofN B64 x).length ≤ 2 := ofN_len B64_2 hx
 obtain ⟨t1, t2, t3⟩ := two_digits (ofN B64 x) d2 hl2
 rw [v2] at t1 t2
 generalize ofN B64 x = y at *
 have w1 : Ve (rd (y ++ [0, 0]) ((1 : Nat) : Int)) (hiI x) := ⟨t2⟩
 have w0' : Ve (rd (y ++ [0, 0]) ((0 : Nat) : Int)) (loI x) := ⟨t1⟩
 have ly : 2 ≤ (y ++ [0, 0]).length := by simp
 refine xg ?_
 refine xb 2 [.int .u64 0, .int .u64 0] 25 (fun g0 => ?_)
 refine xz [] [] ?_
 refine xg ?_
 refine xn 1 [] [(4, .slice A (List.length (ofN B32 x)) c)] ?_
 refine xcu 5 ct (zsS zi0 zs0) (fun sl0 bs0 hO0 => ?_)
 refine xbl 6 [.int .u64 0, .int .u64 0] 22 2 (fun g1 => ?_)
 refine xow2 7 8 (g1) (2) [0, 0] hO0 (by first | omega | (simp <;> omega)) (fun sl1 bs1 hO1 => ?_)
 refine xz [] [(3, sl1)] ?_
 refine xd (fun hB => ?_)
 refine xdk [(0, []), (3, [])] [(11, sl1), (8, sl1)] hB ?_
 rcases hO1 with ⟨rfl, h1, rfl⟩ | ⟨g, r', c', hc, rfl, rfl⟩
 ·rw [h1] at ly
  exact absurd ly (by decide)
 ·refine xdoi 1 hB 9 22 (g) (List.length (y ++ [0, 0])) (c') 1 IntKind.i64 (1) ⟨rfl⟩ (by omega) ?_
  refine xdole 2 hB 10 1 (g) (1) IntKind.u64 (y ++ [0, 0]) (r') 22 (hiI x) w1 (by first | omega | (simp <;> omega)) ?_
  refine xdoi 4 hB 12 22 (g) (List.length (y ++ [0, 0])) (c') 0 IntKind.i64 (0) ⟨rfl⟩ (by omega) ?_
  refine xdole 5 hB 13 1 (g) (0) IntKind.u64 (y ++ [0, 0]) (r') 22 (loI x) w0' (by first | omega | (simp <;> omega)) ?_
  refine xdk [(6, [])] [(14, .agg #[.int .u64 (hiI x), .int .u64 (loI x)])] hB ?_
  refine xds 7 [0] [(0, [.int .u64 (hiI x), .int .u64 (loI x)])] ?_
  refine xdz ?_
  refine SW_ret ?_
  refine xe () (.agg #[.int .u64 (hiI x), .int .u64 (loI x)]) [0] ?_ trivial
  rfl
end Go.Proofs.YtdbnmdchecacdaaDoor.M
end
section
namespace Go.Proofs.YtdbnmdchecacdaaDoor.M
open Go.RowKit Go.Proofs.YtdbnmdchecacdaaDoor.G Go.Proofs.YtdbnmdchecacdaaDoorV.PrintWords Go.Proofs.YtdbnmdchecacdaaDoorV.PrintLast Go.Proofs.YtdbnmdchecacdaaDoor.X
set_option linter.unusedVariables false
set_option linter.unusedSimpArgs false
theorem ct_impl_one (a : Int) (i : Nat) (ha : Nn a i) (hi : i < 128) : CtV Tryd.prog 72 [.int .i64 a] [] (.agg #[.int .u64 (hiI (2 ^ i)), .int .u64 (loI (2 ^ i))]) := by
 obtain ⟨rfl⟩ := ha
 refine ct_of Tryd.func72 rfl (by kernel_rfl) (fun B w0 => ?_)
 have hs : ∀ p : Nat, p < 64 → Ve (shl .u64 1 (p : Int)) ((2 ^ p : Nat) : Int) := fun p hp => ⟨by
  have h := shl_nat 1 p (by omega)
  rw [Nat.one_mul, Nat.mod_eq_of_lt (Nat.pow_lt_pow_right (by decide) hp : 2 ^ p < 2 ^ 64)] at h
  exact h⟩
 by_cases h : 64 ≤ i
 ·have z : decide ((i : Int) ≥ 64) = true := decide_eq_true (by omega)
  have v1 : Ve (IntKind.i64.wrap ((i : Int) - 64)) ((i - 64 : Nat) : Int) := veI (by omega) (by omega)
  have v2 := hs (i - 64) (by omega)
  have e : 2 ^ i = 2 ^ (i - 64) * 18446744073709551616 := by rw [show (18446744073709551616 : Nat) = 2 ^ 64 from rfl, ← Nat.pow_add]; congr 1; omega
  have e1 : hiI (2 ^ i) = ((2 ^ (i - 64) : Nat) : Int) := by unfold hiI; rw [e, Nat.mul_div_cancel _ (by decide)]
  have e2 : loI (2 ^ i) = 0 := by unfold loI; rw [e, Nat.mul_mod_left]; rfl
  rw [e1, e2]
  refine xg ?_
  refine xb 2 [.int .u64 0, .int .u64 0] 25 (fun g0 => ?_)
  refine xz [] [] ?_
  refine SW_seq ?_
  refine xr [] [(4, .bool (decide ((i : Int) ≥ 64)))] ?_
  refine xst z ?_
  refine xg ?_
  refine xn 1 [] [(5, .int .i64 (i : Int))] ?_
  refine xve 6 IntKind.i64 (IntKind.wrap IntKind.i64 ((i : Int) - 64)) ((((i - 64) : Nat) : Int)) v1 ?_
  refine xve 7 IntKind.u64 (shl IntKind.u64 1 (((i - 64) : Nat) : Int)) ((((2 ^ (i - 64)) : Nat) : Int)) v2 ?_
  refine xy [(4, [0])] [] [(0, [.int .u64 (((2 ^ (i - 64)) : Nat) : Int), .int .u64 0])] ?_
  refine SW_ret ?_
  refine xe () (.agg #[.int .u64 (((2 ^ (i - 64)) : Nat) : Int), .int .u64 0]) [0] ?_ trivial
  rfl
 ·have z : decide ((i : Int) ≥ 64) = false := decide_eq_false (by omega)
  have v2 := hs i (by omega)
  have hlt : 2 ^ i < 18446744073709551616 := (Nat.pow_lt_pow_right (by decide) (by omega) : 2 ^ i < 2 ^ 64)
  have e1 : hiI (2 ^ i) = 0 := by unfold hiI; rw [Nat.div_eq_of_lt hlt]; rfl
  have e2 : loI (2 ^ i) = ((2 ^ i : Nat) : Int) := by unfold loI; rw [Nat.mod_eq_of_lt hlt]
  rw [e1, e2]
  refine xg ?_
  refine xb 2 [.int .u64 0, .int .u64 0] 25 (fun g0 => ?_)
  refine xz [] [] ?_
  refine SW_seq ?_
  refine xr [] [(4, .bool (decide ((i : Int) ≥ 64)))] ?_
  refine xsf z ?_
  refine SW_skip ?_
  refine xg ?_
  refine xn 1 [] [(9, .int .i64 (i : Int))] ?_
  refine xve 10 IntKind.u64 (shl IntKind.u64 1 (i : Int)) ((((2 ^ i) : Nat) : Int)) v2 ?_
  refine xy [(3, [0])] [] [(0, [.int .u64 0, .int .u64 (((2 ^ i) : Nat) : Int)])] ?_
  refine SW_ret ?_
  refine xe () (.agg #[.int .u64 0, .int .u64 (((2 ^ i) : Nat) : Int)]) [0] ?_ trivial
  rfl
theorem ct_impl_Word_right (x : Nat) (a : Int) (i : Nat) (ha : Nn a i) (hi : i ≤ 1000) (hx : x < B128) : CtV Tryd.prog 66 [.agg #[.int .u64 (hiI x), .int .u64 (loI x)], .int .i64 a] [] (.agg #[.int .u64 (hiI (x / 2 ^ i)), .int .u64 (loI (x / 2 ^ i))]) := by
 obtain ⟨rfl⟩ := ha
 refine ct_of Tryd.func66 rfl (by kernel_rfl) (fun B w0 => ?_)
 have h1 := hi_lt hx
 have h2 := lo_lt x
 by_cases c0 : i = 0
 ·subst c0
  rw [Nat.pow_zero, Nat.div_one]
  refine xg ?_
  refine xb 2 [.int .u64 (hiI x), .int .u64 (loI x)] 25 (fun g0 => ?_)
  refine xb 4 [.int .u64 0, .int .u64 0] 25 (fun g1 => ?_)
  refine xz [] [] ?_
  refine SW_seq ?_
  refine SW_block ?_
  refine xr [] [(5, .bool true)] ?_
  refine xs1 ?_
  refine xq [(0, [0]), (1, [1])] [] [(1, [.int .u64 (hiI x), .int .u64 (loI x)])] ?_
  refine SW_ret ?_
  refine xe () (.agg #[.int .u64 (hiI x), .int .u64 (loI x)]) [1] ?_ trivial
  rfl
 ·have z0 : ((i : Int) == 0) = false := by rw [beq_eq_false_iff_ne]; omega
  by_cases c1 : 128 ≤ i
  ·have z1 : decide ((i : Int) ≥ 128) = true := decide_eq_true (by omega)
   have e : x / 2 ^ i = 0 := Nat.div_eq_of_lt (Nat.lt_of_lt_of_le hx (by have : 2 ^ 128 ≤ 2 ^ i := Nat.pow_le_pow_right (by decide) c1; exact this))
   rw [e]
   refine xg ?_
   refine xb 2 [.int .u64 (hiI x), .int .u64 (loI x)] 25 (fun g0 => ?_)
   refine xb 4 [.int .u64 0, .int .u64 0] 25 (fun g1 => ?_)
   refine xz [] [] ?_
   refine SW_seq ?_
   refine SW_block ?_
   refine xr [] [(5, .bool ((i : Int) == 0))] ?_
   refine xsf z0 ?_
   refine xr [] [(9, .bool (decide ((i : Int) ≥ 128)))] ?_
   refine xst z1 ?_
   refine xq [(1, [1])] [] [] ?_
   refine SW_ret ?_
   refine xe () (.agg #[.int .u64 0, .int .u64 0]) [1] ?_ trivial
   rfl
  ·have z1 : decide ((i : Int) ≥ 128) = false := decide_eq_false (by omega)
   by_cases c2 : 64 ≤ i
   ·have z2 : decide ((i : Int) ≥ 64) = true := decide_eq_true (by omega)
    have v1 : Ve (IntKind.i64.wrap ((i : Int) - 64)) ((i - 64 : Nat) : Int) := veI (by omega) (by omega)
    have v2 : Ve (shf .u64 (hiI x) ((i - 64 : Nat) : Int)) ((x / 18446744073709551616 / 2 ^ (i - 64) : Nat) : Int) := ⟨shf_nat _ _ (by omega)⟩
    have e : x / 2 ^ i = x / 18446744073709551616 / 2 ^ (i - 64) := by rw [Nat.div_div_eq_div_mul, show (18446744073709551616 : Nat) = 2 ^ 64 from rfl, ← Nat.pow_add]; congr 2; omega
    have hlt : x / 18446744073709551616 / 2 ^ (i - 64) < 18446744073709551616 := Nat.lt_of_le_of_lt (Nat.div_le_self _ _) h1
    have e1 : hiI (x / 2 ^ i) = 0 := by unfold hiI; rw [e, Nat.div_eq_of_lt hlt]; rfl
    have e2 : loI (x / 2 ^ i) = ((x / 18446744073709551616 / 2 ^ (i - 64) : Nat) : Int) := by unfold loI; rw [e, Nat.mod_eq_of_lt hlt]
    rw [e1, e2]
    refine xg ?_
    refine xb 2 [.int .u64 (hiI x), .int .u64 (loI x)] 25 (fun g0 => ?_)
    refine xb 4 [.int .u64 0, .int .u64 0] 25 (fun g1 => ?_)
    refine xz [] [] ?_
    refine SW_seq ?_
    refine SW_block ?_
    refine xr [] [(5, .bool ((i : Int) == 0))] ?_
    refine xsf z0 ?_
    refine xr [] [(9, .bool (decide ((i : Int) ≥ 128)))] ?_
    refine xsf z1 ?_
    refine xr [] [(13, .bool (decide ((i : Int) ≥ 64)))] ?_
    refine xst z2 ?_
    refine xg ?_
    refine xn 3 [(1, [0])] [(18, .int .i64 (i : Int)), (17, .int .u64 (hiI x))] ?_
    refine xve 19 IntKind.i64 (IntKind.wrap IntKind.i64 ((i : Int) - 64)) ((((i - 64) : Nat) : Int)) v1 ?_
    refine xve 20 IntKind.u64 (shf IntKind.u64 (hiI x) (((i - 64) : Nat) : Int)) ((((x / 18446744073709551616 / 2 ^ (i - 64)) : Nat) : Int)) v2 ?_
    refine xy [(6, [1])] [] [(1, [.int .u64 0, .int .u64 (((x / 18446744073709551616 / 2 ^ (i - 64)) : Nat) : Int)])] ?_
    refine SW_ret ?_
    refine xe () (.agg #[.int .u64 0, .int .u64 (((x / 18446744073709551616 / 2 ^ (i - 64)) : Nat) : Int)]) [1] ?_ trivial
    rfl
   ·have z2 : decide ((i : Int) ≥ 64) = false := decide_eq_false (by omega)
    have hn : i < 64 := by omega
    obtain ⟨s1, s2⟩ := split_div x i hn
    have v1 : Ve (IntKind.i64.wrap (64 - (i : Int))) ((64 - i : Nat) : Int) := veI (by omega) (by omega)
    have v2 : Ve (shf .u64 (hiI x) (i : Int)) ((x / 18446744073709551616 / 2 ^ i : Nat) : Int) := ⟨shf_nat _ _ (by omega)⟩
    have v3 : Ve (shf .u64 (loI x) (i : Int)) ((x % 18446744073709551616 / 2 ^ i : Nat) : Int) := ⟨shf_nat _ _ (by omega)⟩
    have v4 : Ve (shl .u64 (hiI x) ((64 - i : Nat) : Int)) ((x / 18446744073709551616 * 2 ^ (64 - i) % 18446744073709551616 : Nat) : Int) := ⟨shl_nat _ _ (by omega)⟩
    have hl : x % 18446744073709551616 / 2 ^ i < 2 ^ (64 - i) := by rw [Nat.div_lt_iff_lt_mul (Nat.pow_pos (by decide)), ← Nat.pow_add, show 64 - i + i = 64 by omega]; exact h2
    have hd : 2 ^ (64 - i) ∣ x / 18446744073709551616 * 2 ^ (64 - i) % 18446744073709551616 := by
     rw [show (18446744073709551616 : Nat) = 2 ^ i * 2 ^ (64 - i) by rw [← Nat.pow_add, show i + (64 - i) = 64 by omega], Nat.mul_mod_mul_right]
     exact Nat.dvd_mul_left _ _
    have v5 : Ve (bits .or .u64 ((x % 18446744073709551616 / 2 ^ i : Nat) : Int) ((x / 18446744073709551616 * 2 ^ (64 - i) % 18446744073709551616 : Nat) : Int)) (loI (x / 2 ^ i)) := ⟨by
     rw [or_nat' (64 - i) _ _ (by omega) (Nat.mod_lt _ (by decide)) hd hl]
     unfold loI
     rw [s2]⟩
    have e1 : hiI (x / 2 ^ i) = ((x / 18446744073709551616 / 2 ^ i : Nat) : Int) := by unfold hiI; rw [s1]
    rw [e1]
    refine xg ?_
    refine xb 2 [.int .u64 (hiI x), .int .u64 (loI x)] 25 (fun g0 => ?_)
    refine xb 4 [.int .u64 0, .int .u64 0] 25 (fun g1 => ?_)
    refine xz [] [] ?_
    refine SW_seq ?_
    refine SW_block ?_
    refine xr [] [(5, .bool ((i : Int) == 0))] ?_
    refine xsf z0 ?_
    refine xr [] [(9, .bool (decide ((i : Int) ≥ 128)))] ?_
    refine xsf z1 ?_
    refine xr [] [(13, .bool (decide ((i : Int) ≥ 64)))] ?_
    refine xsf z2 ?_
    refine SW_skip ?_
    refine xd (fun hB => ?_)
    refine xdk [(0, []), (1, [0]), (2, []), (4, []), (5, [0]), (6, []), (8, []), (9, [0]), (10, [])] [(32, .int .i64 (i : Int)), (31, .int .u64 (hiI x)), (28, .int .i64 (i : Int)), (27, .int .u64 (loI x)), (24, .int .i64 (i : Int)), (23, .int .u64 (hiI x))] hB ?_
    refine xdve 3 hB 25 IntKind.u64 (shf IntKind.u64 (hiI x) (i : Int)) ((((x / 18446744073709551616 / 2 ^ i) : Nat) : Int)) v2 ?_
    refine xdve 7 hB 29 IntKind.u64 (shf IntKind.u64 (loI x) (i : Int)) ((((x % 18446744073709551616 / 2 ^ i) : Nat) : Int)) v3 ?_
    refine xdve 11 hB 33 IntKind.i64 (IntKind.wrap IntKind.i64 (64 - (i : Int))) ((((64 - i) : Nat) : Int)) v1 ?_
    refine xdve 12 hB 34 IntKind.u64 (shl IntKind.u64 (hiI x) (((64 - i) : Nat) : Int)) ((((x / 18446744073709551616 * 2 ^ (64 - i) % 18446744073709551616) : Nat) : Int)) v4 ?_
    refine xdve 13 hB 35 IntKind.u64 (bits BinOp.or IntKind.u64 (((x % 18446744073709551616 / 2 ^ i) : Nat) : Int) (((x / 18446744073709551616 * 2 ^ (64 - i) % 18446744073709551616) : Nat) : Int)) (loI (x / 2 ^ i)) v5 ?_
    refine xdk [(14, [])] [(36, .agg #[.int .u64 (((x / 18446744073709551616 / 2 ^ i) : Nat) : Int), .int .u64 (loI (x / 2 ^ i))])] hB ?_
    refine xds 15 [1] [(1, [.int .u64 (((x / 18446744073709551616 / 2 ^ i) : Nat) : Int), .int .u64 (loI (x / 2 ^ i))])] ?_
    refine xdz ?_
    refine SW_ret ?_
    refine xe () (.agg #[.int .u64 (((x / 18446744073709551616 / 2 ^ i) : Nat) : Int), .int .u64 (loI (x / 2 ^ i))]) [1] ?_ trivial
    rfl
end Go.Proofs.YtdbnmdchecacdaaDoor.M
end
section
namespace Go.Proofs.YtdbnmdchecacdaaDoor.M
open Go.RowKit Go.Proofs.YtdbnmdchecacdaaDoor.G Go.Proofs.YtdbnmdchecacdaaDoorV.PrintWords Go.Proofs.YtdbnmdchecacdaaDoorV.PrintLast Go.Proofs.YtdbnmdchecacdaaDoor.X
set_option linter.unusedVariables false
set_option linter.unusedSimpArgs false
theorem ct_impl_Word_left (h l : Int) (x : Nat) (hw : Wd h l x) (a : Int) (i : Nat) (ha : Nn a i) (hi : i < 128) (hx : x < B128) : CtV Tryd.prog 80 [.agg #[.int .u64 h, .int .u64 l], .int .i64 a] [] (.agg #[.int .u64 (hiI (x * 2 ^ i % B128)), .int .u64 (loI (x * 2 ^ i % B128))]) := by
 obtain ⟨rfl⟩ := ha
 obtain ⟨rfl, rfl⟩ := hw
 refine ct_of Tryd.func80 rfl (by kernel_rfl) (fun B w0 => ?_)
 have h1 := hi_lt hx
 have h2 := lo_lt x
 by_cases c0 : i = 0
 ·subst c0
  rw [Nat.pow_zero, Nat.mul_one, Nat.mod_eq_of_lt hx]
  refine xg ?_
  refine xb 2 [.int .u64 (hiI x), .int .u64 (loI x)] 25 (fun g0 => ?_)
  refine xb 4 [.int .u64 0, .int .u64 0] 25 (fun g1 => ?_)
  refine xz [] [] ?_
  refine SW_seq ?_
  refine SW_block ?_
  refine xr [] [(5, .bool true)] ?_
  refine xs1 ?_
  refine xq [(0, [0]), (1, [1])] [] [(1, [.int .u64 (hiI x), .int .u64 (loI x)])] ?_
  refine SW_ret ?_
  refine xe () (.agg #[.int .u64 (hiI x), .int .u64 (loI x)]) [1] ?_ trivial
  rfl
 ·have z0 : ((i : Int) == 0) = false := by rw [beq_eq_false_iff_ne]; omega
  by_cases c2 : 64 ≤ i
  ·have z2 : decide ((i : Int) ≥ 64) = true := decide_eq_true (by omega)
   have v1 : Ve (IntKind.i64.wrap ((i : Int) - 64)) ((i - 64 : Nat) : Int) := veI (by omega) (by omega)
   have v2 : Ve (shl .u64 (loI x) ((i - 64 : Nat) : Int)) ((x % 18446744073709551616 * 2 ^ (i - 64) % 18446744073709551616 : Nat) : Int) := ⟨shl_nat _ _ (by omega)⟩
   have e1 : x * 2 ^ i % B128 = (x % 18446744073709551616 * 2 ^ (i - 64) % 18446744073709551616) * 18446744073709551616 := by
    have e2 : 2 ^ i = 2 ^ (i - 64) * 18446744073709551616 := by rw [pow64, ← Nat.pow_add, show i - 64 + 64 = i by omega]
    rw [e2, ← Nat.mul_assoc, show B128 = 18446744073709551616 * 18446744073709551616 from rfl, Nat.mul_mod_mul_right]
    congr 1
    rw [Nat.mul_mod (x % 18446744073709551616), Nat.mod_mod, ← Nat.mul_mod]
   have e2 : hiI (x * 2 ^ i % B128) = ((x % 18446744073709551616 * 2 ^ (i - 64) % 18446744073709551616 : Nat) : Int) := by unfold hiI; rw [e1, Nat.mul_div_cancel _ (by decide)]
   have e3 : loI (x * 2 ^ i % B128) = 0 := by unfold loI; rw [e1, Nat.mul_mod_left]; rfl
   rw [e2, e3]
   refine xg ?_
   refine xb 2 [.int .u64 (hiI x), .int .u64 (loI x)] 25 (fun g0 => ?_)
   refine xb 4 [.int .u64 0, .int .u64 0] 25 (fun g1 => ?_)
   refine xz [] [] ?_
   refine SW_seq ?_
   refine SW_block ?_
   refine xr [] [(5, .bool ((i : Int) == 0))] ?_
   refine xsf z0 ?_
   refine xr [] [(9, .bool (decide ((i : Int) ≥ 64)))] ?_
   refine xst z2 ?_
   refine xg ?_
   refine xn 3 [(1, [0])] [(14, .int .i64 (i : Int)), (13, .int .u64 (loI x))] ?_
   refine xve 15 IntKind.i64 (IntKind.wrap IntKind.i64 ((i : Int) - 64)) ((((i - 64) : Nat) : Int)) v1 ?_
   refine xve 16 IntKind.u64 (shl IntKind.u64 (loI x) (((i - 64) : Nat) : Int)) ((((x % 18446744073709551616 * 2 ^ (i - 64) % 18446744073709551616) : Nat) : Int)) v2 ?_
   refine xy [(6, [1])] [] [(1, [.int .u64 (((x % 18446744073709551616 * 2 ^ (i - 64) % 18446744073709551616) : Nat) : Int), .int .u64 0])] ?_
   refine SW_ret ?_
   refine xe () (.agg #[.int .u64 (((x % 18446744073709551616 * 2 ^ (i - 64) % 18446744073709551616) : Nat) : Int), .int .u64 0]) [1] ?_ trivial
   rfl
  ·have z2 : decide ((i : Int) ≥ 64) = false := decide_eq_false (by omega)
   obtain ⟨s1, s2⟩ := mul_split x i (by omega)
   have e64 : (18446744073709551616 : Nat) = 2 ^ (64 - i) * 2 ^ i := by rw [← Nat.pow_add, show 64 - i + i = 64 by omega]
   have hl : x % 18446744073709551616 / 2 ^ (64 - i) < 2 ^ i := by rw [Nat.div_lt_iff_lt_mul (Nat.pow_pos (by decide)), Nat.mul_comm, ← e64]; exact lo_lt x
   have hd : 2 ^ i ∣ x / 18446744073709551616 * 2 ^ i % 18446744073709551616 := (Nat.dvd_mod_iff (by rw [e64]; exact Nat.dvd_mul_left _ _)).2 (Nat.dvd_mul_left _ _)
   have v1 : Ve (IntKind.i64.wrap (64 - (i : Int))) ((64 - i : Nat) : Int) := veI (by omega) (by omega)
   have v2 : Ve (shl .u64 (hiI x) (i : Int)) ((x / 18446744073709551616 * 2 ^ i % 18446744073709551616 : Nat) : Int) := ⟨shl_nat _ _ (by omega)⟩
   have v3 : Ve (shf .u64 (loI x) ((64 - i : Nat) : Int)) ((x % 18446744073709551616 / 2 ^ (64 - i) : Nat) : Int) := ⟨shf_nat _ _ (by omega)⟩
   have v4 : Ve (shl .u64 (loI x) (i : Int)) (loI (x * 2 ^ i % B128)) := ⟨by unfold loI; rw [shl_nat _ _ (by omega), s2]⟩
   have v5 : Ve (bits .or .u64 ((x / 18446744073709551616 * 2 ^ i % 18446744073709551616 : Nat) : Int) ((x % 18446744073709551616 / 2 ^ (64 - i) : Nat) : Int)) (hiI (x * 2 ^ i % B128)) := ⟨by
    rw [or_nat i _ _ (by omega) (Nat.mod_lt _ (by decide)) hd hl]
    unfold hiI
    rw [s1]⟩
   refine xg ?_
   refine xb 2 [.int .u64 (hiI x), .int .u64 (loI x)] 25 (fun g0 => ?_)
   refine xb 4 [.int .u64 0, .int .u64 0] 25 (fun g1 => ?_)
   refine xz [] [] ?_
   refine SW_seq ?_
   refine SW_block ?_
   refine xr [] [(5, .bool ((i : Int) == 0))] ?_
   refine xsf z0 ?_
   refine xr [] [(9, .bool (decide ((i : Int) ≥ 64)))] ?_
   refine xsf z2 ?_
   refine SW_skip ?_
   refine xd (fun hB => ?_)
   refine xdk [(0, []), (1, [0]), (2, []), (4, []), (5, [0]), (6, []), (10, []), (11, [0]), (12, [])] [(30, .int .i64 (i : Int)), (29, .int .u64 (loI x)), (24, .int .i64 (i : Int)), (23, .int .u64 (loI x)), (20, .int .i64 (i : Int)), (19, .int .u64 (hiI x))] hB ?_
   refine xdve 3 hB 21 IntKind.u64 (shl IntKind.u64 (hiI x) (i : Int)) ((((x / 18446744073709551616 * 2 ^ i % 18446744073709551616) : Nat) : Int)) v2 ?_
   refine xdve 7 hB 25 IntKind.i64 (IntKind.wrap IntKind.i64 (64 - (i : Int))) ((((64 - i) : Nat) : Int)) v1 ?_
   refine xdve 8 hB 26 IntKind.u64 (shf IntKind.u64 (loI x) (((64 - i) : Nat) : Int)) ((((x % 18446744073709551616 / 2 ^ (64 - i)) : Nat) : Int)) v3 ?_
   refine xdve 9 hB 27 IntKind.u64 (bits BinOp.or IntKind.u64 (((x / 18446744073709551616 * 2 ^ i % 18446744073709551616) : Nat) : Int) (((x % 18446744073709551616 / 2 ^ (64 - i)) : Nat) : Int)) (hiI (x * 2 ^ i % B128)) v5 ?_
   refine xdve 13 hB 31 IntKind.u64 (shl IntKind.u64 (loI x) (i : Int)) (loI (x * 2 ^ i % B128)) v4 ?_
   refine xdk [(14, [])] [(32, .agg #[.int .u64 (hiI (x * 2 ^ i % B128)), .int .u64 (loI (x * 2 ^ i % B128))])] hB ?_
   refine xds 15 [1] [(1, [.int .u64 (hiI (x * 2 ^ i % B128)), .int .u64 (loI (x * 2 ^ i % B128))])] ?_
   refine xdz ?_
   refine SW_ret ?_
   refine xe () (.agg #[.int .u64 (hiI (x * 2 ^ i % B128)), .int .u64 (loI (x * 2 ^ i % B128))]) [1] ?_ trivial
   rfl
theorem or64 (a b : Nat) (ha : a < 18446744073709551616) (hb : b < 18446744073709551616) : bits .or .u64 (a : Int) (b : Int) = ((a ||| b : Nat) : Int) := by
 have hlt : a ||| b < 2 ^ 64 := Nat.or_lt_two_pow ha hb
 show IntKind.u64.wrap ((BitVec.ofInt 64 (a : Int) ||| BitVec.ofInt 64 (b : Int)).toNat : Int) = _
 have e1 : (BitVec.ofInt 64 (a : Int) ||| BitVec.ofInt 64 (b : Int)).toNat = a ||| b := by
  rw [BitVec.toNat_or, BitVec.toNat_ofInt, BitVec.toNat_ofInt]
  congr 1 <;> omega
 rw [e1]
 exact wrap_u64_id ⟨by omega, by have : (a ||| b : Nat) < 18446744073709551616 := hlt; omega⟩
theorem ct_impl_Word_or (h l h' l' : Int) (x y : Nat) (hw : Wd h l x) (hw' : Wd h' l' y) (hx : x < B128) (hy : y < B128) : CtV Tryd.prog 71 [.agg #[.int .u64 h, .int .u64 l], .agg #[.int .u64 h', .int .u64 l']] [] (.agg #[.int .u64 (hiI (x ||| y)), .int .u64 (loI (x ||| y))]) := by
 obtain ⟨rfl, rfl⟩ := hw
 obtain ⟨rfl, rfl⟩ := hw'
 refine ct_of Tryd.func71 rfl (by kernel_rfl) (fun B w0 => ?_)
 have h1 : (x ||| y) / 18446744073709551616 = x / 18446744073709551616 ||| y / 18446744073709551616 := by
  rw [show (18446744073709551616 : Nat) = 2 ^ 64 from rfl, ← Nat.shiftRight_eq_div_pow, ← Nat.shiftRight_eq_div_pow, ← Nat.shiftRight_eq_div_pow, Nat.shiftRight_or_distrib]
 have h2 : (x ||| y) % 18446744073709551616 = x % 18446744073709551616 ||| y % 18446744073709551616 := by
  rw [show (18446744073709551616 : Nat) = 2 ^ 64 from rfl, Nat.or_mod_two_pow]
 have v1 : Ve (bits .or .u64 (hiI x) (hiI y)) (hiI (x ||| y)) := ⟨by unfold hiI; rw [or64 _ _ (hi_lt hx) (hi_lt hy), h1]⟩
 have v2 : Ve (bits .or .u64 (loI x) (loI y)) (loI (x ||| y)) := ⟨by unfold loI; rw [or64 _ _ (lo_lt x) (lo_lt y), h2]⟩
 refine xg ?_
 refine xb 2 [.int .u64 (hiI x), .int .u64 (loI x)] 25 (fun g0 => ?_)
 refine xb 3 [.int .u64 (hiI y), .int .u64 (loI y)] 25 (fun g1 => ?_)
 refine xb 4 [.int .u64 0, .int .u64 0] 25 (fun g2 => ?_)
 refine xz [] [] ?_
 refine xg ?_
 refine xn 4 [(1, [0]), (3, [1])] [(8, .int .u64 (hiI y)), (6, .int .u64 (hiI x))] ?_
 refine xve 9 IntKind.u64 (bits BinOp.or IntKind.u64 (hiI x) (hiI y)) (hiI (x ||| y)) v1 ?_
 refine xn 9 [(6, [0]), (8, [1])] [(13, .int .u64 (loI y)), (11, .int .u64 (loI x))] ?_
 refine xve 14 IntKind.u64 (bits BinOp.or IntKind.u64 (loI x) (loI y)) (loI (x ||| y)) v2 ?_
 refine xy [(11, [2])] [] [(2, [.int .u64 (hiI (x ||| y)), .int .u64 (loI (x ||| y))])] ?_
 refine SW_ret ?_
 refine xe () (.agg #[.int .u64 (hiI (x ||| y)), .int .u64 (loI (x ||| y))]) [2] ?_ trivial
 rfl
theorem ct_impl_Word_without (x y z : Nat) (h1 : Go.bits .andNot .u64 (hiI x) (hiI y) = hiI z) (h2 : Go.bits .andNot .u64 (loI x) (loI y) = loI z) : CtV Tryd.prog 124 [.agg #[.int .u64 (hiI x), .int .u64 (loI x)], .agg #[.int .u64 (hiI y), .int .u64 (loI y)]] [] (.agg #[.int .u64 (hiI z), .int .u64 (loI z)]) := by
 refine ct_of Tryd.func124 rfl (by kernel_rfl) (fun B w0 => ?_)
 have v1 : Ve (Go.bits .andNot .u64 (hiI x) (hiI y)) (hiI z) := ⟨h1⟩
 have v2 : Ve (Go.bits .andNot .u64 (loI x) (loI y)) (loI z) := ⟨h2⟩
 refine xg ?_
 refine xb 2 [.int .u64 (hiI x), .int .u64 (loI x)] 25 (fun g0 => ?_)
 refine xb 3 [.int .u64 (hiI y), .int .u64 (loI y)] 25 (fun g1 => ?_)
 refine xb 4 [.int .u64 0, .int .u64 0] 25 (fun g2 => ?_)
 refine xz [] [] ?_
 refine xg ?_
 refine xn 4 [(1, [0]), (3, [1])] [(8, .int .u64 (hiI y)), (6, .int .u64 (hiI x))] ?_
 refine xve 9 IntKind.u64 (bits BinOp.andNot IntKind.u64 (hiI x) (hiI y)) (hiI z) v1 ?_
 refine xn 9 [(6, [0]), (8, [1])] [(13, .int .u64 (loI y)), (11, .int .u64 (loI x))] ?_
 refine xve 14 IntKind.u64 (bits BinOp.andNot IntKind.u64 (loI x) (loI y)) (loI z) v2 ?_
 refine xy [(11, [2])] [] [(2, [.int .u64 (hiI z), .int .u64 (loI z)])] ?_
 refine SW_ret ?_
 refine xe () (.agg #[.int .u64 (hiI z), .int .u64 (loI z)]) [2] ?_ trivial
 rfl
theorem ct_impl_Word_low (x : Nat) (a : Int) (i : Nat) (ha : Nn a i) (hi : i < 128) (hx : x < B128) : CtV Tryd.prog 68 [.agg #[.int .u64 (hiI x), .int .u64 (loI x)], .int .i64 a] [] (.agg #[.int .u64 (hiI (x % 2 ^ i)), .int .u64 (loI (x % 2 ^ i))]) := by
 obtain ⟨rfl⟩ := ha
 refine ct_of Tryd.func68 rfl (by kernel_rfl) (fun B w0 => ?_)
 have hh := hi_lt hx
 have z : decide ((i : Int) ≥ 128) = false := decide_eq_false (by omega)
 have hq : x / 2 ^ i < B128 := Nat.lt_of_le_of_lt (Nat.div_le_self _ _) hx
 have hv : x / 2 ^ i * 2 ^ i < B128 := Nat.lt_of_le_of_lt (Nat.div_mul_le_self _ _) hx
 have co := ct_impl_Word_or (hiI x) (loI x) 0 0 x 0 ⟨rfl, rfl⟩ ⟨rfl, rfl⟩ hx (by decide)
 rw [Nat.or_zero] at co
 have cl' := ct_impl_Word_left (hiI (x / 2 ^ i)) (loI (x / 2 ^ i)) (x / 2 ^ i) ⟨rfl, rfl⟩ (i : Int) i ⟨rfl⟩ hi hq
 rw [Nat.mod_eq_of_lt hv] at cl'
 obtain ⟨k1, k2⟩ := high_cells x i
 have cw : Go.bits .andNot .u64 (hiI x) (hiI (x / 2 ^ i * 2 ^ i)) = hiI (x % 2 ^ i) ∧ Go.bits .andNot .u64 (loI x) (loI (x / 2 ^ i * 2 ^ i)) = loI (x % 2 ^ i) := by
  unfold hiI loI
  by_cases h : i < 64
  ·obtain ⟨a1, a2, a3, a4⟩ := k1 h
   rw [a1, a2, a3, a4, andNot_self _ hh, andNot_high _ i (lo_lt x) (by omega)]
   exact ⟨rfl, rfl⟩
  ·obtain ⟨a1, a2, a3, a4⟩ := k2 (by omega)
   rw [a1, a2, a3, a4, andNot_high _ (i - 64) hh (by omega), andNot_zero _ (lo_lt x)]
   exact ⟨rfl, rfl⟩
 have cwo := ct_impl_Word_without x (x / 2 ^ i * 2 ^ i) (x % 2 ^ i) cw.1 cw.2
 refine xg ?_
 refine xb 2 [.int .u64 (hiI x), .int .u64 (loI x)] 25 (fun g0 => ?_)
 refine xb 4 [.int .u64 0, .int .u64 0] 25 (fun g1 => ?_)
 refine xz [] [] ?_
 refine SW_seq ?_
 refine xr [] [(6, .bool (decide ((i : Int) ≥ 128)))] ?_
 refine xsf z ?_
 refine SW_skip ?_
 refine xd (fun hB => ?_)
 refine xdk [(0, [0]), (1, []), (3, [0]), (4, []), (6, [])] [(14, .int .i64 (i : Int)), (12, .int .i64 (i : Int)), (11, .agg #[.int .u64 (hiI x), .int .u64 (loI x)]), (9, .agg #[.int .u64 0, .int .u64 0]), (8, .agg #[.int .u64 (hiI x), .int .u64 (loI x)])] hB ?_
 refine xdv 2 10 co zs0 ?_
 refine xdv 5 13 (ct_impl_Word_right (x) ((i : Int)) (i) ⟨rfl⟩ (by omega) hx) zs0 ?_
 refine xdv 7 15 cl' zs0 ?_
 refine xdv 8 16 cwo zs0 ?_
 refine xds 9 [1] [(1, [.int .u64 (hiI (x % 2 ^ i)), .int .u64 (loI (x % 2 ^ i))])] ?_
 refine xdz ?_
 refine SW_ret ?_
 refine xe () (.agg #[.int .u64 (hiI (x % 2 ^ i)), .int .u64 (loI (x % 2 ^ i))]) [1] ?_ trivial
 rfl
end Go.Proofs.YtdbnmdchecacdaaDoor.M
end
