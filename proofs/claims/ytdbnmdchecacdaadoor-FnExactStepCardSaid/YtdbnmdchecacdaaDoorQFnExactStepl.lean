import Derived.Test.YtdbnmdchecacdaaDoorQFnExactStepk
section
namespace Go.Proofs.YtdbnmdchecacdaaDoor.M
open Go.RowKit Go.Proofs.YtdbnmdchecacdaaDoor.G Go.Proofs.YtdbnmdchecacdaaDoorV.PrintWords Go.Proofs.YtdbnmdchecacdaaDoorV.PrintLast Go.Proofs.YtdbnmdchecacdaaDoorV.PrintMore Go.Proofs.YtdbnmdchecacdaaDoor.PL
set_option linter.unusedVariables false
set_option linter.unusedSimpArgs false
def B32 : Nat := 4294967296
def B64 : Nat := 18446744073709551616
theorem B32_pos : 0 < B32 := by unfold B32; omega
theorem B64_pos : 0 < B64 := by unfold B64; omega
theorem at_eq (l : List Int) (i : Int) (h : 0 ≤ i) : spec_l1At.f l i = some (rd l i) := by
  unfold spec_l1At.f
  by_cases h1 : i < (l.length : Int)
  · rw [if_pos h1, if_pos h]
  · rw [if_neg h1, rd_of_ge l i (by omega)]
theorem trim_eq (l : List Int) (h : l.length ≤ 35184372088832) : spec_l1Trim.f l = some (trimL l) := by
  unfold spec_l1Trim.f
  rw [if_pos h]
def d32 : List Int → List Int
  | [] => []
  | x :: l => x % 4294967296 :: x / 4294967296 :: d32 l
theorem d32_append (a b : List Int) : d32 (a ++ b) = d32 a ++ d32 b := by
  induction a with
  | nil => rfl
  | cons x a ih => simp [d32, ih]
theorem d32_length (l : List Int) : (d32 l).length = 2 * l.length := by
  induction l with
  | nil => rfl
  | cons x l ih => simp only [d32, List.length_cons, ih]; omega
theorem d32_dig {l : List Int} (h : Dig B64 l) : Dig B32 (d32 l) := by
  induction l with
  | nil => exact Dig.nil _
  | cons x l ih =>
    have hx := h x (by simp)
    unfold B64 at hx
    refine Dig.cons ?_ (Dig.cons ?_ (ih (fun y hy => h y (List.mem_cons_of_mem _ hy)))) <;> unfold B32 <;> omega
theorem d32_val {l : List Int} (h : Dig B64 l) : val B32 (d32 l) = val B64 l := by
  induction l with
  | nil => rfl
  | cons x l ih =>
    have hx := h x (by simp)
    have ih := ih (fun y hy => h y (List.mem_cons_of_mem _ hy))
    simp only [d32, val_cons, ih]
    unfold B64 at hx
    unfold B32 B64
    omega
def inL (l : List Int) : List Int := trimL (d32 l)
theorem inL_dig {l : List Int} (h : Dig B64 l) : Dig B32 (inL l) := (d32_dig h).trim
theorem inL_norm (l : List Int) : Norm (inL l) := norm_trim _
theorem inL_val {l : List Int} (h : Dig B64 l) : val B32 (inL l) = val B64 l := by unfold inL; rw [val_trim, d32_val h]
theorem inL_length (l : List Int) : (inL l).length ≤ 2 * l.length := by
  unfold inL
  have := trimL_length (d32 l)
  rw [d32_length] at this
  exact this
theorem in_loop (l : List Int) (hd : Dig B64 l) (hl : l.length ≤ 1073741824) (d : Nat) : ∀ i : Nat, i + d = l.length →
    Ev (fun k => spec_l1In.l0 k (d32 (l.take i)) l (l.length : Int) (i : Int)) (inL l) := by
  induction d with
  | zero =>
    intro i hi
    refine Ev.step (f := fun _ => some (inL l)) (fun k => ?_) (Ev.now _)
    simp only [spec_l1In.l0]
    rw [if_neg (by omega), List.take_of_length_le (by omega), trim_eq _ (by rw [d32_length]; omega)]
    rfl
  | succ d ih =>
    intro i hi
    have hx := hd.rd B64_pos (i : Int)
    refine Ev.step (fun k => ?_) (ih (i + 1) (by omega))
    have hlen : (d32 (l.take i)).length = 2 * i := by rw [d32_length, List.length_take]; omega
    unfold B64 at hx
    simp only [spec_l1In.l0]
    rw [if_pos (by omega), if_pos (by omega), if_pos (by omega)]
    simp only [Option.bind_some]
    rw [if_pos (by rw [hlen]; simp; omega), and_low32 _ hx.1 (by omega), wrap64_id (by omega), take_snoc_rd l i (by omega), d32_append]
    rfl
theorem in_ev (l : List Int) (hd : Dig B64 l) (hl : l.length ≤ 1073741824) : Ev (fun k => spec_l1In.f k l) (inL l) := in_loop l hd hl l.length 0 (by omega)
def outL : List Int → List Int
  | [] => []
  | [x] => [x]
  | x :: y :: l => (x + y * 4294967296) :: outL l
theorem outL_dig : ∀ {l : List Int}, Dig B32 l → Dig B64 (outL l)
  | [], _ => Dig.nil _
  | [x], h => by
    have hx := h x (by simp)
    unfold B32 at hx
    exact Dig.cons (by unfold B64; omega) (Dig.nil _)
  | x :: y :: l, h => by
    have hx := h x (by simp)
    have hy := h y (by simp)
    unfold B32 at hx hy
    exact Dig.cons (by unfold B64; omega) (outL_dig (fun z hz => h z (List.mem_cons_of_mem _ (List.mem_cons_of_mem _ hz))))
theorem outL_val : ∀ {l : List Int}, Dig B32 l → val B64 (outL l) = val B32 l
  | [], _ => rfl
  | [x], h => by simp [outL, val]
  | x :: y :: l, h => by
    have hx := h x (by simp)
    have hy := h y (by simp)
    have ih := outL_val (l := l) (fun z hz => h z (List.mem_cons_of_mem _ (List.mem_cons_of_mem _ hz)))
    simp only [outL, val_cons, ih]
    unfold B32 at hx hy
    unfold B32 B64
    omega
theorem norm_iff (l : List Int) : Norm l ↔ ∀ h : l ≠ [], l.getLast h ≠ 0 := by
  rcases Nat.eq_zero_or_pos l.length with h | h
  · have := List.eq_nil_of_length_eq_zero h
    subst this
    exact ⟨fun _ h => absurd rfl h, fun _ => rfl⟩
  · obtain ⟨a, x, rfl⟩ := snoc_of h
    rw [norm_snoc]
    simp
theorem outL_norm : ∀ {l : List Int}, Dig B32 l → Norm l → Norm (outL l)
  | [], _, _ => norm_nil
  | [x], _, h => h
  | [x, y], hd, h => by
    have hx := hd x (by simp)
    have h2 := (norm_iff _).1 h (by simp)
    simp at h2
    have hy := hd y (by simp)
    refine (norm_iff _).2 (fun _ => ?_)
    simp [outL]
    omega
  | x :: y :: z :: l, hd, h => by
    have h2 : Norm (z :: l) := by
      rw [norm_iff] at h ⊢
      intro hn
      have := h (by simp)
      simpa using this
    have ih := outL_norm (l := z :: l) (fun w hw => hd w (List.mem_cons_of_mem _ (List.mem_cons_of_mem _ hw))) h2
    rw [norm_iff] at ih ⊢
    intro hn
    have hne : outL (z :: l) ≠ [] := by cases l <;> simp [outL]
    have := ih hne
    simp only [outL]
    rw [List.getLast_cons hne]
    exact this
theorem out_loop (l : List Int) (hd : Dig B32 l) (hl : l.length ≤ 4294967296) (n : Nat) : ∀ (i : Nat) (acc rest : List Int), rest.length ≤ n → l.drop i = rest → i ≤ l.length → acc.length ≤ i →
    Ev (fun k => spec_l1Out.l0 k l acc (i : Int)) (acc ++ outL rest) := by
  induction n with
  | zero =>
    intro i acc rest hn hr hi ha
    have h0 : rest = [] := List.eq_nil_of_length_eq_zero (by omega)
    subst h0
    have hlen := congrArg List.length hr
    rw [List.length_drop] at hlen
    refine Ev.step (f := fun _ => some (acc ++ outL [])) (fun k => ?_) (Ev.now _)
    simp only [spec_l1Out.l0]
    rw [if_neg (by simp at hlen; omega)]
    simp [outL]
  | succ n ih =>
    intro i acc rest hn hr hi ha
    match rest, hn, hr with
    | [], hn, hr => exact ih i acc [] (by simp) hr hi ha
    | [x], hn, hr =>
      have hlen := congrArg List.length hr
      rw [List.length_drop] at hlen
      simp at hlen
      have hx : rd l (i : Int) = x := rd_of_drop hr
      refine Ev.step (f := fun k => spec_l1Out.l0 k l (acc ++ [x]) ((i + 2 : Nat) : Int)) (fun k => ?_) (Ev.step (f := fun _ => some (acc ++ outL [x])) (fun k => ?_) (Ev.now _))
      · simp only [spec_l1Out.l0]
        rw [if_pos (by omega), if_pos (by omega), wrap64_id (by omega), if_neg (by omega), if_pos (by omega), wrap64_id (by omega), hx]
        rfl
      · simp only [spec_l1Out.l0]
        rw [if_neg (by omega)]
        simp [outL]
    | x :: y :: r, hn, hr =>
      have hlen := congrArg List.length hr
      rw [List.length_drop] at hlen
      simp at hlen
      have hx : rd l (i : Int) = x := rd_of_drop hr
      have hy : rd l ((i : Int) + 1) = y := rd_of_drop (i := i + 1) (drop_succ_of hr)
      have hr2 : l.drop (i + 2) = r := drop_succ_of (drop_succ_of hr)
      have dx := hd.rd B32_pos (i : Int)
      have dy := hd.rd B32_pos ((i : Int) + 1)
      rw [hx] at dx
      rw [hy] at dy
      unfold B32 at dx dy
      have hor : bits .or .u64 x (IntKind.u64.wrap (y * 4294967296)) = x + y * 4294967296 := by
        rw [wrap_u64_id (by omega)]
        exact or_join' 32 x (y * 4294967296) (by omega) (by simp) (by omega) (by omega) (by simp; omega) (by omega)
      have hrl : r.length ≤ n := by simp at hn; omega
      refine Ev.step (fun k => ?_) (ev_to (ih (i + 2) (acc ++ [x + y * 4294967296]) r hrl hr2 (by omega) (by simp; omega)) (by simp [outL]))
      simp only [spec_l1Out.l0]
      rw [if_pos (by omega), if_pos (by omega), wrap64_id (by omega), if_pos (by omega), if_pos (by omega), if_pos (by omega), wrap64_id (by omega), hx, hy, hor]
      rfl
theorem out_ev (l : List Int) (hd : Dig B32 l) (hl : l.length ≤ 4294967296) : Ev (fun k => spec_l1Out.f k l) (outL l) := by
  have h := out_loop l hd hl l.length 0 [] l (Nat.le_refl _) rfl (by omega) (by simp)
  unfold spec_l1Out.f
  simpa using h
end Go.Proofs.YtdbnmdchecacdaaDoor.M
end
section
namespace Go.Proofs.YtdbnmdchecacdaaDoor.M
open Go.RowKit Go.Proofs.YtdbnmdchecacdaaDoor.G Go.Proofs.YtdbnmdchecacdaaDoorV.PrintWords Go.Proofs.YtdbnmdchecacdaaDoorV.PrintLast Go.Proofs.YtdbnmdchecacdaaDoorV.PrintMore Go.Proofs.YtdbnmdchecacdaaDoor.PL
set_option linter.unusedVariables false
set_option linter.unusedSimpArgs false
theorem sadd_loop (a b : List Int) (ha : Dig B32 a) (hb : Dig B32 b) (n : Nat) (hn : a.length ≤ n ∧ b.length ≤ n) (hm : n ≤ 1073741824) (d : Nat) : ∀ (i : Nat) (acc : List Int) (c : Int), i + d = n + 1 → acc.length = i → Dig B32 acc → 0 ≤ c ∧ c ≤ 1 → (i = n + 1 → c = 0) →
    val B32 acc + B32 ^ i * c.toNat = val B32 (a.take i) + val B32 (b.take i) →
    ∃ r, Ev (fun k => spec_l1Add.l0 k a b (n : Int) acc c (i : Int)) r ∧ Dig B32 r ∧ Norm r ∧ val B32 r = val B32 a + val B32 b ∧ r.length ≤ n + 1 := by
  induction d with
  | zero =>
    intro i acc c hi hac hd hc hz hv
    refine ⟨trimL acc, Ev.step (f := fun _ => some (trimL acc)) (fun k => ?_) (Ev.now _), hd.trim, norm_trim _, ?_, ?_⟩
    · simp only [spec_l1Add.l0]
      rw [if_neg (by omega), trim_eq _ (by omega)]
      rfl
    · rw [hz (by omega), val_take_all _ a _ (by omega), val_take_all _ b _ (by omega)] at hv
      rw [val_trim]
      simpa using hv
    · have := trimL_length acc
      omega
  | succ d ih =>
    intro i acc c hi hac hd hc hz hv
    have dx := ha.rd B32_pos (i : Int)
    have dy := hb.rd B32_pos (i : Int)
    have hrx : i = n → rd a (i : Int) = 0 := fun h => rd_of_ge a _ (by simp; omega)
    have hry : i = n → rd b (i : Int) = 0 := fun h => rd_of_ge b _ (by simp; omega)
    have hb32 : (B32 : Int) = 4294967296 := rfl
    have hb32n : B32 = 4294967296 := rfl
    have hsum : ((rd a (i : Int) + rd b (i : Int) + c) % 4294967296).toNat + B32 * ((rd a (i : Int) + rd b (i : Int) + c) / 4294967296).toNat = (rd a (i : Int)).toNat + (rd b (i : Int)).toNat + c.toNat := by
      rw [hb32n]
      omega
    obtain ⟨r, hr, h2⟩ := ih (i + 1) (acc ++ [(rd a (i : Int) + rd b (i : Int) + c) % 4294967296]) ((rd a (i : Int) + rd b (i : Int) + c) / 4294967296) (by omega) (by simp [hac]) (hd.snoc (by omega)) (by omega) (by
        intro h
        rw [hrx (by omega), hry (by omega)]
        omega) (by
      rw [val_snoc, hac, val_take_succ, val_take_succ, Nat.pow_succ, Nat.mul_assoc, Nat.add_assoc, ← Nat.mul_add, hsum, Nat.mul_add, Nat.mul_add]
      omega)
    refine ⟨r, Ev.step (fun k => ?_) hr, h2⟩
    simp only [spec_l1Add.l0]
    rw [if_pos (by omega), at_eq _ _ (by omega), at_eq _ _ (by omega)]
    simp only [Option.bind_some]
    rw [if_pos (by omega), wrap_u64_id (n := rd a (i : Int) + rd b (i : Int)) (by omega), wrap_u64_id (by omega), and_low32 _ (by omega) (by omega), wrap64_id (by omega)]
    rfl
theorem sadd_ev (a b : List Int) (ha : Dig B32 a) (hb : Dig B32 b) (la : a.length ≤ 1073741824) (lb : b.length ≤ 1073741824) :
    ∃ r, Ev (fun k => spec_l1Add.f k a b) r ∧ Dig B32 r ∧ Norm r ∧ val B32 r = val B32 a + val B32 b ∧ r.length ≤ max a.length b.length + 1 := by
  by_cases h : (b.length : Int) > (a.length : Int)
  · obtain ⟨r, hr, h1, h2, h3, h4⟩ := sadd_loop a b ha hb b.length (by omega) (by omega) (b.length + 1) 0 [] 0 (by omega) rfl (Dig.nil _) (by omega) (by omega) (by simp [val])
    refine ⟨r, Ev.congr (fun k => ?_) (Ev.step (g := fun k => spec_l1Add.j0 k a b (b.length : Int)) (fun k => ?_) hr), h1, h2, h3, by omega⟩
    · unfold spec_l1Add.f
      rw [if_pos h]
    · simp only [spec_l1Add.j0]
      rfl
  · obtain ⟨r, hr, h1, h2, h3, h4⟩ := sadd_loop a b ha hb a.length (by omega) (by omega) (a.length + 1) 0 [] 0 (by omega) rfl (Dig.nil _) (by omega) (by omega) (by simp [val])
    refine ⟨r, Ev.congr (fun k => ?_) (Ev.step (g := fun k => spec_l1Add.j0 k a b (a.length : Int)) (fun k => ?_) hr), h1, h2, h3, by omega⟩
    · unfold spec_l1Add.f
      rw [if_neg h]
    · simp only [spec_l1Add.j0]
      rfl
theorem ssub_loop (a b : List Int) (ha : Dig B32 a) (hb : Dig B32 b) (hm : a.length ≤ 1073741824) (d : Nat) : ∀ (i : Nat) (acc : List Int) (c : Int), i + d = a.length → acc.length = i → Dig B32 acc → 0 ≤ c ∧ c ≤ 1 →
    val B32 acc + val B32 (b.take i) = val B32 (a.take i) + B32 ^ i * c.toNat →
    ∃ (r : List Int) (c' : Int), Ev (fun k => spec_l1Sub.l0 k a b acc c (i : Int)) (trimL r) ∧ Dig B32 r ∧ r.length = a.length ∧ 0 ≤ c' ∧ c' ≤ 1 ∧ val B32 r + val B32 (b.take a.length) = val B32 a + B32 ^ a.length * c'.toNat := by
  induction d with
  | zero =>
    intro i acc c hi hac hd hc hv
    refine ⟨acc, c, Ev.step (f := fun _ => some (trimL acc)) (fun k => ?_) (Ev.now _), hd, by omega, hc.1, hc.2, ?_⟩
    · simp only [spec_l1Sub.l0]
      rw [if_neg (by omega), trim_eq _ (by omega)]
      rfl
    · rw [show a.length = i by omega, hv, val_take_all _ a _ (by omega)]
  | succ d ih =>
    intro i acc c hi hac hd hc hv
    have dx := ha.rd B32_pos (i : Int)
    have dy := hb.rd B32_pos (i : Int)
    have hb32 : (B32 : Int) = 4294967296 := rfl
    have hb32n : B32 = 4294967296 := rfl
    have hsum : ((4294967296 + rd a (i : Int) - rd b (i : Int) - c) % 4294967296).toNat + (rd b (i : Int)).toNat + c.toNat = (rd a (i : Int)).toNat + B32 * (1 - (4294967296 + rd a (i : Int) - rd b (i : Int) - c) / 4294967296).toNat := by
      rw [hb32n]
      omega
    obtain ⟨r, c', hr, h2⟩ := ih (i + 1) (acc ++ [(4294967296 + rd a (i : Int) - rd b (i : Int) - c) % 4294967296]) (1 - (4294967296 + rd a (i : Int) - rd b (i : Int) - c) / 4294967296) (by omega) (by simp [hac]) (hd.snoc (by omega)) (by omega) (by
      rw [val_snoc, hac, val_take_succ, val_take_succ, Nat.pow_succ, Nat.mul_assoc]
      have h3 := congrArg (B32 ^ i * ·) hsum
      simp only [Nat.mul_add] at h3
      omega)
    refine ⟨r, c', Ev.step (fun k => ?_) hr, h2⟩
    simp only [spec_l1Sub.l0]
    rw [if_pos (by omega), if_pos (by omega), at_eq _ _ (by omega)]
    simp only [Option.bind_some]
    rw [if_pos (by omega), wrap_u64_id (n := 4294967296 + rd a (i : Int)) (by omega), wrap_u64_id (n := 4294967296 + rd a (i : Int) - rd b (i : Int)) (by omega), wrap_u64_id (n := 4294967296 + rd a (i : Int) - rd b (i : Int) - c) (by omega), and_low32 _ (by omega) (by omega), wrap64_id (by omega), wrap_u64_id (by omega)]
    rfl
theorem ssub_ev (a b : List Int) (ha : Dig B32 a) (hb : Dig B32 b) (la : a.length ≤ 1073741824) (h : val B32 b ≤ val B32 a) :
    ∃ r, Ev (fun k => spec_l1Sub.f k a b) r ∧ Dig B32 r ∧ Norm r ∧ val B32 r = val B32 a - val B32 b ∧ r.length ≤ a.length := by
  obtain ⟨r, c, hr, h1, h2, h3, h4, h5⟩ := ssub_loop a b ha hb la a.length 0 [] 0 (by omega) rfl (Dig.nil _) (by omega) (by simp [val])
  have hva := val_lt ha
  have hvr := val_lt h1
  rw [h2] at hvr
  have hbt : val B32 (b.take a.length) = val B32 b := by
    rcases Nat.lt_or_ge b.length a.length with hl | hl
    · rw [val_take_all _ _ _ (by omega)]
    · have hs := val_split B32 b a.length hl
      have h0 : val B32 (b.drop a.length) = 0 := by
        rcases Nat.eq_zero_or_pos (val B32 (b.drop a.length)) with h6 | h6
        · exact h6
        · have : B32 ^ a.length * 1 ≤ B32 ^ a.length * val B32 (b.drop a.length) := Nat.mul_le_mul_left _ h6
          omega
      rw [h0] at hs
      omega
  rw [hbt] at h5
  have hc : c = 0 := by
    rcases (show c = 0 ∨ c = 1 by omega) with hc | hc
    · exact hc
    · rw [hc] at h5
      simp at h5
      omega
  rw [hc] at h5
  refine ⟨trimL r, hr, h1.trim, norm_trim _, ?_, ?_⟩
  · rw [val_trim]
    simp at h5
    omega
  · have := trimL_length r
    omega
end Go.Proofs.YtdbnmdchecacdaaDoor.M
end
section
namespace Go.Proofs.YtdbnmdchecacdaaDoor.M
open Go.RowKit Go.Proofs.YtdbnmdchecacdaaDoor.G Go.Proofs.YtdbnmdchecacdaaDoorV.PrintWords Go.Proofs.YtdbnmdchecacdaaDoorV.PrintLast Go.Proofs.YtdbnmdchecacdaaDoorV.PrintMore Go.Proofs.YtdbnmdchecacdaaDoor.PL
set_option linter.unusedVariables false
set_option linter.unusedSimpArgs false
theorem add64_spec (a b c : Int) (ha : 0 ≤ a ∧ a < (B64 : Int)) (hb : 0 ≤ b ∧ b < (B64 : Int)) (hc : 0 ≤ c ∧ c ≤ 1) :
    0 ≤ add64s a b c ∧ add64s a b c < (B64 : Int) ∧ 0 ≤ add64c a b c ∧ add64c a b c ≤ 1 ∧ (add64s a b c).toNat + B64 * (add64c a b c).toNat = a.toNat + b.toNat + c.toNat := by
  unfold add64s add64c
  unfold B64 at *
  omega
theorem sub64_spec (a b c : Int) (ha : 0 ≤ a ∧ a < (B64 : Int)) (hb : 0 ≤ b ∧ b < (B64 : Int)) (hc : 0 ≤ c ∧ c ≤ 1) :
    0 ≤ sub64s a b c ∧ sub64s a b c < (B64 : Int) ∧ 0 ≤ sub64c a b c ∧ sub64c a b c ≤ 1 ∧ (sub64s a b c).toNat + b.toNat + c.toNat = a.toNat + B64 * (sub64c a b c).toNat := by
  unfold sub64s sub64c
  unfold B64 at *
  split <;> omega
theorem fill_set (acc : List Int) (n i : Nat) (x : Int) (hi : acc.length = i) (h : i < n) : (acc ++ List.replicate (n - i) 0).set i x = (acc ++ [x]) ++ List.replicate (n - (i + 1)) 0 := by
  obtain ⟨m, hm⟩ : ∃ m, n - i = m + 1 := ⟨n - i - 1, by omega⟩
  rw [hm, show n - (i + 1) = m by omega, List.replicate_succ, List.set_append_right _ _ (by omega), hi, Nat.sub_self]
  simp
theorem iadd_loop (a b : List Int) (ha : Dig B64 a) (hb : Dig B64 b) (hl : b.length ≤ a.length) (hm : a.length ≤ 1073741824) (d : Nat) : ∀ (i : Nat) (acc : List Int) (c : Int), i + d = a.length → acc.length = i → Dig B64 acc → 0 ≤ c ∧ c ≤ 1 →
    val B64 acc + B64 ^ i * c.toNat = val B64 (a.take i) + val B64 (b.take i) →
    ∃ r, Ev (fun k => impl_nat_add.l0 k a b (acc ++ List.replicate (a.length + 1 - i) 0) c (a.length : Int) (i : Int)) r ∧ Dig B64 r ∧ Norm r ∧ val B64 r = val B64 a + val B64 b ∧ r.length ≤ a.length + 1 := by
  induction d with
  | zero =>
    intro i acc c hi hac hd hc hv
    refine ⟨trimL (acc ++ [c]), Ev.step (f := fun _ => some (trimL (acc ++ [c]))) (fun k => ?_) (Ev.now _), (hd.snoc ?_).trim, norm_trim _, ?_, ?_⟩
    · have hlen : (acc ++ List.replicate (a.length + 1 - i) 0).length = a.length + 1 := by rw [List.length_append, List.length_replicate]; omega
      simp only [impl_nat_add.l0]
      rw [if_neg (by omega), if_pos (by omega), if_pos (by rw [hlen]; omega), Int.toNat_natCast, show a.length = i by omega, fill_set acc (i + 1) i c hac (by omega)]
      simp
    · unfold B64; omega
    · rw [val_trim, val_snoc, hac, hv, val_take_all _ a _ (by omega), val_take_all _ b _ (by omega)]
    · have := trimL_length (acc ++ [c])
      rw [List.length_append, List.length_singleton] at this
      omega
  | succ d ih =>
    intro i acc c hi hac hd hc hv
    have dx := ha.rd B64_pos (i : Int)
    have dy := hb.rd B64_pos (i : Int)
    have hlen : (acc ++ List.replicate (a.length + 1 - i) 0).length = a.length + 1 := by rw [List.length_append, List.length_replicate]; omega
    obtain ⟨s1, s2, s3, s4, s5⟩ := add64_spec _ _ _ dx dy hc
    obtain ⟨r, hr, h2⟩ := ih (i + 1) (acc ++ [add64s (rd a (i : Int)) (rd b (i : Int)) c]) (add64c (rd a (i : Int)) (rd b (i : Int)) c) (by omega) (by simp [hac]) (hd.snoc ⟨s1, s2⟩) ⟨s3, s4⟩ (by
      rw [val_snoc, hac, val_take_succ, val_take_succ, Nat.pow_succ, Nat.mul_assoc, Nat.add_assoc, ← Nat.mul_add, s5, Nat.mul_add, Nat.mul_add]
      omega)
    refine ⟨r, Ev.step (fun k => ?_) hr, h2⟩
    simp only [impl_nat_add.l0]
    rw [if_pos (by omega)]
    by_cases h : (i : Int) < (b.length : Int)
    · rw [if_pos h, if_pos (by omega), if_pos (by omega), if_pos (by omega), if_pos (by rw [hlen]; omega), Int.toNat_natCast, fill_set acc _ i _ hac (by omega), wrap64_id (by omega)]
      rfl
    · have h0 : rd b (i : Int) = 0 := rd_of_ge b _ (by omega)
      rw [h0]
      rw [if_neg h, if_pos (by omega), if_pos (by omega), if_pos (by omega), if_pos (by rw [hlen]; omega), Int.toNat_natCast, fill_set acc _ i _ hac (by omega), wrap64_id (by omega)]
      rfl
theorem iadd_ev (a b : List Int) (ha : Dig B64 a) (hb : Dig B64 b) (la : a.length ≤ 1073741824) (lb : b.length ≤ 1073741824) :
    ∃ r, Ev (fun k => impl_nat_add.f k a b) r ∧ Dig B64 r ∧ Norm r ∧ val B64 r = val B64 a + val B64 b ∧ r.length ≤ max a.length b.length + 1 := by
  have key : ∀ x y : List Int, Dig B64 x → Dig B64 y → y.length ≤ x.length → x.length ≤ 1073741824 →
      ∃ r, Ev (fun k => impl_nat_add.j0 k x y) r ∧ Dig B64 r ∧ Norm r ∧ val B64 r = val B64 x + val B64 y ∧ r.length ≤ x.length + 1 := by
    intro x y hx hy hl hm
    obtain ⟨r, hr, h2⟩ := iadd_loop x y hx hy hl hm x.length 0 [] 0 (by omega) rfl (Dig.nil _) (by omega) (by simp [val])
    refine ⟨r, Ev.step (fun k => ?_) hr, h2⟩
    simp only [impl_nat_add.j0]
    rw [wrap64_id (by omega), if_pos (by omega), if_pos (by omega)]
    rfl
  by_cases h : (a.length : Int) < (b.length : Int)
  · obtain ⟨r, hr, h1, h2, h3, h4⟩ := key b a hb ha (by omega) (by omega)
    refine ⟨r, Ev.congr (fun k => ?_) hr, h1, h2, by omega, by omega⟩
    unfold impl_nat_add.f
    rw [if_pos h]
  · obtain ⟨r, hr, h1, h2, h3, h4⟩ := key a b ha hb (by omega) (by omega)
    refine ⟨r, Ev.congr (fun k => ?_) hr, h1, h2, by omega, by omega⟩
    unfold impl_nat_add.f
    rw [if_neg h]
end Go.Proofs.YtdbnmdchecacdaaDoor.M
end
section
namespace Go.Proofs.YtdbnmdchecacdaaDoor.M
open Go.RowKit Go.Proofs.YtdbnmdchecacdaaDoor.G Go.Proofs.YtdbnmdchecacdaaDoorV.PrintWords Go.Proofs.YtdbnmdchecacdaaDoorV.PrintLast Go.Proofs.YtdbnmdchecacdaaDoorV.PrintMore Go.Proofs.YtdbnmdchecacdaaDoor.PL
set_option linter.unusedVariables false
set_option linter.unusedSimpArgs false
theorem wf_u64 {l : List Int} (h : ∀ x ∈ l, (Lit.int .u64 x).wf = true) : Dig B64 l := by
  intro x hx
  have := h x hx
  simp [Lit.wf, IntKind.min, IntKind.max, IntKind.signed, IntKind.bits] at this
  unfold B64
  omega
def IsNat (l : List Int) (v : Nat) : Prop := Dig B64 l ∧ Norm l ∧ val B64 l = v
theorem IsNat.uniq {a b : List Int} {v : Nat} (h : IsNat a v) (k : IsNat b v) : a = b := norm_inj B64_pos h.1 k.1 h.2.1 k.2.1 (h.2.2.trans k.2.2.symm)
theorem IsNat.nil : IsNat [] 0 := ⟨Dig.nil _, norm_nil, rfl⟩
theorem IsNat.out {l : List Int} {v : Nat} (hd : Dig B32 l) (hn : Norm l) (hv : val B32 l = v) : IsNat (outL l) v := ⟨outL_dig hd, outL_norm hd hn, by rw [outL_val hd, hv]⟩
end Go.Proofs.YtdbnmdchecacdaaDoor.M
end
section
namespace Go.Proofs.YtdbnmdchecacdaaDoor.M
open Go.RowKit Go.Proofs.YtdbnmdchecacdaaDoor.G Go.Proofs.YtdbnmdchecacdaaDoorV.PrintWords Go.Proofs.YtdbnmdchecacdaaDoorV.PrintLast Go.Proofs.YtdbnmdchecacdaaDoorV.PrintMore Go.Proofs.YtdbnmdchecacdaaDoor.PL
set_option linter.unusedVariables false
set_option linter.unusedSimpArgs false
theorem cast_dig {B n : Nat} (h : n < B) : 0 ≤ (n : Int) ∧ (n : Int) < (B : Int) := by omega
theorem low32_nat (n : Nat) (h : n < 18446744073709551616) : bits .and .u64 (n : Int) 4294967295 = ((n % 4294967296 : Nat) : Int) := by
  rw [and_low32 _ (by omega) (by omega)]
  omega
def sl (B P : Nat) : Nat → List Int → List Int
  | c, [] => [(c : Int)]
  | c, x :: l => (((x.toNat * P + c) % B : Nat) : Int) :: sl B P ((x.toNat * P + c) / B) l
theorem sl_val (B P : Nat) : ∀ (l : List Int) (c : Nat), val B (sl B P c l) = val B l * P + c
  | [], c => by simp [sl, val]
  | x :: l, c => by
    simp only [sl, val_cons, Int.toNat_natCast]
    rw [sl_val B P l, Nat.mul_add, Nat.add_mul, Nat.mul_assoc]
    have h := Nat.mod_add_div (x.toNat * P + c) B
    generalize (x.toNat * P + c) % B = m at *
    generalize B * ((x.toNat * P + c) / B) = q at *
    omega
theorem carry_lt {B P x c : Nat} (hx : x < B) (hc : c < P) : (x * P + c) / B < P := by
  have hB : 0 < B := by omega
  refine Nat.div_lt_of_lt_mul ?_
  have h := Nat.mul_le_mul_right P (show x + 1 ≤ B from hx)
  rw [Nat.add_mul, Nat.one_mul] at h
  omega
theorem sl_dig {B P : Nat} (hB : 0 < B) (hP : P ≤ B) : ∀ (l : List Int) (c : Nat), Dig B l → c < P → Dig B (sl B P c l)
  | [], c, _, hc => Dig.cons (by omega) (Dig.nil _)
  | x :: l, c, h, hc => by
    have hx := h x (by simp)
    have h1 := Nat.mod_lt (x.toNat * P + c) hB
    exact Dig.cons (by omega) (sl_dig hB hP l _ (fun y hy => h y (List.mem_cons_of_mem _ hy)) (carry_lt (by omega) hc))
theorem sl_length (B P : Nat) : ∀ (l : List Int) (c : Nat), (sl B P c l).length = l.length + 1
  | [], c => rfl
  | x :: l, c => by simp only [sl, List.length_cons, sl_length B P l]
def sr (B P : Nat) : List Int → List Int
  | [] => []
  | x :: l => (((x.toNat + B * ((rd l 0).toNat % P)) / P : Nat) : Int) :: sr B P l
theorem val_mod (B P : Nat) (h : P ∣ B) (l : List Int) : val B l % P = (rd l 0).toNat % P := by
  cases l with
  | nil => rfl
  | cons x l =>
    obtain ⟨K, rfl⟩ := h
    rw [val_cons, Nat.mul_assoc, Nat.add_mul_mod_self_left]
    rfl
theorem sr_val {B P : Nat} (hP : 0 < P) (h : P ∣ B) : ∀ l : List Int, val B (sr B P l) = val B l / P
  | [] => by simp [sr, val]
  | x :: l => by
    simp only [sr, val_cons, Int.toNat_natCast]
    rw [sr_val hP h l, ← val_mod B P h l]
    have h1 := Nat.mod_add_div (val B l) P
    have h2 : x.toNat + B * val B l = x.toNat + B * (val B l % P) + P * (B * (val B l / P)) := by
      have h3 := congrArg (B * ·) h1
      simp only [Nat.mul_add] at h3
      rw [Nat.mul_left_comm] at h3
      omega
    rw [h2, Nat.add_mul_div_left _ _ hP]
theorem quot_lt {B P x y : Nat} (hP : 0 < P) (hx : x < B) : (x + B * (y % P)) / P < B := by
  have h1 := Nat.mod_lt y hP
  refine Nat.div_lt_of_lt_mul ?_
  have h := Nat.mul_le_mul_left B (show y % P + 1 ≤ P from h1)
  rw [Nat.mul_add, Nat.mul_one, Nat.mul_comm B P] at h
  omega
theorem sr_dig {B P : Nat} (hP : 0 < P) : ∀ l : List Int, Dig B l → Dig B (sr B P l)
  | [], _ => Dig.nil _
  | x :: l, h => by
    have hx := h x (by simp)
    have h1 : (x.toNat + B * ((rd l 0).toNat % P)) / P < B := quot_lt hP (by omega)
    exact Dig.cons (cast_dig h1) (sr_dig hP l (fun y hy => h y (List.mem_cons_of_mem _ hy)))
theorem sr_length (B P : Nat) : ∀ l : List Int, (sr B P l).length = l.length
  | [] => rfl
  | x :: l => by simp only [sr, List.length_cons, sr_length B P l]
theorem div_split {B P x y : Nat} (hP : 0 < P) (hx : x < B) : (x + B * y) / P % B = (x + B * (y % P)) / P := by
  have h1 := Nat.mod_add_div y P
  have h2 : x + B * y = x + B * (y % P) + P * (B * (y / P)) := by
    have h3 := congrArg (B * ·) h1
    simp only [Nat.mul_add] at h3
    rw [Nat.mul_left_comm] at h3
    omega
  rw [h2, Nat.add_mul_div_left _ _ hP, Nat.add_mul_mod_self_left, Nat.mod_eq_of_lt (quot_lt hP hx)]
theorem tdiv_nat (m d : Nat) : Int.tdiv (m : Int) (d : Int) = ((m / d : Nat) : Int) := by rw [Int.tdiv_eq_ediv_of_nonneg (by omega)]; rfl
theorem tmod_nat (m d : Nat) : Int.tmod (m : Int) (d : Int) = ((m % d : Nat) : Int) := by rw [Int.tmod_eq_emod_of_nonneg (by omega)]; rfl
theorem wtdiv (m d : Nat) (h : m ≤ 9223372036854775807) : wrap64 (Int.tdiv (m : Int) (d : Int)) = ((m / d : Nat) : Int) := by
  have := Nat.div_le_self m d
  rw [tdiv_nat]
  generalize m / d = q at *
  rw [wrap64_id (by omega)]
theorem wtmod (m d : Nat) (h : m ≤ 9223372036854775807) : IntKind.u64.wrap (Int.tmod (m : Int) (d : Int)) = ((m % d : Nat) : Int) := by
  have := Nat.mod_le m d
  rw [tmod_nat]
  generalize m % d = q at *
  rw [wrap_u64_id (by omega)]
theorem shl_nat (x p : Nat) (hp : p ≤ 64) : shl .u64 (x : Int) (p : Int) = ((x * 2 ^ p % 18446744073709551616 : Nat) : Int) := by
  unfold shl
  rw [wrap_u64, Int.toNat_natCast, show IntKind.u64.bits = 64 from rfl, Nat.min_eq_left hp, show ((x : Int) * 2 ^ p) = ((x * 2 ^ p : Nat) : Int) by simp]
  exact (Int.natCast_emod _ 18446744073709551616).symm
theorem shr_nat (x p : Nat) (hp : p ≤ 64) : shr .u64 (x : Int) (p : Int) = ((x / 2 ^ p : Nat) : Int) := by
  unfold shr
  rw [Int.toNat_natCast, show IntKind.u64.bits = 64 from rfl, Nat.min_eq_left hp]
  simp
theorem or_nat (p x y : Nat) (hp : p ≤ 64) (hx : x < 18446744073709551616) (h : 2 ^ p ∣ x) (hy : y < 2 ^ p) : bits .or .u64 (x : Int) (y : Int) = ((x + y : Nat) : Int) := by
  have h64 : 2 ^ p ≤ 2 ^ 64 := Nat.pow_le_pow_right (by omega) hp
  have hc : ((2 : Int) ^ p) = ((2 ^ p : Nat) : Int) := by simp
  rw [or_join p x y (by omega) (by rw [hc]; have := Nat.mod_eq_zero_of_dvd h; omega) (by omega) (by omega) (by rw [hc]; omega) (by omega)]
  omega
theorem or_nat' (p x y : Nat) (hp : p ≤ 64) (hx : x < 18446744073709551616) (h : 2 ^ p ∣ x) (hy : y < 2 ^ p) : bits .or .u64 (y : Int) (x : Int) = ((y + x : Nat) : Int) := by
  rw [bits_or_comm, or_nat p x y hp hx h hy, Nat.add_comm]
theorem pow_split (w p : Nat) (h : p ≤ w) : 2 ^ w = 2 ^ (w - p) * 2 ^ p := by rw [← Nat.pow_add]; congr 1; omega
theorem pow_div_mod (v w n : Nat) : v / 2 ^ n = v / (2 ^ w) ^ (n / w) / 2 ^ (n % w) := by
  rw [Nat.div_div_eq_div_mul, ← Nat.pow_mul, ← Nat.pow_add]
  congr 2
  exact (Nat.div_add_mod n w).symm
theorem pow_mul_mod (v w n : Nat) : v * 2 ^ n = (2 ^ w) ^ (n / w) * (v * 2 ^ (n % w)) := by
  rw [Nat.mul_left_comm, ← Nat.pow_mul, ← Nat.pow_add, Nat.div_add_mod]
theorem B32_pow : B32 = 2 ^ 32 := by unfold B32; rfl
theorem B64_pow : B64 = 2 ^ 64 := by unfold B64; rfl
theorem val_drop (B : Nat) (hB : 0 < B) {l : List Int} (h : Dig B l) (d : Nat) : val B (l.drop d) = val B l / B ^ d := by
  rcases Nat.lt_or_ge l.length d with hl | hl
  · rw [List.drop_eq_nil_of_le (by omega), Nat.div_eq_of_lt]
    · rfl
    · have h1 := val_lt h
      have h2 : B ^ l.length ≤ B ^ d := Nat.pow_le_pow_right hB (by omega)
      omega
  · have h1 := val_split B l d hl
    have h2 := val_lt (h.take d)
    rw [List.length_take, Nat.min_eq_left hl] at h2
    rw [h1, Nat.add_mul_div_left _ _ (Nat.pow_pos hB), Nat.div_eq_of_lt h2]
    omega
theorem val_shl (B d : Nat) (l : List Int) : val B (List.replicate d 0 ++ l) = B ^ d * val B l := by
  rw [val_append, val_zeros, List.length_replicate]
  omega
theorem sleft_loop (a : List Int) (ha : Dig B32 a) (la : a.length ≤ 1073741824) (n : Nat) (hn : n ≤ 1000000) (rest : List Int) : ∀ (i : Nat) (acc : List Int) (c : Nat), a.drop i = rest → i ≤ a.length → c < 2 ^ (n % 32) → acc.length ≤ 80000 + i →
    Ev (fun k => spec_l1Left.l0 k a (n : Int) acc (c : Int) (i : Int)) (trimL (acc ++ sl B32 (2 ^ (n % 32)) c rest)) := by
  have hp : n % 32 < 32 := Nat.mod_lt _ (by omega)
  have hP : 2 ^ (n % 32) ≤ 2 ^ 31 := Nat.pow_le_pow_right (by omega) (by omega)
  have hw := wtmod n 32 (by omega)
  have step : ∀ (x c : Nat), x < 4294967296 → c < 2 ^ (n % 32) → bits .or .u64 (shl .u64 (x : Int) ((n % 32 : Nat) : Int)) (c : Int) = ((x * 2 ^ (n % 32) + c : Nat) : Int) ∧ x * 2 ^ (n % 32) + c < 18446744073709551616 := by
    intro x c hx hc
    have h1 : x * 2 ^ (n % 32) ≤ 4294967295 * 2 ^ 31 := Nat.mul_le_mul (by omega) hP
    rw [shl_nat _ _ (by omega), Nat.mod_eq_of_lt (by omega), or_nat (n % 32) _ _ (by omega) (by omega) (Nat.dvd_mul_left _ _) hc]
    exact ⟨rfl, by omega⟩
  induction rest with
  | nil =>
    intro i acc c hr hi hc hac
    have hlen := congrArg List.length hr
    rw [List.length_drop] at hlen
    simp at hlen
    have h0 : rd a (i : Int) = 0 := rd_of_ge a _ (by simp; omega)
    obtain ⟨s1, s2⟩ := step 0 c (by omega) hc
    refine Ev.step (f := fun k => spec_l1Left.l0 k a (n : Int) (acc ++ [(c : Int)]) 0 ((i + 1 : Nat) : Int)) (fun k => ?_) (Ev.step (f := fun _ => some (trimL (acc ++ sl B32 (2 ^ (n % 32)) c []))) (fun k => ?_) (Ev.now _))
    · simp only [spec_l1Left.l0]
      rw [if_pos (by omega), at_eq _ _ (by omega), h0, Option.bind_some, show ((32 : Int)) = ((32 : Nat) : Int) from rfl, hw, if_pos (by omega), if_pos (by omega)]
      rw [show (0 : Int) = ((0 : Nat) : Int) from rfl, s1, and_low32 _ (by omega) (by omega), wrap64_id (by omega)]
      rw [Nat.zero_mul, Nat.zero_add, show ((c : Int) % 4294967296) = (c : Int) by omega, show ((c : Int) / 4294967296) = ((0 : Nat) : Int) by omega]
      rfl
    · simp only [spec_l1Left.l0]
      rw [if_neg (by omega), trim_eq _ (by simp; omega)]
      rfl
  | cons x rest ih =>
    intro i acc c hr hi hc hac
    have hlen := congrArg List.length hr
    rw [List.length_drop] at hlen
    simp at hlen
    have hx : rd a (i : Int) = x := rd_of_drop hr
    have dx := ha.rd B32_pos (i : Int)
    rw [hx] at dx
    unfold B32 at dx
    obtain ⟨y, rfl⟩ : ∃ y : Nat, x = (y : Int) := ⟨x.toNat, by omega⟩
    obtain ⟨s1, s2⟩ := step y c (by omega) hc
    have hc2 : (y * 2 ^ (n % 32) + c) / B32 < 2 ^ (n % 32) := carry_lt (by unfold B32; omega) hc
    refine Ev.step (fun k => ?_) (ev_to (ih (i + 1) (acc ++ [(((y * 2 ^ (n % 32) + c) % B32 : Nat) : Int)]) ((y * 2 ^ (n % 32) + c) / B32) (drop_succ_of hr) (by omega) hc2 (by simp; omega)) (by simp [sl]))
    simp only [spec_l1Left.l0]
    rw [if_pos (by omega), at_eq _ _ (by omega), hx, Option.bind_some, show ((32 : Int)) = ((32 : Nat) : Int) from rfl, hw, if_pos (by omega), if_pos (by omega)]
    rw [s1, and_low32 _ (by omega) (by omega), wrap64_id (by omega)]
    unfold B32
    rfl
theorem sleft_ev (a : List Int) (ha : Dig B32 a) (la : a.length ≤ 1073741824) (n : Nat) (hn : n ≤ 1000000) :
    ∃ r, Ev (fun k => spec_l1Left.f k a (n : Int)) r ∧ Dig B32 r ∧ Norm r ∧ val B32 r = val B32 a * 2 ^ n ∧ r.length ≤ 1000000 + a.length + 1 := by
  have hp : n % 32 < 32 := Nat.mod_lt _ (by omega)
  have hP : 2 ^ (n % 32) ≤ B32 := by rw [B32_pow]; exact Nat.pow_le_pow_right (by omega) (by omega)
  have hP0 : 0 < 2 ^ (n % 32) := Nat.pow_pos (by omega)
  have hd := Nat.div_le_self n 32
  have h := sleft_loop a ha la n hn a 0 (List.replicate (n / 32) 0) 0 rfl (by omega) hP0 (by simp; omega)
  refine ⟨_, Ev.congr (fun k => ?_) h, ((Dig.zeros B32_pos _).append (sl_dig B32_pos hP _ _ ha hP0)).trim, norm_trim _, ?_, ?_⟩
  · unfold spec_l1Left.f
    rw [show ((32 : Int)) = ((32 : Nat) : Int) from rfl, wtdiv n 32 (by omega), if_pos (by omega), if_pos (by omega)]
    rfl
  · rw [val_trim, val_shl, sl_val, pow_mul_mod (val B32 a) 32 n, ← B32_pow]
    rfl
  · have := trimL_length (List.replicate (n / 32) 0 ++ sl B32 (2 ^ (n % 32)) 0 a)
    rw [List.length_append, List.length_replicate, sl_length] at this
    omega
theorem sright_loop (a : List Int) (ha : Dig B32 a) (la : a.length ≤ 1073741824) (n : Nat) (hn : n ≤ 1000000) (rest : List Int) : ∀ (i : Nat) (acc : List Int), a.drop i = rest → i ≤ 1073741824 + 1000000 → acc.length ≤ i →
    Ev (fun k => spec_l1Right.l0 k a (n : Int) acc (i : Int)) (trimL (acc ++ sr B32 (2 ^ (n % 32)) rest)) := by
  have hp : n % 32 < 32 := Nat.mod_lt _ (by omega)
  have hP0 : 0 < 2 ^ (n % 32) := Nat.pow_pos (by omega)
  have hw := wtmod n 32 (by omega)
  induction rest with
  | nil =>
    intro i acc hr hi hac
    have hlen := congrArg List.length hr
    rw [List.length_drop] at hlen
    simp at hlen
    refine Ev.step (f := fun _ => some (trimL (acc ++ sr B32 (2 ^ (n % 32)) []))) (fun k => ?_) (Ev.now _)
    simp only [spec_l1Right.l0]
    rw [if_neg (by omega), trim_eq _ (by omega), Option.bind_some, sr, List.append_nil]
  | cons x rest ih =>
    intro i acc hr hi hac
    have hlen := congrArg List.length hr
    rw [List.length_drop] at hlen
    simp at hlen
    have hx : rd a (i : Int) = x := rd_of_drop hr
    have dx := ha.rd B32_pos (i : Int)
    have dy := ha.rd B32_pos ((i : Int) + 1)
    rw [hx] at dx
    have hy : rd a ((i : Int) + 1) = rd rest 0 := by
      rw [← drop_succ_of hr]
      show a.getD _ 0 = (a.drop (i + 1)).getD 0 0
      simp [List.getD_eq_getElem?_getD]
    rw [hy] at dy
    unfold B32 at dx dy
    obtain ⟨u, rfl⟩ : ∃ u : Nat, x = (u : Int) := ⟨x.toNat, by omega⟩
    obtain ⟨v, hv⟩ : ∃ v : Nat, rd rest 0 = (v : Int) := ⟨(rd rest 0).toNat, by omega⟩
    rw [hv] at dy hy
    have h1 := div_split (B := B32) (P := 2 ^ (n % 32)) (x := u) (y := v) hP0 (by unfold B32; omega)
    unfold B32 at h1
    refine Ev.step (fun k => ?_) (ev_to (ih (i + 1) (acc ++ [(((u + B32 * (v % 2 ^ (n % 32))) / 2 ^ (n % 32) : Nat) : Int)]) (drop_succ_of hr) (by omega) (by simp; omega)) (by simp [sr, hv]))
    have h2 : (u + 4294967296 * v) / 2 ^ (n % 32) ≤ u + 4294967296 * v := Nat.div_le_self _ _
    simp only [spec_l1Right.l0]
    rw [if_pos (by omega), at_eq _ _ (by omega), hx, Option.bind_some, wrap64_id (by omega), at_eq _ _ (by omega), hy, Option.bind_some, show ((32 : Int)) = ((32 : Nat) : Int) from rfl, hw, if_pos (by omega), if_pos (by omega)]
    rw [wrap_u64_id (by omega), show ((v : Int) * 4294967296) = ((v * 4294967296 : Nat) : Int) by omega, or_nat' 32 (v * 4294967296) u (by omega) (by omega) ⟨v, by rw [Nat.mul_comm]⟩ (by omega), shr_nat _ _ (by omega), Nat.mul_comm v, low32_nat _ (by omega), h1]
    unfold B32
    rfl
theorem sright_ev (a : List Int) (ha : Dig B32 a) (la : a.length ≤ 1073741824) (n : Nat) (hn : n ≤ 1000000) :
    ∃ r, Ev (fun k => spec_l1Right.f k a (n : Int)) r ∧ Dig B32 r ∧ Norm r ∧ val B32 r = val B32 a / 2 ^ n ∧ r.length ≤ a.length := by
  have hp : n % 32 < 32 := Nat.mod_lt _ (by omega)
  have hP0 : 0 < 2 ^ (n % 32) := Nat.pow_pos (by omega)
  have hd := Nat.div_le_self n 32
  have hdv : 2 ^ (n % 32) ∣ B32 := by rw [B32_pow]; exact Nat.pow_dvd_pow 2 (by omega)
  have h := sright_loop a ha la n hn (a.drop (n / 32)) (n / 32) [] rfl (by omega) (by simp)
  refine ⟨_, Ev.congr (fun k => ?_) h, ?_, norm_trim _, ?_, ?_⟩
  · unfold spec_l1Right.f
    rw [show ((32 : Int)) = ((32 : Nat) : Int) from rfl, wtdiv n 32 (by omega)]
  · rw [List.nil_append]
    exact (sr_dig hP0 _ (ha.drop _)).trim
  · rw [List.nil_append, val_trim, sr_val hP0 hdv, val_drop B32 B32_pos ha, pow_div_mod _ 32 n, ← B32_pow]
  · rw [List.nil_append]
    have := trimL_length (sr B32 (2 ^ (n % 32)) (a.drop (n / 32)))
    rw [sr_length, List.length_drop] at this
    omega
end Go.Proofs.YtdbnmdchecacdaaDoor.M
end
section
namespace Go.Proofs.YtdbnmdchecacdaaDoor.PL
open Go.RowKit Go.Proofs.YtdbnmdchecacdaaDoor.G Go.Proofs.YtdbnmdchecacdaaDoorV.PrintWords Go.Proofs.YtdbnmdchecacdaaDoorV.PrintLast Go.Proofs.YtdbnmdchecacdaaDoorV.PrintMore
attribute [local go_sem] max2_int min2_int max_two min_two max_three min_three max_four min_four run_Add64 run_Sub64 fld25_1
set_option linter.unusedVariables false
set_option linter.unusedSimpArgs false
def impl_Word_right.f (a0_0 : Int) (a0_1 : Int) (a1 : Int) : Option (Int × Int) := if a1 = 0 then (some (a0_0, a0_1)) else (if a1 ≥ 128 then (some (0, 0)) else (if a1 ≥ 64 then (if 0 ≤ (wrap64 (a1 - 64)) then (some (0, shr .u64 a0_0 (wrap64 (a1 - 64)))) else (none)) else (if 0 ≤ a1 then (if 0 ≤ (wrap64 (64 - a1)) then (some (shr .u64 a0_0 a1, Go.bits .or .u64 (shr .u64 a0_1 a1) (shl .u64 a0_0 (wrap64 (64 - a1))))) else (none)) else (none))))
def impl_Word_right.T7 : Bool × List (List Nat × List Nat) := (true, [([], []), ([0], [0]), ([], []), ([1, 2], [1, 2]), ([], []), ([4], [4]), ([], []), ([5, 6], [5, 6]), ([], []), ([8], [8]), ([], []), ([10], [10]), ([9, 11], [9, 11]), ([7, 12], [7, 12]), ([3, 13], [3, 13]), ([14, 0, 1, 2, 3, 4, 5, 6, 7, 8, 9, 10, 11, 12, 13, 14], [14])])
def impl_Word_right.B7 : List Nat := [0, 1, 0, 7, 0, 16, 0, 112, 0, 256, 0, 1024, 3840, 8176, 16383, 32767]
theorem impl_Word_right.tab7 : rtab .any (opsOf Tryd.f66 7) = impl_Word_right.T7 := by kernel_rfl
theorem impl_Word_right.bits7 : waitsOk impl_Word_right.T7.2 impl_Word_right.B7 = true := by kernel_rfl
set_option maxHeartbeats 8000000 in
set_option maxRecDepth 100000 in
theorem impl_Word_right.calls (a0_0 : Int) (a0_1 : Int) (a1 : Int) (r1 : Int) (r2 : Int) (w : World) (h : impl_Word_right.f a0_0 a0_1 a1 = some (r1, r2)) :
  Calls Tryd.prog 66 #[.agg #[.int .u64 a0_0, .int .u64 a0_1], .int .i64 a1] w fun e w' => e = .returned (.agg #[.int .u64 r1, .int .u64 r2]) ∧ Below w.heap.size w w' := by
 have hu25 := Tryd.underlying25
 have HB := Aside0.mk (Below.refl w.heap.size w)
 have H : (if a1 = 0 then (some (a0_0, a0_1)) else (if a1 ≥ 128 then (some (0, 0)) else (if a1 ≥ 64 then (if 0 ≤ (wrap64 (a1 - 64)) then (some (0, shr .u64 a0_0 (wrap64 (a1 - 64)))) else (none)) else (if 0 ≤ a1 then (if 0 ≤ (wrap64 (64 - a1)) then (some (shr .u64 a0_0 a1, Go.bits .or .u64 (shr .u64 a0_1 a1) (shl .u64 a0_0 (wrap64 (64 - a1))))) else (none)) else (none))))) = some (r1, r2) := h
 clear h
 by_cases c3 : a1 = 0
 ·rw [if_pos c3] at H
  have c3b0 : (a1 == 0) = true := beq_iff_eq.mpr c3
  have c3b1 : (a1 != 0) = false := bne_eq_false_iff_eq.mpr c3
  clear c3
  simp only [Option.some.injEq, Prod.mk.injEq] at H
  obtain ⟨rfl, rfl⟩ := H
  go_enter Tryd.func66, Tryd.ntmps66
  go_wp2_with (first | ((with_reducible refine gate_dst (N := 2) rfl ?_); refine box_event ?hg (N := 2) ?hd (cs := #[.int .u64 a0_0, .int .u64 a0_1]) (t := 25) ?hr ?_; (case hd => rfl); (case hg => rfl); (case hr => first | (go_simp; done) | (go_simp; rfl)); intro gb272 hg w4 hbox hb; have n0_ := Aside0.mk (below_step (by repeat (first | (with_reducible first | exact HB.out | apply below_alloc | apply pw_below_drewN | apply below_drew1) | exact HB.out)) hb); have n1_ := Aside0.mk (hbox); have n2_ := Aside0.mk ((by rw [hg]; exact (below_size (by repeat (first | (with_reducible first | exact HB.out | apply below_alloc | apply pw_below_drewN | apply below_drew1) | exact HB.out))) : w.heap.size ≤ gb272)); have n3_ := Aside0.mk ((by rw [hg]; exact (below_size (by repeat (first | (with_reducible first | exact HB.out | apply below_alloc | apply pw_below_drewN | apply below_drew1) | exact HB.out))) : w.heap.size ≤ gb272)); clear HB; have HB := n0_; have BK272 := n1_; have GW272 := n2_; have GE272 := n3_; clear n0_ n1_ n2_ n3_; clear hb hbox hg) | ((with_reducible refine gate_dst (N := 4) rfl ?_); refine box_event ?hg (N := 4) ?hd (cs := #[.int .u64 0, .int .u64 0]) (t := 25) ?hr ?_; (case hd => rfl); (case hg => rfl); (case hr => first | (go_simp; done) | (go_simp; rfl)); intro gb273 hg w5 hbox hb; have n0_ := Aside0.mk (blk_below (g := gb272) (o := .cells #[.int .u64 a0_0, .int .u64 a0_1] 25 (0, 0)) (by (with_reducible repeat (first | refine blk_drewN ?_ _ | refine blk_drew ?_ | refine blk_alloc ?_ _)); exact BK272.out) hb); have n1_ := Aside0.mk (below_step (by repeat (first | (with_reducible first | exact HB.out | apply below_alloc | apply pw_below_drewN | apply below_drew1 | refine below_set ?_ GE272.out) | exact HB.out)) hb); have n2_ := Aside0.mk (hbox); have n3_ := Aside0.mk ((by rw [hg]; exact (below_size (by repeat (first | (with_reducible first | exact HB.out | apply below_alloc | apply pw_below_drewN | apply below_drew1 | refine below_set ?_ GE272.out) | exact HB.out))) : w.heap.size ≤ gb273)); have n4_ := Aside0.mk ((by rw [hg]; exact (below_size (by repeat (first | (with_reducible first | exact HB.out | apply below_alloc | apply pw_below_drewN | apply below_drew1 | refine below_set ?_ GE272.out) | exact HB.out))) : w.heap.size ≤ gb273)); have n5_ := Aside0.mk ((by rw [hg]; exact Nat.ne_of_lt (blk_lt (g := gb272) (o := .cells #[.int .u64 a0_0, .int .u64 a0_1] 25 (0, 0)) (by (with_reducible repeat (first | refine blk_drewN ?_ _ | refine blk_drew ?_ | refine blk_alloc ?_ _)); exact BK272.out)) : gb272 ≠ gb273)); have n6_ := Aside0.mk ((by rw [hg]; exact Nat.ne_of_gt (blk_lt (g := gb272) (o := .cells #[.int .u64 a0_0, .int .u64 a0_1] 25 (0, 0)) (by (with_reducible repeat (first | refine blk_drewN ?_ _ | refine blk_drew ?_ | refine blk_alloc ?_ _)); exact BK272.out)) : gb273 ≠ gb272)); clear BK272; clear HB; have BK272 := n0_; have HB := n1_; have BK273 := n2_; have GW273 := n3_; have GE273 := n4_; have NB272_273 := n5_; have NB273_272 := n6_; clear n0_ n1_ n2_ n3_ n4_ n5_ n6_; clear hb hbox hg; have hnb6 := NB272_273.out; have hnc6 := NB273_272.out; have hcz7_0 : w5.cell? ⟨gb272, 0, none⟩ = some (.int .u64 a0_0) := (blk_cell BK272.out 0).trans rfl; have hcz7_1 : w5.cell? ⟨gb272, 1, none⟩ = some (.int .u64 a0_1) := (blk_cell BK272.out 1).trans rfl; have hfz7_0 := blk_frozen BK272.out 0; have hfz7_1 := blk_frozen BK272.out 1; have hcz8_0 : w5.cell? ⟨gb273, 0, none⟩ = some (.int .u64 0) := (blk_cell BK273.out 0).trans rfl; have hcz8_1 : w5.cell? ⟨gb273, 1, none⟩ = some (.int .u64 0) := (blk_cell BK273.out 1).trans rfl; have hfz8_0 := blk_frozen BK273.out 0; have hfz8_1 := blk_frozen BK273.out 1))
  refine bodyPost_ret (results_cell_row rfl _ _ gb273 25 #[.int .u64 a0_0, .int .u64 a0_1] (0, 0) _ rfl (by (with_reducible repeat (first | refine blk_drewN ?_ _ | refine blk_drew ?_ | refine blk_alloc ?_ _)); refine blk_put (cs := #[.int .u64 a0_0, .int .u64 0]) ?_ 1 _ rfl; (with_reducible repeat (first | refine blk_drewN ?_ _ | refine blk_drew ?_ | refine blk_alloc ?_ _)); refine blk_put (cs := #[.int .u64 0, .int .u64 0]) ?_ 0 _ rfl; (with_reducible repeat (first | refine blk_drewN ?_ _ | refine blk_drew ?_ | refine blk_alloc ?_ _)); exact BK273.out) Tryd.underlying25 rfl (by kernel_rfl)) rfl ?_
  exact ⟨by first | rfl | (simp [errW_none, errW_some] <;> rfl) | (simp [*, errW_none, errW_some] <;> rfl), by repeat (first | (with_reducible first | exact HB.out | apply below_alloc | apply pw_below_drewN | apply below_drew1 | refine below_set ?_ GE272.out | refine below_set ?_ GE273.out) | exact HB.out)⟩
 ·rw [if_neg c3] at H
  have c3b0 : (a1 == 0) = false := beq_eq_false_iff_ne.mpr c3
  have c3b1 : (a1 != 0) = true := bne_iff_ne.mpr c3
  by_cases c9 : a1 ≥ 128
  ·rw [if_pos c9] at H
   have c9b0 : decide (128 ≤ a1) = true := decide_eq_true c9
   clear c9
   simp only [Option.some.injEq, Prod.mk.injEq] at H
   obtain ⟨rfl, rfl⟩ := H
   go_enter Tryd.func66, Tryd.ntmps66
   go_wp2_with (first | ((with_reducible refine gate_dst (N := 2) rfl ?_); refine box_event ?hg (N := 2) ?hd (cs := #[.int .u64 a0_0, .int .u64 a0_1]) (t := 25) ?hr ?_; (case hd => rfl); (case hg => rfl); (case hr => first | (go_simp; done) | (go_simp; rfl)); intro gb272 hg w10 hbox hb; have n0_ := Aside0.mk (below_step (by repeat (first | (with_reducible first | exact HB.out | apply below_alloc | apply pw_below_drewN | apply below_drew1) | exact HB.out)) hb); have n1_ := Aside0.mk (hbox); have n2_ := Aside0.mk ((by rw [hg]; exact (below_size (by repeat (first | (with_reducible first | exact HB.out | apply below_alloc | apply pw_below_drewN | apply below_drew1) | exact HB.out))) : w.heap.size ≤ gb272)); have n3_ := Aside0.mk ((by rw [hg]; exact (below_size (by repeat (first | (with_reducible first | exact HB.out | apply below_alloc | apply pw_below_drewN | apply below_drew1) | exact HB.out))) : w.heap.size ≤ gb272)); clear HB; have HB := n0_; have BK272 := n1_; have GW272 := n2_; have GE272 := n3_; clear n0_ n1_ n2_ n3_; clear hb hbox hg) | ((with_reducible refine gate_dst (N := 4) rfl ?_); refine box_event ?hg (N := 4) ?hd (cs := #[.int .u64 0, .int .u64 0]) (t := 25) ?hr ?_; (case hd => rfl); (case hg => rfl); (case hr => first | (go_simp; done) | (go_simp; rfl)); intro gb273 hg w11 hbox hb; have n0_ := Aside0.mk (blk_below (g := gb272) (o := .cells #[.int .u64 a0_0, .int .u64 a0_1] 25 (0, 0)) (by (with_reducible repeat (first | refine blk_drewN ?_ _ | refine blk_drew ?_ | refine blk_alloc ?_ _)); exact BK272.out) hb); have n1_ := Aside0.mk (below_step (by repeat (first | (with_reducible first | exact HB.out | apply below_alloc | apply pw_below_drewN | apply below_drew1 | refine below_set ?_ GE272.out) | exact HB.out)) hb); have n2_ := Aside0.mk (hbox); have n3_ := Aside0.mk ((by rw [hg]; exact (below_size (by repeat (first | (with_reducible first | exact HB.out | apply below_alloc | apply pw_below_drewN | apply below_drew1 | refine below_set ?_ GE272.out) | exact HB.out))) : w.heap.size ≤ gb273)); have n4_ := Aside0.mk ((by rw [hg]; exact (below_size (by repeat (first | (with_reducible first | exact HB.out | apply below_alloc | apply pw_below_drewN | apply below_drew1 | refine below_set ?_ GE272.out) | exact HB.out))) : w.heap.size ≤ gb273)); have n5_ := Aside0.mk ((by rw [hg]; exact Nat.ne_of_lt (blk_lt (g := gb272) (o := .cells #[.int .u64 a0_0, .int .u64 a0_1] 25 (0, 0)) (by (with_reducible repeat (first | refine blk_drewN ?_ _ | refine blk_drew ?_ | refine blk_alloc ?_ _)); exact BK272.out)) : gb272 ≠ gb273)); have n6_ := Aside0.mk ((by rw [hg]; exact Nat.ne_of_gt (blk_lt (g := gb272) (o := .cells #[.int .u64 a0_0, .int .u64 a0_1] 25 (0, 0)) (by (with_reducible repeat (first | refine blk_drewN ?_ _ | refine blk_drew ?_ | refine blk_alloc ?_ _)); exact BK272.out)) : gb273 ≠ gb272)); clear BK272; clear HB; have BK272 := n0_; have HB := n1_; have BK273 := n2_; have GW273 := n3_; have GE273 := n4_; have NB272_273 := n5_; have NB273_272 := n6_; clear n0_ n1_ n2_ n3_ n4_ n5_ n6_; clear hb hbox hg; have hnb12 := NB273_272.out; have hnc12 := NB272_273.out; have hcz13_0 : w11.cell? ⟨gb273, 0, none⟩ = some (.int .u64 0) := (blk_cell BK273.out 0).trans rfl; have hcz13_1 : w11.cell? ⟨gb273, 1, none⟩ = some (.int .u64 0) := (blk_cell BK273.out 1).trans rfl; have hfz13_0 := blk_frozen BK273.out 0; have hfz13_1 := blk_frozen BK273.out 1))
   refine bodyPost_ret (results_cell_row rfl _ _ gb273 25 #[.int .u64 0, .int .u64 0] (0, 0) _ rfl (by (with_reducible repeat (first | refine blk_drewN ?_ _ | refine blk_drew ?_ | refine blk_alloc ?_ _)); refine blk_put (cs := #[.int .u64 0, .int .u64 0]) ?_ 1 _ rfl; (with_reducible repeat (first | refine blk_drewN ?_ _ | refine blk_drew ?_ | refine blk_alloc ?_ _)); refine blk_put (cs := #[.int .u64 0, .int .u64 0]) ?_ 0 _ rfl; (with_reducible repeat (first | refine blk_drewN ?_ _ | refine blk_drew ?_ | refine blk_alloc ?_ _)); exact BK273.out) Tryd.underlying25 rfl (by kernel_rfl)) rfl ?_
   exact ⟨by first | rfl | (simp [errW_none, errW_some] <;> rfl) | (simp [*, errW_none, errW_some] <;> rfl), by repeat (first | (with_reducible first | exact HB.out | apply below_alloc | apply pw_below_drewN | apply below_drew1 | refine below_set ?_ GE272.out | refine below_set ?_ GE273.out) | exact HB.out)⟩
  ·rw [if_neg c9] at H
   have c9b0 : decide (128 ≤ a1) = false := decide_eq_false c9
   clear c9
   by_cases c14 : a1 ≥ 64
   ·rw [if_pos c14] at H
    have c14b0 : decide (64 ≤ a1) = true := decide_eq_true c14
    clear c14
    obtain ⟨ji15, hji15⟩ : ∃ j_ : Int, (wrap64 (a1 - 64)) = j_ := ⟨_, rfl⟩
    replace H : (if 0 ≤ (ji15) then (some (0, shr .u64 a0_0 (ji15))) else (none)) = some (r1, r2) := by first | (rw [hji15] at H; exact H) | (simp only [hji15] at H ⊢; exact H)
    have hji15w : (IntKind.i64.wrap (a1 - 64)) = ji15 := (i64_w _).trans hji15
    by_cases c16 : 0 ≤ (ji15)
    ·rw [if_pos c16] at H
     have c16b0 := eq_true c16
     have c16b1 : decide (0 ≤ (ji15)) = true := decide_eq_true c16
     clear c16
     obtain ⟨ji17, hji17⟩ : ∃ j_ : Int, (shr .u64 a0_0 (ji15)) = j_ := ⟨_, rfl⟩
     replace H : (some (0, ji17)) = some (r1, r2) := by first | (rw [hji17] at H; exact H) | (simp only [hji17] at H ⊢; exact H)
     have hji17_ : (a0_0 / 2 ^ min (ji15).toNat 64) = ji17 := hji17
     have hji17z : (ji15) ≤ 64 → (a0_0 / 2 ^ (ji15).toNat) = ji17 := shr_small hji17
     simp only [Option.some.injEq, Prod.mk.injEq] at H
     obtain ⟨rfl, rfl⟩ := H
     go_enter Tryd.func66, Tryd.ntmps66
     go_wp2_with (first | ((with_reducible refine gate_dst (N := 2) rfl ?_); refine box_event ?hg (N := 2) ?hd (cs := #[.int .u64 a0_0, .int .u64 a0_1]) (t := 25) ?hr ?_; (case hd => rfl); (case hg => rfl); (case hr => first | (go_simp; done) | (go_simp; rfl)); intro gb272 hg w18 hbox hb; have n0_ := Aside0.mk (below_step (by repeat (first | (with_reducible first | exact HB.out | apply below_alloc | apply pw_below_drewN | apply below_drew1) | exact HB.out)) hb); have n1_ := Aside0.mk (hbox); have n2_ := Aside0.mk ((by rw [hg]; exact (below_size (by repeat (first | (with_reducible first | exact HB.out | apply below_alloc | apply pw_below_drewN | apply below_drew1) | exact HB.out))) : w.heap.size ≤ gb272)); have n3_ := Aside0.mk ((by rw [hg]; exact (below_size (by repeat (first | (with_reducible first | exact HB.out | apply below_alloc | apply pw_below_drewN | apply below_drew1) | exact HB.out))) : w.heap.size ≤ gb272)); clear HB; have HB := n0_; have BK272 := n1_; have GW272 := n2_; have GE272 := n3_; clear n0_ n1_ n2_ n3_; clear hb hbox hg) | ((with_reducible refine gate_dst (N := 4) rfl ?_); refine box_event ?hg (N := 4) ?hd (cs := #[.int .u64 0, .int .u64 0]) (t := 25) ?hr ?_; (case hd => rfl); (case hg => rfl); (case hr => first | (go_simp; done) | (go_simp; rfl)); intro gb273 hg w19 hbox hb; have n0_ := Aside0.mk (blk_below (g := gb272) (o := .cells #[.int .u64 a0_0, .int .u64 a0_1] 25 (0, 0)) (by (with_reducible repeat (first | refine blk_drewN ?_ _ | refine blk_drew ?_ | refine blk_alloc ?_ _)); exact BK272.out) hb); have n1_ := Aside0.mk (below_step (by repeat (first | (with_reducible first | exact HB.out | apply below_alloc | apply pw_below_drewN | apply below_drew1 | refine below_set ?_ GE272.out) | exact HB.out)) hb); have n2_ := Aside0.mk (hbox); have n3_ := Aside0.mk ((by rw [hg]; exact (below_size (by repeat (first | (with_reducible first | exact HB.out | apply below_alloc | apply pw_below_drewN | apply below_drew1 | refine below_set ?_ GE272.out) | exact HB.out))) : w.heap.size ≤ gb273)); have n4_ := Aside0.mk ((by rw [hg]; exact (below_size (by repeat (first | (with_reducible first | exact HB.out | apply below_alloc | apply pw_below_drewN | apply below_drew1 | refine below_set ?_ GE272.out) | exact HB.out))) : w.heap.size ≤ gb273)); have n5_ := Aside0.mk ((by rw [hg]; exact Nat.ne_of_lt (blk_lt (g := gb272) (o := .cells #[.int .u64 a0_0, .int .u64 a0_1] 25 (0, 0)) (by (with_reducible repeat (first | refine blk_drewN ?_ _ | refine blk_drew ?_ | refine blk_alloc ?_ _)); exact BK272.out)) : gb272 ≠ gb273)); have n6_ := Aside0.mk ((by rw [hg]; exact Nat.ne_of_gt (blk_lt (g := gb272) (o := .cells #[.int .u64 a0_0, .int .u64 a0_1] 25 (0, 0)) (by (with_reducible repeat (first | refine blk_drewN ?_ _ | refine blk_drew ?_ | refine blk_alloc ?_ _)); exact BK272.out)) : gb273 ≠ gb272)); clear BK272; clear HB; have BK272 := n0_; have HB := n1_; have BK273 := n2_; have GW273 := n3_; have GE273 := n4_; have NB272_273 := n5_; have NB273_272 := n6_; clear n0_ n1_ n2_ n3_ n4_ n5_ n6_; clear hb hbox hg; have hnb20 := NB272_273.out; have hnc20 := NB273_272.out; have hcz21_0 : w19.cell? ⟨gb272, 0, none⟩ = some (.int .u64 a0_0) := (blk_cell BK272.out 0).trans rfl; have hcz21_1 : w19.cell? ⟨gb272, 1, none⟩ = some (.int .u64 a0_1) := (blk_cell BK272.out 1).trans rfl; have hfz21_0 := blk_frozen BK272.out 0; have hfz21_1 := blk_frozen BK272.out 1; have hcz22_0 : w19.cell? ⟨gb273, 0, none⟩ = some (.int .u64 0) := (blk_cell BK273.out 0).trans rfl; have hcz22_1 : w19.cell? ⟨gb273, 1, none⟩ = some (.int .u64 0) := (blk_cell BK273.out 1).trans rfl; have hfz22_0 := blk_frozen BK273.out 0; have hfz22_1 := blk_frozen BK273.out 1))
     refine bodyPost_ret (results_cell_row rfl _ _ gb273 25 #[.int .u64 0, .int .u64 ji17] (0, 0) _ rfl (by (with_reducible repeat (first | refine blk_drewN ?_ _ | refine blk_drew ?_ | refine blk_alloc ?_ _)); refine blk_put (cs := #[.int .u64 0, .int .u64 0]) ?_ 1 _ rfl; (with_reducible repeat (first | refine blk_drewN ?_ _ | refine blk_drew ?_ | refine blk_alloc ?_ _)); refine blk_put (cs := #[.int .u64 0, .int .u64 0]) ?_ 0 _ rfl; (with_reducible repeat (first | refine blk_drewN ?_ _ | refine blk_drew ?_ | refine blk_alloc ?_ _)); exact BK273.out) Tryd.underlying25 rfl (by kernel_rfl)) rfl ?_
     exact ⟨by first | rfl | (simp [errW_none, errW_some] <;> rfl) | (simp only [← hji15, ← hji17]; first | rfl | (simp [errW_none, errW_some] <;> rfl)) | (simp [*, errW_none, errW_some] <;> rfl), by repeat (first | (with_reducible first | exact HB.out | apply below_alloc | apply pw_below_drewN | apply below_drew1 | refine below_set ?_ GE272.out | refine below_set ?_ GE273.out) | exact HB.out)⟩
    ·rw [if_neg c16] at H
     exact absurd H (by simp)
   ·rw [if_neg c14] at H
    have c14b0 : decide (64 ≤ a1) = false := decide_eq_false c14
    clear c14
    by_cases c23 : 0 ≤ a1
    ·rw [if_pos c23] at H
     have c23b0 := eq_true c23
     have c23b1 : decide (0 ≤ a1) = true := decide_eq_true c23
     clear c23
     obtain ⟨ji24, hji24⟩ : ∃ j_ : Int, (shr .u64 a0_0 a1) = j_ := ⟨_, rfl⟩
     replace H : (if 0 ≤ (wrap64 (64 - a1)) then (some (ji24, Go.bits .or .u64 (shr .u64 a0_1 a1) (shl .u64 a0_0 (wrap64 (64 - a1))))) else (none)) = some (r1, r2) := by first | (rw [hji24] at H; exact H) | (simp only [hji24] at H ⊢; exact H)
     have hji24_ : (a0_0 / 2 ^ min a1.toNat 64) = ji24 := hji24
     have hji24z : a1 ≤ 64 → (a0_0 / 2 ^ a1.toNat) = ji24 := shr_small hji24
     have c25b0 := eq_true (of_decide_eq_true (by first | (with_reducible assumption) | assumption) : 0 ≤ a1)
     obtain ⟨ji26, hji26⟩ : ∃ j_ : Int, (shr .u64 a0_1 a1) = j_ := ⟨_, rfl⟩
     replace H : (if 0 ≤ (wrap64 (64 - a1)) then (some (ji24, Go.bits .or .u64 (ji26) (shl .u64 a0_0 (wrap64 (64 - a1))))) else (none)) = some (r1, r2) := by first | (rw [hji26] at H; exact H) | (simp only [hji26] at H ⊢; exact H)
     have hji26_ : (a0_1 / 2 ^ min a1.toNat 64) = ji26 := hji26
     have hji26z : a1 ≤ 64 → (a0_1 / 2 ^ a1.toNat) = ji26 := shr_small hji26
     obtain ⟨ji27, hji27⟩ : ∃ j_ : Int, (wrap64 (64 - a1)) = j_ := ⟨_, rfl⟩
     replace H : (if 0 ≤ (ji27) then (some (ji24, Go.bits .or .u64 (ji26) (shl .u64 a0_0 (ji27)))) else (none)) = some (r1, r2) := by first | (rw [hji27] at H; exact H) | (simp only [hji27] at H ⊢; exact H)
     have hji27w : (IntKind.i64.wrap (64 - a1)) = ji27 := (i64_w _).trans hji27
     by_cases c28 : 0 ≤ (ji27)
     ·rw [if_pos c28] at H
      have c28b0 := eq_true c28
      have c28b1 : decide (0 ≤ (ji27)) = true := decide_eq_true c28
      clear c28
      obtain ⟨ji29, hji29⟩ : ∃ j_ : Int, (shl .u64 a0_0 (ji27)) = j_ := ⟨_, rfl⟩
      replace H : (some (ji24, Go.bits .or .u64 (ji26) (ji29))) = some (r1, r2) := by first | (rw [hji29] at H; exact H) | (simp only [hji29] at H ⊢; exact H)
      have hji29_ : (IntKind.u64.wrap (a0_0 * 2 ^ min (ji27).toNat 64)) = ji29 := hji29
      have hji29z : (ji27) ≤ 64 → (IntKind.u64.wrap (a0_0 * 2 ^ (ji27).toNat)) = ji29 := shl_small hji29
      simp only [Option.some.injEq, Prod.mk.injEq] at H
      obtain ⟨rfl, rfl⟩ := H
      go_enter Tryd.func66, Tryd.ntmps66
      try go_wp2_with (first | ((with_reducible refine gate_dst (N := 2) rfl ?_); refine box_event ?hg (N := 2) ?hd (cs := #[.int .u64 a0_0, .int .u64 a0_1]) (t := 25) ?hr ?_; (case hd => rfl); (case hg => rfl); (case hr => first | (go_simp; done) | (go_simp; rfl)); intro gb272 hg w30 hbox hb; have n0_ := Aside0.mk (below_step (by repeat (first | (with_reducible first | exact HB.out | apply below_alloc | apply pw_below_drewN | apply below_drew1) | exact HB.out)) hb); have n1_ := Aside0.mk (hbox); have n2_ := Aside0.mk ((by rw [hg]; exact (below_size (by repeat (first | (with_reducible first | exact HB.out | apply below_alloc | apply pw_below_drewN | apply below_drew1) | exact HB.out))) : w.heap.size ≤ gb272)); have n3_ := Aside0.mk ((by rw [hg]; exact (below_size (by repeat (first | (with_reducible first | exact HB.out | apply below_alloc | apply pw_below_drewN | apply below_drew1) | exact HB.out))) : w.heap.size ≤ gb272)); clear HB; have HB := n0_; have BK272 := n1_; have GW272 := n2_; have GE272 := n3_; clear n0_ n1_ n2_ n3_; clear hb hbox hg) | ((with_reducible refine gate_dst (N := 4) rfl ?_); refine box_event ?hg (N := 4) ?hd (cs := #[.int .u64 0, .int .u64 0]) (t := 25) ?hr ?_; (case hd => rfl); (case hg => rfl); (case hr => first | (go_simp; done) | (go_simp; rfl)); intro gb273 hg w31 hbox hb; have n0_ := Aside0.mk (blk_below (g := gb272) (o := .cells #[.int .u64 a0_0, .int .u64 a0_1] 25 (0, 0)) (by (with_reducible repeat (first | refine blk_drewN ?_ _ | refine blk_drew ?_ | refine blk_alloc ?_ _)); exact BK272.out) hb); have n1_ := Aside0.mk (below_step (by repeat (first | (with_reducible first | exact HB.out | apply below_alloc | apply pw_below_drewN | apply below_drew1 | refine below_set ?_ GE272.out) | exact HB.out)) hb); have n2_ := Aside0.mk (hbox); have n3_ := Aside0.mk ((by rw [hg]; exact (below_size (by repeat (first | (with_reducible first | exact HB.out | apply below_alloc | apply pw_below_drewN | apply below_drew1 | refine below_set ?_ GE272.out) | exact HB.out))) : w.heap.size ≤ gb273)); have n4_ := Aside0.mk ((by rw [hg]; exact (below_size (by repeat (first | (with_reducible first | exact HB.out | apply below_alloc | apply pw_below_drewN | apply below_drew1 | refine below_set ?_ GE272.out) | exact HB.out))) : w.heap.size ≤ gb273)); have n5_ := Aside0.mk ((by rw [hg]; exact Nat.ne_of_lt (blk_lt (g := gb272) (o := .cells #[.int .u64 a0_0, .int .u64 a0_1] 25 (0, 0)) (by (with_reducible repeat (first | refine blk_drewN ?_ _ | refine blk_drew ?_ | refine blk_alloc ?_ _)); exact BK272.out)) : gb272 ≠ gb273)); have n6_ := Aside0.mk ((by rw [hg]; exact Nat.ne_of_gt (blk_lt (g := gb272) (o := .cells #[.int .u64 a0_0, .int .u64 a0_1] 25 (0, 0)) (by (with_reducible repeat (first | refine blk_drewN ?_ _ | refine blk_drew ?_ | refine blk_alloc ?_ _)); exact BK272.out)) : gb273 ≠ gb272)); clear BK272; clear HB; have BK272 := n0_; have HB := n1_; have BK273 := n2_; have GW273 := n3_; have GE273 := n4_; have NB272_273 := n5_; have NB273_272 := n6_; clear n0_ n1_ n2_ n3_ n4_ n5_ n6_; clear hb hbox hg))
      have n0_ := Aside0.mk (blk_drew BK272.out)
      have n1_ := Aside0.mk (blk_drew BK273.out)
      have n2_ := Aside0.mk (below_drew1 HB.out)
      clear BK272
      clear BK273
      clear HB
      have BK272 := n0_
      have BK273 := n1_
      have HB := n2_
      clear n0_ n1_ n2_
      refine start_ (n := 16) (S := fun w' => w'.cell? ⟨gb272, 0, none⟩ = some (.int .u64 a0_0) ∧ w'.cell? ⟨gb272, 1, none⟩ = some (.int .u64 a0_1)) (ds := []) #[false, false, false, false, false, false, false, false, false, false, false, false, false, false, false, false] (by kernel_rfl) rfl rfl ⟨(blk_cell BK272.out 0).trans rfl, (blk_cell BK272.out 1).trans rfl⟩ (fun hHeld => ?_); refine with_tabW impl_Word_right.tab7 impl_Word_right.bits7 (fun HT_ HW_ => ?_)
      generalize w31.drew = w32 at BK272 BK273 HB hHeld ⊢
      refine pure_ (i := 0) (N := some 22) (v := ?_) (a' := ?_) #[true, false, false, false, false, false, false, false, false, false, false, false, false, false, false, false] rfl rfl (any_of HT_.out (by kernel_rfl)) (fun _ _ _ h => h) (Or.inl ⟨by rfl, ?_⟩) ?_ ?_
      rotate_left
      ·intro w'
       go_simp
       with_reducible rfl
      rotate_left
      ·simp only [Act.put, List.setIfInBounds_toArray, List.set_cons_zero, List.set_cons_succ, i64_w, i32_w]
       rfl
      refine pure_ (i := 2) (N := some 24) (v := ?_) (a' := ?_) #[true, false, true, false, false, false, false, false, false, false, false, false, false, false, false, false] rfl rfl (any_of HT_.out (by kernel_rfl)) (fun _ _ _ h => h) (Or.inl ⟨by rfl, ?_⟩) ?_ ?_
      rotate_left
      ·intro w'
       go_simp
       with_reducible rfl
      rotate_left
      ·simp only [Act.put, List.setIfInBounds_toArray, List.set_cons_zero, List.set_cons_succ, i64_w, i32_w]
       rfl
      refine pure_ (i := 4) (N := some 26) (v := ?_) (a' := ?_) #[true, false, true, false, true, false, false, false, false, false, false, false, false, false, false, false] rfl rfl (any_of HT_.out (by kernel_rfl)) (fun _ _ _ h => h) (Or.inl ⟨by rfl, ?_⟩) ?_ ?_
      rotate_left
      ·intro w'
       go_simp
       with_reducible rfl
      rotate_left
      ·simp only [Act.put, List.setIfInBounds_toArray, List.set_cons_zero, List.set_cons_succ, i64_w, i32_w]
       rfl
      refine pure_ (i := 6) (N := some 28) (v := ?_) (a' := ?_) #[true, false, true, false, true, false, true, false, false, false, false, false, false, false, false, false] rfl rfl (any_of HT_.out (by kernel_rfl)) (fun _ _ _ h => h) (Or.inl ⟨by rfl, ?_⟩) ?_ ?_
      rotate_left
      ·intro w'
       go_simp
       with_reducible rfl
      rotate_left
      ·simp only [Act.put, List.setIfInBounds_toArray, List.set_cons_zero, List.set_cons_succ, i64_w, i32_w]
       rfl
      refine pure_ (i := 8) (N := some 30) (v := ?_) (a' := ?_) #[true, false, true, false, true, false, true, false, true, false, false, false, false, false, false, false] rfl rfl (any_of HT_.out (by kernel_rfl)) (fun _ _ _ h => h) (Or.inl ⟨by rfl, ?_⟩) ?_ ?_
      rotate_left
      ·intro w'
       go_simp
       with_reducible rfl
      rotate_left
      ·simp only [Act.put, List.setIfInBounds_toArray, List.set_cons_zero, List.set_cons_succ, i64_w, i32_w]
       rfl
      refine pure_ (i := 10) (N := some 32) (v := ?_) (a' := ?_) #[true, false, true, false, true, false, true, false, true, false, true, false, false, false, false, false] rfl rfl (any_of HT_.out (by kernel_rfl)) (fun _ _ _ h => h) (Or.inl ⟨by rfl, ?_⟩) ?_ ?_
      rotate_left
      ·intro w'
       go_simp
       with_reducible rfl
      rotate_left
      ·simp only [Act.put, List.setIfInBounds_toArray, List.set_cons_zero, List.set_cons_succ, i64_w, i32_w]
       rfl
      refine pure_ (i := 11) (N := some 33) (v := ?_) (a' := ?_) #[true, false, true, false, true, false, true, false, true, false, true, true, false, false, false, false] rfl rfl (any_of HT_.out (by kernel_rfl)) (fun _ _ _ h => h) (Or.inl ⟨by rfl, ?_⟩) ?_ ?_
      rotate_left
      ·intro w'
       go_simp
       with_reducible rfl
      rotate_left
      ·simp only [Act.put, List.setIfInBounds_toArray, List.set_cons_zero, List.set_cons_succ, i64_w, i32_w]
       rfl
      refine take_ (i := 1) (N := some 23) (v := ?_) (a' := ?_) #[true, true, true, false, true, false, true, false, true, false, true, true, false, false, false, false] rfl rfl (take_ofW HT_.out HW_.out (by kernel_rfl)) (fun _ _ _ h => h) (Or.inl ⟨by rfl, ?_⟩) hHeld ?_ ?_
      rotate_left
      ·rintro w' ⟨s0, s1⟩
       go_simp
       with_reducible rfl
      rotate_left
      ·simp only [Act.put, List.setIfInBounds_toArray, List.set_cons_zero, List.set_cons_succ, i64_w, i32_w]
       rfl
      refine pure_ (i := 3) (N := some 25) (v := ?_) (a' := ?_) #[true, true, true, true, true, false, true, false, true, false, true, true, false, false, false, false] rfl rfl (any_of HT_.out (by kernel_rfl)) (fun _ _ _ h => h) (Or.inl ⟨by rfl, ?_⟩) ?_ ?_
      rotate_left
      ·intro w'
       go_simp
       with_reducible rfl
      rotate_left
      ·simp only [Act.put, List.setIfInBounds_toArray, List.set_cons_zero, List.set_cons_succ, i64_w, i32_w]
       rfl
      refine take_ (i := 5) (N := some 27) (v := ?_) (a' := ?_) #[true, true, true, true, true, true, true, false, true, false, true, true, false, false, false, false] rfl rfl (take_ofW HT_.out HW_.out (by kernel_rfl)) (fun _ _ _ h => h) (Or.inl ⟨by rfl, ?_⟩) hHeld ?_ ?_
      rotate_left
      ·rintro w' ⟨s0, s1⟩
       go_simp
       with_reducible rfl
      rotate_left
      ·simp only [Act.put, List.setIfInBounds_toArray, List.set_cons_zero, List.set_cons_succ, i64_w, i32_w]
       rfl
      refine pure_ (i := 7) (N := some 29) (v := ?_) (a' := ?_) #[true, true, true, true, true, true, true, true, true, false, true, true, false, false, false, false] rfl rfl (any_of HT_.out (by kernel_rfl)) (fun _ _ _ h => h) (Or.inl ⟨by rfl, ?_⟩) ?_ ?_
      rotate_left
      ·intro w'
       go_simp
       with_reducible rfl
      rotate_left
      ·simp only [Act.put, List.setIfInBounds_toArray, List.set_cons_zero, List.set_cons_succ, i64_w, i32_w]
       rfl
      refine take_ (i := 9) (N := some 31) (v := ?_) (a' := ?_) #[true, true, true, true, true, true, true, true, true, true, true, true, false, false, false, false] rfl rfl (take_ofW HT_.out HW_.out (by kernel_rfl)) (fun _ _ _ h => h) (Or.inl ⟨by rfl, ?_⟩) hHeld ?_ ?_
      rotate_left
      ·rintro w' ⟨s0, s1⟩
       go_simp
       with_reducible rfl
      rotate_left
      ·simp only [Act.put, List.setIfInBounds_toArray, List.set_cons_zero, List.set_cons_succ, i64_w, i32_w]
       rfl
      refine pure_ (i := 12) (N := some 34) (v := ?_) (a' := ?_) #[true, true, true, true, true, true, true, true, true, true, true, true, true, false, false, false] rfl rfl (any_of HT_.out (by kernel_rfl)) (fun _ _ _ h => h) (Or.inl ⟨by rfl, ?_⟩) ?_ ?_
      rotate_left
      ·intro w'
       go_simp
       with_reducible rfl
      rotate_left
      ·simp only [Act.put, List.setIfInBounds_toArray, List.set_cons_zero, List.set_cons_succ, i64_w, i32_w]
       rfl
      refine pure_ (i := 13) (N := some 35) (v := ?_) (a' := ?_) #[true, true, true, true, true, true, true, true, true, true, true, true, true, true, false, false] rfl rfl (any_of HT_.out (by kernel_rfl)) (fun _ _ _ h => h) (Or.inl ⟨by rfl, ?_⟩) ?_ ?_
      rotate_left
      ·intro w'
       go_simp
       with_reducible rfl
      rotate_left
      ·simp only [Act.put, List.setIfInBounds_toArray, List.set_cons_zero, List.set_cons_succ, i64_w, i32_w]
       rfl
      refine pure_ (i := 14) (N := some 36) (v := ?_) (a' := ?_) #[true, true, true, true, true, true, true, true, true, true, true, true, true, true, true, false] rfl rfl (any_of HT_.out (by kernel_rfl)) (fun _ _ _ h => h) (Or.inl ⟨by rfl, ?_⟩) ?_ ?_
      rotate_left
      ·intro w'
       go_simp
       with_reducible rfl
      rotate_left
      ·simp only [Act.put, List.setIfInBounds_toArray, List.set_cons_zero, List.set_cons_succ, i64_w, i32_w]
       rfl
      refine one_ (i := 15) (N := none) #[true, true, true, true, true, true, true, true, true, true, true, true, true, true, true, true] rfl rfl (one_of HT_.out (by kernel_rfl)) (by decide) (fun K hK => ?_)
      have hs33 : w32.cell? ⟨gb273, 0, none⟩ = some (.int .u64 0) := (blk_cell BK273.out 0).trans rfl
      have hfs33 := blk_frozen BK273.out 0
      have hns33_0 := NB272_273.out
      have hms33_0 := NB273_272.out
      have hs34 : w32.cell? ⟨gb273, 1, none⟩ = some (.int .u64 0) := (blk_cell BK273.out 1).trans rfl
      have hfs34 := blk_frozen BK273.out 1
      have hns34_0 := NB272_273.out
      have hms34_0 := NB273_272.out
      refine skip_ (w1 := ?_) (by rfl) rfl ?_ ?_
      rotate_left
      ·go_simp
       rfl
      refine hK.out _ _ ⟨((cell_far (p := ⟨gb273, _, none⟩) NB272_273.out _).trans (((cell_far (p := ⟨gb273, _, none⟩) NB272_273.out _).trans (hHeld.1)))), ((cell_far (p := ⟨gb273, _, none⟩) NB272_273.out _).trans (((cell_far (p := ⟨gb273, _, none⟩) NB272_273.out _).trans (hHeld.2))))⟩ (fun hHeld => ?_)
      clear hK K
      refine done_ (done_of HT_.out (by kernel_rfl)) ?_
      try go_wp2
      refine bodyPost_ret (results_cell_row rfl _ _ gb273 25 #[.int .u64 ji24, .int .u64 (Go.bits .or .u64 (ji26) (ji29))] (0, 0) _ rfl (by (with_reducible repeat (first | refine blk_drewN ?_ _ | refine blk_drew ?_ | refine blk_alloc ?_ _)); refine blk_put (cs := #[.int .u64 ji24, .int .u64 0]) ?_ 1 _ rfl; (with_reducible repeat (first | refine blk_drewN ?_ _ | refine blk_drew ?_ | refine blk_alloc ?_ _)); refine blk_put (cs := #[.int .u64 0, .int .u64 0]) ?_ 0 _ rfl; (with_reducible repeat (first | refine blk_drewN ?_ _ | refine blk_drew ?_ | refine blk_alloc ?_ _)); exact BK273.out) Tryd.underlying25 rfl (by kernel_rfl)) rfl ?_
      exact ⟨by first | rfl | (simp [errW_none, errW_some] <;> rfl) | (simp only [← hji24, ← hji26, ← hji27, ← hji29]; first | rfl | (simp [errW_none, errW_some] <;> rfl)) | (simp [*, errW_none, errW_some] <;> rfl), by repeat (first | (with_reducible first | exact HB.out | apply below_alloc | apply pw_below_drewN | apply below_drew1 | refine below_set ?_ GE272.out | refine below_set ?_ GE273.out) | exact HB.out)⟩
     ·rw [if_neg c28] at H
      exact absurd H (by simp)
    ·rw [if_neg c23] at H
     exact absurd H (by simp)
def impl_layout_fracBits.f (a0_0 : Int) (a0_1 : Int) (a0_2 : Int) (a0_3 : Int) (a0_4 : Int) (a0_5 : Bool) : Option (Int) := if a0_5 = true then (some a0_0) else (some (wrap64 (a0_0 - 1)))
set_option maxHeartbeats 8000000 in
set_option maxRecDepth 100000 in
theorem impl_layout_fracBits.calls (a0_0 : Int) (a0_1 : Int) (a0_2 : Int) (a0_3 : Int) (a0_4 : Int) (a0_5 : Bool) (r : Int) (w : World) (h : impl_layout_fracBits.f a0_0 a0_1 a0_2 a0_3 a0_4 a0_5 = some r) :
  Calls Tryd.prog 67 #[.agg #[.int .i64 a0_0, .int .i64 a0_1, .int .i64 a0_2, .int .i64 a0_3, .int .i64 a0_4, .bool a0_5]] w fun e w' => e = .returned (.int .i64 r) ∧ Below w.heap.size w w' := by
 have hu91 := Tryd.underlying91
 have HB := Aside0.mk (Below.refl w.heap.size w)
 have H : (if a0_5 = true then (some a0_0) else (some (wrap64 (a0_0 - 1)))) = some r := h
 clear h
 by_cases c2 : a0_5 = true
 ·subst c2
  have H1 : (some a0_0) = some r := by rw [if_pos rfl] at H; exact H
  clear H
  have H := H1
  clear H1
  obtain rfl := Option.some.inj H
  go_enter Tryd.func67, Tryd.ntmps67
  go_wp2_with (first | ((with_reducible refine gate_dst (N := 1) rfl ?_); refine box_event ?hg (N := 1) ?hd (cs := #[.int .i64 a0_0, .int .i64 a0_1, .int .i64 a0_2, .int .i64 a0_3, .int .i64 a0_4, .bool true]) (t := 91) ?hr ?_; (case hd => rfl); (case hg => rfl); (case hr => first | (go_simp; done) | (go_simp; rfl)); intro gb274 hg w3 hbox hb; have n0_ := Aside0.mk (below_step (by repeat (first | (with_reducible first | exact HB.out | apply below_alloc | apply pw_below_drewN | apply below_drew1) | exact HB.out)) hb); have n1_ := Aside0.mk (hbox); have n2_ := Aside0.mk ((by rw [hg]; exact (below_size (by repeat (first | (with_reducible first | exact HB.out | apply below_alloc | apply pw_below_drewN | apply below_drew1) | exact HB.out))) : w.heap.size ≤ gb274)); have n3_ := Aside0.mk ((by rw [hg]; exact (below_size (by repeat (first | (with_reducible first | exact HB.out | apply below_alloc | apply pw_below_drewN | apply below_drew1) | exact HB.out))) : w.heap.size ≤ gb274)); clear HB; have HB := n0_; have BK274 := n1_; have GW274 := n2_; have GE274 := n3_; clear n0_ n1_ n2_ n3_; clear hb hbox hg; have hcz4_0 : w3.cell? ⟨gb274, 0, none⟩ = some (.int .i64 a0_0) := (blk_cell BK274.out 0).trans rfl; have hcz4_1 : w3.cell? ⟨gb274, 1, none⟩ = some (.int .i64 a0_1) := (blk_cell BK274.out 1).trans rfl; have hcz4_2 : w3.cell? ⟨gb274, 2, none⟩ = some (.int .i64 a0_2) := (blk_cell BK274.out 2).trans rfl; have hcz4_3 : w3.cell? ⟨gb274, 3, none⟩ = some (.int .i64 a0_3) := (blk_cell BK274.out 3).trans rfl; have hcz4_4 : w3.cell? ⟨gb274, 4, none⟩ = some (.int .i64 a0_4) := (blk_cell BK274.out 4).trans rfl; have hcz4_5 : w3.cell? ⟨gb274, 5, none⟩ = some (.bool true) := (blk_cell BK274.out 5).trans rfl; have hfz4_0 := blk_frozen BK274.out 0; have hfz4_1 := blk_frozen BK274.out 1; have hfz4_2 := blk_frozen BK274.out 2; have hfz4_3 := blk_frozen BK274.out 3; have hfz4_4 := blk_frozen BK274.out 4; have hfz4_5 := blk_frozen BK274.out 5))
  go_ret
  exact ⟨by first | rfl | (simp [errW_none, errW_some] <;> rfl) | (simp [*, errW_none, errW_some] <;> rfl), by repeat (first | (with_reducible first | exact HB.out | apply below_alloc | apply pw_below_drewN | apply below_drew1 | refine below_set ?_ GE274.out) | exact HB.out)⟩
 ·replace c2 := Bool.eq_false_iff.mpr c2
  subst c2
  have H1 : (some (wrap64 (a0_0 - 1))) = some r := by rw [if_neg (show ¬ (false = true) by decide)] at H; exact H
  clear H
  have H := H1
  clear H1
  obtain rfl := Option.some.inj H
  go_enter Tryd.func67, Tryd.ntmps67
  go_wp2_with (first | ((with_reducible refine gate_dst (N := 1) rfl ?_); refine box_event ?hg (N := 1) ?hd (cs := #[.int .i64 a0_0, .int .i64 a0_1, .int .i64 a0_2, .int .i64 a0_3, .int .i64 a0_4, .bool false]) (t := 91) ?hr ?_; (case hd => rfl); (case hg => rfl); (case hr => first | (go_simp; done) | (go_simp; rfl)); intro gb274 hg w5 hbox hb; have n0_ := Aside0.mk (below_step (by repeat (first | (with_reducible first | exact HB.out | apply below_alloc | apply pw_below_drewN | apply below_drew1) | exact HB.out)) hb); have n1_ := Aside0.mk (hbox); have n2_ := Aside0.mk ((by rw [hg]; exact (below_size (by repeat (first | (with_reducible first | exact HB.out | apply below_alloc | apply pw_below_drewN | apply below_drew1) | exact HB.out))) : w.heap.size ≤ gb274)); have n3_ := Aside0.mk ((by rw [hg]; exact (below_size (by repeat (first | (with_reducible first | exact HB.out | apply below_alloc | apply pw_below_drewN | apply below_drew1) | exact HB.out))) : w.heap.size ≤ gb274)); clear HB; have HB := n0_; have BK274 := n1_; have GW274 := n2_; have GE274 := n3_; clear n0_ n1_ n2_ n3_; clear hb hbox hg; have hcz6_0 : w5.cell? ⟨gb274, 0, none⟩ = some (.int .i64 a0_0) := (blk_cell BK274.out 0).trans rfl; have hcz6_1 : w5.cell? ⟨gb274, 1, none⟩ = some (.int .i64 a0_1) := (blk_cell BK274.out 1).trans rfl; have hcz6_2 : w5.cell? ⟨gb274, 2, none⟩ = some (.int .i64 a0_2) := (blk_cell BK274.out 2).trans rfl; have hcz6_3 : w5.cell? ⟨gb274, 3, none⟩ = some (.int .i64 a0_3) := (blk_cell BK274.out 3).trans rfl; have hcz6_4 : w5.cell? ⟨gb274, 4, none⟩ = some (.int .i64 a0_4) := (blk_cell BK274.out 4).trans rfl; have hcz6_5 : w5.cell? ⟨gb274, 5, none⟩ = some (.bool false) := (blk_cell BK274.out 5).trans rfl; have hfz6_0 := blk_frozen BK274.out 0; have hfz6_1 := blk_frozen BK274.out 1; have hfz6_2 := blk_frozen BK274.out 2; have hfz6_3 := blk_frozen BK274.out 3; have hfz6_4 := blk_frozen BK274.out 4; have hfz6_5 := blk_frozen BK274.out 5))
  go_ret
  exact ⟨by first | rfl | (simp [errW_none, errW_some] <;> rfl) | (simp [*, errW_none, errW_some] <;> rfl), by repeat (first | (with_reducible first | exact HB.out | apply below_alloc | apply pw_below_drewN | apply below_drew1 | refine below_set ?_ GE274.out) | exact HB.out)⟩
def impl_Word_or.f (a0_0 : Int) (a0_1 : Int) (a1_0 : Int) (a1_1 : Int) : Option (Int × Int) := some (Go.bits .or .u64 a0_0 a1_0, Go.bits .or .u64 a0_1 a1_1)
set_option maxHeartbeats 8000000 in
set_option maxRecDepth 100000 in
theorem impl_Word_or.calls (a0_0 : Int) (a0_1 : Int) (a1_0 : Int) (a1_1 : Int) (r1 : Int) (r2 : Int) (w : World) (h : impl_Word_or.f a0_0 a0_1 a1_0 a1_1 = some (r1, r2)) :
  Calls Tryd.prog 71 #[.agg #[.int .u64 a0_0, .int .u64 a0_1], .agg #[.int .u64 a1_0, .int .u64 a1_1]] w fun e w' => e = .returned (.agg #[.int .u64 r1, .int .u64 r2]) ∧ Below w.heap.size w w' := by
 have hu25 := Tryd.underlying25
 have HB := Aside0.mk (Below.refl w.heap.size w)
 have H : (some (Go.bits .or .u64 a0_0 a1_0, Go.bits .or .u64 a0_1 a1_1)) = some (r1, r2) := h
 clear h
 simp only [Option.some.injEq, Prod.mk.injEq] at H
 obtain ⟨rfl, rfl⟩ := H
 go_enter Tryd.func71, Tryd.ntmps71
 go_wp2_with (first | ((with_reducible refine gate_dst (N := 2) rfl ?_); refine box_event ?hg (N := 2) ?hd (cs := #[.int .u64 a0_0, .int .u64 a0_1]) (t := 25) ?hr ?_; (case hd => rfl); (case hg => rfl); (case hr => first | (go_simp; done) | (go_simp; rfl)); intro gb275 hg w3 hbox hb; have n0_ := Aside0.mk (below_step (by repeat (first | (with_reducible first | exact HB.out | apply below_alloc | apply pw_below_drewN | apply below_drew1) | exact HB.out)) hb); have n1_ := Aside0.mk (hbox); have n2_ := Aside0.mk ((by rw [hg]; exact (below_size (by repeat (first | (with_reducible first | exact HB.out | apply below_alloc | apply pw_below_drewN | apply below_drew1) | exact HB.out))) : w.heap.size ≤ gb275)); have n3_ := Aside0.mk ((by rw [hg]; exact (below_size (by repeat (first | (with_reducible first | exact HB.out | apply below_alloc | apply pw_below_drewN | apply below_drew1) | exact HB.out))) : w.heap.size ≤ gb275)); clear HB; have HB := n0_; have BK275 := n1_; have GW275 := n2_; have GE275 := n3_; clear n0_ n1_ n2_ n3_; clear hb hbox hg) | ((with_reducible refine gate_dst (N := 3) rfl ?_); refine box_event ?hg (N := 3) ?hd (cs := #[.int .u64 a1_0, .int .u64 a1_1]) (t := 25) ?hr ?_; (case hd => rfl); (case hg => rfl); (case hr => first | (go_simp; done) | (go_simp; rfl)); intro gb276 hg w4 hbox hb; have n0_ := Aside0.mk (blk_below (g := gb275) (o := .cells #[.int .u64 a0_0, .int .u64 a0_1] 25 (0, 0)) (by (with_reducible repeat (first | refine blk_drewN ?_ _ | refine blk_drew ?_ | refine blk_alloc ?_ _)); exact BK275.out) hb); have n1_ := Aside0.mk (below_step (by repeat (first | (with_reducible first | exact HB.out | apply below_alloc | apply pw_below_drewN | apply below_drew1 | refine below_set ?_ GE275.out) | exact HB.out)) hb); have n2_ := Aside0.mk (hbox); have n3_ := Aside0.mk ((by rw [hg]; exact (below_size (by repeat (first | (with_reducible first | exact HB.out | apply below_alloc | apply pw_below_drewN | apply below_drew1 | refine below_set ?_ GE275.out) | exact HB.out))) : w.heap.size ≤ gb276)); have n4_ := Aside0.mk ((by rw [hg]; exact (below_size (by repeat (first | (with_reducible first | exact HB.out | apply below_alloc | apply pw_below_drewN | apply below_drew1 | refine below_set ?_ GE275.out) | exact HB.out))) : w.heap.size ≤ gb276)); have n5_ := Aside0.mk ((by rw [hg]; exact Nat.ne_of_lt (blk_lt (g := gb275) (o := .cells #[.int .u64 a0_0, .int .u64 a0_1] 25 (0, 0)) (by (with_reducible repeat (first | refine blk_drewN ?_ _ | refine blk_drew ?_ | refine blk_alloc ?_ _)); exact BK275.out)) : gb275 ≠ gb276)); have n6_ := Aside0.mk ((by rw [hg]; exact Nat.ne_of_gt (blk_lt (g := gb275) (o := .cells #[.int .u64 a0_0, .int .u64 a0_1] 25 (0, 0)) (by (with_reducible repeat (first | refine blk_drewN ?_ _ | refine blk_drew ?_ | refine blk_alloc ?_ _)); exact BK275.out)) : gb276 ≠ gb275)); clear BK275; clear HB; have BK275 := n0_; have HB := n1_; have BK276 := n2_; have GW276 := n3_; have GE276 := n4_; have NB275_276 := n5_; have NB276_275 := n6_; clear n0_ n1_ n2_ n3_ n4_ n5_ n6_; clear hb hbox hg) | ((with_reducible refine gate_dst (N := 4) rfl ?_); refine box_event ?hg (N := 4) ?hd (cs := #[.int .u64 0, .int .u64 0]) (t := 25) ?hr ?_; (case hd => rfl); (case hg => rfl); (case hr => first | (go_simp; done) | (go_simp; rfl)); intro gb277 hg w5 hbox hb; have n0_ := Aside0.mk (blk_below (g := gb275) (o := .cells #[.int .u64 a0_0, .int .u64 a0_1] 25 (0, 0)) (by (with_reducible repeat (first | refine blk_drewN ?_ _ | refine blk_drew ?_ | refine blk_alloc ?_ _)); exact BK275.out) hb); have n1_ := Aside0.mk (blk_below (g := gb276) (o := .cells #[.int .u64 a1_0, .int .u64 a1_1] 25 (0, 0)) (by (with_reducible repeat (first | refine blk_drewN ?_ _ | refine blk_drew ?_ | refine blk_alloc ?_ _)); exact BK276.out) hb); have n2_ := Aside0.mk (below_step (by repeat (first | (with_reducible first | exact HB.out | apply below_alloc | apply pw_below_drewN | apply below_drew1 | refine below_set ?_ GE275.out | refine below_set ?_ GE276.out) | exact HB.out)) hb); have n3_ := Aside0.mk (hbox); have n4_ := Aside0.mk ((by rw [hg]; exact (below_size (by repeat (first | (with_reducible first | exact HB.out | apply below_alloc | apply pw_below_drewN | apply below_drew1 | refine below_set ?_ GE275.out | refine below_set ?_ GE276.out) | exact HB.out))) : w.heap.size ≤ gb277)); have n5_ := Aside0.mk ((by rw [hg]; exact (below_size (by repeat (first | (with_reducible first | exact HB.out | apply below_alloc | apply pw_below_drewN | apply below_drew1 | refine below_set ?_ GE275.out | refine below_set ?_ GE276.out) | exact HB.out))) : w.heap.size ≤ gb277)); have n6_ := Aside0.mk ((by rw [hg]; exact Nat.ne_of_lt (blk_lt (g := gb275) (o := .cells #[.int .u64 a0_0, .int .u64 a0_1] 25 (0, 0)) (by (with_reducible repeat (first | refine blk_drewN ?_ _ | refine blk_drew ?_ | refine blk_alloc ?_ _)); exact BK275.out)) : gb275 ≠ gb277)); have n7_ := Aside0.mk ((by rw [hg]; exact Nat.ne_of_gt (blk_lt (g := gb275) (o := .cells #[.int .u64 a0_0, .int .u64 a0_1] 25 (0, 0)) (by (with_reducible repeat (first | refine blk_drewN ?_ _ | refine blk_drew ?_ | refine blk_alloc ?_ _)); exact BK275.out)) : gb277 ≠ gb275)); have n8_ := Aside0.mk ((by rw [hg]; exact Nat.ne_of_lt (blk_lt (g := gb276) (o := .cells #[.int .u64 a1_0, .int .u64 a1_1] 25 (0, 0)) (by (with_reducible repeat (first | refine blk_drewN ?_ _ | refine blk_drew ?_ | refine blk_alloc ?_ _)); exact BK276.out)) : gb276 ≠ gb277)); have n9_ := Aside0.mk ((by rw [hg]; exact Nat.ne_of_gt (blk_lt (g := gb276) (o := .cells #[.int .u64 a1_0, .int .u64 a1_1] 25 (0, 0)) (by (with_reducible repeat (first | refine blk_drewN ?_ _ | refine blk_drew ?_ | refine blk_alloc ?_ _)); exact BK276.out)) : gb277 ≠ gb276)); clear BK275; clear BK276; clear HB; have BK275 := n0_; have BK276 := n1_; have HB := n2_; have BK277 := n3_; have GW277 := n4_; have GE277 := n5_; have NB275_277 := n6_; have NB277_275 := n7_; have NB276_277 := n8_; have NB277_276 := n9_; clear n0_ n1_ n2_ n3_ n4_ n5_ n6_ n7_ n8_ n9_; clear hb hbox hg; have hnb6 := NB275_276.out; have hnc6 := NB276_275.out; have hnb7 := NB275_277.out; have hnc7 := NB277_275.out; have hcz8_0 : w5.cell? ⟨gb275, 0, none⟩ = some (.int .u64 a0_0) := (blk_cell BK275.out 0).trans rfl; have hcz8_1 : w5.cell? ⟨gb275, 1, none⟩ = some (.int .u64 a0_1) := (blk_cell BK275.out 1).trans rfl; have hfz8_0 := blk_frozen BK275.out 0; have hfz8_1 := blk_frozen BK275.out 1; have hnb9 := NB276_277.out; have hnc9 := NB277_276.out; have hcz10_0 : w5.cell? ⟨gb276, 0, none⟩ = some (.int .u64 a1_0) := (blk_cell BK276.out 0).trans rfl; have hcz10_1 : w5.cell? ⟨gb276, 1, none⟩ = some (.int .u64 a1_1) := (blk_cell BK276.out 1).trans rfl; have hfz10_0 := blk_frozen BK276.out 0; have hfz10_1 := blk_frozen BK276.out 1; have hcz11_0 : w5.cell? ⟨gb277, 0, none⟩ = some (.int .u64 0) := (blk_cell BK277.out 0).trans rfl; have hcz11_1 : w5.cell? ⟨gb277, 1, none⟩ = some (.int .u64 0) := (blk_cell BK277.out 1).trans rfl; have hfz11_0 := blk_frozen BK277.out 0; have hfz11_1 := blk_frozen BK277.out 1))
 refine bodyPost_ret (results_cell_row rfl _ _ gb277 25 #[.int .u64 (Go.bits .or .u64 a0_0 a1_0), .int .u64 (Go.bits .or .u64 a0_1 a1_1)] (0, 0) _ rfl (by (with_reducible repeat (first | refine blk_drewN ?_ _ | refine blk_drew ?_ | refine blk_alloc ?_ _)); refine blk_put (cs := #[.int .u64 (Go.bits .or .u64 a0_0 a1_0), .int .u64 0]) ?_ 1 _ rfl; (with_reducible repeat (first | refine blk_drewN ?_ _ | refine blk_drew ?_ | refine blk_alloc ?_ _)); refine blk_put (cs := #[.int .u64 0, .int .u64 0]) ?_ 0 _ rfl; (with_reducible repeat (first | refine blk_drewN ?_ _ | refine blk_drew ?_ | refine blk_alloc ?_ _)); exact BK277.out) Tryd.underlying25 rfl (by kernel_rfl)) rfl ?_
 exact ⟨by first | rfl | (simp [errW_none, errW_some] <;> rfl) | (simp [*, errW_none, errW_some] <;> rfl), by repeat (first | (with_reducible first | exact HB.out | apply below_alloc | apply pw_below_drewN | apply below_drew1 | refine below_set ?_ GE275.out | refine below_set ?_ GE276.out | refine below_set ?_ GE277.out) | exact HB.out)⟩
end Go.Proofs.YtdbnmdchecacdaaDoor.PL
end
section
namespace Go.Proofs.YtdbnmdchecacdaaDoor.PL
open Go.RowKit Go.Proofs.YtdbnmdchecacdaaDoor.G Go.Proofs.YtdbnmdchecacdaaDoorV.PrintWords Go.Proofs.YtdbnmdchecacdaaDoorV.PrintLast Go.Proofs.YtdbnmdchecacdaaDoorV.PrintMore
attribute [local go_sem] max2_int min2_int max_two min_two max_three min_three max_four min_four run_Add64 run_Sub64 fld25_1
set_option linter.unusedVariables false
set_option linter.unusedSimpArgs false
def impl_Word_left.f (a0_0 : Int) (a0_1 : Int) (a1 : Int) : Option (Int × Int) := if a1 = 0 then (some (a0_0, a0_1)) else (if a1 ≥ 64 then (if 0 ≤ (wrap64 (a1 - 64)) then (some (shl .u64 a0_1 (wrap64 (a1 - 64)), 0)) else (none)) else (if 0 ≤ a1 then (if 0 ≤ (wrap64 (64 - a1)) then (some (Go.bits .or .u64 (shl .u64 a0_0 a1) (shr .u64 a0_1 (wrap64 (64 - a1))), shl .u64 a0_1 a1)) else (none)) else (none)))
def impl_Word_left.T5 : Bool × List (List Nat × List Nat) := (true, [([], []), ([0], [0]), ([], []), ([1, 2], [1, 2]), ([], []), ([4], [4]), ([], []), ([6], [6]), ([5, 7], [5, 7]), ([3, 8], [3, 8]), ([], []), ([10], [10]), ([], []), ([11, 12], [11, 12]), ([9, 13], [9, 13]), ([14, 0, 1, 2, 3, 4, 5, 6, 7, 8, 9, 10, 11, 12, 13, 14], [14])])
def impl_Word_left.B5 : List Nat := [0, 1, 0, 7, 0, 16, 0, 64, 240, 511, 0, 1024, 0, 7168, 16383, 32767]
theorem impl_Word_left.tab5 : rtab .any (opsOf Tryd.f80 5) = impl_Word_left.T5 := by kernel_rfl
theorem impl_Word_left.bits5 : waitsOk impl_Word_left.T5.2 impl_Word_left.B5 = true := by kernel_rfl
set_option maxHeartbeats 8000000 in
set_option maxRecDepth 100000 in
theorem impl_Word_left.calls (a0_0 : Int) (a0_1 : Int) (a1 : Int) (r1 : Int) (r2 : Int) (w : World) (h : impl_Word_left.f a0_0 a0_1 a1 = some (r1, r2)) :
  Calls Tryd.prog 80 #[.agg #[.int .u64 a0_0, .int .u64 a0_1], .int .i64 a1] w fun e w' => e = .returned (.agg #[.int .u64 r1, .int .u64 r2]) ∧ Below w.heap.size w w' := by
 have hu25 := Tryd.underlying25
 have HB := Aside0.mk (Below.refl w.heap.size w)
 have H : (if a1 = 0 then (some (a0_0, a0_1)) else (if a1 ≥ 64 then (if 0 ≤ (wrap64 (a1 - 64)) then (some (shl .u64 a0_1 (wrap64 (a1 - 64)), 0)) else (none)) else (if 0 ≤ a1 then (if 0 ≤ (wrap64 (64 - a1)) then (some (Go.bits .or .u64 (shl .u64 a0_0 a1) (shr .u64 a0_1 (wrap64 (64 - a1))), shl .u64 a0_1 a1)) else (none)) else (none)))) = some (r1, r2) := h
 clear h
 by_cases c3 : a1 = 0
 ·rw [if_pos c3] at H
  have c3b0 : (a1 == 0) = true := beq_iff_eq.mpr c3
  have c3b1 : (a1 != 0) = false := bne_eq_false_iff_eq.mpr c3
  clear c3
  simp only [Option.some.injEq, Prod.mk.injEq] at H
  obtain ⟨rfl, rfl⟩ := H
  go_enter Tryd.func80, Tryd.ntmps80
  go_wp2_with (first | ((with_reducible refine gate_dst (N := 2) rfl ?_); refine box_event ?hg (N := 2) ?hd (cs := #[.int .u64 a0_0, .int .u64 a0_1]) (t := 25) ?hr ?_; (case hd => rfl); (case hg => rfl); (case hr => first | (go_simp; done) | (go_simp; rfl)); intro gb278 hg w4 hbox hb; have n0_ := Aside0.mk (below_step (by repeat (first | (with_reducible first | exact HB.out | apply below_alloc | apply pw_below_drewN | apply below_drew1) | exact HB.out)) hb); have n1_ := Aside0.mk (hbox); have n2_ := Aside0.mk ((by rw [hg]; exact (below_size (by repeat (first | (with_reducible first | exact HB.out | apply below_alloc | apply pw_below_drewN | apply below_drew1) | exact HB.out))) : w.heap.size ≤ gb278)); have n3_ := Aside0.mk ((by rw [hg]; exact (below_size (by repeat (first | (with_reducible first | exact HB.out | apply below_alloc | apply pw_below_drewN | apply below_drew1) | exact HB.out))) : w.heap.size ≤ gb278)); clear HB; have HB := n0_; have BK278 := n1_; have GW278 := n2_; have GE278 := n3_; clear n0_ n1_ n2_ n3_; clear hb hbox hg) | ((with_reducible refine gate_dst (N := 4) rfl ?_); refine box_event ?hg (N := 4) ?hd (cs := #[.int .u64 0, .int .u64 0]) (t := 25) ?hr ?_; (case hd => rfl); (case hg => rfl); (case hr => first | (go_simp; done) | (go_simp; rfl)); intro gb279 hg w5 hbox hb; have n0_ := Aside0.mk (blk_below (g := gb278) (o := .cells #[.int .u64 a0_0, .int .u64 a0_1] 25 (0, 0)) (by (with_reducible repeat (first | refine blk_drewN ?_ _ | refine blk_drew ?_ | refine blk_alloc ?_ _)); exact BK278.out) hb); have n1_ := Aside0.mk (below_step (by repeat (first | (with_reducible first | exact HB.out | apply below_alloc | apply pw_below_drewN | apply below_drew1 | refine below_set ?_ GE278.out) | exact HB.out)) hb); have n2_ := Aside0.mk (hbox); have n3_ := Aside0.mk ((by rw [hg]; exact (below_size (by repeat (first | (with_reducible first | exact HB.out | apply below_alloc | apply pw_below_drewN | apply below_drew1 | refine below_set ?_ GE278.out) | exact HB.out))) : w.heap.size ≤ gb279)); have n4_ := Aside0.mk ((by rw [hg]; exact (below_size (by repeat (first | (with_reducible first | exact HB.out | apply below_alloc | apply pw_below_drewN | apply below_drew1 | refine below_set ?_ GE278.out) | exact HB.out))) : w.heap.size ≤ gb279)); have n5_ := Aside0.mk ((by rw [hg]; exact Nat.ne_of_lt (blk_lt (g := gb278) (o := .cells #[.int .u64 a0_0, .int .u64 a0_1] 25 (0, 0)) (by (with_reducible repeat (first | refine blk_drewN ?_ _ | refine blk_drew ?_ | refine blk_alloc ?_ _)); exact BK278.out)) : gb278 ≠ gb279)); have n6_ := Aside0.mk ((by rw [hg]; exact Nat.ne_of_gt (blk_lt (g := gb278) (o := .cells #[.int .u64 a0_0, .int .u64 a0_1] 25 (0, 0)) (by (with_reducible repeat (first | refine blk_drewN ?_ _ | refine blk_drew ?_ | refine blk_alloc ?_ _)); exact BK278.out)) : gb279 ≠ gb278)); clear BK278; clear HB; have BK278 := n0_; have HB := n1_; have BK279 := n2_; have GW279 := n3_; have GE279 := n4_; have NB278_279 := n5_; have NB279_278 := n6_; clear n0_ n1_ n2_ n3_ n4_ n5_ n6_; clear hb hbox hg; have hnb6 := NB278_279.out; have hnc6 := NB279_278.out; have hcz7_0 : w5.cell? ⟨gb278, 0, none⟩ = some (.int .u64 a0_0) := (blk_cell BK278.out 0).trans rfl; have hcz7_1 : w5.cell? ⟨gb278, 1, none⟩ = some (.int .u64 a0_1) := (blk_cell BK278.out 1).trans rfl; have hfz7_0 := blk_frozen BK278.out 0; have hfz7_1 := blk_frozen BK278.out 1; have hcz8_0 : w5.cell? ⟨gb279, 0, none⟩ = some (.int .u64 0) := (blk_cell BK279.out 0).trans rfl; have hcz8_1 : w5.cell? ⟨gb279, 1, none⟩ = some (.int .u64 0) := (blk_cell BK279.out 1).trans rfl; have hfz8_0 := blk_frozen BK279.out 0; have hfz8_1 := blk_frozen BK279.out 1))
  refine bodyPost_ret (results_cell_row rfl _ _ gb279 25 #[.int .u64 a0_0, .int .u64 a0_1] (0, 0) _ rfl (by (with_reducible repeat (first | refine blk_drewN ?_ _ | refine blk_drew ?_ | refine blk_alloc ?_ _)); refine blk_put (cs := #[.int .u64 a0_0, .int .u64 0]) ?_ 1 _ rfl; (with_reducible repeat (first | refine blk_drewN ?_ _ | refine blk_drew ?_ | refine blk_alloc ?_ _)); refine blk_put (cs := #[.int .u64 0, .int .u64 0]) ?_ 0 _ rfl; (with_reducible repeat (first | refine blk_drewN ?_ _ | refine blk_drew ?_ | refine blk_alloc ?_ _)); exact BK279.out) Tryd.underlying25 rfl (by kernel_rfl)) rfl ?_
  exact ⟨by first | rfl | (simp [errW_none, errW_some] <;> rfl) | (simp [*, errW_none, errW_some] <;> rfl), by repeat (first | (with_reducible first | exact HB.out | apply below_alloc | apply pw_below_drewN | apply below_drew1 | refine below_set ?_ GE278.out | refine below_set ?_ GE279.out) | exact HB.out)⟩
 ·rw [if_neg c3] at H
  have c3b0 : (a1 == 0) = false := beq_eq_false_iff_ne.mpr c3
  have c3b1 : (a1 != 0) = true := bne_iff_ne.mpr c3
  by_cases c9 : a1 ≥ 64
  ·rw [if_pos c9] at H
   have c9b0 : decide (64 ≤ a1) = true := decide_eq_true c9
   clear c9
   obtain ⟨ji10, hji10⟩ : ∃ j_ : Int, (wrap64 (a1 - 64)) = j_ := ⟨_, rfl⟩
   replace H : (if 0 ≤ (ji10) then (some (shl .u64 a0_1 (ji10), 0)) else (none)) = some (r1, r2) := by first | (rw [hji10] at H; exact H) | (simp only [hji10] at H ⊢; exact H)
   have hji10w : (IntKind.i64.wrap (a1 - 64)) = ji10 := (i64_w _).trans hji10
   by_cases c11 : 0 ≤ (ji10)
   ·rw [if_pos c11] at H
    have c11b0 := eq_true c11
    have c11b1 : decide (0 ≤ (ji10)) = true := decide_eq_true c11
    clear c11
    obtain ⟨ji12, hji12⟩ : ∃ j_ : Int, (shl .u64 a0_1 (ji10)) = j_ := ⟨_, rfl⟩
    replace H : (some (ji12, 0)) = some (r1, r2) := by first | (rw [hji12] at H; exact H) | (simp only [hji12] at H ⊢; exact H)
    have hji12_ : (IntKind.u64.wrap (a0_1 * 2 ^ min (ji10).toNat 64)) = ji12 := hji12
    have hji12z : (ji10) ≤ 64 → (IntKind.u64.wrap (a0_1 * 2 ^ (ji10).toNat)) = ji12 := shl_small hji12
    simp only [Option.some.injEq, Prod.mk.injEq] at H
    obtain ⟨rfl, rfl⟩ := H
    go_enter Tryd.func80, Tryd.ntmps80
    go_wp2_with (first | ((with_reducible refine gate_dst (N := 2) rfl ?_); refine box_event ?hg (N := 2) ?hd (cs := #[.int .u64 a0_0, .int .u64 a0_1]) (t := 25) ?hr ?_; (case hd => rfl); (case hg => rfl); (case hr => first | (go_simp; done) | (go_simp; rfl)); intro gb278 hg w13 hbox hb; have n0_ := Aside0.mk (below_step (by repeat (first | (with_reducible first | exact HB.out | apply below_alloc | apply pw_below_drewN | apply below_drew1) | exact HB.out)) hb); have n1_ := Aside0.mk (hbox); have n2_ := Aside0.mk ((by rw [hg]; exact (below_size (by repeat (first | (with_reducible first | exact HB.out | apply below_alloc | apply pw_below_drewN | apply below_drew1) | exact HB.out))) : w.heap.size ≤ gb278)); have n3_ := Aside0.mk ((by rw [hg]; exact (below_size (by repeat (first | (with_reducible first | exact HB.out | apply below_alloc | apply pw_below_drewN | apply below_drew1) | exact HB.out))) : w.heap.size ≤ gb278)); clear HB; have HB := n0_; have BK278 := n1_; have GW278 := n2_; have GE278 := n3_; clear n0_ n1_ n2_ n3_; clear hb hbox hg) | ((with_reducible refine gate_dst (N := 4) rfl ?_); refine box_event ?hg (N := 4) ?hd (cs := #[.int .u64 0, .int .u64 0]) (t := 25) ?hr ?_; (case hd => rfl); (case hg => rfl); (case hr => first | (go_simp; done) | (go_simp; rfl)); intro gb279 hg w14 hbox hb; have n0_ := Aside0.mk (blk_below (g := gb278) (o := .cells #[.int .u64 a0_0, .int .u64 a0_1] 25 (0, 0)) (by (with_reducible repeat (first | refine blk_drewN ?_ _ | refine blk_drew ?_ | refine blk_alloc ?_ _)); exact BK278.out) hb); have n1_ := Aside0.mk (below_step (by repeat (first | (with_reducible first | exact HB.out | apply below_alloc | apply pw_below_drewN | apply below_drew1 | refine below_set ?_ GE278.out) | exact HB.out)) hb); have n2_ := Aside0.mk (hbox); have n3_ := Aside0.mk ((by rw [hg]; exact (below_size (by repeat (first | (with_reducible first | exact HB.out | apply below_alloc | apply pw_below_drewN | apply below_drew1 | refine below_set ?_ GE278.out) | exact HB.out))) : w.heap.size ≤ gb279)); have n4_ := Aside0.mk ((by rw [hg]; exact (below_size (by repeat (first | (with_reducible first | exact HB.out | apply below_alloc | apply pw_below_drewN | apply below_drew1 | refine below_set ?_ GE278.out) | exact HB.out))) : w.heap.size ≤ gb279)); have n5_ := Aside0.mk ((by rw [hg]; exact Nat.ne_of_lt (blk_lt (g := gb278) (o := .cells #[.int .u64 a0_0, .int .u64 a0_1] 25 (0, 0)) (by (with_reducible repeat (first | refine blk_drewN ?_ _ | refine blk_drew ?_ | refine blk_alloc ?_ _)); exact BK278.out)) : gb278 ≠ gb279)); have n6_ := Aside0.mk ((by rw [hg]; exact Nat.ne_of_gt (blk_lt (g := gb278) (o := .cells #[.int .u64 a0_0, .int .u64 a0_1] 25 (0, 0)) (by (with_reducible repeat (first | refine blk_drewN ?_ _ | refine blk_drew ?_ | refine blk_alloc ?_ _)); exact BK278.out)) : gb279 ≠ gb278)); clear BK278; clear HB; have BK278 := n0_; have HB := n1_; have BK279 := n2_; have GW279 := n3_; have GE279 := n4_; have NB278_279 := n5_; have NB279_278 := n6_; clear n0_ n1_ n2_ n3_ n4_ n5_ n6_; clear hb hbox hg; have hnb15 := NB278_279.out; have hnc15 := NB279_278.out; have hcz16_0 : w14.cell? ⟨gb278, 0, none⟩ = some (.int .u64 a0_0) := (blk_cell BK278.out 0).trans rfl; have hcz16_1 : w14.cell? ⟨gb278, 1, none⟩ = some (.int .u64 a0_1) := (blk_cell BK278.out 1).trans rfl; have hfz16_0 := blk_frozen BK278.out 0; have hfz16_1 := blk_frozen BK278.out 1; have hcz17_0 : w14.cell? ⟨gb279, 0, none⟩ = some (.int .u64 0) := (blk_cell BK279.out 0).trans rfl; have hcz17_1 : w14.cell? ⟨gb279, 1, none⟩ = some (.int .u64 0) := (blk_cell BK279.out 1).trans rfl; have hfz17_0 := blk_frozen BK279.out 0; have hfz17_1 := blk_frozen BK279.out 1))
    refine bodyPost_ret (results_cell_row rfl _ _ gb279 25 #[.int .u64 ji12, .int .u64 0] (0, 0) _ rfl (by (with_reducible repeat (first | refine blk_drewN ?_ _ | refine blk_drew ?_ | refine blk_alloc ?_ _)); refine blk_put (cs := #[.int .u64 ji12, .int .u64 0]) ?_ 1 _ rfl; (with_reducible repeat (first | refine blk_drewN ?_ _ | refine blk_drew ?_ | refine blk_alloc ?_ _)); refine blk_put (cs := #[.int .u64 0, .int .u64 0]) ?_ 0 _ rfl; (with_reducible repeat (first | refine blk_drewN ?_ _ | refine blk_drew ?_ | refine blk_alloc ?_ _)); exact BK279.out) Tryd.underlying25 rfl (by kernel_rfl)) rfl ?_
    exact ⟨by first | rfl | (simp [errW_none, errW_some] <;> rfl) | (simp only [← hji10, ← hji12]; first | rfl | (simp [errW_none, errW_some] <;> rfl)) | (simp [*, errW_none, errW_some] <;> rfl), by repeat (first | (with_reducible first | exact HB.out | apply below_alloc | apply pw_below_drewN | apply below_drew1 | refine below_set ?_ GE278.out | refine below_set ?_ GE279.out) | exact HB.out)⟩
   ·rw [if_neg c11] at H
    exact absurd H (by simp)
  ·rw [if_neg c9] at H
   have c9b0 : decide (64 ≤ a1) = false := decide_eq_false c9
   clear c9
   by_cases c18 : 0 ≤ a1
   ·rw [if_pos c18] at H
    have c18b0 := eq_true c18
    have c18b1 : decide (0 ≤ a1) = true := decide_eq_true c18
    clear c18
    obtain ⟨ji19, hji19⟩ : ∃ j_ : Int, (shl .u64 a0_0 a1) = j_ := ⟨_, rfl⟩
    replace H : (if 0 ≤ (wrap64 (64 - a1)) then (some (Go.bits .or .u64 (ji19) (shr .u64 a0_1 (wrap64 (64 - a1))), shl .u64 a0_1 a1)) else (none)) = some (r1, r2) := by first | (rw [hji19] at H; exact H) | (simp only [hji19] at H ⊢; exact H)
    have hji19_ : (IntKind.u64.wrap (a0_0 * 2 ^ min a1.toNat 64)) = ji19 := hji19
    have hji19z : a1 ≤ 64 → (IntKind.u64.wrap (a0_0 * 2 ^ a1.toNat)) = ji19 := shl_small hji19
    obtain ⟨ji20, hji20⟩ : ∃ j_ : Int, (wrap64 (64 - a1)) = j_ := ⟨_, rfl⟩
    replace H : (if 0 ≤ (ji20) then (some (Go.bits .or .u64 (ji19) (shr .u64 a0_1 (ji20)), shl .u64 a0_1 a1)) else (none)) = some (r1, r2) := by first | (rw [hji20] at H; exact H) | (simp only [hji20] at H ⊢; exact H)
    have hji20w : (IntKind.i64.wrap (64 - a1)) = ji20 := (i64_w _).trans hji20
    by_cases c21 : 0 ≤ (ji20)
    ·rw [if_pos c21] at H
     have c21b0 := eq_true c21
     have c21b1 : decide (0 ≤ (ji20)) = true := decide_eq_true c21
     clear c21
     obtain ⟨ji22, hji22⟩ : ∃ j_ : Int, (shr .u64 a0_1 (ji20)) = j_ := ⟨_, rfl⟩
     replace H : (some (Go.bits .or .u64 (ji19) (ji22), shl .u64 a0_1 a1)) = some (r1, r2) := by first | (rw [hji22] at H; exact H) | (simp only [hji22] at H ⊢; exact H)
     have hji22_ : (a0_1 / 2 ^ min (ji20).toNat 64) = ji22 := hji22
     have hji22z : (ji20) ≤ 64 → (a0_1 / 2 ^ (ji20).toNat) = ji22 := shr_small hji22
     have c23b0 := eq_true (of_decide_eq_true (by first | (with_reducible assumption) | assumption) : 0 ≤ a1)
     obtain ⟨ji24, hji24⟩ : ∃ j_ : Int, (shl .u64 a0_1 a1) = j_ := ⟨_, rfl⟩
     replace H : (some (Go.bits .or .u64 (ji19) (ji22), ji24)) = some (r1, r2) := by first | (rw [hji24] at H; exact H) | (simp only [hji24] at H ⊢; exact H)
     have hji24_ : (IntKind.u64.wrap (a0_1 * 2 ^ min a1.toNat 64)) = ji24 := hji24
     have hji24z : a1 ≤ 64 → (IntKind.u64.wrap (a0_1 * 2 ^ a1.toNat)) = ji24 := shl_small hji24
     simp only [Option.some.injEq, Prod.mk.injEq] at H
     obtain ⟨rfl, rfl⟩ := H
     go_enter Tryd.func80, Tryd.ntmps80
     try go_wp2_with (first | ((with_reducible refine gate_dst (N := 2) rfl ?_); refine box_event ?hg (N := 2) ?hd (cs := #[.int .u64 a0_0, .int .u64 a0_1]) (t := 25) ?hr ?_; (case hd => rfl); (case hg => rfl); (case hr => first | (go_simp; done) | (go_simp; rfl)); intro gb278 hg w25 hbox hb; have n0_ := Aside0.mk (below_step (by repeat (first | (with_reducible first | exact HB.out | apply below_alloc | apply pw_below_drewN | apply below_drew1) | exact HB.out)) hb); have n1_ := Aside0.mk (hbox); have n2_ := Aside0.mk ((by rw [hg]; exact (below_size (by repeat (first | (with_reducible first | exact HB.out | apply below_alloc | apply pw_below_drewN | apply below_drew1) | exact HB.out))) : w.heap.size ≤ gb278)); have n3_ := Aside0.mk ((by rw [hg]; exact (below_size (by repeat (first | (with_reducible first | exact HB.out | apply below_alloc | apply pw_below_drewN | apply below_drew1) | exact HB.out))) : w.heap.size ≤ gb278)); clear HB; have HB := n0_; have BK278 := n1_; have GW278 := n2_; have GE278 := n3_; clear n0_ n1_ n2_ n3_; clear hb hbox hg) | ((with_reducible refine gate_dst (N := 4) rfl ?_); refine box_event ?hg (N := 4) ?hd (cs := #[.int .u64 0, .int .u64 0]) (t := 25) ?hr ?_; (case hd => rfl); (case hg => rfl); (case hr => first | (go_simp; done) | (go_simp; rfl)); intro gb279 hg w26 hbox hb; have n0_ := Aside0.mk (blk_below (g := gb278) (o := .cells #[.int .u64 a0_0, .int .u64 a0_1] 25 (0, 0)) (by (with_reducible repeat (first | refine blk_drewN ?_ _ | refine blk_drew ?_ | refine blk_alloc ?_ _)); exact BK278.out) hb); have n1_ := Aside0.mk (below_step (by repeat (first | (with_reducible first | exact HB.out | apply below_alloc | apply pw_below_drewN | apply below_drew1 | refine below_set ?_ GE278.out) | exact HB.out)) hb); have n2_ := Aside0.mk (hbox); have n3_ := Aside0.mk ((by rw [hg]; exact (below_size (by repeat (first | (with_reducible first | exact HB.out | apply below_alloc | apply pw_below_drewN | apply below_drew1 | refine below_set ?_ GE278.out) | exact HB.out))) : w.heap.size ≤ gb279)); have n4_ := Aside0.mk ((by rw [hg]; exact (below_size (by repeat (first | (with_reducible first | exact HB.out | apply below_alloc | apply pw_below_drewN | apply below_drew1 | refine below_set ?_ GE278.out) | exact HB.out))) : w.heap.size ≤ gb279)); have n5_ := Aside0.mk ((by rw [hg]; exact Nat.ne_of_lt (blk_lt (g := gb278) (o := .cells #[.int .u64 a0_0, .int .u64 a0_1] 25 (0, 0)) (by (with_reducible repeat (first | refine blk_drewN ?_ _ | refine blk_drew ?_ | refine blk_alloc ?_ _)); exact BK278.out)) : gb278 ≠ gb279)); have n6_ := Aside0.mk ((by rw [hg]; exact Nat.ne_of_gt (blk_lt (g := gb278) (o := .cells #[.int .u64 a0_0, .int .u64 a0_1] 25 (0, 0)) (by (with_reducible repeat (first | refine blk_drewN ?_ _ | refine blk_drew ?_ | refine blk_alloc ?_ _)); exact BK278.out)) : gb279 ≠ gb278)); clear BK278; clear HB; have BK278 := n0_; have HB := n1_; have BK279 := n2_; have GW279 := n3_; have GE279 := n4_; have NB278_279 := n5_; have NB279_278 := n6_; clear n0_ n1_ n2_ n3_ n4_ n5_ n6_; clear hb hbox hg))
     have n0_ := Aside0.mk (blk_drew BK278.out)
     have n1_ := Aside0.mk (blk_drew BK279.out)
     have n2_ := Aside0.mk (below_drew1 HB.out)
     clear BK278
     clear BK279
     clear HB
     have BK278 := n0_
     have BK279 := n1_
     have HB := n2_
     clear n0_ n1_ n2_
     refine start_ (n := 16) (S := fun w' => w'.cell? ⟨gb278, 0, none⟩ = some (.int .u64 a0_0) ∧ w'.cell? ⟨gb278, 1, none⟩ = some (.int .u64 a0_1)) (ds := []) #[false, false, false, false, false, false, false, false, false, false, false, false, false, false, false, false] (by kernel_rfl) rfl rfl ⟨(blk_cell BK278.out 0).trans rfl, (blk_cell BK278.out 1).trans rfl⟩ (fun hHeld => ?_); refine with_tabW impl_Word_left.tab5 impl_Word_left.bits5 (fun HT_ HW_ => ?_)
     generalize w26.drew = w27 at BK278 BK279 HB hHeld ⊢
     refine pure_ (i := 0) (N := some 18) (v := ?_) (a' := ?_) #[true, false, false, false, false, false, false, false, false, false, false, false, false, false, false, false] rfl rfl (any_of HT_.out (by kernel_rfl)) (fun _ _ _ h => h) (Or.inl ⟨by rfl, ?_⟩) ?_ ?_
     rotate_left
     ·intro w'
      go_simp
      with_reducible rfl
     rotate_left
     ·simp only [Act.put, List.setIfInBounds_toArray, List.set_cons_zero, List.set_cons_succ, i64_w, i32_w]
      rfl
     refine pure_ (i := 2) (N := some 20) (v := ?_) (a' := ?_) #[true, false, true, false, false, false, false, false, false, false, false, false, false, false, false, false] rfl rfl (any_of HT_.out (by kernel_rfl)) (fun _ _ _ h => h) (Or.inl ⟨by rfl, ?_⟩) ?_ ?_
     rotate_left
     ·intro w'
      go_simp
      with_reducible rfl
     rotate_left
     ·simp only [Act.put, List.setIfInBounds_toArray, List.set_cons_zero, List.set_cons_succ, i64_w, i32_w]
      rfl
     refine pure_ (i := 4) (N := some 22) (v := ?_) (a' := ?_) #[true, false, true, false, true, false, false, false, false, false, false, false, false, false, false, false] rfl rfl (any_of HT_.out (by kernel_rfl)) (fun _ _ _ h => h) (Or.inl ⟨by rfl, ?_⟩) ?_ ?_
     rotate_left
     ·intro w'
      go_simp
      with_reducible rfl
     rotate_left
     ·simp only [Act.put, List.setIfInBounds_toArray, List.set_cons_zero, List.set_cons_succ, i64_w, i32_w]
      rfl
     refine pure_ (i := 6) (N := some 24) (v := ?_) (a' := ?_) #[true, false, true, false, true, false, true, false, false, false, false, false, false, false, false, false] rfl rfl (any_of HT_.out (by kernel_rfl)) (fun _ _ _ h => h) (Or.inl ⟨by rfl, ?_⟩) ?_ ?_
     rotate_left
     ·intro w'
      go_simp
      with_reducible rfl
     rotate_left
     ·simp only [Act.put, List.setIfInBounds_toArray, List.set_cons_zero, List.set_cons_succ, i64_w, i32_w]
      rfl
     refine pure_ (i := 7) (N := some 25) (v := ?_) (a' := ?_) #[true, false, true, false, true, false, true, true, false, false, false, false, false, false, false, false] rfl rfl (any_of HT_.out (by kernel_rfl)) (fun _ _ _ h => h) (Or.inl ⟨by rfl, ?_⟩) ?_ ?_
     rotate_left
     ·intro w'
      go_simp
      with_reducible rfl
     rotate_left
     ·simp only [Act.put, List.setIfInBounds_toArray, List.set_cons_zero, List.set_cons_succ, i64_w, i32_w]
      rfl
     refine pure_ (i := 10) (N := some 28) (v := ?_) (a' := ?_) #[true, false, true, false, true, false, true, true, false, false, true, false, false, false, false, false] rfl rfl (any_of HT_.out (by kernel_rfl)) (fun _ _ _ h => h) (Or.inl ⟨by rfl, ?_⟩) ?_ ?_
     rotate_left
     ·intro w'
      go_simp
      with_reducible rfl
     rotate_left
     ·simp only [Act.put, List.setIfInBounds_toArray, List.set_cons_zero, List.set_cons_succ, i64_w, i32_w]
      rfl
     refine pure_ (i := 12) (N := some 30) (v := ?_) (a' := ?_) #[true, false, true, false, true, false, true, true, false, false, true, false, true, false, false, false] rfl rfl (any_of HT_.out (by kernel_rfl)) (fun _ _ _ h => h) (Or.inl ⟨by rfl, ?_⟩) ?_ ?_
     rotate_left
     ·intro w'
      go_simp
      with_reducible rfl
     rotate_left
     ·simp only [Act.put, List.setIfInBounds_toArray, List.set_cons_zero, List.set_cons_succ, i64_w, i32_w]
      rfl
     refine take_ (i := 1) (N := some 19) (v := ?_) (a' := ?_) #[true, true, true, false, true, false, true, true, false, false, true, false, true, false, false, false] rfl rfl (take_ofW HT_.out HW_.out (by kernel_rfl)) (fun _ _ _ h => h) (Or.inl ⟨by rfl, ?_⟩) hHeld ?_ ?_
     rotate_left
     ·rintro w' ⟨s0, s1⟩
      go_simp
      with_reducible rfl
     rotate_left
     ·simp only [Act.put, List.setIfInBounds_toArray, List.set_cons_zero, List.set_cons_succ, i64_w, i32_w]
      rfl
     refine pure_ (i := 3) (N := some 21) (v := ?_) (a' := ?_) #[true, true, true, true, true, false, true, true, false, false, true, false, true, false, false, false] rfl rfl (any_of HT_.out (by kernel_rfl)) (fun _ _ _ h => h) (Or.inl ⟨by rfl, ?_⟩) ?_ ?_
     rotate_left
     ·intro w'
      go_simp
      with_reducible rfl
     rotate_left
     ·simp only [Act.put, List.setIfInBounds_toArray, List.set_cons_zero, List.set_cons_succ, i64_w, i32_w]
      rfl
     refine take_ (i := 5) (N := some 23) (v := ?_) (a' := ?_) #[true, true, true, true, true, true, true, true, false, false, true, false, true, false, false, false] rfl rfl (take_ofW HT_.out HW_.out (by kernel_rfl)) (fun _ _ _ h => h) (Or.inl ⟨by rfl, ?_⟩) hHeld ?_ ?_
     rotate_left
     ·rintro w' ⟨s0, s1⟩
      go_simp
      with_reducible rfl
     rotate_left
     ·simp only [Act.put, List.setIfInBounds_toArray, List.set_cons_zero, List.set_cons_succ, i64_w, i32_w]
      rfl
     refine pure_ (i := 8) (N := some 26) (v := ?_) (a' := ?_) #[true, true, true, true, true, true, true, true, true, false, true, false, true, false, false, false] rfl rfl (any_of HT_.out (by kernel_rfl)) (fun _ _ _ h => h) (Or.inl ⟨by rfl, ?_⟩) ?_ ?_
     rotate_left
     ·intro w'
      go_simp
      with_reducible rfl
     rotate_left
     ·simp only [Act.put, List.setIfInBounds_toArray, List.set_cons_zero, List.set_cons_succ, i64_w, i32_w]
      rfl
     refine pure_ (i := 9) (N := some 27) (v := ?_) (a' := ?_) #[true, true, true, true, true, true, true, true, true, true, true, false, true, false, false, false] rfl rfl (any_of HT_.out (by kernel_rfl)) (fun _ _ _ h => h) (Or.inl ⟨by rfl, ?_⟩) ?_ ?_
     rotate_left
     ·intro w'
      go_simp
      with_reducible rfl
     rotate_left
     ·simp only [Act.put, List.setIfInBounds_toArray, List.set_cons_zero, List.set_cons_succ, i64_w, i32_w]
      rfl
     refine take_ (i := 11) (N := some 29) (v := ?_) (a' := ?_) #[true, true, true, true, true, true, true, true, true, true, true, true, true, false, false, false] rfl rfl (take_ofW HT_.out HW_.out (by kernel_rfl)) (fun _ _ _ h => h) (Or.inl ⟨by rfl, ?_⟩) hHeld ?_ ?_
     rotate_left
     ·rintro w' ⟨s0, s1⟩
      go_simp
      with_reducible rfl
     rotate_left
     ·simp only [Act.put, List.setIfInBounds_toArray, List.set_cons_zero, List.set_cons_succ, i64_w, i32_w]
      rfl
     refine pure_ (i := 13) (N := some 31) (v := ?_) (a' := ?_) #[true, true, true, true, true, true, true, true, true, true, true, true, true, true, false, false] rfl rfl (any_of HT_.out (by kernel_rfl)) (fun _ _ _ h => h) (Or.inl ⟨by rfl, ?_⟩) ?_ ?_
     rotate_left
     ·intro w'
      go_simp
      with_reducible rfl
     rotate_left
     ·simp only [Act.put, List.setIfInBounds_toArray, List.set_cons_zero, List.set_cons_succ, i64_w, i32_w]
      rfl
     refine pure_ (i := 14) (N := some 32) (v := ?_) (a' := ?_) #[true, true, true, true, true, true, true, true, true, true, true, true, true, true, true, false] rfl rfl (any_of HT_.out (by kernel_rfl)) (fun _ _ _ h => h) (Or.inl ⟨by rfl, ?_⟩) ?_ ?_
     rotate_left
     ·intro w'
      go_simp
      with_reducible rfl
     rotate_left
     ·simp only [Act.put, List.setIfInBounds_toArray, List.set_cons_zero, List.set_cons_succ, i64_w, i32_w]
      rfl
     refine one_ (i := 15) (N := none) #[true, true, true, true, true, true, true, true, true, true, true, true, true, true, true, true] rfl rfl (one_of HT_.out (by kernel_rfl)) (by decide) (fun K hK => ?_)
     have hs28 : w27.cell? ⟨gb279, 0, none⟩ = some (.int .u64 0) := (blk_cell BK279.out 0).trans rfl
     have hfs28 := blk_frozen BK279.out 0
     have hns28_0 := NB278_279.out
     have hms28_0 := NB279_278.out
     have hs29 : w27.cell? ⟨gb279, 1, none⟩ = some (.int .u64 0) := (blk_cell BK279.out 1).trans rfl
     have hfs29 := blk_frozen BK279.out 1
     have hns29_0 := NB278_279.out
     have hms29_0 := NB279_278.out
     refine skip_ (w1 := ?_) (by rfl) rfl ?_ ?_
     rotate_left
     ·go_simp
      rfl
     refine hK.out _ _ ⟨((cell_far (p := ⟨gb279, _, none⟩) NB278_279.out _).trans (((cell_far (p := ⟨gb279, _, none⟩) NB278_279.out _).trans (hHeld.1)))), ((cell_far (p := ⟨gb279, _, none⟩) NB278_279.out _).trans (((cell_far (p := ⟨gb279, _, none⟩) NB278_279.out _).trans (hHeld.2))))⟩ (fun hHeld => ?_)
     clear hK K
     refine done_ (done_of HT_.out (by kernel_rfl)) ?_
     try go_wp2
     refine bodyPost_ret (results_cell_row rfl _ _ gb279 25 #[.int .u64 (Go.bits .or .u64 (ji19) (ji22)), .int .u64 ji24] (0, 0) _ rfl (by (with_reducible repeat (first | refine blk_drewN ?_ _ | refine blk_drew ?_ | refine blk_alloc ?_ _)); refine blk_put (cs := #[.int .u64 (Go.bits .or .u64 (ji19) (ji22)), .int .u64 0]) ?_ 1 _ rfl; (with_reducible repeat (first | refine blk_drewN ?_ _ | refine blk_drew ?_ | refine blk_alloc ?_ _)); refine blk_put (cs := #[.int .u64 0, .int .u64 0]) ?_ 0 _ rfl; (with_reducible repeat (first | refine blk_drewN ?_ _ | refine blk_drew ?_ | refine blk_alloc ?_ _)); exact BK279.out) Tryd.underlying25 rfl (by kernel_rfl)) rfl ?_
     exact ⟨by first | rfl | (simp [errW_none, errW_some] <;> rfl) | (simp only [← hji19, ← hji20, ← hji22, ← hji24]; first | rfl | (simp [errW_none, errW_some] <;> rfl)) | (simp [*, errW_none, errW_some] <;> rfl), by repeat (first | (with_reducible first | exact HB.out | apply below_alloc | apply pw_below_drewN | apply below_drew1 | refine below_set ?_ GE278.out | refine below_set ?_ GE279.out) | exact HB.out)⟩
    ·rw [if_neg c21] at H
     exact absurd H (by simp)
   ·rw [if_neg c18] at H
    exact absurd H (by simp)
def impl_Word_without.f (a0_0 : Int) (a0_1 : Int) (a1_0 : Int) (a1_1 : Int) : Option (Int × Int) := some (Go.bits .andNot .u64 a0_0 a1_0, Go.bits .andNot .u64 a0_1 a1_1)
set_option maxHeartbeats 8000000 in
set_option maxRecDepth 100000 in
theorem impl_Word_without.calls (a0_0 : Int) (a0_1 : Int) (a1_0 : Int) (a1_1 : Int) (r1 : Int) (r2 : Int) (w : World) (h : impl_Word_without.f a0_0 a0_1 a1_0 a1_1 = some (r1, r2)) :
  Calls Tryd.prog 124 #[.agg #[.int .u64 a0_0, .int .u64 a0_1], .agg #[.int .u64 a1_0, .int .u64 a1_1]] w fun e w' => e = .returned (.agg #[.int .u64 r1, .int .u64 r2]) ∧ Below w.heap.size w w' := by
 have hu25 := Tryd.underlying25
 have HB := Aside0.mk (Below.refl w.heap.size w)
 have H : (some (Go.bits .andNot .u64 a0_0 a1_0, Go.bits .andNot .u64 a0_1 a1_1)) = some (r1, r2) := h
 clear h
 simp only [Option.some.injEq, Prod.mk.injEq] at H
 obtain ⟨rfl, rfl⟩ := H
 go_enter Tryd.func124, Tryd.ntmps124
 go_wp2_with (first | ((with_reducible refine gate_dst (N := 2) rfl ?_); refine box_event ?hg (N := 2) ?hd (cs := #[.int .u64 a0_0, .int .u64 a0_1]) (t := 25) ?hr ?_; (case hd => rfl); (case hg => rfl); (case hr => first | (go_simp; done) | (go_simp; rfl)); intro gb280 hg w3 hbox hb; have n0_ := Aside0.mk (below_step (by repeat (first | (with_reducible first | exact HB.out | apply below_alloc | apply pw_below_drewN | apply below_drew1) | exact HB.out)) hb); have n1_ := Aside0.mk (hbox); have n2_ := Aside0.mk ((by rw [hg]; exact (below_size (by repeat (first | (with_reducible first | exact HB.out | apply below_alloc | apply pw_below_drewN | apply below_drew1) | exact HB.out))) : w.heap.size ≤ gb280)); have n3_ := Aside0.mk ((by rw [hg]; exact (below_size (by repeat (first | (with_reducible first | exact HB.out | apply below_alloc | apply pw_below_drewN | apply below_drew1) | exact HB.out))) : w.heap.size ≤ gb280)); clear HB; have HB := n0_; have BK280 := n1_; have GW280 := n2_; have GE280 := n3_; clear n0_ n1_ n2_ n3_; clear hb hbox hg) | ((with_reducible refine gate_dst (N := 3) rfl ?_); refine box_event ?hg (N := 3) ?hd (cs := #[.int .u64 a1_0, .int .u64 a1_1]) (t := 25) ?hr ?_; (case hd => rfl); (case hg => rfl); (case hr => first | (go_simp; done) | (go_simp; rfl)); intro gb281 hg w4 hbox hb; have n0_ := Aside0.mk (blk_below (g := gb280) (o := .cells #[.int .u64 a0_0, .int .u64 a0_1] 25 (0, 0)) (by (with_reducible repeat (first | refine blk_drewN ?_ _ | refine blk_drew ?_ | refine blk_alloc ?_ _)); exact BK280.out) hb); have n1_ := Aside0.mk (below_step (by repeat (first | (with_reducible first | exact HB.out | apply below_alloc | apply pw_below_drewN | apply below_drew1 | refine below_set ?_ GE280.out) | exact HB.out)) hb); have n2_ := Aside0.mk (hbox); have n3_ := Aside0.mk ((by rw [hg]; exact (below_size (by repeat (first | (with_reducible first | exact HB.out | apply below_alloc | apply pw_below_drewN | apply below_drew1 | refine below_set ?_ GE280.out) | exact HB.out))) : w.heap.size ≤ gb281)); have n4_ := Aside0.mk ((by rw [hg]; exact (below_size (by repeat (first | (with_reducible first | exact HB.out | apply below_alloc | apply pw_below_drewN | apply below_drew1 | refine below_set ?_ GE280.out) | exact HB.out))) : w.heap.size ≤ gb281)); have n5_ := Aside0.mk ((by rw [hg]; exact Nat.ne_of_lt (blk_lt (g := gb280) (o := .cells #[.int .u64 a0_0, .int .u64 a0_1] 25 (0, 0)) (by (with_reducible repeat (first | refine blk_drewN ?_ _ | refine blk_drew ?_ | refine blk_alloc ?_ _)); exact BK280.out)) : gb280 ≠ gb281)); have n6_ := Aside0.mk ((by rw [hg]; exact Nat.ne_of_gt (blk_lt (g := gb280) (o := .cells #[.int .u64 a0_0, .int .u64 a0_1] 25 (0, 0)) (by (with_reducible repeat (first | refine blk_drewN ?_ _ | refine blk_drew ?_ | refine blk_alloc ?_ _)); exact BK280.out)) : gb281 ≠ gb280)); clear BK280; clear HB; have BK280 := n0_; have HB := n1_; have BK281 := n2_; have GW281 := n3_; have GE281 := n4_; have NB280_281 := n5_; have NB281_280 := n6_; clear n0_ n1_ n2_ n3_ n4_ n5_ n6_; clear hb hbox hg) | ((with_reducible refine gate_dst (N := 4) rfl ?_); refine box_event ?hg (N := 4) ?hd (cs := #[.int .u64 0, .int .u64 0]) (t := 25) ?hr ?_; (case hd => rfl); (case hg => rfl); (case hr => first | (go_simp; done) | (go_simp; rfl)); intro gb282 hg w5 hbox hb; have n0_ := Aside0.mk (blk_below (g := gb280) (o := .cells #[.int .u64 a0_0, .int .u64 a0_1] 25 (0, 0)) (by (with_reducible repeat (first | refine blk_drewN ?_ _ | refine blk_drew ?_ | refine blk_alloc ?_ _)); exact BK280.out) hb); have n1_ := Aside0.mk (blk_below (g := gb281) (o := .cells #[.int .u64 a1_0, .int .u64 a1_1] 25 (0, 0)) (by (with_reducible repeat (first | refine blk_drewN ?_ _ | refine blk_drew ?_ | refine blk_alloc ?_ _)); exact BK281.out) hb); have n2_ := Aside0.mk (below_step (by repeat (first | (with_reducible first | exact HB.out | apply below_alloc | apply pw_below_drewN | apply below_drew1 | refine below_set ?_ GE280.out | refine below_set ?_ GE281.out) | exact HB.out)) hb); have n3_ := Aside0.mk (hbox); have n4_ := Aside0.mk ((by rw [hg]; exact (below_size (by repeat (first | (with_reducible first | exact HB.out | apply below_alloc | apply pw_below_drewN | apply below_drew1 | refine below_set ?_ GE280.out | refine below_set ?_ GE281.out) | exact HB.out))) : w.heap.size ≤ gb282)); have n5_ := Aside0.mk ((by rw [hg]; exact (below_size (by repeat (first | (with_reducible first | exact HB.out | apply below_alloc | apply pw_below_drewN | apply below_drew1 | refine below_set ?_ GE280.out | refine below_set ?_ GE281.out) | exact HB.out))) : w.heap.size ≤ gb282)); have n6_ := Aside0.mk ((by rw [hg]; exact Nat.ne_of_lt (blk_lt (g := gb280) (o := .cells #[.int .u64 a0_0, .int .u64 a0_1] 25 (0, 0)) (by (with_reducible repeat (first | refine blk_drewN ?_ _ | refine blk_drew ?_ | refine blk_alloc ?_ _)); exact BK280.out)) : gb280 ≠ gb282)); have n7_ := Aside0.mk ((by rw [hg]; exact Nat.ne_of_gt (blk_lt (g := gb280) (o := .cells #[.int .u64 a0_0, .int .u64 a0_1] 25 (0, 0)) (by (with_reducible repeat (first | refine blk_drewN ?_ _ | refine blk_drew ?_ | refine blk_alloc ?_ _)); exact BK280.out)) : gb282 ≠ gb280)); have n8_ := Aside0.mk ((by rw [hg]; exact Nat.ne_of_lt (blk_lt (g := gb281) (o := .cells #[.int .u64 a1_0, .int .u64 a1_1] 25 (0, 0)) (by (with_reducible repeat (first | refine blk_drewN ?_ _ | refine blk_drew ?_ | refine blk_alloc ?_ _)); exact BK281.out)) : gb281 ≠ gb282)); have n9_ := Aside0.mk ((by rw [hg]; exact Nat.ne_of_gt (blk_lt (g := gb281) (o := .cells #[.int .u64 a1_0, .int .u64 a1_1] 25 (0, 0)) (by (with_reducible repeat (first | refine blk_drewN ?_ _ | refine blk_drew ?_ | refine blk_alloc ?_ _)); exact BK281.out)) : gb282 ≠ gb281)); clear BK280; clear BK281; clear HB; have BK280 := n0_; have BK281 := n1_; have HB := n2_; have BK282 := n3_; have GW282 := n4_; have GE282 := n5_; have NB280_282 := n6_; have NB282_280 := n7_; have NB281_282 := n8_; have NB282_281 := n9_; clear n0_ n1_ n2_ n3_ n4_ n5_ n6_ n7_ n8_ n9_; clear hb hbox hg; have hnb6 := NB280_281.out; have hnc6 := NB281_280.out; have hnb7 := NB280_282.out; have hnc7 := NB282_280.out; have hcz8_0 : w5.cell? ⟨gb280, 0, none⟩ = some (.int .u64 a0_0) := (blk_cell BK280.out 0).trans rfl; have hcz8_1 : w5.cell? ⟨gb280, 1, none⟩ = some (.int .u64 a0_1) := (blk_cell BK280.out 1).trans rfl; have hfz8_0 := blk_frozen BK280.out 0; have hfz8_1 := blk_frozen BK280.out 1; have hnb9 := NB281_282.out; have hnc9 := NB282_281.out; have hcz10_0 : w5.cell? ⟨gb281, 0, none⟩ = some (.int .u64 a1_0) := (blk_cell BK281.out 0).trans rfl; have hcz10_1 : w5.cell? ⟨gb281, 1, none⟩ = some (.int .u64 a1_1) := (blk_cell BK281.out 1).trans rfl; have hfz10_0 := blk_frozen BK281.out 0; have hfz10_1 := blk_frozen BK281.out 1; have hcz11_0 : w5.cell? ⟨gb282, 0, none⟩ = some (.int .u64 0) := (blk_cell BK282.out 0).trans rfl; have hcz11_1 : w5.cell? ⟨gb282, 1, none⟩ = some (.int .u64 0) := (blk_cell BK282.out 1).trans rfl; have hfz11_0 := blk_frozen BK282.out 0; have hfz11_1 := blk_frozen BK282.out 1))
 refine bodyPost_ret (results_cell_row rfl _ _ gb282 25 #[.int .u64 (Go.bits .andNot .u64 a0_0 a1_0), .int .u64 (Go.bits .andNot .u64 a0_1 a1_1)] (0, 0) _ rfl (by (with_reducible repeat (first | refine blk_drewN ?_ _ | refine blk_drew ?_ | refine blk_alloc ?_ _)); refine blk_put (cs := #[.int .u64 (Go.bits .andNot .u64 a0_0 a1_0), .int .u64 0]) ?_ 1 _ rfl; (with_reducible repeat (first | refine blk_drewN ?_ _ | refine blk_drew ?_ | refine blk_alloc ?_ _)); refine blk_put (cs := #[.int .u64 0, .int .u64 0]) ?_ 0 _ rfl; (with_reducible repeat (first | refine blk_drewN ?_ _ | refine blk_drew ?_ | refine blk_alloc ?_ _)); exact BK282.out) Tryd.underlying25 rfl (by kernel_rfl)) rfl ?_
 exact ⟨by first | rfl | (simp [errW_none, errW_some] <;> rfl) | (simp [*, errW_none, errW_some] <;> rfl), by repeat (first | (with_reducible first | exact HB.out | apply below_alloc | apply pw_below_drewN | apply below_drew1 | refine below_set ?_ GE280.out | refine below_set ?_ GE281.out | refine below_set ?_ GE282.out) | exact HB.out)⟩
def impl_Word_low.f (a0_0 : Int) (a0_1 : Int) (a1 : Int) : Option (Int × Int) := if a1 ≥ 128 then (some (a0_0, a0_1)) else ((impl_Word_or.f a0_0 a0_1 0 0).bind fun bt285 => ((impl_Word_right.f a0_0 a0_1 a1).bind fun bt287 => ((impl_Word_left.f bt287.1 bt287.2 a1).bind fun bt289 => ((impl_Word_without.f bt285.1 bt285.2 bt289.1 bt289.2).bind fun bt291 => (some (bt291.1, bt291.2))))))
def impl_Word_low.T3 : Bool × List (List Nat × List Nat) := (true, [([], []), ([], []), ([0, 1], [0, 1]), ([], []), ([], []), ([3, 4, 2], [3, 4]), ([], []), ([5, 6, 5], [5, 6]), ([2, 7, 7], [2, 7]), ([8, 8, 0, 1, 2, 3, 4, 5, 6, 7, 8], [8])])
def impl_Word_low.B3 : List Nat := [0, 0, 3, 0, 0, 31, 0, 127, 255, 511]
theorem impl_Word_low.tab3 : rtab .any (opsOf Tryd.f68 3) = impl_Word_low.T3 := by kernel_rfl
theorem impl_Word_low.bits3 : waitsOk impl_Word_low.T3.2 impl_Word_low.B3 = true := by kernel_rfl
set_option maxHeartbeats 8000000 in
set_option maxRecDepth 100000 in
theorem impl_Word_low.calls (a0_0 : Int) (a0_1 : Int) (a1 : Int) (r1 : Int) (r2 : Int) (w : World) (h : impl_Word_low.f a0_0 a0_1 a1 = some (r1, r2)) :
  Calls Tryd.prog 68 #[.agg #[.int .u64 a0_0, .int .u64 a0_1], .int .i64 a1] w fun e w' => e = .returned (.agg #[.int .u64 r1, .int .u64 r2]) ∧ Below w.heap.size w w' := by
 have hu25 := Tryd.underlying25
 have HB := Aside0.mk (Below.refl w.heap.size w)
 have H : (if a1 ≥ 128 then (some (a0_0, a0_1)) else ((impl_Word_or.f a0_0 a0_1 0 0).bind fun bt285 => ((impl_Word_right.f a0_0 a0_1 a1).bind fun bt287 => ((impl_Word_left.f bt287.1 bt287.2 a1).bind fun bt289 => ((impl_Word_without.f bt285.1 bt285.2 bt289.1 bt289.2).bind fun bt291 => (some (bt291.1, bt291.2))))))) = some (r1, r2) := h
 clear h
 by_cases c3 : a1 ≥ 128
 ·rw [if_pos c3] at H
  have c3b0 : decide (128 ≤ a1) = true := decide_eq_true c3
  clear c3
  simp only [Option.some.injEq, Prod.mk.injEq] at H
  obtain ⟨rfl, rfl⟩ := H
  go_enter Tryd.func68, Tryd.ntmps68
  go_wp2_with (first | ((with_reducible refine gate_dst (N := 2) rfl ?_); refine box_event ?hg (N := 2) ?hd (cs := #[.int .u64 a0_0, .int .u64 a0_1]) (t := 25) ?hr ?_; (case hd => rfl); (case hg => rfl); (case hr => first | (go_simp; done) | (go_simp; rfl)); intro gb283 hg w4 hbox hb; have n0_ := Aside0.mk (below_step (by repeat (first | (with_reducible first | exact HB.out | apply below_alloc | apply pw_below_drewN | apply below_drew1) | exact HB.out)) hb); have n1_ := Aside0.mk (hbox); have n2_ := Aside0.mk ((by rw [hg]; exact (below_size (by repeat (first | (with_reducible first | exact HB.out | apply below_alloc | apply pw_below_drewN | apply below_drew1) | exact HB.out))) : w.heap.size ≤ gb283)); have n3_ := Aside0.mk ((by rw [hg]; exact (below_size (by repeat (first | (with_reducible first | exact HB.out | apply below_alloc | apply pw_below_drewN | apply below_drew1) | exact HB.out))) : w.heap.size ≤ gb283)); clear HB; have HB := n0_; have BK283 := n1_; have GW283 := n2_; have GE283 := n3_; clear n0_ n1_ n2_ n3_; clear hb hbox hg) | ((with_reducible refine gate_dst (N := 4) rfl ?_); refine box_event ?hg (N := 4) ?hd (cs := #[.int .u64 0, .int .u64 0]) (t := 25) ?hr ?_; (case hd => rfl); (case hg => rfl); (case hr => first | (go_simp; done) | (go_simp; rfl)); intro gb284 hg w5 hbox hb; have n0_ := Aside0.mk (blk_below (g := gb283) (o := .cells #[.int .u64 a0_0, .int .u64 a0_1] 25 (0, 0)) (by (with_reducible repeat (first | refine blk_drewN ?_ _ | refine blk_drew ?_ | refine blk_alloc ?_ _)); exact BK283.out) hb); have n1_ := Aside0.mk (below_step (by repeat (first | (with_reducible first | exact HB.out | apply below_alloc | apply pw_below_drewN | apply below_drew1 | refine below_set ?_ GE283.out) | exact HB.out)) hb); have n2_ := Aside0.mk (hbox); have n3_ := Aside0.mk ((by rw [hg]; exact (below_size (by repeat (first | (with_reducible first | exact HB.out | apply below_alloc | apply pw_below_drewN | apply below_drew1 | refine below_set ?_ GE283.out) | exact HB.out))) : w.heap.size ≤ gb284)); have n4_ := Aside0.mk ((by rw [hg]; exact (below_size (by repeat (first | (with_reducible first | exact HB.out | apply below_alloc | apply pw_below_drewN | apply below_drew1 | refine below_set ?_ GE283.out) | exact HB.out))) : w.heap.size ≤ gb284)); have n5_ := Aside0.mk ((by rw [hg]; exact Nat.ne_of_lt (blk_lt (g := gb283) (o := .cells #[.int .u64 a0_0, .int .u64 a0_1] 25 (0, 0)) (by (with_reducible repeat (first | refine blk_drewN ?_ _ | refine blk_drew ?_ | refine blk_alloc ?_ _)); exact BK283.out)) : gb283 ≠ gb284)); have n6_ := Aside0.mk ((by rw [hg]; exact Nat.ne_of_gt (blk_lt (g := gb283) (o := .cells #[.int .u64 a0_0, .int .u64 a0_1] 25 (0, 0)) (by (with_reducible repeat (first | refine blk_drewN ?_ _ | refine blk_drew ?_ | refine blk_alloc ?_ _)); exact BK283.out)) : gb284 ≠ gb283)); clear BK283; clear HB; have BK283 := n0_; have HB := n1_; have BK284 := n2_; have GW284 := n3_; have GE284 := n4_; have NB283_284 := n5_; have NB284_283 := n6_; clear n0_ n1_ n2_ n3_ n4_ n5_ n6_; clear hb hbox hg; have hnb6 := NB283_284.out; have hnc6 := NB284_283.out; have hcz7_0 : w5.cell? ⟨gb283, 0, none⟩ = some (.int .u64 a0_0) := (blk_cell BK283.out 0).trans rfl; have hcz7_1 : w5.cell? ⟨gb283, 1, none⟩ = some (.int .u64 a0_1) := (blk_cell BK283.out 1).trans rfl; have hfz7_0 := blk_frozen BK283.out 0; have hfz7_1 := blk_frozen BK283.out 1; have hcz8_0 : w5.cell? ⟨gb284, 0, none⟩ = some (.int .u64 0) := (blk_cell BK284.out 0).trans rfl; have hcz8_1 : w5.cell? ⟨gb284, 1, none⟩ = some (.int .u64 0) := (blk_cell BK284.out 1).trans rfl; have hfz8_0 := blk_frozen BK284.out 0; have hfz8_1 := blk_frozen BK284.out 1))
  refine bodyPost_ret (results_cell_row rfl _ _ gb284 25 #[.int .u64 a0_0, .int .u64 a0_1] (0, 0) _ rfl (by (with_reducible repeat (first | refine blk_drewN ?_ _ | refine blk_drew ?_ | refine blk_alloc ?_ _)); refine blk_put (cs := #[.int .u64 a0_0, .int .u64 0]) ?_ 1 _ rfl; (with_reducible repeat (first | refine blk_drewN ?_ _ | refine blk_drew ?_ | refine blk_alloc ?_ _)); refine blk_put (cs := #[.int .u64 0, .int .u64 0]) ?_ 0 _ rfl; (with_reducible repeat (first | refine blk_drewN ?_ _ | refine blk_drew ?_ | refine blk_alloc ?_ _)); exact BK284.out) Tryd.underlying25 rfl (by kernel_rfl)) rfl ?_
  exact ⟨by first | rfl | (simp [errW_none, errW_some] <;> rfl) | (simp [*, errW_none, errW_some] <;> rfl), by repeat (first | (with_reducible first | exact HB.out | apply below_alloc | apply pw_below_drewN | apply below_drew1 | refine below_set ?_ GE283.out | refine below_set ?_ GE284.out) | exact HB.out)⟩
 ·rw [if_neg c3] at H
  have c3b0 : decide (128 ≤ a1) = false := decide_eq_false c3
  clear c3
  replace H := Option.bind_eq_some_iff.mp H
  obtain ⟨⟨t285, t286⟩, A90, H⟩ := H
  replace H : ((impl_Word_right.f a0_0 a0_1 a1).bind fun bt287 => ((impl_Word_left.f bt287.1 bt287.2 a1).bind fun bt289 => ((impl_Word_without.f t285 t286 bt289.1 bt289.2).bind fun bt291 => (some (bt291.1, bt291.2))))) = some (r1, r2) := H
  have A9 := Aside0.mk A90
  clear A90
  replace H := Option.bind_eq_some_iff.mp H
  obtain ⟨⟨t287, t288⟩, A100, H⟩ := H
  replace H : ((impl_Word_left.f t287 t288 a1).bind fun bt289 => ((impl_Word_without.f t285 t286 bt289.1 bt289.2).bind fun bt291 => (some (bt291.1, bt291.2)))) = some (r1, r2) := H
  have A10 := Aside0.mk A100
  clear A100
  replace H := Option.bind_eq_some_iff.mp H
  obtain ⟨⟨t289, t290⟩, A110, H⟩ := H
  replace H : ((impl_Word_without.f t285 t286 t289 t290).bind fun bt291 => (some (bt291.1, bt291.2))) = some (r1, r2) := H
  have A11 := Aside0.mk A110
  clear A110
  replace H := Option.bind_eq_some_iff.mp H
  obtain ⟨⟨t291, t292⟩, A120, H⟩ := H
  replace H : (some (t291, t292)) = some (r1, r2) := H
  have A12 := Aside0.mk A120
  clear A120
  simp only [Option.some.injEq, Prod.mk.injEq] at H
  obtain ⟨rfl, rfl⟩ := H
  go_enter Tryd.func68, Tryd.ntmps68
  try go_wp2_with (first | ((with_reducible refine gate_dst (N := 2) rfl ?_); refine box_event ?hg (N := 2) ?hd (cs := #[.int .u64 a0_0, .int .u64 a0_1]) (t := 25) ?hr ?_; (case hd => rfl); (case hg => rfl); (case hr => first | (go_simp; done) | (go_simp; rfl)); intro gb283 hg w13 hbox hb; have n0_ := Aside0.mk (below_step (by repeat (first | (with_reducible first | exact HB.out | apply below_alloc | apply pw_below_drewN | apply below_drew1) | exact HB.out)) hb); have n1_ := Aside0.mk (hbox); have n2_ := Aside0.mk ((by rw [hg]; exact (below_size (by repeat (first | (with_reducible first | exact HB.out | apply below_alloc | apply pw_below_drewN | apply below_drew1) | exact HB.out))) : w.heap.size ≤ gb283)); have n3_ := Aside0.mk ((by rw [hg]; exact (below_size (by repeat (first | (with_reducible first | exact HB.out | apply below_alloc | apply pw_below_drewN | apply below_drew1) | exact HB.out))) : w.heap.size ≤ gb283)); clear HB; have HB := n0_; have BK283 := n1_; have GW283 := n2_; have GE283 := n3_; clear n0_ n1_ n2_ n3_; clear hb hbox hg) | ((with_reducible refine gate_dst (N := 4) rfl ?_); refine box_event ?hg (N := 4) ?hd (cs := #[.int .u64 0, .int .u64 0]) (t := 25) ?hr ?_; (case hd => rfl); (case hg => rfl); (case hr => first | (go_simp; done) | (go_simp; rfl)); intro gb284 hg w14 hbox hb; have n0_ := Aside0.mk (blk_below (g := gb283) (o := .cells #[.int .u64 a0_0, .int .u64 a0_1] 25 (0, 0)) (by (with_reducible repeat (first | refine blk_drewN ?_ _ | refine blk_drew ?_ | refine blk_alloc ?_ _)); exact BK283.out) hb); have n1_ := Aside0.mk (below_step (by repeat (first | (with_reducible first | exact HB.out | apply below_alloc | apply pw_below_drewN | apply below_drew1 | refine below_set ?_ GE283.out) | exact HB.out)) hb); have n2_ := Aside0.mk (hbox); have n3_ := Aside0.mk ((by rw [hg]; exact (below_size (by repeat (first | (with_reducible first | exact HB.out | apply below_alloc | apply pw_below_drewN | apply below_drew1 | refine below_set ?_ GE283.out) | exact HB.out))) : w.heap.size ≤ gb284)); have n4_ := Aside0.mk ((by rw [hg]; exact (below_size (by repeat (first | (with_reducible first | exact HB.out | apply below_alloc | apply pw_below_drewN | apply below_drew1 | refine below_set ?_ GE283.out) | exact HB.out))) : w.heap.size ≤ gb284)); have n5_ := Aside0.mk ((by rw [hg]; exact Nat.ne_of_lt (blk_lt (g := gb283) (o := .cells #[.int .u64 a0_0, .int .u64 a0_1] 25 (0, 0)) (by (with_reducible repeat (first | refine blk_drewN ?_ _ | refine blk_drew ?_ | refine blk_alloc ?_ _)); exact BK283.out)) : gb283 ≠ gb284)); have n6_ := Aside0.mk ((by rw [hg]; exact Nat.ne_of_gt (blk_lt (g := gb283) (o := .cells #[.int .u64 a0_0, .int .u64 a0_1] 25 (0, 0)) (by (with_reducible repeat (first | refine blk_drewN ?_ _ | refine blk_drew ?_ | refine blk_alloc ?_ _)); exact BK283.out)) : gb284 ≠ gb283)); clear BK283; clear HB; have BK283 := n0_; have HB := n1_; have BK284 := n2_; have GW284 := n3_; have GE284 := n4_; have NB283_284 := n5_; have NB284_283 := n6_; clear n0_ n1_ n2_ n3_ n4_ n5_ n6_; clear hb hbox hg))
  have n0_ := Aside0.mk (blk_drew BK283.out)
  have n1_ := Aside0.mk (blk_drew BK284.out)
  have n2_ := Aside0.mk (below_drew1 HB.out)
  clear BK283
  clear BK284
  clear HB
  have BK283 := n0_
  have BK284 := n1_
  have HB := n2_
  clear n0_ n1_ n2_
  refine start_ (n := 10) (S := fun w' => w'.cell? ⟨gb283, 0, none⟩ = some (.int .u64 a0_0) ∧ w'.cell? ⟨gb283, 1, none⟩ = some (.int .u64 a0_1)) (ds := []) #[false, false, false, false, false, false, false, false, false, false] (by kernel_rfl) rfl rfl ⟨(blk_cell BK283.out 0).trans rfl, (blk_cell BK283.out 1).trans rfl⟩ (fun hHeld => ?_); refine with_tabW impl_Word_low.tab3 impl_Word_low.bits3 (fun HT_ HW_ => ?_)
  generalize w14.drew = w15 at BK283 BK284 HB hHeld ⊢
  refine pure_ (i := 1) (N := some 9) (v := ?_) (a' := ?_) #[false, true, false, false, false, false, false, false, false, false] rfl rfl (any_of HT_.out (by kernel_rfl)) (fun _ _ _ h => h) (Or.inl ⟨by rfl, ?_⟩) ?_ ?_
  rotate_left
  ·intro w'
   go_simp
   with_reducible rfl
  rotate_left
  ·simp only [Act.put, List.setIfInBounds_toArray, List.set_cons_zero, List.set_cons_succ, i64_w, i32_w]
   rfl
  refine pure_ (i := 4) (N := some 12) (v := ?_) (a' := ?_) #[false, true, false, false, true, false, false, false, false, false] rfl rfl (any_of HT_.out (by kernel_rfl)) (fun _ _ _ h => h) (Or.inl ⟨by rfl, ?_⟩) ?_ ?_
  rotate_left
  ·intro w'
   go_simp
   with_reducible rfl
  rotate_left
  ·simp only [Act.put, List.setIfInBounds_toArray, List.set_cons_zero, List.set_cons_succ, i64_w, i32_w]
   rfl
  refine pure_ (i := 6) (N := some 14) (v := ?_) (a' := ?_) #[false, true, false, false, true, false, true, false, false, false] rfl rfl (any_of HT_.out (by kernel_rfl)) (fun _ _ _ h => h) (Or.inl ⟨by rfl, ?_⟩) ?_ ?_
  rotate_left
  ·intro w'
   go_simp
   with_reducible rfl
  rotate_left
  ·simp only [Act.put, List.setIfInBounds_toArray, List.set_cons_zero, List.set_cons_succ, i64_w, i32_w]
   rfl
  refine take_ (i := 0) (N := some 8) (v := ?_) (a' := ?_) #[true, true, false, false, true, false, true, false, false, false] rfl rfl (take_ofW HT_.out HW_.out (by kernel_rfl)) (fun _ _ _ h => h) (Or.inl ⟨by rfl, ?_⟩) hHeld ?_ ?_
  rotate_left
  ·rintro w' ⟨s0, s1⟩
   go_simp
   with_reducible rfl
  rotate_left
  ·simp only [Act.put, List.setIfInBounds_toArray, List.set_cons_zero, List.set_cons_succ, i64_w, i32_w]
   rfl
  refine take_ (i := 3) (N := some 11) (v := ?_) (a' := ?_) #[true, true, false, true, true, false, true, false, false, false] rfl rfl (take_ofW HT_.out HW_.out (by kernel_rfl)) (fun _ _ _ h => h) (Or.inl ⟨by rfl, ?_⟩) hHeld ?_ ?_
  rotate_left
  ·rintro w' ⟨s0, s1⟩
   go_simp
   with_reducible rfl
  rotate_left
  ·simp only [Act.put, List.setIfInBounds_toArray, List.set_cons_zero, List.set_cons_succ, i64_w, i32_w]
   rfl
  refine one_ (i := 2) (N := some 10) #[true, true, true, true, true, false, true, false, false, false] rfl rfl (one_of HT_.out (by kernel_rfl)) (by decide) (fun K hK => ?_)
  refine goes_ Tryd.func71 (by kernel_rfl) rfl #[.agg #[.int .u64 a0_0, .int .u64 a0_1], .agg #[.int .u64 0, .int .u64 0]] (by rfl) rfl rfl (by (try simp only [List.map_toArray, List.map_cons, List.map_nil]); first | done | rfl | (simp only [List.length_drop, List.length_take]; rfl)) ?_
  with_reducible refine (impl_Word_or.calls a0_0 a0_1 0 0 t285 t286 _ A9.out).mono ?_
  rintro e w16 ⟨rfl, hb⟩
  refine ⟨_, rfl, ?_⟩
  have n0_ := Aside0.mk (blk_below (g := gb283) (o := .cells #[.int .u64 a0_0, .int .u64 a0_1] 25 (0, 0)) (by (with_reducible repeat (first | refine blk_drewN ?_ _ | refine blk_drew ?_ | refine blk_alloc ?_ _)); exact BK283.out) hb)
  have n1_ := Aside0.mk (blk_below (g := gb284) (o := .cells #[.int .u64 0, .int .u64 0] 25 (0, 0)) (by (with_reducible repeat (first | refine blk_drewN ?_ _ | refine blk_drew ?_ | refine blk_alloc ?_ _)); exact BK284.out) hb)
  have n2_ := Aside0.mk (below_step (by repeat (first | (with_reducible first | exact HB.out | apply below_alloc | apply pw_below_drewN | apply below_drew1 | refine below_set ?_ GE283.out | refine below_set ?_ GE284.out) | exact HB.out)) hb)
  clear BK283
  clear BK284
  clear HB
  have BK283 := n0_
  have BK284 := n1_
  have HB := n2_
  clear n0_ n1_ n2_
  (try clear hb)
  (try clear hb2)
  (try clear hk)
  (try clear hi)
  refine hK.out _ _ ⟨(blk_cell BK283.out 0).trans rfl, (blk_cell BK283.out 1).trans rfl⟩ (fun hHeld => ?_)
  clear hK K
  refine norm_ (a' := ?_) ?_ ?_
  rotate_left
  ·show Act.put _ (some 10) _ = _
   simp only [Act.put, List.setIfInBounds_toArray, List.set_cons_zero, List.set_cons_succ, i64_w, i32_w]
   rfl
  refine one_ (i := 5) (N := some 13) #[true, true, true, true, true, true, true, false, false, false] rfl rfl (one_of HT_.out (by kernel_rfl)) (by decide) (fun K hK => ?_)
  refine goes_ Tryd.func66 (by kernel_rfl) rfl #[.agg #[.int .u64 a0_0, .int .u64 a0_1], .int .i64 a1] (by rfl) rfl rfl (by (try simp only [List.map_toArray, List.map_cons, List.map_nil]); first | done | rfl | (simp only [List.length_drop, List.length_take]; rfl)) ?_
  with_reducible refine (impl_Word_right.calls a0_0 a0_1 a1 t287 t288 _ A10.out).mono ?_
  rintro e w17 ⟨rfl, hb⟩
  refine ⟨_, rfl, ?_⟩
  have n0_ := Aside0.mk (blk_below (g := gb283) (o := .cells #[.int .u64 a0_0, .int .u64 a0_1] 25 (0, 0)) (by (with_reducible repeat (first | refine blk_drewN ?_ _ | refine blk_drew ?_ | refine blk_alloc ?_ _)); exact BK283.out) hb)
  have n1_ := Aside0.mk (blk_below (g := gb284) (o := .cells #[.int .u64 0, .int .u64 0] 25 (0, 0)) (by (with_reducible repeat (first | refine blk_drewN ?_ _ | refine blk_drew ?_ | refine blk_alloc ?_ _)); exact BK284.out) hb)
  have n2_ := Aside0.mk (below_step (by repeat (first | (with_reducible first | exact HB.out | apply below_alloc | apply pw_below_drewN | apply below_drew1 | refine below_set ?_ GE283.out | refine below_set ?_ GE284.out) | exact HB.out)) hb)
  clear BK283
  clear BK284
  clear HB
  have BK283 := n0_
  have BK284 := n1_
  have HB := n2_
  clear n0_ n1_ n2_
  (try clear hb)
  (try clear hb2)
  (try clear hk)
  (try clear hi)
  refine hK.out _ _ ⟨(blk_cell BK283.out 0).trans rfl, (blk_cell BK283.out 1).trans rfl⟩ (fun hHeld => ?_)
  clear hK K
  refine norm_ (a' := ?_) ?_ ?_
  rotate_left
  ·show Act.put _ (some 13) _ = _
   simp only [Act.put, List.setIfInBounds_toArray, List.set_cons_zero, List.set_cons_succ, i64_w, i32_w]
   rfl
  refine one_ (i := 7) (N := some 15) #[true, true, true, true, true, true, true, true, false, false] rfl rfl (one_of HT_.out (by kernel_rfl)) (by decide) (fun K hK => ?_)
  refine goes_ Tryd.func80 (by kernel_rfl) rfl #[.agg #[.int .u64 t287, .int .u64 t288], .int .i64 a1] (by rfl) rfl rfl (by (try simp only [List.map_toArray, List.map_cons, List.map_nil]); first | done | rfl | (simp only [List.length_drop, List.length_take]; rfl)) ?_
  with_reducible refine (impl_Word_left.calls t287 t288 a1 t289 t290 _ A11.out).mono ?_
  rintro e w18 ⟨rfl, hb⟩
  refine ⟨_, rfl, ?_⟩
  have n0_ := Aside0.mk (blk_below (g := gb283) (o := .cells #[.int .u64 a0_0, .int .u64 a0_1] 25 (0, 0)) (by (with_reducible repeat (first | refine blk_drewN ?_ _ | refine blk_drew ?_ | refine blk_alloc ?_ _)); exact BK283.out) hb)
  have n1_ := Aside0.mk (blk_below (g := gb284) (o := .cells #[.int .u64 0, .int .u64 0] 25 (0, 0)) (by (with_reducible repeat (first | refine blk_drewN ?_ _ | refine blk_drew ?_ | refine blk_alloc ?_ _)); exact BK284.out) hb)
  have n2_ := Aside0.mk (below_step (by repeat (first | (with_reducible first | exact HB.out | apply below_alloc | apply pw_below_drewN | apply below_drew1 | refine below_set ?_ GE283.out | refine below_set ?_ GE284.out) | exact HB.out)) hb)
  clear BK283
  clear BK284
  clear HB
  have BK283 := n0_
  have BK284 := n1_
  have HB := n2_
  clear n0_ n1_ n2_
  (try clear hb)
  (try clear hb2)
  (try clear hk)
  (try clear hi)
  refine hK.out _ _ ⟨(blk_cell BK283.out 0).trans rfl, (blk_cell BK283.out 1).trans rfl⟩ (fun hHeld => ?_)
  clear hK K
  refine norm_ (a' := ?_) ?_ ?_
  rotate_left
  ·show Act.put _ (some 15) _ = _
   simp only [Act.put, List.setIfInBounds_toArray, List.set_cons_zero, List.set_cons_succ, i64_w, i32_w]
   rfl
  refine one_ (i := 8) (N := some 16) #[true, true, true, true, true, true, true, true, true, false] rfl rfl (one_of HT_.out (by kernel_rfl)) (by decide) (fun K hK => ?_)
  refine goes_ Tryd.func124 (by kernel_rfl) rfl #[.agg #[.int .u64 t285, .int .u64 t286], .agg #[.int .u64 t289, .int .u64 t290]] (by rfl) rfl rfl (by (try simp only [List.map_toArray, List.map_cons, List.map_nil]); first | done | rfl | (simp only [List.length_drop, List.length_take]; rfl)) ?_
  with_reducible refine (impl_Word_without.calls t285 t286 t289 t290 t291 t292 _ A12.out).mono ?_
  rintro e w19 ⟨rfl, hb⟩
  refine ⟨_, rfl, ?_⟩
  have n0_ := Aside0.mk (blk_below (g := gb283) (o := .cells #[.int .u64 a0_0, .int .u64 a0_1] 25 (0, 0)) (by (with_reducible repeat (first | refine blk_drewN ?_ _ | refine blk_drew ?_ | refine blk_alloc ?_ _)); exact BK283.out) hb)
  have n1_ := Aside0.mk (blk_below (g := gb284) (o := .cells #[.int .u64 0, .int .u64 0] 25 (0, 0)) (by (with_reducible repeat (first | refine blk_drewN ?_ _ | refine blk_drew ?_ | refine blk_alloc ?_ _)); exact BK284.out) hb)
  have n2_ := Aside0.mk (below_step (by repeat (first | (with_reducible first | exact HB.out | apply below_alloc | apply pw_below_drewN | apply below_drew1 | refine below_set ?_ GE283.out | refine below_set ?_ GE284.out) | exact HB.out)) hb)
  clear BK283
  clear BK284
  clear HB
  have BK283 := n0_
  have BK284 := n1_
  have HB := n2_
  clear n0_ n1_ n2_
  (try clear hb)
  (try clear hb2)
  (try clear hk)
  (try clear hi)
  refine hK.out _ _ ⟨(blk_cell BK283.out 0).trans rfl, (blk_cell BK283.out 1).trans rfl⟩ (fun hHeld => ?_)
  clear hK K
  refine norm_ (a' := ?_) ?_ ?_
  rotate_left
  ·show Act.put _ (some 16) _ = _
   simp only [Act.put, List.setIfInBounds_toArray, List.set_cons_zero, List.set_cons_succ, i64_w, i32_w]
   rfl
  refine one_ (i := 9) (N := none) #[true, true, true, true, true, true, true, true, true, true] rfl rfl (one_of HT_.out (by kernel_rfl)) (by decide) (fun K hK => ?_)
  have hs20 : w19.cell? ⟨gb284, 0, none⟩ = some (.int .u64 0) := (blk_cell BK284.out 0).trans rfl
  have hfs20 := blk_frozen BK284.out 0
  have hns20_0 := NB283_284.out
  have hms20_0 := NB284_283.out
  have hs21 : w19.cell? ⟨gb284, 1, none⟩ = some (.int .u64 0) := (blk_cell BK284.out 1).trans rfl
  have hfs21 := blk_frozen BK284.out 1
  have hns21_0 := NB283_284.out
  have hms21_0 := NB284_283.out
  refine skip_ (w1 := ?_) (by rfl) rfl ?_ ?_
  rotate_left
  ·go_simp
   rfl
  refine hK.out _ _ ⟨((cell_far (p := ⟨gb284, _, none⟩) NB283_284.out _).trans (((cell_far (p := ⟨gb284, _, none⟩) NB283_284.out _).trans (hHeld.1)))), ((cell_far (p := ⟨gb284, _, none⟩) NB283_284.out _).trans (((cell_far (p := ⟨gb284, _, none⟩) NB283_284.out _).trans (hHeld.2))))⟩ (fun hHeld => ?_)
  clear hK K
  refine done_ (done_of HT_.out (by kernel_rfl)) ?_
  try go_wp2
  refine bodyPost_ret (results_cell_row rfl _ _ gb284 25 #[.int .u64 t291, .int .u64 t292] (0, 0) _ rfl (by (with_reducible repeat (first | refine blk_drewN ?_ _ | refine blk_drew ?_ | refine blk_alloc ?_ _)); refine blk_put (cs := #[.int .u64 t291, .int .u64 0]) ?_ 1 _ rfl; (with_reducible repeat (first | refine blk_drewN ?_ _ | refine blk_drew ?_ | refine blk_alloc ?_ _)); refine blk_put (cs := #[.int .u64 0, .int .u64 0]) ?_ 0 _ rfl; (with_reducible repeat (first | refine blk_drewN ?_ _ | refine blk_drew ?_ | refine blk_alloc ?_ _)); exact BK284.out) Tryd.underlying25 rfl (by kernel_rfl)) rfl ?_
  exact ⟨by first | rfl | (simp [errW_none, errW_some] <;> rfl) | (simp [*, errW_none, errW_some] <;> rfl), by repeat (first | (with_reducible first | exact HB.out | apply below_alloc | apply pw_below_drewN | apply below_drew1 | refine below_set ?_ GE283.out | refine below_set ?_ GE284.out) | exact HB.out)⟩
def impl_layout_top.f (a0_0 : Int) (a0_1 : Int) (a0_2 : Int) (a0_3 : Int) (a0_4 : Int) (a0_5 : Bool) : Option (Int) := if 0 ≤ a0_4 then (some (wrap64 ((shl .i64 1 a0_4) - 1))) else (none)
set_option maxHeartbeats 8000000 in
set_option maxRecDepth 100000 in
theorem impl_layout_top.calls (a0_0 : Int) (a0_1 : Int) (a0_2 : Int) (a0_3 : Int) (a0_4 : Int) (a0_5 : Bool) (r : Int) (w : World) (h : impl_layout_top.f a0_0 a0_1 a0_2 a0_3 a0_4 a0_5 = some r) :
  Calls Tryd.prog 69 #[.agg #[.int .i64 a0_0, .int .i64 a0_1, .int .i64 a0_2, .int .i64 a0_3, .int .i64 a0_4, .bool a0_5]] w fun e w' => e = .returned (.int .i64 r) ∧ Below w.heap.size w w' := by
 have hu91 := Tryd.underlying91
 have HB := Aside0.mk (Below.refl w.heap.size w)
 have H : (if 0 ≤ a0_4 then (some (wrap64 ((shl .i64 1 a0_4) - 1))) else (none)) = some r := h
 clear h
 by_cases c2 : 0 ≤ a0_4
 ·rw [if_pos c2] at H
  have c2b0 := eq_true c2
  have c2b1 : decide (0 ≤ a0_4) = true := decide_eq_true c2
  clear c2
  obtain ⟨ji3, hji3⟩ : ∃ j_ : Int, (shl .i64 1 a0_4) = j_ := ⟨_, rfl⟩
  replace H : (some (wrap64 ((ji3) - 1))) = some r := by first | (rw [hji3] at H; exact H) | (simp only [hji3] at H ⊢; exact H)
  have hji3_ : (IntKind.i64.wrap (1 * 2 ^ min a0_4.toNat 64)) = ji3 := hji3
  have hji3z : a0_4 ≤ 64 → (IntKind.i64.wrap (1 * 2 ^ a0_4.toNat)) = ji3 := shl_small hji3
  have hji3u : (IntKind.i64.wrap (2 ^ min a0_4.toNat 64)) = ji3 := by have h_ := hji3_; rw [Int.one_mul] at h_; exact h_
  have hji3v : a0_4 ≤ 64 → (IntKind.i64.wrap (2 ^ a0_4.toNat)) = ji3 := fun hle_ => by have h_ := hji3z hle_; rw [Int.one_mul] at h_; exact h_
  have hji3y : (wrap64 (1 * 2 ^ min a0_4.toNat 64)) = ji3 := (i64_w _).symm.trans hji3_
  have hji3x : a0_4 ≤ 64 → (wrap64 (1 * 2 ^ a0_4.toNat)) = ji3 := fun h_ => (i64_w _).symm.trans (hji3z h_)
  obtain rfl := Option.some.inj H
  go_enter Tryd.func69, Tryd.ntmps69
  go_wp2_with (first | ((with_reducible refine gate_dst (N := 1) rfl ?_); refine box_event ?hg (N := 1) ?hd (cs := #[.int .i64 a0_0, .int .i64 a0_1, .int .i64 a0_2, .int .i64 a0_3, .int .i64 a0_4, .bool a0_5]) (t := 91) ?hr ?_; (case hd => rfl); (case hg => rfl); (case hr => first | (go_simp; done) | (go_simp; rfl)); intro gb293 hg w4 hbox hb; have n0_ := Aside0.mk (below_step (by repeat (first | (with_reducible first | exact HB.out | apply below_alloc | apply pw_below_drewN | apply below_drew1) | exact HB.out)) hb); have n1_ := Aside0.mk (hbox); have n2_ := Aside0.mk ((by rw [hg]; exact (below_size (by repeat (first | (with_reducible first | exact HB.out | apply below_alloc | apply pw_below_drewN | apply below_drew1) | exact HB.out))) : w.heap.size ≤ gb293)); have n3_ := Aside0.mk ((by rw [hg]; exact (below_size (by repeat (first | (with_reducible first | exact HB.out | apply below_alloc | apply pw_below_drewN | apply below_drew1) | exact HB.out))) : w.heap.size ≤ gb293)); clear HB; have HB := n0_; have BK293 := n1_; have GW293 := n2_; have GE293 := n3_; clear n0_ n1_ n2_ n3_; clear hb hbox hg; have hcz5_0 : w4.cell? ⟨gb293, 0, none⟩ = some (.int .i64 a0_0) := (blk_cell BK293.out 0).trans rfl; have hcz5_1 : w4.cell? ⟨gb293, 1, none⟩ = some (.int .i64 a0_1) := (blk_cell BK293.out 1).trans rfl; have hcz5_2 : w4.cell? ⟨gb293, 2, none⟩ = some (.int .i64 a0_2) := (blk_cell BK293.out 2).trans rfl; have hcz5_3 : w4.cell? ⟨gb293, 3, none⟩ = some (.int .i64 a0_3) := (blk_cell BK293.out 3).trans rfl; have hcz5_4 : w4.cell? ⟨gb293, 4, none⟩ = some (.int .i64 a0_4) := (blk_cell BK293.out 4).trans rfl; have hcz5_5 : w4.cell? ⟨gb293, 5, none⟩ = some (.bool a0_5) := (blk_cell BK293.out 5).trans rfl; have hfz5_0 := blk_frozen BK293.out 0; have hfz5_1 := blk_frozen BK293.out 1; have hfz5_2 := blk_frozen BK293.out 2; have hfz5_3 := blk_frozen BK293.out 3; have hfz5_4 := blk_frozen BK293.out 4; have hfz5_5 := blk_frozen BK293.out 5))
  go_ret
  exact ⟨by first | rfl | (simp [errW_none, errW_some] <;> rfl) | (simp only [← hji3]; first | rfl | (simp [errW_none, errW_some] <;> rfl)) | (simp [*, errW_none, errW_some] <;> rfl), by repeat (first | (with_reducible first | exact HB.out | apply below_alloc | apply pw_below_drewN | apply below_drew1 | refine below_set ?_ GE293.out) | exact HB.out)⟩
 ·rw [if_neg c2] at H
  exact absurd H (by simp)
def impl_layout_qMin.f (a0_0 : Int) (a0_1 : Int) (a0_2 : Int) (a0_3 : Int) (a0_4 : Int) (a0_5 : Bool) : Option (Int) := some (wrap64 ((wrap64 (a0_1 - a0_0)) + 1))
set_option maxHeartbeats 8000000 in
set_option maxRecDepth 100000 in
theorem impl_layout_qMin.calls (a0_0 : Int) (a0_1 : Int) (a0_2 : Int) (a0_3 : Int) (a0_4 : Int) (a0_5 : Bool) (r : Int) (w : World) (h : impl_layout_qMin.f a0_0 a0_1 a0_2 a0_3 a0_4 a0_5 = some r) :
  Calls Tryd.prog 70 #[.agg #[.int .i64 a0_0, .int .i64 a0_1, .int .i64 a0_2, .int .i64 a0_3, .int .i64 a0_4, .bool a0_5]] w fun e w' => e = .returned (.int .i64 r) ∧ Below w.heap.size w w' := by
 have hu91 := Tryd.underlying91
 have HB := Aside0.mk (Below.refl w.heap.size w)
 have H : (some (wrap64 ((wrap64 (a0_1 - a0_0)) + 1))) = some r := h
 clear h
 obtain rfl := Option.some.inj H
 go_enter Tryd.func70, Tryd.ntmps70
 go_wp2_with (first | ((with_reducible refine gate_dst (N := 1) rfl ?_); refine box_event ?hg (N := 1) ?hd (cs := #[.int .i64 a0_0, .int .i64 a0_1, .int .i64 a0_2, .int .i64 a0_3, .int .i64 a0_4, .bool a0_5]) (t := 91) ?hr ?_; (case hd => rfl); (case hg => rfl); (case hr => first | (go_simp; done) | (go_simp; rfl)); intro gb294 hg w2 hbox hb; have n0_ := Aside0.mk (below_step (by repeat (first | (with_reducible first | exact HB.out | apply below_alloc | apply pw_below_drewN | apply below_drew1) | exact HB.out)) hb); have n1_ := Aside0.mk (hbox); have n2_ := Aside0.mk ((by rw [hg]; exact (below_size (by repeat (first | (with_reducible first | exact HB.out | apply below_alloc | apply pw_below_drewN | apply below_drew1) | exact HB.out))) : w.heap.size ≤ gb294)); have n3_ := Aside0.mk ((by rw [hg]; exact (below_size (by repeat (first | (with_reducible first | exact HB.out | apply below_alloc | apply pw_below_drewN | apply below_drew1) | exact HB.out))) : w.heap.size ≤ gb294)); clear HB; have HB := n0_; have BK294 := n1_; have GW294 := n2_; have GE294 := n3_; clear n0_ n1_ n2_ n3_; clear hb hbox hg; have hcz3_0 : w2.cell? ⟨gb294, 0, none⟩ = some (.int .i64 a0_0) := (blk_cell BK294.out 0).trans rfl; have hcz3_1 : w2.cell? ⟨gb294, 1, none⟩ = some (.int .i64 a0_1) := (blk_cell BK294.out 1).trans rfl; have hcz3_2 : w2.cell? ⟨gb294, 2, none⟩ = some (.int .i64 a0_2) := (blk_cell BK294.out 2).trans rfl; have hcz3_3 : w2.cell? ⟨gb294, 3, none⟩ = some (.int .i64 a0_3) := (blk_cell BK294.out 3).trans rfl; have hcz3_4 : w2.cell? ⟨gb294, 4, none⟩ = some (.int .i64 a0_4) := (blk_cell BK294.out 4).trans rfl; have hcz3_5 : w2.cell? ⟨gb294, 5, none⟩ = some (.bool a0_5) := (blk_cell BK294.out 5).trans rfl; have hfz3_0 := blk_frozen BK294.out 0; have hfz3_1 := blk_frozen BK294.out 1; have hfz3_2 := blk_frozen BK294.out 2; have hfz3_3 := blk_frozen BK294.out 3; have hfz3_4 := blk_frozen BK294.out 4; have hfz3_5 := blk_frozen BK294.out 5))
 go_ret
 exact ⟨by first | rfl | (simp [errW_none, errW_some] <;> rfl) | (simp [*, errW_none, errW_some] <;> rfl), by repeat (first | (with_reducible first | exact HB.out | apply below_alloc | apply pw_below_drewN | apply below_drew1 | refine below_set ?_ GE294.out) | exact HB.out)⟩
def impl_one.f (a0 : Int) : Option (Int × Int) := if a0 ≥ 64 then (if 0 ≤ (wrap64 (a0 - 64)) then (some (shl .u64 1 (wrap64 (a0 - 64)), 0)) else (none)) else (if 0 ≤ a0 then (some (0, shl .u64 1 a0)) else (none))
set_option maxHeartbeats 8000000 in
set_option maxRecDepth 100000 in
theorem impl_one.calls (a0 : Int) (r1 : Int) (r2 : Int) (w : World) (h : impl_one.f a0 = some (r1, r2)) :
  Calls Tryd.prog 72 #[.int .i64 a0] w fun e w' => e = .returned (.agg #[.int .u64 r1, .int .u64 r2]) ∧ Below w.heap.size w w' := by
 have hu25 := Tryd.underlying25
 have HB := Aside0.mk (Below.refl w.heap.size w)
 have H : (if a0 ≥ 64 then (if 0 ≤ (wrap64 (a0 - 64)) then (some (shl .u64 1 (wrap64 (a0 - 64)), 0)) else (none)) else (if 0 ≤ a0 then (some (0, shl .u64 1 a0)) else (none))) = some (r1, r2) := h
 clear h
 by_cases c2 : a0 ≥ 64
 ·rw [if_pos c2] at H
  have c2b0 : decide (64 ≤ a0) = true := decide_eq_true c2
  clear c2
  obtain ⟨ji3, hji3⟩ : ∃ j_ : Int, (wrap64 (a0 - 64)) = j_ := ⟨_, rfl⟩
  replace H : (if 0 ≤ (ji3) then (some (shl .u64 1 (ji3), 0)) else (none)) = some (r1, r2) := by first | (rw [hji3] at H; exact H) | (simp only [hji3] at H ⊢; exact H)
  have hji3w : (IntKind.i64.wrap (a0 - 64)) = ji3 := (i64_w _).trans hji3
  by_cases c4 : 0 ≤ (ji3)
  ·rw [if_pos c4] at H
   have c4b0 := eq_true c4
   have c4b1 : decide (0 ≤ (ji3)) = true := decide_eq_true c4
   clear c4
   obtain ⟨ji5, hji5⟩ : ∃ j_ : Int, (shl .u64 1 (ji3)) = j_ := ⟨_, rfl⟩
   replace H : (some (ji5, 0)) = some (r1, r2) := by first | (rw [hji5] at H; exact H) | (simp only [hji5] at H ⊢; exact H)
   have hji5_ : (IntKind.u64.wrap (1 * 2 ^ min (ji3).toNat 64)) = ji5 := hji5
   have hji5z : (ji3) ≤ 64 → (IntKind.u64.wrap (1 * 2 ^ (ji3).toNat)) = ji5 := shl_small hji5
   have hji5u : (IntKind.u64.wrap (2 ^ min (ji3).toNat 64)) = ji5 := by have h_ := hji5_; rw [Int.one_mul] at h_; exact h_
   have hji5v : (ji3) ≤ 64 → (IntKind.u64.wrap (2 ^ (ji3).toNat)) = ji5 := fun hle_ => by have h_ := hji5z hle_; rw [Int.one_mul] at h_; exact h_
   simp only [Option.some.injEq, Prod.mk.injEq] at H
   obtain ⟨rfl, rfl⟩ := H
   go_enter Tryd.func72, Tryd.ntmps72
   go_wp2_with (first | ((with_reducible refine gate_dst (N := 2) rfl ?_); refine box_event ?hg (N := 2) ?hd (cs := #[.int .u64 0, .int .u64 0]) (t := 25) ?hr ?_; (case hd => rfl); (case hg => rfl); (case hr => first | (go_simp; done) | (go_simp; rfl)); intro gb295 hg w6 hbox hb; have n0_ := Aside0.mk (below_step (by repeat (first | (with_reducible first | exact HB.out | apply below_alloc | apply pw_below_drewN | apply below_drew1) | exact HB.out)) hb); have n1_ := Aside0.mk (hbox); have n2_ := Aside0.mk ((by rw [hg]; exact (below_size (by repeat (first | (with_reducible first | exact HB.out | apply below_alloc | apply pw_below_drewN | apply below_drew1) | exact HB.out))) : w.heap.size ≤ gb295)); have n3_ := Aside0.mk ((by rw [hg]; exact (below_size (by repeat (first | (with_reducible first | exact HB.out | apply below_alloc | apply pw_below_drewN | apply below_drew1) | exact HB.out))) : w.heap.size ≤ gb295)); clear HB; have HB := n0_; have BK295 := n1_; have GW295 := n2_; have GE295 := n3_; clear n0_ n1_ n2_ n3_; clear hb hbox hg; have hcz7_0 : w6.cell? ⟨gb295, 0, none⟩ = some (.int .u64 0) := (blk_cell BK295.out 0).trans rfl; have hcz7_1 : w6.cell? ⟨gb295, 1, none⟩ = some (.int .u64 0) := (blk_cell BK295.out 1).trans rfl; have hfz7_0 := blk_frozen BK295.out 0; have hfz7_1 := blk_frozen BK295.out 1))
   refine bodyPost_ret (results_cell_row rfl _ _ gb295 25 #[.int .u64 ji5, .int .u64 0] (0, 0) _ rfl (by (with_reducible repeat (first | refine blk_drewN ?_ _ | refine blk_drew ?_ | refine blk_alloc ?_ _)); refine blk_put (cs := #[.int .u64 ji5, .int .u64 0]) ?_ 1 _ rfl; (with_reducible repeat (first | refine blk_drewN ?_ _ | refine blk_drew ?_ | refine blk_alloc ?_ _)); refine blk_put (cs := #[.int .u64 0, .int .u64 0]) ?_ 0 _ rfl; (with_reducible repeat (first | refine blk_drewN ?_ _ | refine blk_drew ?_ | refine blk_alloc ?_ _)); exact BK295.out) Tryd.underlying25 rfl (by kernel_rfl)) rfl ?_
   exact ⟨by first | rfl | (simp [errW_none, errW_some] <;> rfl) | (simp only [← hji3, ← hji5]; first | rfl | (simp [errW_none, errW_some] <;> rfl)) | (simp [*, errW_none, errW_some] <;> rfl), by repeat (first | (with_reducible first | exact HB.out | apply below_alloc | apply pw_below_drewN | apply below_drew1 | refine below_set ?_ GE295.out) | exact HB.out)⟩
  ·rw [if_neg c4] at H
   exact absurd H (by simp)
 ·rw [if_neg c2] at H
  have c2b0 : decide (64 ≤ a0) = false := decide_eq_false c2
  clear c2
  by_cases c8 : 0 ≤ a0
  ·rw [if_pos c8] at H
   have c8b0 := eq_true c8
   have c8b1 : decide (0 ≤ a0) = true := decide_eq_true c8
   clear c8
   obtain ⟨ji9, hji9⟩ : ∃ j_ : Int, (shl .u64 1 a0) = j_ := ⟨_, rfl⟩
   replace H : (some (0, ji9)) = some (r1, r2) := by first | (rw [hji9] at H; exact H) | (simp only [hji9] at H ⊢; exact H)
   have hji9_ : (IntKind.u64.wrap (1 * 2 ^ min a0.toNat 64)) = ji9 := hji9
   have hji9z : a0 ≤ 64 → (IntKind.u64.wrap (1 * 2 ^ a0.toNat)) = ji9 := shl_small hji9
   have hji9u : (IntKind.u64.wrap (2 ^ min a0.toNat 64)) = ji9 := by have h_ := hji9_; rw [Int.one_mul] at h_; exact h_
   have hji9v : a0 ≤ 64 → (IntKind.u64.wrap (2 ^ a0.toNat)) = ji9 := fun hle_ => by have h_ := hji9z hle_; rw [Int.one_mul] at h_; exact h_
   simp only [Option.some.injEq, Prod.mk.injEq] at H
   obtain ⟨rfl, rfl⟩ := H
   go_enter Tryd.func72, Tryd.ntmps72
   go_wp2_with (first | ((with_reducible refine gate_dst (N := 2) rfl ?_); refine box_event ?hg (N := 2) ?hd (cs := #[.int .u64 0, .int .u64 0]) (t := 25) ?hr ?_; (case hd => rfl); (case hg => rfl); (case hr => first | (go_simp; done) | (go_simp; rfl)); intro gb295 hg w10 hbox hb; have n0_ := Aside0.mk (below_step (by repeat (first | (with_reducible first | exact HB.out | apply below_alloc | apply pw_below_drewN | apply below_drew1) | exact HB.out)) hb); have n1_ := Aside0.mk (hbox); have n2_ := Aside0.mk ((by rw [hg]; exact (below_size (by repeat (first | (with_reducible first | exact HB.out | apply below_alloc | apply pw_below_drewN | apply below_drew1) | exact HB.out))) : w.heap.size ≤ gb295)); have n3_ := Aside0.mk ((by rw [hg]; exact (below_size (by repeat (first | (with_reducible first | exact HB.out | apply below_alloc | apply pw_below_drewN | apply below_drew1) | exact HB.out))) : w.heap.size ≤ gb295)); clear HB; have HB := n0_; have BK295 := n1_; have GW295 := n2_; have GE295 := n3_; clear n0_ n1_ n2_ n3_; clear hb hbox hg; have hcz11_0 : w10.cell? ⟨gb295, 0, none⟩ = some (.int .u64 0) := (blk_cell BK295.out 0).trans rfl; have hcz11_1 : w10.cell? ⟨gb295, 1, none⟩ = some (.int .u64 0) := (blk_cell BK295.out 1).trans rfl; have hfz11_0 := blk_frozen BK295.out 0; have hfz11_1 := blk_frozen BK295.out 1))
   refine bodyPost_ret (results_cell_row rfl _ _ gb295 25 #[.int .u64 0, .int .u64 ji9] (0, 0) _ rfl (by (with_reducible repeat (first | refine blk_drewN ?_ _ | refine blk_drew ?_ | refine blk_alloc ?_ _)); refine blk_put (cs := #[.int .u64 0, .int .u64 0]) ?_ 1 _ rfl; (with_reducible repeat (first | refine blk_drewN ?_ _ | refine blk_drew ?_ | refine blk_alloc ?_ _)); refine blk_put (cs := #[.int .u64 0, .int .u64 0]) ?_ 0 _ rfl; (with_reducible repeat (first | refine blk_drewN ?_ _ | refine blk_drew ?_ | refine blk_alloc ?_ _)); exact BK295.out) Tryd.underlying25 rfl (by kernel_rfl)) rfl ?_
   exact ⟨by first | rfl | (simp [errW_none, errW_some] <;> rfl) | (simp only [← hji9]; first | rfl | (simp [errW_none, errW_some] <;> rfl)) | (simp [*, errW_none, errW_some] <;> rfl), by repeat (first | (with_reducible first | exact HB.out | apply below_alloc | apply pw_below_drewN | apply below_drew1 | refine below_set ?_ GE295.out) | exact HB.out)⟩
  ·rw [if_neg c8] at H
   exact absurd H (by simp)
end Go.Proofs.YtdbnmdchecacdaaDoor.PL
end
section
namespace Go.Proofs.YtdbnmdchecacdaaDoor.M
open Go.RowKit Go.Proofs.YtdbnmdchecacdaaDoor.G Go.Proofs.YtdbnmdchecacdaaDoorV.PrintWords Go.Proofs.YtdbnmdchecacdaaDoorV.PrintLast Go.Proofs.YtdbnmdchecacdaaDoorV.PrintMore Go.Proofs.YtdbnmdchecacdaaDoor.PL
set_option linter.unusedVariables false
set_option linter.unusedSimpArgs false
def hiI (w : Nat) : Int := ((w / 18446744073709551616 : Nat) : Int)
def loI (w : Nat) : Int := ((w % 18446744073709551616 : Nat) : Int)
abbrev B128 : Nat := 340282366920938463463374607431768211456
theorem hi_lt {w : Nat} (h : w < B128) : w / 18446744073709551616 < 18446744073709551616 := by unfold B128 at h; omega
theorem lo_lt (w : Nat) : w % 18446744073709551616 < 18446744073709551616 := by omega
theorem wordI_of (hi lo : Nat) (hl : lo < 18446744073709551616) : hiI (hi * 18446744073709551616 + lo) = (hi : Int) ∧ loI (hi * 18446744073709551616 + lo) = (lo : Int) := by
  unfold hiI loI
  constructor <;> omega
theorem wsubK (K a : Nat) (h : a ≤ K) (hK : K ≤ 1000) : wrap64 ((K : Int) - (a : Int)) = ((K - a : Nat) : Int) := by rw [wrap64_id (by omega)]; omega
theorem wsub64' (a : Nat) (h : a ≤ 64) : wrap64 (64 - (a : Int)) = ((64 - a : Nat) : Int) := wsubK 64 a h (by decide)
theorem wsubA64 (a : Nat) (h : 64 ≤ a) (hK : a ≤ 1000) : wrap64 ((a : Int) - 64) = ((a - 64 : Nat) : Int) := by rw [wrap64_id (by omega)]; omega
theorem pow64 : (18446744073709551616 : Nat) = 2 ^ 64 := rfl
theorem split_div (w n : Nat) (hn : n < 64) : w / 2 ^ n / 18446744073709551616 = w / 18446744073709551616 / 2 ^ n ∧ w / 2 ^ n % 18446744073709551616 = w % 18446744073709551616 / 2 ^ n + w / 18446744073709551616 * 2 ^ (64 - n) % 18446744073709551616 := by
  have hp : 0 < 2 ^ n := Nat.pow_pos (by decide)
  have e64 : (18446744073709551616 : Nat) = 2 ^ (64 - n) * 2 ^ n := by rw [← Nat.pow_add, show 64 - n + n = 64 by omega]
  have h1 : w / 2 ^ n / 18446744073709551616 = w / 18446744073709551616 / 2 ^ n := by rw [Nat.div_div_eq_div_mul, Nat.div_div_eq_div_mul, Nat.mul_comm]
  refine ⟨h1, ?_⟩
  have hdm := Nat.div_add_mod w 18446744073709551616
  generalize hH : w / 18446744073709551616 = H at *
  generalize hL : w % 18446744073709551616 = L at *
  have hLl : L < 18446744073709551616 := by rw [← hL]; exact Nat.mod_lt _ (by decide)
  have h2 : w / 2 ^ n = L / 2 ^ n + H * 2 ^ (64 - n) := by
    rw [← hdm, e64, show 2 ^ (64 - n) * 2 ^ n * H + L = L + 2 ^ n * (H * 2 ^ (64 - n)) by rw [Nat.mul_comm (2 ^ (64 - n)), Nat.mul_assoc, Nat.mul_comm (2 ^ (64 - n)) H]; omega, Nat.add_mul_div_left _ _ hp]
  rw [h2]
  have h3 : L / 2 ^ n < 2 ^ (64 - n) := by rw [Nat.div_lt_iff_lt_mul hp, ← e64]; exact hLl
  have h4 : H * 2 ^ (64 - n) % 18446744073709551616 = H % 2 ^ n * 2 ^ (64 - n) := by
    rw [show (18446744073709551616 : Nat) = 2 ^ n * 2 ^ (64 - n) by rw [Nat.mul_comm]; exact e64, Nat.mul_mod_mul_right]
  have h5 : H % 2 ^ n * 2 ^ (64 - n) + 2 ^ (64 - n) ≤ 18446744073709551616 := by
    have := Nat.mul_le_mul_right (2 ^ (64 - n)) (show H % 2 ^ n + 1 ≤ 2 ^ n from Nat.mod_lt _ hp)
    rw [Nat.add_mul, Nat.one_mul, Nat.mul_comm (2 ^ n)] at this
    rwa [← e64] at this
  rw [Nat.add_mod, h4, Nat.mod_eq_of_lt (show L / 2 ^ n < 18446744073709551616 by omega), Nat.mod_eq_of_lt (by omega)]
theorem right_eq (w n : Nat) (hw : w < B128) (hn : n ≤ 1000) : impl_Word_right.f (hiI w) (loI w) (n : Int) = some (hiI (w / 2 ^ n), loI (w / 2 ^ n)) := by
  have hh := hi_lt hw
  unfold impl_Word_right.f
  by_cases h0 : n = 0
  · subst h0
    rw [if_pos (by rfl), Nat.pow_zero, Nat.div_one]
  have c0 : ¬ (n : Int) = 0 := by omega
  rw [if_neg c0]
  by_cases h1 : 128 ≤ n
  · have c1 : (n : Int) ≥ 128 := by omega
    have hz : w / 2 ^ n = 0 := Nat.div_eq_of_lt (Nat.lt_of_lt_of_le hw (Nat.pow_le_pow_right (n := 2) (by decide) h1))
    rw [if_pos c1, hz]
    rfl
  have c1 : ¬ (n : Int) ≥ 128 := by omega
  rw [if_neg c1]
  by_cases h2 : 64 ≤ n
  · have c2 : (n : Int) ≥ 64 := by omega
    have e1 : w / 2 ^ n = w / 18446744073709551616 / 2 ^ (n - 64) := by
      rw [Nat.div_div_eq_div_mul, pow64, ← Nat.pow_add, show 64 + (n - 64) = n by omega]
    have hs : w / 18446744073709551616 / 2 ^ (n - 64) < 18446744073709551616 := Nat.lt_of_le_of_lt (Nat.div_le_self _ _) hh
    rw [if_pos c2, wsubA64 n h2 (by omega), if_pos (Int.natCast_nonneg _), e1]
    unfold hiI loI
    rw [shr_nat _ _ (by omega), Nat.div_eq_of_lt hs, Nat.mod_eq_of_lt hs]
    rfl
  · have c2 : ¬ (n : Int) ≥ 64 := by omega
    obtain ⟨s1, s2⟩ := split_div w n (by omega)
    have hp : 0 < 2 ^ n := Nat.pow_pos (by decide)
    have e64 : (18446744073709551616 : Nat) = 2 ^ (64 - n) * 2 ^ n := by rw [← Nat.pow_add, show 64 - n + n = 64 by omega]
    have hl : w % 18446744073709551616 / 2 ^ n < 2 ^ (64 - n) := by rw [Nat.div_lt_iff_lt_mul hp, ← e64]; exact lo_lt w
    have hd : 2 ^ (64 - n) ∣ w / 18446744073709551616 * 2 ^ (64 - n) % 18446744073709551616 := (Nat.dvd_mod_iff (by rw [e64]; exact Nat.dvd_mul_right _ _)).2 (Nat.dvd_mul_left _ _)
    rw [if_neg c2, if_pos (Int.natCast_nonneg _), wsub64' n (by omega), if_pos (Int.natCast_nonneg _)]
    unfold hiI loI
    rw [shr_nat _ _ (by omega), shr_nat _ _ (by omega), shl_nat _ _ (by omega), or_nat' (64 - n) _ _ (by omega) (Nat.mod_lt _ (by decide)) hd hl, s1, s2]
theorem mul_split (w n : Nat) (hn : n < 64) : (w * 2 ^ n) % B128 / 18446744073709551616 = w / 18446744073709551616 * 2 ^ n % 18446744073709551616 + w % 18446744073709551616 / 2 ^ (64 - n) ∧ (w * 2 ^ n) % B128 % 18446744073709551616 = w % 18446744073709551616 * 2 ^ n % 18446744073709551616 := by
  have hp : 0 < 2 ^ n := Nat.pow_pos (by decide)
  have e64 : (18446744073709551616 : Nat) = 2 ^ (64 - n) * 2 ^ n := by rw [← Nat.pow_add, show 64 - n + n = 64 by omega]
  have hdm := Nat.div_add_mod w 18446744073709551616
  generalize hH : w / 18446744073709551616 = H at *
  generalize hL : w % 18446744073709551616 = L at *
  have hLl : L < 18446744073709551616 := by rw [← hL]; exact Nat.mod_lt _ (by decide)
  have hB : B128 = 18446744073709551616 * 18446744073709551616 := rfl
  have h1 : w * 2 ^ n = 18446744073709551616 * (H * 2 ^ n) + L * 2 ^ n := by rw [← hdm, Nat.add_mul, Nat.mul_assoc]
  have h2 : L * 2 ^ n / 18446744073709551616 = L / 2 ^ (64 - n) := by
    rw [e64, Nat.mul_div_mul_right _ _ hp]
  have h3 : L / 2 ^ (64 - n) < 2 ^ n := by rw [Nat.div_lt_iff_lt_mul (Nat.pow_pos (by decide)), Nat.mul_comm, ← e64]; exact hLl
  have h4 : w * 2 ^ n / 18446744073709551616 = H * 2 ^ n + L / 2 ^ (64 - n) := by
    rw [h1, Nat.mul_add_div (by decide), h2]
  have h5 : H * 2 ^ n % 18446744073709551616 + 2 ^ n ≤ 18446744073709551616 := by
    have e : H * 2 ^ n % 18446744073709551616 = H % 2 ^ (64 - n) * 2 ^ n := by rw [show (18446744073709551616 : Nat) = 2 ^ (64 - n) * 2 ^ n from e64, Nat.mul_mod_mul_right]
    rw [e]
    have := Nat.mul_le_mul_right (2 ^ n) (show H % 2 ^ (64 - n) + 1 ≤ 2 ^ (64 - n) from Nat.mod_lt _ (Nat.pow_pos (by decide)))
    rw [Nat.add_mul, Nat.one_mul] at this
    rwa [← e64] at this
  constructor
  · rw [hB, Nat.mod_mul_right_div_self, h4, Nat.add_mod, Nat.mod_eq_of_lt (show L / 2 ^ (64 - n) < 18446744073709551616 by omega), Nat.mod_eq_of_lt (by omega)]
  · rw [hB, Nat.mod_mul_right_mod, h1, Nat.mul_add_mod]
theorem left_eq (w n : Nat) (hw : w < B128) (hn : n < 128) : impl_Word_left.f (hiI w) (loI w) (n : Int) = some (hiI (w * 2 ^ n % B128), loI (w * 2 ^ n % B128)) := by
  have hh := hi_lt hw
  unfold impl_Word_left.f
  by_cases h0 : n = 0
  · subst h0
    rw [if_pos (by rfl), Nat.pow_zero, Nat.mul_one, Nat.mod_eq_of_lt hw]
  have c0 : ¬ (n : Int) = 0 := by omega
  rw [if_neg c0]
  by_cases h2 : 64 ≤ n
  · have c2 : (n : Int) ≥ 64 := by omega
    have hdm := Nat.div_add_mod w 18446744073709551616
    have e1 : w * 2 ^ n % B128 = (w % 18446744073709551616 * 2 ^ (n - 64) % 18446744073709551616) * 18446744073709551616 := by
      have e2 : 2 ^ n = 2 ^ (n - 64) * 18446744073709551616 := by rw [pow64, ← Nat.pow_add, show n - 64 + 64 = n by omega]
      rw [e2, ← Nat.mul_assoc, show B128 = 18446744073709551616 * 18446744073709551616 from rfl, Nat.mul_mod_mul_right]
      congr 1
      rw [Nat.mul_mod (w % 18446744073709551616), Nat.mod_mod, ← Nat.mul_mod]
    rw [if_pos c2, wsubA64 n h2 (by omega), if_pos (Int.natCast_nonneg _), e1]
    unfold hiI loI
    rw [shl_nat _ _ (by omega), Nat.mul_div_cancel _ (by decide), Nat.mul_mod_left]
    rfl
  · have c2 : ¬ (n : Int) ≥ 64 := by omega
    obtain ⟨s1, s2⟩ := mul_split w n (by omega)
    have hp : 0 < 2 ^ n := Nat.pow_pos (by decide)
    have e64 : (18446744073709551616 : Nat) = 2 ^ (64 - n) * 2 ^ n := by rw [← Nat.pow_add, show 64 - n + n = 64 by omega]
    have hl : w % 18446744073709551616 / 2 ^ (64 - n) < 2 ^ n := by rw [Nat.div_lt_iff_lt_mul (Nat.pow_pos (by decide)), Nat.mul_comm, ← e64]; exact lo_lt w
    have hd : 2 ^ n ∣ w / 18446744073709551616 * 2 ^ n % 18446744073709551616 := (Nat.dvd_mod_iff (by rw [e64]; exact Nat.dvd_mul_left _ _)).2 (Nat.dvd_mul_left _ _)
    rw [if_neg c2, if_pos (Int.natCast_nonneg _), wsub64' n (by omega), if_pos (Int.natCast_nonneg _)]
    unfold hiI loI
    rw [shl_nat _ _ (by omega), shr_nat _ _ (by omega), shl_nat _ _ (by omega), or_nat n _ _ (by omega) (Nat.mod_lt _ (by decide)) hd hl, s1, s2]
end Go.Proofs.YtdbnmdchecacdaaDoor.M
end
section
namespace Go.Proofs.YtdbnmdchecacdaaDoor.M
open Go.RowKit Go.Proofs.YtdbnmdchecacdaaDoor.G Go.Proofs.YtdbnmdchecacdaaDoorV.PrintWords Go.Proofs.YtdbnmdchecacdaaDoorV.PrintLast Go.Proofs.YtdbnmdchecacdaaDoorV.PrintMore Go.Proofs.YtdbnmdchecacdaaDoor.PL
set_option linter.unusedVariables false
set_option linter.unusedSimpArgs false
theorem or_nn (a b : Nat) (ha : a < 18446744073709551616) (hb : b < 18446744073709551616) : Go.bits .or .u64 (a : Int) (b : Int) = ((a ||| b : Nat) : Int) :=
  (bits_nat .u64 64 (by decide) wraps_u64 a b ha hb).2
theorem andNot_nn (a b : Nat) (ha : a < 18446744073709551616) (hb : b < 18446744073709551616) : Go.bits .andNot .u64 (a : Int) (b : Int) = (((BitVec.ofNat 64 a &&& ~~~ BitVec.ofNat 64 b).toNat : Nat) : Int) := by
  have h : ∀ x : BitVec 64, IntKind.u64.wrap (x.toNat : Int) = (x.toNat : Int) := fun x => wrap_u64_id (by have := x.isLt; omega)
  exact h _
theorem andNot_high (a m : Nat) (ha : a < 18446744073709551616) (hm : m ≤ 64) : Go.bits .andNot .u64 (a : Int) ((a / 2 ^ m * 2 ^ m : Nat) : Int) = ((a % 2 ^ m : Nat) : Int) := by
  have hle : a / 2 ^ m * 2 ^ m ≤ a := Nat.div_mul_le_self _ _
  rw [andNot_nn _ _ ha (by omega)]
  congr 1
  have hmod : a % 2 ^ m < 2 ^ 64 := Nat.lt_of_le_of_lt (Nat.mod_le _ _) ha
  have : (BitVec.ofNat 64 a &&& ~~~ BitVec.ofNat 64 (a / 2 ^ m * 2 ^ m)) = BitVec.ofNat 64 (a % 2 ^ m) := by
    apply BitVec.eq_of_getLsbD_eq
    intro i hi
    simp only [BitVec.getLsbD_and, BitVec.getLsbD_not, BitVec.getLsbD_ofNat, hi, decide_true, Bool.true_and, Nat.testBit_mul_two_pow, Nat.testBit_div_two_pow, Nat.testBit_mod_two_pow]
    by_cases h : m ≤ i
    · have h2 : ¬ i < m := by omega
      have e : m + (i - m) = i := by omega
      have e' : i - m + m = i := by omega
      simp [h, h2, e, e']
    · have h2 : i < m := by omega
      simp [h, h2]
  rw [this, BitVec.toNat_ofNat, Nat.mod_eq_of_lt hmod]
theorem andNot_self (a : Nat) (ha : a < 18446744073709551616) : Go.bits .andNot .u64 (a : Int) (a : Int) = 0 := by
  have h := andNot_high a 0 ha (by decide)
  rw [Nat.pow_zero, Nat.div_one, Nat.mul_one, Nat.mod_one] at h
  exact h
theorem andNot_zero (a : Nat) (ha : a < 18446744073709551616) : Go.bits .andNot .u64 (a : Int) ((0 : Nat) : Int) = (a : Int) := by
  have h := andNot_high a 64 ha (by decide)
  rw [Nat.div_eq_of_lt (show a < 2 ^ 64 from ha), Nat.zero_mul, Nat.mod_eq_of_lt (show a < 2 ^ 64 from ha)] at h
  exact h
theorem or_zero (a : Nat) (ha : a < 18446744073709551616) : Go.bits .or .u64 (a : Int) 0 = (a : Int) := by
  have h := or_nn a 0 ha (by decide)
  rw [Nat.or_zero] at h
  exact h
theorem high_cells (w n : Nat) : (n < 64 → w / 2 ^ n * 2 ^ n / 18446744073709551616 = w / 18446744073709551616 ∧ w / 2 ^ n * 2 ^ n % 18446744073709551616 = w % 18446744073709551616 / 2 ^ n * 2 ^ n ∧ w % 2 ^ n / 18446744073709551616 = 0 ∧ w % 2 ^ n % 18446744073709551616 = w % 18446744073709551616 % 2 ^ n) ∧
    (64 ≤ n → w / 2 ^ n * 2 ^ n / 18446744073709551616 = w / 18446744073709551616 / 2 ^ (n - 64) * 2 ^ (n - 64) ∧ w / 2 ^ n * 2 ^ n % 18446744073709551616 = 0 ∧ w % 2 ^ n / 18446744073709551616 = w / 18446744073709551616 % 2 ^ (n - 64) ∧ w % 2 ^ n % 18446744073709551616 = w % 18446744073709551616) := by
  constructor
  · intro hn
    have hp : 0 < 2 ^ n := Nat.pow_pos (by decide)
    have e64 : (18446744073709551616 : Nat) = 2 ^ n * 2 ^ (64 - n) := by rw [← Nat.pow_add, show n + (64 - n) = 64 by omega]
    have hlt : 2 ^ n < 18446744073709551616 := by rw [pow64]; exact Nat.pow_lt_pow_right (by decide) hn
    have h1 := Nat.div_add_mod w (2 ^ n)
    have h2 := Nat.mod_lt w hp
    have hdm := Nat.div_add_mod w 18446744073709551616
    have hm : w % 18446744073709551616 % 2 ^ n = w % 2 ^ n := by rw [e64, Nat.mod_mul_right_mod]
    have hd := Nat.div_add_mod (w % 18446744073709551616) (2 ^ n)
    rw [hm] at hd
    have e1 : w / 2 ^ n * 2 ^ n = 18446744073709551616 * (w / 18446744073709551616) + w % 18446744073709551616 / 2 ^ n * 2 ^ n := by
      rw [Nat.mul_comm (w / 2 ^ n), Nat.mul_comm (w % 18446744073709551616 / 2 ^ n)]
      omega
    have hL : w % 18446744073709551616 / 2 ^ n * 2 ^ n < 18446744073709551616 := Nat.lt_of_le_of_lt (Nat.div_mul_le_self _ _) (Nat.mod_lt _ (by decide))
    refine ⟨?_, ?_, Nat.div_eq_of_lt (by omega), ?_⟩
    · rw [e1, Nat.mul_add_div (by decide), Nat.div_eq_of_lt hL, Nat.add_zero]
    · rw [e1, Nat.mul_add_mod, Nat.mod_eq_of_lt hL]
    · rw [hm, Nat.mod_eq_of_lt (by omega)]
  · intro hn
    have e : 2 ^ n = 18446744073709551616 * 2 ^ (n - 64) := by rw [pow64, ← Nat.pow_add, show 64 + (n - 64) = n by omega]
    have e1 : w / 2 ^ n * 2 ^ n = 18446744073709551616 * (w / 18446744073709551616 / 2 ^ (n - 64) * 2 ^ (n - 64)) := by
      rw [e, ← Nat.div_div_eq_div_mul, Nat.mul_left_comm]
    refine ⟨?_, ?_, ?_, ?_⟩
    · rw [e1, Nat.mul_div_cancel_left _ (by decide)]
    · rw [e1, Nat.mul_mod_right]
    · rw [e, Nat.mod_mul_right_div_self]
    · rw [e, Nat.mod_mul_right_mod]
theorem low_eq (w n : Nat) (hw : w < B128) (hn : n < 128) : impl_Word_low.f (hiI w) (loI w) (n : Int) = some (hiI (w % 2 ^ n), loI (w % 2 ^ n)) := by
  have hh := hi_lt hw
  have hq : w / 2 ^ n < B128 := Nat.lt_of_le_of_lt (Nat.div_le_self _ _) hw
  have hv : w / 2 ^ n * 2 ^ n < B128 := Nat.lt_of_le_of_lt (Nat.div_mul_le_self _ _) hw
  have c0 : ¬ (n : Int) ≥ 128 := by omega
  have o1 : impl_Word_or.f (hiI w) (loI w) 0 0 = some (hiI w, loI w) := by
    unfold impl_Word_or.f hiI loI
    rw [or_zero _ hh, or_zero _ (lo_lt w)]
  unfold impl_Word_low.f
  rw [if_neg c0, o1, Option.bind_some, right_eq w n hw (by omega), Option.bind_some]
  dsimp only
  rw [left_eq _ n hq hn, Option.bind_some, Nat.mod_eq_of_lt hv]
  dsimp only
  unfold impl_Word_without.f
  rw [Option.bind_some]
  obtain ⟨k1, k2⟩ := high_cells w n
  unfold hiI loI
  by_cases h : n < 64
  · obtain ⟨a1, a2, a3, a4⟩ := k1 h
    rw [a1, a2, a3, a4, andNot_self _ hh, andNot_high _ n (lo_lt w) (by omega)]
    rfl
  · obtain ⟨a1, a2, a3, a4⟩ := k2 (by omega)
    rw [a1, a2, a3, a4, andNot_high _ (n - 64) hh (by omega), andNot_zero _ (lo_lt w)]
theorem one_eq (n : Nat) (hn : n < 128) : impl_one.f (n : Int) = some (hiI (2 ^ n), loI (2 ^ n)) := by
  unfold impl_one.f
  by_cases h : 64 ≤ n
  · have c1 : (n : Int) ≥ 64 := by omega
    have e : 2 ^ n = 18446744073709551616 * 2 ^ (n - 64) := by rw [pow64, ← Nat.pow_add, show 64 + (n - 64) = n by omega]
    have hl : 2 ^ (n - 64) < 18446744073709551616 := by rw [pow64]; exact Nat.pow_lt_pow_right (by decide) (by omega)
    have hs := shl_nat 1 (n - 64) (by omega)
    rw [Nat.one_mul, Nat.mod_eq_of_lt hl] at hs
    rw [if_pos c1, wsubA64 n h (by omega), if_pos (Int.natCast_nonneg _), e]
    unfold hiI loI
    rw [Nat.mul_div_cancel_left _ (by decide), Nat.mul_mod_right, show (1 : Int) = ((1 : Nat) : Int) from rfl, hs]
    rfl
  · have c1 : ¬ (n : Int) ≥ 64 := by omega
    have hl : 2 ^ n < 18446744073709551616 := by rw [pow64]; exact Nat.pow_lt_pow_right (by decide) (by omega)
    have hs := shl_nat 1 n (by omega)
    rw [Nat.one_mul, Nat.mod_eq_of_lt hl] at hs
    rw [if_neg c1, if_pos (Int.natCast_nonneg _)]
    unfold hiI loI
    rw [Nat.div_eq_of_lt hl, Nat.mod_eq_of_lt hl, show (1 : Int) = ((1 : Nat) : Int) from rfl, hs]
    rfl
end Go.Proofs.YtdbnmdchecacdaaDoor.M
end
section
namespace Go.Proofs.YtdbnmdchecacdaaDoor.PL
open Go.RowKit Go.Proofs.YtdbnmdchecacdaaDoor.G Go.Proofs.YtdbnmdchecacdaaDoorV.PrintWords Go.Proofs.YtdbnmdchecacdaaDoorV.PrintLast Go.Proofs.YtdbnmdchecacdaaDoorV.PrintMore
attribute [local go_sem] max2_int min2_int max_two min_two max_three min_three max_four min_four run_Add64 run_Sub64 fld25_1
set_option linter.unusedVariables false
set_option linter.unusedSimpArgs false
def impl_nat_right.l0 : Nat → List Int → List Int → Int → Int → Int → Option (List Int)
 | 0, _, _, _, _, _ => none
 | k + 1, x0, x5, x6, x24, x25 => if x25 < x24 then (if 0 ≤ x25 then (if x25 < (x0.length : Int) then (if 0 ≤ x6 then (if x25 < (x5.length : Int) then ((some (x5.set (x25 : Int).toNat (shr .u64 (rd x0 x25) x6) : List Int)).bind fun y762 => (if x6 > 0 then (if (wrap64 (x25 + 1)) < (x0.length : Int) then (if 0 ≤ (wrap64 (x25 + 1)) then (if 0 ≤ (IntKind.u64.wrap (64 - x6)) then (impl_nat_right.l0 k x0 (y762.set (x25 : Int).toNat (Go.bits .or .u64 (rd y762 x25) (shl .u64 (rd x0 (wrap64 (x25 + 1))) (IntKind.u64.wrap (64 - x6))))) x6 x24 (wrap64 (x25 + 1))) else (none)) else (none)) else (impl_nat_right.l0 k x0 y762 x6 x24 (wrap64 (x25 + 1)))) else (impl_nat_right.l0 k x0 y762 x6 x24 (wrap64 (x25 + 1))))) else (none)) else (none)) else (none)) else (none)) else (some (trimL x5))
def impl_nat_right.f (k : Nat) (l0 : List Int) (a1 : Int) : Option (List Int) := if (wrap64 (Int.tdiv a1 64)) ≥ (l0.length : Int) then (some ([] : List Int)) else (if 0 ≤ (wrap64 (Int.tdiv a1 64)) then (if (wrap64 (Int.tdiv a1 64)) ≤ (l0.length : Int) then ((some (l0.drop ((wrap64 (Int.tdiv a1 64)) : Int).toNat : List Int)).bind fun y754 => (if 0 ≤ (y754.length : Int) then (if ((y754.length : Int) : Int).toNat ≤ 35184372088832 then (impl_nat_right.l0 k y754 (List.replicate ((y754.length : Int) : Int).toNat 0) (IntKind.u64.wrap (Int.tmod a1 64)) (y754.length : Int) 0) else (none)) else (none))) else (none)) else (none))
def impl_nat_right.T11 : Bool × List (List Nat × List Nat) := (true, [([], []), ([], []), ([0, 1], [0, 1]), ([2], [2]), ([], []), ([], []), ([5], [5]), ([4, 6], [4, 6]), ([7], [7]), ([], []), ([9], [9]), ([8, 10], [8, 10]), ([3, 11], [3, 11]), ([0, 1, 0, 1, 2, 3, 4, 5, 6, 7, 8, 9, 10, 11, 12], [0, 1]), ([13, 12, 0, 1, 2, 3, 4, 5, 6, 7, 8, 9, 10, 11, 12], [12, 13])])
def impl_nat_right.B11 : List Nat := [0, 0, 3, 7, 0, 0, 32, 112, 240, 0, 512, 2032, 4095, 8191, 16383]
theorem impl_nat_right.tab11 : rtab .any (opsOf Tryd.f129 11) = impl_nat_right.T11 := by kernel_rfl
theorem impl_nat_right.bits11 : waitsOk impl_nat_right.T11.2 impl_nat_right.B11 = true := by kernel_rfl
set_option maxHeartbeats 8000000 in
set_option maxRecDepth 100000 in
theorem impl_nat_right.calls (k : Nat) (A0 : Option Addr) (c0 : Nat) (l0 : List Int) (a1 : Int) (r : List Int) (w : World) (hr0 : Kd.C (Kd.int .u64) w A0 l0.length l0) (hc0 : l0.length ≤ c0) (h : impl_nat_right.f k l0 a1 = some r) :
  Calls Tryd.prog 129 #[.slice A0 l0.length c0, .int .i64 a1] w fun e w' => ∃ v0_ : Value, e = .returned (v0_) ∧ Kd.R (Kd.int .u64) 22 w' w.heap.size (fun _ => True) v0_ r ∧ Below w.heap.size w w' := by
 have HR0 := Aside0.mk hr0
 have HC0 := Aside0.mk hc0
 clear hr0 hc0
 have HB := Aside0.mk (Below.refl w.heap.size w)
 have H : (if (wrap64 (Int.tdiv a1 64)) ≥ (l0.length : Int) then (some ([] : List Int)) else (if 0 ≤ (wrap64 (Int.tdiv a1 64)) then (if (wrap64 (Int.tdiv a1 64)) ≤ (l0.length : Int) then ((some (l0.drop ((wrap64 (Int.tdiv a1 64)) : Int).toNat : List Int)).bind fun y754 => (if 0 ≤ (y754.length : Int) then (if ((y754.length : Int) : Int).toNat ≤ 35184372088832 then (impl_nat_right.l0 k y754 (List.replicate ((y754.length : Int) : Int).toNat 0) (IntKind.u64.wrap (Int.tmod a1 64)) (y754.length : Int) 0) else (none)) else (none))) else (none)) else (none))) = some r := h
 clear h
 by_cases c3 : (wrap64 (Int.tdiv a1 64)) ≥ (l0.length : Int)
 ·rw [if_pos c3] at H
  have c3b0 : decide ((l0.length : Int) ≤ (wrap64 (Int.tdiv a1 64))) = true := decide_eq_true c3
  clear c3
  obtain rfl := Option.some.inj H
  go_enter Tryd.func129, Tryd.ntmps129
  go_wp2
  go_ret
  exact ⟨_, by first | rfl | (simp [errW_none, errW_some] <;> rfl) | (simp [*, errW_none, errW_some] <;> rfl), by first | exact Kd.R_nil _ _ _ _ _ | exact Kd.N_nil _ _ _ _ _ | exact Kd.V_nil _ _ _ _ _ | exact Kd.Q_nil _ _ _ _ _ | exact Kd.S_nil _ _ _ _ _, by repeat (first | (with_reducible first | exact HB.out | apply below_alloc | apply pw_below_drewN | apply below_drew1) | exact HB.out)⟩
 ·rw [if_neg c3] at H
  have c3b0 : decide ((l0.length : Int) ≤ (wrap64 (Int.tdiv a1 64))) = false := decide_eq_false c3
  clear c3
  obtain ⟨ji4, hji4⟩ : ∃ j_ : Int, (wrap64 (Int.tdiv a1 64)) = j_ := ⟨_, rfl⟩
  replace H : (if 0 ≤ (ji4) then (if (ji4) ≤ (l0.length : Int) then ((some (l0.drop ((ji4) : Int).toNat : List Int)).bind fun y754 => (if 0 ≤ (y754.length : Int) then (if ((y754.length : Int) : Int).toNat ≤ 35184372088832 then (impl_nat_right.l0 k y754 (List.replicate ((y754.length : Int) : Int).toNat 0) (IntKind.u64.wrap (Int.tmod a1 64)) (y754.length : Int) 0) else (none)) else (none))) else (none)) else (none)) = some r := by first | (rw [hji4] at H; exact H) | (simp only [hji4] at H ⊢; exact H)
  (try rw [hji4] at c3b0)
  have hji4w : (IntKind.i64.wrap (Int.tdiv a1 64)) = ji4 := (i64_w _).trans hji4
  by_cases c5 : 0 ≤ (ji4)
  ·rw [if_pos c5] at H
   have c5b0 := eq_true c5
   have c5b1 : decide (0 ≤ (ji4)) = true := decide_eq_true c5
   clear c5
   by_cases c6 : (ji4) ≤ (l0.length : Int)
   ·rw [if_pos c6] at H
    have c6b0 := eq_true c6
    have c6b1 : decide ((ji4) ≤ (l0.length : Int)) = true := decide_eq_true c6
    clear c6
    obtain ⟨y754, hy754⟩ : ∃ y_ : List Int, y_ = (l0.drop ((ji4) : Int).toNat) := ⟨_, rfl⟩
    replace H : (if 0 ≤ (y754.length : Int) then (if ((y754.length : Int) : Int).toNat ≤ 35184372088832 then (impl_nat_right.l0 k y754 (List.replicate ((y754.length : Int) : Int).toNat 0) (IntKind.u64.wrap (Int.tmod a1 64)) (y754.length : Int) 0) else (none)) else (none)) = some r := by first | (rw [hy754]; with_reducible exact H) | (have H2_ := (Option.bind_some _ _).symm.trans H; rw [hy754]; with_reducible exact H2_) | (have H2_ := (Option.bind_some _ _).symm.trans H; with_reducible exact H2_) | with_reducible exact H | (rw [hy754]; exact H) | exact H
    have Ny754 := Aside0.mk hy754
    clear hy754
    by_cases c7 : 0 ≤ (y754.length : Int)
    ·rw [if_pos c7] at H
     have c7b0 := eq_true c7
     have c7b1 : decide (0 ≤ (y754.length : Int)) = true := decide_eq_true c7
     clear c7
     by_cases c8 : ((y754.length : Int) : Int).toNat ≤ 35184372088832
     ·rw [if_pos c8] at H
      have c8b0 := eq_true c8
      have c8b1 : decide (((y754.length : Int) : Int).toNat ≤ 35184372088832) = true := decide_eq_true c8
      clear c8
      obtain ⟨y758, hy758⟩ : ∃ y_ : List Int, y_ = (List.replicate ((y754.length : Int) : Int).toNat 0) := ⟨_, rfl⟩
      replace H : (impl_nat_right.l0 k y754 y758 (IntKind.u64.wrap (Int.tmod a1 64)) (y754.length : Int) 0) = some r := by first | (rw [hy758]; with_reducible exact H) | (have H2_ := (Option.bind_some _ _).symm.trans H; rw [hy758]; with_reducible exact H2_) | (have H2_ := (Option.bind_some _ _).symm.trans H; with_reducible exact H2_) | with_reducible exact H | (rw [hy758]; exact H) | exact H
      have Ny758 := Aside0.mk hy758
      clear hy758
      have H' := Aside0.mk H
      clear H
      have q9 : ((ji4) : Int) ≤ ((l0.length : Int) : Int) := of_decide_eq_true (by first | (with_reducible assumption) | assumption)
      obtain ⟨i09, hi09, _, hsz9, _⟩ := info_parts info22
      have hroom9 : l0.length ≤ c0 := HC0.out
      have hC9 : Kd.C (Kd.int .u64) _ A0 l0.length l0 := HR0.out
      have q09 : (0 : Int) ≤ ((ji4) : Int) := of_decide_eq_true (by first | (with_reducible assumption) | assumption)
      have hcut9 := cut_from (P := Tryd.prog) 101 22 .i64 Tryd.underlying101 hi09 1 hsz9 A0 l0.length c0 (ji4) q09 q9
      have hr9 := Kd.C_drop (m := ((ji4) : Int).toNat) (c := c0) hC9 (by omega) hroom9
      obtain ⟨A9, hA9⟩ : ∃ A1, A1 = (if c0 = ((ji4) : Int).toNat then A0 else (A0 : Option Addr).map (·.add (((ji4) : Int).toNat * 1))) := ⟨_, rfl⟩
      obtain ⟨c9, hc9⟩ : ∃ c1, c1 = c0 - ((ji4) : Int).toNat := ⟨_, rfl⟩
      have hy9 : y754.length = l0.length - ((ji4) : Int).toNat := (by rw [Ny754.out, List.length_drop] <;> omega)
      rw [show (l0).drop ((ji4) : Int).toNat = y754 from Ny754.out.symm] at hr9
      replace hr9 : Kd.C (Kd.int .u64) _ A9 y754.length y754 := (by rw [hA9]; exact hr9)
      rw [← hy9, ← hA9, ← hc9] at hcut9
      have HR757 := Aside0.mk hr9
      have HC757 := Aside0.mk (show y754.length ≤ c9 from by rw [hy9, hc9]; exact Nat.sub_le_sub_right hroom9 _)
      clear hr9 hC9 hroom9 hi09 hsz9 hc9
      have KY9 := Aside0.mk hy9
      have KA9 := Aside0.mk hA9
      clear hy9 hA9
      replace q9 := eq_true q9
      go_enter Tryd.func129, Tryd.ntmps129
      go_wp2_with (first | ((with_reducible refine gate_dst (N := 19) rfl ?_); refine Kd.R_make (Kd.int .u64) _ 22 rfl (N := 19) rfl 41 _ _ rfl (y754.length : Int) rfl rfl Tryd.underlying41 (.int .u64 0) 8 info22 rfl (by decide) (by omega) 0 (ok := fun _ => True) (okp := fun _ => True) rfl (fun _ hk => hk) trivial (of_decide_eq_true (by first | (with_reducible assumption) | assumption)) (Nat.le_trans (Nat.mul_le_mul_right _ (of_decide_eq_true (by first | (with_reducible assumption) | assumption) : (y754.length : Int).toNat ≤ 35184372088832)) (by omega)) (Below.refl _ _) (Nat.le_refl _) ?_; intro v759 w10 ho11 hb hg_ hnew_; clear hg_ hnew_; (first | rw [← Ny758.out] at ho11 | (simp only [Int.reduceToNat] at ho11; rw [← Ny758.out] at ho11)); have n0_ := Aside0.mk (Kd.R_lower ho11 (below_size (by repeat (first | (with_reducible first | exact HB.out | apply below_alloc | apply pw_below_drewN | apply below_drew1) | exact HB.out)))); have n1_ := Aside0.mk (below_step (by repeat (first | (with_reducible first | exact HB.out | apply below_alloc | apply pw_below_drewN | apply below_drew1) | exact HB.out)) hb); clear HB; have HO760 := n0_; have HB := n1_; clear n0_ n1_; clear hb ho11))
      go_loopg [25] k (fun kq v25 w' => ∃ (x5_1 : List Int) (x25_1 : Int), v25 = .int .i64 x25_1 ∧ Aside0 (impl_nat_right.l0 kq y754 x5_1 (IntKind.u64.wrap (Int.tmod a1 64)) (y754.length : Int) x25_1 = some r) ∧ Aside0 (kq ≤ k) ∧ Aside0 (Kd.R (Kd.int .u64) 22 w' w.heap.size (fun _ => True) v759 x5_1) ∧ Aside0 (Below w.heap.size w w'))
      case atStart => exact ⟨(y758), (0), (by first | rfl | (simp; done) | (simp [*]; done)), H', ⟨Nat.le_refl _⟩, ⟨by (with_reducible repeat (first | apply Kd.R_alloc | apply Kd.R_drewN | apply Kd.R_drew)); exact HO760.out⟩, ⟨by repeat (first | (with_reducible first | exact HB.out | apply below_alloc | apply pw_below_drewN | apply below_drew1) | exact HB.out)⟩⟩
      case round =>
       clear H'
       try clear c1; try clear p2; try clear c3; try clear c3b0; try clear c5; try clear c5b0; try clear c5b1; try clear c6; try clear c6b0; try clear c6b1; try clear p6; try clear c7; try clear c7b0; try clear c7b1; try clear c8; try clear c8b0; try clear c8b1; try clear c9; try clear q9; try clear q09; try clear q9
       obtain ⟨x5_1, x25_1, rfl, HA, HK1, HO_5, HB⟩ := hrel
       cases gk with
       | zero => exact absurd HA.out (by simp [impl_nat_right.l0])
       | succ k1 =>
        have H := HA.out
        clear HA
        simp only [impl_nat_right.l0] at H
        by_cases c12 : x25_1 < (y754.length : Int)
        ·rw [if_pos c12] at H
         have c12b0 : decide (x25_1 < (y754.length : Int)) = true := decide_eq_true c12
         clear c12
         by_cases c13 : 0 ≤ x25_1
         ·rw [if_pos c13] at H
          have c13b0 : decide (0 ≤ x25_1) = true := decide_eq_true c13
          clear c13
          by_cases c14 : x25_1 < (y754.length : Int)
          ·rw [if_pos c14] at H
           have c14b0 : decide (x25_1 < (y754.length : Int)) = true := decide_eq_true c14
           clear c14
           obtain ⟨ji15, hji15⟩ : ∃ j_ : Int, (IntKind.u64.wrap (Int.tmod a1 64)) = j_ := ⟨_, rfl⟩
           replace H : (if 0 ≤ (ji15) then (if x25_1 < (x5_1.length : Int) then ((some (x5_1.set (x25_1 : Int).toNat (shr .u64 (rd y754 x25_1) (ji15)) : List Int)).bind fun y762 => (if (ji15) > 0 then (if (wrap64 (x25_1 + 1)) < (y754.length : Int) then (if 0 ≤ (wrap64 (x25_1 + 1)) then (if 0 ≤ (IntKind.u64.wrap (64 - (ji15))) then (impl_nat_right.l0 k1 y754 (y762.set (x25_1 : Int).toNat (Go.bits .or .u64 (rd y762 x25_1) (shl .u64 (rd y754 (wrap64 (x25_1 + 1))) (IntKind.u64.wrap (64 - (ji15)))))) (ji15) (y754.length : Int) (wrap64 (x25_1 + 1))) else (none)) else (none)) else (impl_nat_right.l0 k1 y754 y762 (ji15) (y754.length : Int) (wrap64 (x25_1 + 1)))) else (impl_nat_right.l0 k1 y754 y762 (ji15) (y754.length : Int) (wrap64 (x25_1 + 1))))) else (none)) else (none)) = some r := by first | (rw [hji15] at H; exact H) | (simp only [hji15] at H ⊢; exact H)
           by_cases c16 : 0 ≤ (ji15)
           ·rw [if_pos c16] at H
            have c16b0 := eq_true c16
            have c16b1 : decide (0 ≤ (ji15)) = true := decide_eq_true c16
            clear c16
            obtain ⟨ji17, hji17⟩ : ∃ j_ : Int, (shr .u64 (rd y754 x25_1) (ji15)) = j_ := ⟨_, rfl⟩
            replace H : (if x25_1 < (x5_1.length : Int) then ((some (x5_1.set (x25_1 : Int).toNat (ji17) : List Int)).bind fun y762 => (if (ji15) > 0 then (if (wrap64 (x25_1 + 1)) < (y754.length : Int) then (if 0 ≤ (wrap64 (x25_1 + 1)) then (if 0 ≤ (IntKind.u64.wrap (64 - (ji15))) then (impl_nat_right.l0 k1 y754 (y762.set (x25_1 : Int).toNat (Go.bits .or .u64 (rd y762 x25_1) (shl .u64 (rd y754 (wrap64 (x25_1 + 1))) (IntKind.u64.wrap (64 - (ji15)))))) (ji15) (y754.length : Int) (wrap64 (x25_1 + 1))) else (none)) else (none)) else (impl_nat_right.l0 k1 y754 y762 (ji15) (y754.length : Int) (wrap64 (x25_1 + 1)))) else (impl_nat_right.l0 k1 y754 y762 (ji15) (y754.length : Int) (wrap64 (x25_1 + 1))))) else (none)) = some r := by first | (rw [hji17] at H; exact H) | (simp only [hji17] at H ⊢; exact H)
            have hji17_ : ((rd y754 x25_1) / 2 ^ min (ji15).toNat 64) = ji17 := hji17
            have hji17z : (ji15) ≤ 64 → ((rd y754 x25_1) / 2 ^ (ji15).toNat) = ji17 := shr_small hji17
            by_cases c18 : x25_1 < (x5_1.length : Int)
            ·rw [if_pos c18] at H
             have c18b0 : decide (x25_1 < (x5_1.length : Int)) = true := decide_eq_true c18
             clear c18
             obtain ⟨y762, hy762⟩ : ∃ y_ : List Int, y_ = (x5_1.set (x25_1 : Int).toNat (ji17)) := ⟨_, rfl⟩
             replace H : (if (ji15) > 0 then (if (wrap64 (x25_1 + 1)) < (y754.length : Int) then (if 0 ≤ (wrap64 (x25_1 + 1)) then (if 0 ≤ (IntKind.u64.wrap (64 - (ji15))) then (impl_nat_right.l0 k1 y754 (y762.set (x25_1 : Int).toNat (Go.bits .or .u64 (rd y762 x25_1) (shl .u64 (rd y754 (wrap64 (x25_1 + 1))) (IntKind.u64.wrap (64 - (ji15)))))) (ji15) (y754.length : Int) (wrap64 (x25_1 + 1))) else (none)) else (none)) else (impl_nat_right.l0 k1 y754 y762 (ji15) (y754.length : Int) (wrap64 (x25_1 + 1)))) else (impl_nat_right.l0 k1 y754 y762 (ji15) (y754.length : Int) (wrap64 (x25_1 + 1)))) = some r := by first | (rw [hy762]; with_reducible exact H) | (have H2_ := (Option.bind_some _ _).symm.trans H; rw [hy762]; with_reducible exact H2_) | (have H2_ := (Option.bind_some _ _).symm.trans H; with_reducible exact H2_) | with_reducible exact H | (rw [hy762]; exact H) | exact H
             have Ny762 := Aside0.mk hy762
             clear hy762
             by_cases c20 : (ji15) > 0
             ·rw [if_pos c20] at H
              have c20b0 : decide (0 < (ji15)) = true := decide_eq_true c20
              clear c20
              by_cases c21 : (wrap64 (x25_1 + 1)) < (y754.length : Int)
              ·rw [if_pos c21] at H
               have c21b0 : decide ((wrap64 (x25_1 + 1)) < (y754.length : Int)) = true := decide_eq_true c21
               clear c21
               obtain ⟨ji22, hji22⟩ : ∃ j_ : Int, (wrap64 (x25_1 + 1)) = j_ := ⟨_, rfl⟩
               replace H : (if 0 ≤ (ji22) then (if 0 ≤ (IntKind.u64.wrap (64 - (ji15))) then (impl_nat_right.l0 k1 y754 (y762.set (x25_1 : Int).toNat (Go.bits .or .u64 (rd y762 x25_1) (shl .u64 (rd y754 (ji22)) (IntKind.u64.wrap (64 - (ji15)))))) (ji15) (y754.length : Int) ji22) else (none)) else (none)) = some r := by first | (rw [hji22] at H; exact H) | (simp only [hji22] at H ⊢; exact H)
               (try rw [hji22] at c21b0)
               have hji22w : (IntKind.i64.wrap (x25_1 + 1)) = ji22 := (i64_w _).trans hji22
               by_cases c23 : 0 ≤ (ji22)
               ·rw [if_pos c23] at H
                have c23b0 : decide (0 ≤ (ji22)) = true := decide_eq_true c23
                clear c23
                obtain ⟨ji24, hji24⟩ : ∃ j_ : Int, (IntKind.u64.wrap (64 - (ji15))) = j_ := ⟨_, rfl⟩
                replace H : (if 0 ≤ (ji24) then (impl_nat_right.l0 k1 y754 (y762.set (x25_1 : Int).toNat (Go.bits .or .u64 (rd y762 x25_1) (shl .u64 (rd y754 (ji22)) (ji24)))) (ji15) (y754.length : Int) ji22) else (none)) = some r := by first | (rw [hji24] at H; exact H) | (simp only [hji24] at H ⊢; exact H)
                by_cases c25 : 0 ≤ (ji24)
                ·rw [if_pos c25] at H
                 have c25b0 := eq_true c25
                 have c25b1 : decide (0 ≤ (ji24)) = true := decide_eq_true c25
                 clear c25
                 obtain ⟨ji26, hji26⟩ : ∃ j_ : Int, (shl .u64 (rd y754 (ji22)) (ji24)) = j_ := ⟨_, rfl⟩
                 replace H : (impl_nat_right.l0 k1 y754 (y762.set (x25_1 : Int).toNat (Go.bits .or .u64 (rd y762 x25_1) (ji26))) (ji15) (y754.length : Int) ji22) = some r := by first | (rw [hji26] at H; exact H) | (simp only [hji26] at H ⊢; exact H)
                 have hji26_ : (IntKind.u64.wrap ((rd y754 (ji22)) * 2 ^ min (ji24).toNat 64)) = ji26 := hji26
                 have hji26z : (ji24) ≤ 64 → (IntKind.u64.wrap ((rd y754 (ji22)) * 2 ^ (ji24).toNat)) = ji26 := shl_small hji26
                 obtain ⟨y765, hy765⟩ : ∃ y_ : List Int, y_ = (y762.set (x25_1 : Int).toNat (Go.bits .or .u64 (rd y762 x25_1) (ji26))) := ⟨_, rfl⟩
                 replace H : (impl_nat_right.l0 k1 y754 y765 (ji15) (y754.length : Int) ji22) = some r := by first | (rw [hy765]; with_reducible exact H) | (have H2_ := (Option.bind_some _ _).symm.trans H; rw [hy765]; with_reducible exact H2_) | (have H2_ := (Option.bind_some _ _).symm.trans H; with_reducible exact H2_) | with_reducible exact H | (rw [hy765]; exact H) | exact H
                 have Ny765 := Aside0.mk hy765
                 clear hy765
                 have H' := Aside0.mk H
                 clear H
                 have p761 : 0 ≤ (x25_1 : Int) := of_decide_eq_true (by first | (with_reducible assumption) | assumption)
                 have q761 : x25_1 < (y754.length : Int) := of_decide_eq_true (by first | (with_reducible assumption) | assumption)
                 obtain ⟨ad761, e761, hx761_0⟩ := Kd.at_int HR757.out x25_1 p761 q761
                 cases e761
                 replace hx761_0 := (HB.out.cell (World.block_lt_of_cell? w _ hx761_0)).trans hx761_0
                 replace p761 := eq_true p761
                 replace q761 := eq_true q761
                 have p19 : 0 ≤ (x25_1 : Int) := of_decide_eq_true (by first | (with_reducible assumption) | assumption)
                 have q19 : (x25_1 : Int) < ((x5_1.length : Int) : Int) := of_decide_eq_true (by first | (with_reducible assumption) | assumption)
                 obtain ⟨go19, co19, eo19, gb19, gl19, cl19, HG19⟩ := Kd.R_form HO_5.out (by omega)
                 (first | cases eo19 | (injection eo19 with ea_ en_ ec_; (first | subst ea_ | (injection ea_ with ea_; subst ea_)); subst ec_; clear en_))
                 have GB19 := Aside0.mk gb19
                 have GG19 := Aside0.mk HG19
                 clear gb19 gl19 HG19
                 obtain ⟨hx19_0, hf19_0⟩ := Kd.R_celln 0 HO_5.out (x25_1 : Int) p19 q19
                 replace p19 := eq_true p19
                 replace q19 := eq_true q19
                 have HP28 := Kd.R_putg HO_5.out (x25_1 : Int) ji17
                 try go_wp2_with (first | ((with_reducible refine gate_store (t := 22) (p := 36) rfl ?_); refine store_event (t := 22) (p := 36) (v := ?vo_w29) (w1 := (wr.setCell ⟨go19, (x25_1 : Int).toNat, none⟩ (.int .u64 ji17))) ?hg ?ho ?hn ?hr ?_; (case ho => rfl); (case hg => rfl); (case hn => rfl); (case hr => first | (go_simp; done) | (go_simp; rfl)); intro w29 hw; have hg : wr.grownBy w29 (some go19) := (by rw [hw]; exact HP28.2); have hp_ : Kd.R (Kd.int .u64) 22 w29 w.heap.size (fun _ => True) (.slice (some ⟨go19, 0, none⟩) x5_1.length co19) y762 := (by rw [hw, Ny762.out]; exact HP28.1); clear HP28; have n0_ := Aside0.mk (hp_); have n1_ := Aside0.mk ((by rw [hw]; exact below_set (HB.out) GB19.out : Below w.heap.size w w29)); clear HO_5; clear HB; have HO_5 := n0_; have HB := n1_; clear n0_ n1_; clear hg hw hp_))
                 have n0_ := Aside0.mk (Kd.R_drew HO_5.out)
                 have n1_ := Aside0.mk (below_drew1 HB.out)
                 clear HO_5
                 clear HB
                 have HO_5 := n0_
                 have HB := n1_
                 clear n0_ n1_
                 have p763 : 0 ≤ (x25_1 : Int) := of_decide_eq_true (by first | (with_reducible assumption) | assumption)
                 have q763 : x25_1 < (y762.length : Int) := (by have h_ : (x25_1 : Int) < ((x5_1.length : Int) : Int) := of_decide_eq_true (by first | (with_reducible assumption) | assumption); first | (have e_ := (Kd.R_reads' HO_5.out).1; omega) | simpa only [Ny762.out, List.length_set] using h_)
                 have ql763 : ((x25_1 : Int) < ((x5_1.length : Int) : Int)) = True := eq_true (of_decide_eq_true (by first | (with_reducible assumption) | assumption))
                 obtain ⟨ad763, e763, hx763_0⟩ := Kd.at_int (Kd.R_reads' HO_5.out).2.2 x25_1 p763 q763
                 obtain rfl : (⟨go19, 0, none⟩ : Addr) = ad763 := (by injection e763)
                 (first | simp only [add_plain] at hx763_0 | simp only [add_at] at hx763_0 | simp only [Addr.add, Nat.zero_add] at hx763_0 | skip)
                 replace p763 := eq_true p763
                 replace q763 := eq_true q763
                 have p764 : 0 ≤ ((ji22) : Int) := of_decide_eq_true (by first | (with_reducible assumption) | assumption)
                 have q764 : (ji22) < (y754.length : Int) := of_decide_eq_true (by first | (with_reducible assumption) | assumption)
                 obtain ⟨ad764, e764, hx764_0⟩ := Kd.at_int HR757.out (ji22) p764 q764
                 have hw764_0 := hx764_0
                 obtain rfl : ad761 = ad764 := (by injection e764)
                 replace hx764_0 := (HB.out.cell (World.block_lt_of_cell? w _ hx764_0)).trans hx764_0
                 replace p764 := eq_true p764
                 replace q764 := eq_true q764
                 have p27 : 0 ≤ (x25_1 : Int) := of_decide_eq_true (by first | (with_reducible assumption) | assumption)
                 have q27 : (x25_1 : Int) < ((x5_1.length : Int) : Int) := of_decide_eq_true (by first | (with_reducible assumption) | assumption)
                 obtain ⟨hx27_0, hf27_0⟩ := Kd.R_celln 0 HO_5.out (x25_1 : Int) p27 q27
                 replace p27 := eq_true p27
                 replace q27 := eq_true q27
                 have HP31 := Kd.R_putn HO_5.out (x25_1 : Int) (Go.bits .or .u64 (rd y762 x25_1) (ji26))
                 rw [← Ny765.out] at HP31
                 have HQ31 := Aside0.mk HP31
                 clear HP31
                 refine start_ (n := 15) (S := fun w' => w'.cell? ⟨go19, (x25_1).toNat, none⟩ = some (.int .u64 (rd y762 x25_1)) ∧ w'.cell? (ad761.add ((ji22)).toNat) = some (.int .u64 (rd y754 (ji22)))) (ds := [14]) #[false, false, false, false, false, false, false, false, false, false, false, false, false, false, false] (by kernel_rfl) rfl rfl ⟨hx763_0, ((HB.out.cell (World.block_lt_of_cell? w _ hw764_0)).trans hw764_0)⟩ (fun hHeld => ?_); refine with_tabW impl_nat_right.tab11 impl_nat_right.bits11 (fun HT_ HW_ => ?_)
                 generalize w29.drew = w30 at HO_5 HB HQ31 hf27_0 hx27_0 hx763_0 hx764_0 hHeld ⊢
                 refine pure_ (i := 0) (N := some 46) (v := ?_) (a' := ?_) #[true, false, false, false, false, false, false, false, false, false, false, false, false, false, false] rfl rfl (any_of HT_.out (by kernel_rfl)) (fun _ _ _ h => h) (Or.inl ⟨by rfl, ?_⟩) ?_ ?_
                 rotate_left
                 ·intro w'
                  go_simp
                  with_reducible rfl
                 rotate_left
                 ·simp only [Act.put, List.setIfInBounds_toArray, List.set_cons_zero, List.set_cons_succ, i64_w, i32_w]
                  rfl
                 refine pure_ (i := 1) (N := some 47) (v := ?_) (a' := ?_) #[true, true, false, false, false, false, false, false, false, false, false, false, false, false, false] rfl rfl (any_of HT_.out (by kernel_rfl)) (fun _ _ _ h => h) (Or.inl ⟨by rfl, ?_⟩) ?_ ?_
                 rotate_left
                 ·intro w'
                  go_simp
                  with_reducible rfl
                 rotate_left
                 ·simp only [Act.put, List.setIfInBounds_toArray, List.set_cons_zero, List.set_cons_succ, i64_w, i32_w]
                  rfl
                 refine pure_ (i := 2) (N := some 48) (v := ?_) (a' := ?_) #[true, true, true, false, false, false, false, false, false, false, false, false, false, false, false] rfl rfl (any_of HT_.out (by kernel_rfl)) (fun _ _ _ h => h) (Or.inl ⟨by rfl, ?_⟩) ?_ ?_
                 rotate_left
                 ·intro w'
                  go_simp
                  with_reducible rfl
                 rotate_left
                 ·simp only [Act.put, List.setIfInBounds_toArray, List.set_cons_zero, List.set_cons_succ, i64_w, i32_w]
                  rfl
                 refine pure_ (i := 4) (N := some 50) (v := ?_) (a' := ?_) #[true, true, true, false, true, false, false, false, false, false, false, false, false, false, false] rfl rfl (any_of HT_.out (by kernel_rfl)) (fun _ _ _ h => h) (Or.inl ⟨by rfl, ?_⟩) ?_ ?_
                 rotate_left
                 ·intro w'
                  go_simp
                  with_reducible rfl
                 rotate_left
                 ·simp only [Act.put, List.setIfInBounds_toArray, List.set_cons_zero, List.set_cons_succ, i64_w, i32_w]
                  rfl
                 refine pure_ (i := 5) (N := some 51) (v := ?_) (a' := ?_) #[true, true, true, false, true, true, false, false, false, false, false, false, false, false, false] rfl rfl (any_of HT_.out (by kernel_rfl)) (fun _ _ _ h => h) (Or.inl ⟨by rfl, ?_⟩) ?_ ?_
                 rotate_left
                 ·intro w'
                  go_simp
                  with_reducible rfl
                 rotate_left
                 ·simp only [Act.put, List.setIfInBounds_toArray, List.set_cons_zero, List.set_cons_succ, i64_w, i32_w]
                  rfl
                 refine pure_ (i := 6) (N := some 52) (v := ?_) (a' := ?_) #[true, true, true, false, true, true, true, false, false, false, false, false, false, false, false] rfl rfl (any_of HT_.out (by kernel_rfl)) (fun _ _ _ h => h) (Or.inl ⟨by rfl, ?_⟩) ?_ ?_
                 rotate_left
                 ·intro w'
                  go_simp
                  with_reducible rfl
                 rotate_left
                 ·simp only [Act.put, List.setIfInBounds_toArray, List.set_cons_zero, List.set_cons_succ, i64_w, i32_w]
                  rfl
                 refine pure_ (i := 7) (N := some 53) (v := ?_) (a' := ?_) #[true, true, true, false, true, true, true, true, false, false, false, false, false, false, false] rfl rfl (any_of HT_.out (by kernel_rfl)) (fun _ _ _ h => h) (Or.inl ⟨by rfl, ?_⟩) ?_ ?_
                 rotate_left
                 ·intro w'
                  go_simp
                  with_reducible rfl
                 rotate_left
                 ·simp only [Act.put, List.setIfInBounds_toArray, List.set_cons_zero, List.set_cons_succ, i64_w, i32_w]
                  rfl
                 refine pure_ (i := 9) (N := some 55) (v := ?_) (a' := ?_) #[true, true, true, false, true, true, true, true, false, true, false, false, false, false, false] rfl rfl (any_of HT_.out (by kernel_rfl)) (fun _ _ _ h => h) (Or.inl ⟨by rfl, ?_⟩) ?_ ?_
                 rotate_left
                 ·intro w'
                  go_simp
                  with_reducible rfl
                 rotate_left
                 ·simp only [Act.put, List.setIfInBounds_toArray, List.set_cons_zero, List.set_cons_succ, i64_w, i32_w]
                  rfl
                 refine pure_ (i := 10) (N := some 56) (v := ?_) (a' := ?_) #[true, true, true, false, true, true, true, true, false, true, true, false, false, false, false] rfl rfl (any_of HT_.out (by kernel_rfl)) (fun _ _ _ h => h) (Or.inl ⟨by rfl, ?_⟩) ?_ ?_
                 rotate_left
                 ·intro w'
                  go_simp
                  with_reducible rfl
                 rotate_left
                 ·simp only [Act.put, List.setIfInBounds_toArray, List.set_cons_zero, List.set_cons_succ, i64_w, i32_w]
                  rfl
                 refine take_ (i := 3) (N := some 49) (v := ?_) (a' := ?_) #[true, true, true, true, true, true, true, true, false, true, true, false, false, false, false] rfl rfl (take_ofW HT_.out HW_.out (by kernel_rfl)) (fun _ _ _ h => h) (Or.inl ⟨by rfl, ?_⟩) hHeld ?_ ?_
                 rotate_left
                 ·rintro w' ⟨s0, s1⟩
                  go_simp
                  with_reducible rfl
                 rotate_left
                 ·simp only [Act.put, List.setIfInBounds_toArray, List.set_cons_zero, List.set_cons_succ, i64_w, i32_w]
                  rfl
                 refine take_ (i := 8) (N := some 54) (v := ?_) (a' := ?_) #[true, true, true, true, true, true, true, true, true, true, true, false, false, false, false] rfl rfl (take_ofW HT_.out HW_.out (by kernel_rfl)) (fun _ _ _ h => h) (Or.inl ⟨by rfl, ?_⟩) hHeld ?_ ?_
                 rotate_left
                 ·rintro w' ⟨s0, s1⟩
                  go_simp
                  with_reducible rfl
                 rotate_left
                 ·simp only [Act.put, List.setIfInBounds_toArray, List.set_cons_zero, List.set_cons_succ, i64_w, i32_w]
                  rfl
                 refine pure_ (i := 11) (N := some 57) (v := ?_) (a' := ?_) #[true, true, true, true, true, true, true, true, true, true, true, true, false, false, false] rfl rfl (any_of HT_.out (by kernel_rfl)) (fun _ _ _ h => h) (Or.inl ⟨by rfl, ?_⟩) ?_ ?_
                 rotate_left
                 ·intro w'
                  go_simp
                  with_reducible rfl
                 rotate_left
                 ·simp only [Act.put, List.setIfInBounds_toArray, List.set_cons_zero, List.set_cons_succ, i64_w, i32_w]
                  rfl
                 refine pure_ (i := 12) (N := some 58) (v := ?_) (a' := ?_) #[true, true, true, true, true, true, true, true, true, true, true, true, true, false, false] rfl rfl (any_of HT_.out (by kernel_rfl)) (fun _ _ _ h => h) (Or.inl ⟨by rfl, ?_⟩) ?_ ?_
                 rotate_left
                 ·intro w'
                  go_simp
                  with_reducible rfl
                 rotate_left
                 ·simp only [Act.put, List.setIfInBounds_toArray, List.set_cons_zero, List.set_cons_succ, i64_w, i32_w]
                  rfl
                 refine pure_ (i := 13) (N := some 59) (v := ?_) (a' := ?_) #[true, true, true, true, true, true, true, true, true, true, true, true, true, true, false] rfl rfl (any_of HT_.out (by kernel_rfl)) (fun _ _ _ h => h) (Or.inl ⟨by rfl, ?_⟩) ?_ ?_
                 rotate_left
                 ·intro w'
                  go_simp
                  with_reducible rfl
                 rotate_left
                 ·simp only [Act.put, List.setIfInBounds_toArray, List.set_cons_zero, List.set_cons_succ, i64_w, i32_w]
                  rfl
                 refine last_ (i := 14) (N := none) #[true, true, true, true, true, true, true, true, true, true, true, true, true, true, true] rfl rfl (one_of HT_.out (by kernel_rfl)) (by decide) (fun K hK => ?_)
                 refine skip_ (w1 := ?_) (by rfl) rfl ?_ ?_
                 rotate_left
                 ·go_simp
                  rfl
                 refine hK.out _ _ ?_
                 clear hK K
                 refine done_ (done_of HT_.out (by kernel_rfl)) ?_
                 try go_wp2
                 (try subst hji26)
                 (try subst hji24)
                 (try subst hji17)
                 (try subst hji15)
                 go_roundg k1
                 case measure => have := HK1.out; omega
                 case rel => exact ⟨(y765), (ji22), (by first | rfl | (simp; done) | (simp only [← hji22] <;> (first | rfl | simp)) | (simp [*]; done)), H', ⟨by have := HK1.out; omega⟩, ⟨by (with_reducible repeat (first | apply Kd.R_alloc | apply Kd.R_drewN | apply Kd.R_drew)); exact HQ31.out⟩, ⟨by repeat (first | (with_reducible first | exact HB.out | apply below_alloc | apply pw_below_drewN | apply below_drew1 | refine below_set ?_ GB19.out) | exact HB.out)⟩⟩
                ·rw [if_neg c25] at H
                 exact absurd H (by simp)
               ·rw [if_neg c23] at H
                exact absurd H (by simp)
              ·rw [if_neg c21] at H
               have c21b0 : decide ((wrap64 (x25_1 + 1)) < (y754.length : Int)) = false := decide_eq_false c21
               clear c21
               have H' := Aside0.mk H
               clear H
               have p761 : 0 ≤ (x25_1 : Int) := of_decide_eq_true (by first | (with_reducible assumption) | assumption)
               have q761 : x25_1 < (y754.length : Int) := of_decide_eq_true (by first | (with_reducible assumption) | assumption)
               obtain ⟨ad761, e761, hx761_0⟩ := Kd.at_int HR757.out x25_1 p761 q761
               cases e761
               replace hx761_0 := (HB.out.cell (World.block_lt_of_cell? w _ hx761_0)).trans hx761_0
               replace p761 := eq_true p761
               replace q761 := eq_true q761
               have p19 : 0 ≤ (x25_1 : Int) := of_decide_eq_true (by first | (with_reducible assumption) | assumption)
               have q19 : (x25_1 : Int) < ((x5_1.length : Int) : Int) := of_decide_eq_true (by first | (with_reducible assumption) | assumption)
               obtain ⟨go19, co19, eo19, gb19, gl19, cl19, HG19⟩ := Kd.R_form HO_5.out (by omega)
               (first | cases eo19 | (injection eo19 with ea_ en_ ec_; (first | subst ea_ | (injection ea_ with ea_; subst ea_)); subst ec_; clear en_))
               have GB19 := Aside0.mk gb19
               have GG19 := Aside0.mk HG19
               clear gb19 gl19 HG19
               obtain ⟨hx19_0, hf19_0⟩ := Kd.R_celln 0 HO_5.out (x25_1 : Int) p19 q19
               replace p19 := eq_true p19
               replace q19 := eq_true q19
               have HP32 := Kd.R_putg HO_5.out (x25_1 : Int) ji17
               go_wp2_with (first | ((with_reducible refine gate_store (t := 22) (p := 36) rfl ?_); refine store_event (t := 22) (p := 36) (v := ?vo_w33) (w1 := (wr.setCell ⟨go19, (x25_1 : Int).toNat, none⟩ (.int .u64 ji17))) ?hg ?ho ?hn ?hr ?_; (case ho => rfl); (case hg => rfl); (case hn => rfl); (case hr => first | (go_simp; done) | (go_simp; rfl)); intro w33 hw; have hg : wr.grownBy w33 (some go19) := (by rw [hw]; exact HP32.2); have hp_ : Kd.R (Kd.int .u64) 22 w33 w.heap.size (fun _ => True) (.slice (some ⟨go19, 0, none⟩) x5_1.length co19) y762 := (by rw [hw, Ny762.out]; exact HP32.1); clear HP32; have n0_ := Aside0.mk (hp_); have n1_ := Aside0.mk ((by rw [hw]; exact below_set (HB.out) GB19.out : Below w.heap.size w w33)); clear HO_5; clear HB; have HO_5 := n0_; have HB := n1_; clear n0_ n1_; clear hg hw hp_))
               (try subst hji17)
               (try subst hji15)
               go_roundg k1
               case measure => have := HK1.out; omega
               case rel => exact ⟨(y762), (wrap64 (x25_1 + 1)), (by first | rfl | (simp; done) | (simp [*]; done)), H', ⟨by have := HK1.out; omega⟩, ⟨by (with_reducible repeat (first | apply Kd.R_alloc | apply Kd.R_drewN | apply Kd.R_drew)); exact HO_5.out⟩, ⟨by repeat (first | (with_reducible first | exact HB.out | apply below_alloc | apply pw_below_drewN | apply below_drew1) | exact HB.out)⟩⟩
             ·rw [if_neg c20] at H
              have c20b0 : decide (0 < (ji15)) = false := decide_eq_false c20
              clear c20
              have H' := Aside0.mk H
              clear H
              have p761 : 0 ≤ (x25_1 : Int) := of_decide_eq_true (by first | (with_reducible assumption) | assumption)
              have q761 : x25_1 < (y754.length : Int) := of_decide_eq_true (by first | (with_reducible assumption) | assumption)
              obtain ⟨ad761, e761, hx761_0⟩ := Kd.at_int HR757.out x25_1 p761 q761
              cases e761
              replace hx761_0 := (HB.out.cell (World.block_lt_of_cell? w _ hx761_0)).trans hx761_0
              replace p761 := eq_true p761
              replace q761 := eq_true q761
              have p19 : 0 ≤ (x25_1 : Int) := of_decide_eq_true (by first | (with_reducible assumption) | assumption)
              have q19 : (x25_1 : Int) < ((x5_1.length : Int) : Int) := of_decide_eq_true (by first | (with_reducible assumption) | assumption)
              obtain ⟨go19, co19, eo19, gb19, gl19, cl19, HG19⟩ := Kd.R_form HO_5.out (by omega)
              (first | cases eo19 | (injection eo19 with ea_ en_ ec_; (first | subst ea_ | (injection ea_ with ea_; subst ea_)); subst ec_; clear en_))
              have GB19 := Aside0.mk gb19
              have GG19 := Aside0.mk HG19
              clear gb19 gl19 HG19
              obtain ⟨hx19_0, hf19_0⟩ := Kd.R_celln 0 HO_5.out (x25_1 : Int) p19 q19
              replace p19 := eq_true p19
              replace q19 := eq_true q19
              have HP34 := Kd.R_putg HO_5.out (x25_1 : Int) ji17
              go_wp2_with (first | ((with_reducible refine gate_store (t := 22) (p := 36) rfl ?_); refine store_event (t := 22) (p := 36) (v := ?vo_w35) (w1 := (wr.setCell ⟨go19, (x25_1 : Int).toNat, none⟩ (.int .u64 ji17))) ?hg ?ho ?hn ?hr ?_; (case ho => rfl); (case hg => rfl); (case hn => rfl); (case hr => first | (go_simp; done) | (go_simp; rfl)); intro w35 hw; have hg : wr.grownBy w35 (some go19) := (by rw [hw]; exact HP34.2); have hp_ : Kd.R (Kd.int .u64) 22 w35 w.heap.size (fun _ => True) (.slice (some ⟨go19, 0, none⟩) x5_1.length co19) y762 := (by rw [hw, Ny762.out]; exact HP34.1); clear HP34; have n0_ := Aside0.mk (hp_); have n1_ := Aside0.mk ((by rw [hw]; exact below_set (HB.out) GB19.out : Below w.heap.size w w35)); clear HO_5; clear HB; have HO_5 := n0_; have HB := n1_; clear n0_ n1_; clear hg hw hp_))
              (try subst hji17)
              (try subst hji15)
              go_roundg k1
              case measure => have := HK1.out; omega
              case rel => exact ⟨(y762), (wrap64 (x25_1 + 1)), (by first | rfl | (simp; done) | (simp [*]; done)), H', ⟨by have := HK1.out; omega⟩, ⟨by (with_reducible repeat (first | apply Kd.R_alloc | apply Kd.R_drewN | apply Kd.R_drew)); exact HO_5.out⟩, ⟨by repeat (first | (with_reducible first | exact HB.out | apply below_alloc | apply pw_below_drewN | apply below_drew1) | exact HB.out)⟩⟩
            ·rw [if_neg c18] at H
             exact absurd H (by simp)
           ·rw [if_neg c16] at H
            exact absurd H (by simp)
          ·rw [if_neg c14] at H
           exact absurd H (by simp)
         ·rw [if_neg c13] at H
          exact absurd H (by simp)
        ·rw [if_neg c12] at H
         have c12b0 : decide (x25_1 < (y754.length : Int)) = false := decide_eq_false c12
         clear c12
         obtain ⟨y766, hy766⟩ : ∃ y_ : List Int, y_ = (trimL x5_1) := ⟨_, rfl⟩
         replace H : (some y766) = some r := by first | (rw [hy766]; with_reducible exact H) | (have H2_ := (Option.bind_some _ _).symm.trans H; rw [hy766]; with_reducible exact H2_) | (have H2_ := (Option.bind_some _ _).symm.trans H; with_reducible exact H2_) | with_reducible exact H | (rw [hy766]; exact H) | exact H
         have Ny766 := Aside0.mk hy766
         clear hy766
         obtain rfl := Option.some.inj H
         obtain ⟨Ao37, co37, eo37⟩ := Kd.R_slice HO_5.out
         subst eo37
         go_wp2_with (first | ((with_reducible refine gate_callee (f := 103) rfl ?_); refine goesL_ (some 62) rfl rfl Tryd.func103 (by kernel_rfl) rfl #[.slice Ao37 x5_1.length co37] rfl (by (try simp only [List.map_toArray, List.map_cons, List.map_nil]); first | done | rfl | (simp only [List.length_drop, List.length_take]; rfl)) ?_; (with_reducible refine (trimmed_calls Ao37 x5_1.length co37 x5_1 y766 _ (Kd.R_reads' HO_5.out).1 Ny766.out ?sidea ?sideb).mono ?_); (case sidea => repeat (first | exact (Kd.R_reads' HO_5.out).2.2 | (with_reducible refine Kd.C_alloc ?_ _) | (with_reducible refine Kd.C_drewN ?_ _) | (with_reducible refine Kd.C_drew ?_))); (case sideb => exact (Kd.R_reads' HO_5.out).2.1); rintro e w' ⟨rfl, rfl⟩; refine ⟨_, rfl, ?_⟩; have nt_ := Aside0.mk (R_trim HO_5.out); rw [← Ny766.out] at nt_; clear HO_5; have HO768 := nt_; clear nt_))
         go_ret
         exact ⟨_, by first | rfl | (simp [errW_none, errW_some] <;> rfl) | (simp only [← hji4]; first | rfl | (simp [errW_none, errW_some] <;> rfl)) | (simp [*, errW_none, errW_some] <;> rfl), by (with_reducible repeat (first | apply Kd.R_alloc | apply Kd.R_drewN | apply Kd.R_drew)); exact HO768.out, by repeat (first | (with_reducible first | exact HB.out | apply below_alloc | apply pw_below_drewN | apply below_drew1) | exact HB.out)⟩
     ·rw [if_neg c8] at H
      exact absurd H (by simp)
    ·rw [if_neg c7] at H
     exact absurd H (by simp)
   ·rw [if_neg c6] at H
    exact absurd H (by simp)
  ·rw [if_neg c5] at H
   exact absurd H (by simp)
end Go.Proofs.YtdbnmdchecacdaaDoor.PL
end
section
namespace Go.Proofs.YtdbnmdchecacdaaDoor.M
open Go.RowKit Go.Proofs.YtdbnmdchecacdaaDoor.G Go.Proofs.YtdbnmdchecacdaaDoorV.PrintWords Go.Proofs.YtdbnmdchecacdaaDoorV.PrintLast Go.Proofs.YtdbnmdchecacdaaDoorV.PrintMore Go.Proofs.YtdbnmdchecacdaaDoor.PL
set_option linter.unusedVariables false
set_option linter.unusedSimpArgs false
def Clear (l : List Int) (n : Nat) : Prop := ∀ m : Nat, n ≤ m → rd l (m : Int) = 0
theorem Clear.set {l : List Int} {n p : Nat} {x : Int} (h : Clear l n) (hp : p < n) : Clear (l.set p x) n := fun m hm => by rw [rd_set_ne _ _ _ _ (by omega)]; exact h m hm
theorem Clear.zeros (n m : Nat) : Clear (List.replicate n 0) m := fun k hk => by
  rw [rd_nat, List.getD_eq_getElem?_getD, List.getElem?_replicate]
  split <;> rfl
end Go.Proofs.YtdbnmdchecacdaaDoor.M
end
section
namespace Go.Proofs.YtdbnmdchecacdaaDoor.PL
open Go.RowKit Go.Proofs.YtdbnmdchecacdaaDoor.G Go.Proofs.YtdbnmdchecacdaaDoorV.PrintWords Go.Proofs.YtdbnmdchecacdaaDoorV.PrintLast Go.Proofs.YtdbnmdchecacdaaDoorV.PrintMore
attribute [local go_sem] max2_int min2_int max_two min_two max_three min_three max_four min_four run_Add64 run_Sub64 fld25_1
set_option linter.unusedVariables false
set_option linter.unusedSimpArgs false
def bits_Len64.j0 : Nat → Int → Int → Option (Int)
 | 0, _, _ => none
 | k + 1, x0, x2 => if x0 ≥ 65536 then (if (x0 / 65536) ≥ 256 then (if 0 ≤ (((x0 / 65536) / 256) % 256) then (if (((x0 / 65536) / 256) % 256) < 256 then (some (wrap64 ((wrap64 ((wrap64 (x2 + 16)) + 8)) + (wrap64 (bt (⟨#[0, 1, 2, 2, 3, 3, 3, 3, 4, 4, 4, 4, 4, 4, 4, 4, 5, 5, 5, 5, 5, 5, 5, 5, 5, 5, 5, 5, 5, 5, 5, 5, 6, 6, 6, 6, 6, 6, 6, 6, 6, 6, 6, 6, 6, 6, 6, 6, 6, 6, 6, 6, 6, 6, 6, 6, 6, 6, 6, 6, 6, 6, 6, 6, 7, 7, 7, 7, 7, 7, 7, 7, 7, 7, 7, 7, 7, 7, 7, 7, 7, 7, 7, 7, 7, 7, 7, 7, 7, 7, 7, 7, 7, 7, 7, 7, 7, 7, 7, 7, 7, 7, 7, 7, 7, 7, 7, 7, 7, 7, 7, 7, 7, 7, 7, 7, 7, 7, 7, 7, 7, 7, 7, 7, 7, 7, 7, 7, 8, 8, 8, 8, 8, 8, 8, 8, 8, 8, 8, 8, 8, 8, 8, 8, 8, 8, 8, 8, 8, 8, 8, 8, 8, 8, 8, 8, 8, 8, 8, 8, 8, 8, 8, 8, 8, 8, 8, 8, 8, 8, 8, 8, 8, 8, 8, 8, 8, 8, 8, 8, 8, 8, 8, 8, 8, 8, 8, 8, 8, 8, 8, 8, 8, 8, 8, 8, 8, 8, 8, 8, 8, 8, 8, 8, 8, 8, 8, 8, 8, 8, 8, 8, 8, 8, 8, 8, 8, 8, 8, 8, 8, 8, 8, 8, 8, 8, 8, 8, 8, 8, 8, 8, 8, 8, 8, 8, 8, 8, 8, 8, 8, 8, 8, 8, 8, 8, 8, 8, 8, 8, 8, 8, 8, 8, 8, 8]⟩ : ByteArray) (((x0 / 65536) / 256) % 256)))))) else (none)) else (none)) else (if 0 ≤ ((x0 / 65536) % 256) then (if ((x0 / 65536) % 256) < 256 then (some (wrap64 ((wrap64 (x2 + 16)) + (wrap64 (bt (⟨#[0, 1, 2, 2, 3, 3, 3, 3, 4, 4, 4, 4, 4, 4, 4, 4, 5, 5, 5, 5, 5, 5, 5, 5, 5, 5, 5, 5, 5, 5, 5, 5, 6, 6, 6, 6, 6, 6, 6, 6, 6, 6, 6, 6, 6, 6, 6, 6, 6, 6, 6, 6, 6, 6, 6, 6, 6, 6, 6, 6, 6, 6, 6, 6, 7, 7, 7, 7, 7, 7, 7, 7, 7, 7, 7, 7, 7, 7, 7, 7, 7, 7, 7, 7, 7, 7, 7, 7, 7, 7, 7, 7, 7, 7, 7, 7, 7, 7, 7, 7, 7, 7, 7, 7, 7, 7, 7, 7, 7, 7, 7, 7, 7, 7, 7, 7, 7, 7, 7, 7, 7, 7, 7, 7, 7, 7, 7, 7, 8, 8, 8, 8, 8, 8, 8, 8, 8, 8, 8, 8, 8, 8, 8, 8, 8, 8, 8, 8, 8, 8, 8, 8, 8, 8, 8, 8, 8, 8, 8, 8, 8, 8, 8, 8, 8, 8, 8, 8, 8, 8, 8, 8, 8, 8, 8, 8, 8, 8, 8, 8, 8, 8, 8, 8, 8, 8, 8, 8, 8, 8, 8, 8, 8, 8, 8, 8, 8, 8, 8, 8, 8, 8, 8, 8, 8, 8, 8, 8, 8, 8, 8, 8, 8, 8, 8, 8, 8, 8, 8, 8, 8, 8, 8, 8, 8, 8, 8, 8, 8, 8, 8, 8, 8, 8, 8, 8, 8, 8, 8, 8, 8, 8, 8, 8, 8, 8, 8, 8, 8, 8, 8, 8, 8, 8, 8, 8]⟩ : ByteArray) ((x0 / 65536) % 256)))))) else (none)) else (none))) else (if x0 ≥ 256 then (if 0 ≤ ((x0 / 256) % 256) then (if ((x0 / 256) % 256) < 256 then (some (wrap64 ((wrap64 (x2 + 8)) + (wrap64 (bt (⟨#[0, 1, 2, 2, 3, 3, 3, 3, 4, 4, 4, 4, 4, 4, 4, 4, 5, 5, 5, 5, 5, 5, 5, 5, 5, 5, 5, 5, 5, 5, 5, 5, 6, 6, 6, 6, 6, 6, 6, 6, 6, 6, 6, 6, 6, 6, 6, 6, 6, 6, 6, 6, 6, 6, 6, 6, 6, 6, 6, 6, 6, 6, 6, 6, 7, 7, 7, 7, 7, 7, 7, 7, 7, 7, 7, 7, 7, 7, 7, 7, 7, 7, 7, 7, 7, 7, 7, 7, 7, 7, 7, 7, 7, 7, 7, 7, 7, 7, 7, 7, 7, 7, 7, 7, 7, 7, 7, 7, 7, 7, 7, 7, 7, 7, 7, 7, 7, 7, 7, 7, 7, 7, 7, 7, 7, 7, 7, 7, 8, 8, 8, 8, 8, 8, 8, 8, 8, 8, 8, 8, 8, 8, 8, 8, 8, 8, 8, 8, 8, 8, 8, 8, 8, 8, 8, 8, 8, 8, 8, 8, 8, 8, 8, 8, 8, 8, 8, 8, 8, 8, 8, 8, 8, 8, 8, 8, 8, 8, 8, 8, 8, 8, 8, 8, 8, 8, 8, 8, 8, 8, 8, 8, 8, 8, 8, 8, 8, 8, 8, 8, 8, 8, 8, 8, 8, 8, 8, 8, 8, 8, 8, 8, 8, 8, 8, 8, 8, 8, 8, 8, 8, 8, 8, 8, 8, 8, 8, 8, 8, 8, 8, 8, 8, 8, 8, 8, 8, 8, 8, 8, 8, 8, 8, 8, 8, 8, 8, 8, 8, 8, 8, 8, 8, 8, 8, 8]⟩ : ByteArray) ((x0 / 256) % 256)))))) else (none)) else (none)) else (if 0 ≤ ((x0) % 256) then (if ((x0) % 256) < 256 then (some (wrap64 (x2 + (wrap64 (bt (⟨#[0, 1, 2, 2, 3, 3, 3, 3, 4, 4, 4, 4, 4, 4, 4, 4, 5, 5, 5, 5, 5, 5, 5, 5, 5, 5, 5, 5, 5, 5, 5, 5, 6, 6, 6, 6, 6, 6, 6, 6, 6, 6, 6, 6, 6, 6, 6, 6, 6, 6, 6, 6, 6, 6, 6, 6, 6, 6, 6, 6, 6, 6, 6, 6, 7, 7, 7, 7, 7, 7, 7, 7, 7, 7, 7, 7, 7, 7, 7, 7, 7, 7, 7, 7, 7, 7, 7, 7, 7, 7, 7, 7, 7, 7, 7, 7, 7, 7, 7, 7, 7, 7, 7, 7, 7, 7, 7, 7, 7, 7, 7, 7, 7, 7, 7, 7, 7, 7, 7, 7, 7, 7, 7, 7, 7, 7, 7, 7, 8, 8, 8, 8, 8, 8, 8, 8, 8, 8, 8, 8, 8, 8, 8, 8, 8, 8, 8, 8, 8, 8, 8, 8, 8, 8, 8, 8, 8, 8, 8, 8, 8, 8, 8, 8, 8, 8, 8, 8, 8, 8, 8, 8, 8, 8, 8, 8, 8, 8, 8, 8, 8, 8, 8, 8, 8, 8, 8, 8, 8, 8, 8, 8, 8, 8, 8, 8, 8, 8, 8, 8, 8, 8, 8, 8, 8, 8, 8, 8, 8, 8, 8, 8, 8, 8, 8, 8, 8, 8, 8, 8, 8, 8, 8, 8, 8, 8, 8, 8, 8, 8, 8, 8, 8, 8, 8, 8, 8, 8, 8, 8, 8, 8, 8, 8, 8, 8, 8, 8, 8, 8, 8, 8, 8, 8, 8, 8]⟩ : ByteArray) ((x0) % 256)))))) else (none)) else (none)))
def bits_Len64.f (k : Nat) (a0 : Int) : Option (Int) := if a0 ≥ 4294967296 then (bits_Len64.j0 k (a0 / 4294967296) 32) else (bits_Len64.j0 k a0 0)
set_option maxHeartbeats 8000000 in
set_option maxRecDepth 100000 in
theorem bits_Len64.calls (k : Nat) (a0 : Int) (r : Int) (w : World) (h : bits_Len64.f k a0 = some r) :
  Calls Tryd.prog 165 #[.int .u64 a0] w fun e w' => e = .returned (.int .i64 r) ∧ Drawn0 w w' := by
 have H : (if a0 ≥ 4294967296 then (bits_Len64.j0 k (a0 / 4294967296) 32) else (bits_Len64.j0 k a0 0)) = some r := h
 clear h
 have HC2 := Aside0.mk H
 clear H
 go_enter Tryd.func165, Tryd.ntmps165
 go_upto_if 4 with (fail)
 go_cut [0, 2] (fun v0 v2 wc => ∃ (kq : Nat) (x0_1 : Int) (x2_1 : Int), v0 = .int .u64 x0_1 ∧ v2 = .int .i64 x2_1 ∧ Aside0 (bits_Len64.j0 kq x0_1 x2_1 = some r) ∧ Aside0 (kq ≤ k) ∧ Drawn0 w wc)
 case first =>
  have H := HC2.out
  clear HC2
  by_cases c3 : a0 ≥ 4294967296
  ·rw [if_pos c3] at H
   have c3b0 : decide (4294967296 ≤ a0) = true := decide_eq_true c3
   clear c3
   (first | rw [c3b0] | (simp only [i64_w, i32_w]; rw [c3b0]) | rw [c3b1] | (simp only [c3b1]) | skip)
   have H' := Aside0.mk H
   clear H
   go_wp2
   go_meet
   case rel => exact ⟨_, (a0 / 4294967296), (32), (by first | rfl | (simp; done) | (simp [*]; done)), (by first | rfl | (simp; done) | (simp [*]; done)), H', ⟨by first | omega | exact Nat.le_refl _⟩, by repeat (first | exact Drawn0.refl _ | apply Drawn0.step)⟩
  ·rw [if_neg c3] at H
   have c3b0 : decide (4294967296 ≤ a0) = false := decide_eq_false c3
   clear c3
   (first | rw [c3b0] | (simp only [i64_w, i32_w]; rw [c3b0]) | rw [c3b1] | (simp only [c3b1]) | skip)
   have H' := Aside0.mk H
   clear H
   go_wp2
   go_meet
   case rel => exact ⟨_, (a0), (0), (by first | rfl | (simp; done) | (simp [*]; done)), (by first | rfl | (simp; done) | (simp [*]; done)), H', ⟨by first | omega | exact Nat.le_refl _⟩, by repeat (first | exact Drawn0.refl _ | apply Drawn0.step)⟩
 case rest =>
  clear HC2
  try clear c1; try clear p2; try clear c3; try clear c3b0; try clear c3b1
  obtain ⟨kq, x0_1, x2_1, rfl, rfl, HA, HJ1, ⟨mc1, rfl⟩⟩ := hcut
  cases kq with
  | zero => exact absurd HA.out (by simp [bits_Len64.j0])
  | succ kj1 =>
   have H := HA.out
   clear HA
   simp only [bits_Len64.j0] at H
   by_cases c4 : x0_1 ≥ 65536
   ·rw [if_pos c4] at H
    have c4b0 : decide (65536 ≤ x0_1) = true := decide_eq_true c4
    clear c4
    by_cases c5 : (x0_1 / 65536) ≥ 256
    ·rw [if_pos c5] at H
     have c5b0 : decide (256 ≤ (x0_1 / 65536)) = true := decide_eq_true c5
     clear c5
     obtain ⟨ji6, hji6⟩ : ∃ j_ : Int, (((x0_1 / 65536) / 256) % 256) = j_ := ⟨_, rfl⟩
     replace H : (if 0 ≤ (ji6) then (if (ji6) < 256 then (some (wrap64 ((wrap64 ((wrap64 (x2_1 + 16)) + 8)) + (wrap64 (bt (⟨#[0, 1, 2, 2, 3, 3, 3, 3, 4, 4, 4, 4, 4, 4, 4, 4, 5, 5, 5, 5, 5, 5, 5, 5, 5, 5, 5, 5, 5, 5, 5, 5, 6, 6, 6, 6, 6, 6, 6, 6, 6, 6, 6, 6, 6, 6, 6, 6, 6, 6, 6, 6, 6, 6, 6, 6, 6, 6, 6, 6, 6, 6, 6, 6, 7, 7, 7, 7, 7, 7, 7, 7, 7, 7, 7, 7, 7, 7, 7, 7, 7, 7, 7, 7, 7, 7, 7, 7, 7, 7, 7, 7, 7, 7, 7, 7, 7, 7, 7, 7, 7, 7, 7, 7, 7, 7, 7, 7, 7, 7, 7, 7, 7, 7, 7, 7, 7, 7, 7, 7, 7, 7, 7, 7, 7, 7, 7, 7, 8, 8, 8, 8, 8, 8, 8, 8, 8, 8, 8, 8, 8, 8, 8, 8, 8, 8, 8, 8, 8, 8, 8, 8, 8, 8, 8, 8, 8, 8, 8, 8, 8, 8, 8, 8, 8, 8, 8, 8, 8, 8, 8, 8, 8, 8, 8, 8, 8, 8, 8, 8, 8, 8, 8, 8, 8, 8, 8, 8, 8, 8, 8, 8, 8, 8, 8, 8, 8, 8, 8, 8, 8, 8, 8, 8, 8, 8, 8, 8, 8, 8, 8, 8, 8, 8, 8, 8, 8, 8, 8, 8, 8, 8, 8, 8, 8, 8, 8, 8, 8, 8, 8, 8, 8, 8, 8, 8, 8, 8, 8, 8, 8, 8, 8, 8, 8, 8, 8, 8, 8, 8, 8, 8, 8, 8, 8, 8]⟩ : ByteArray) (ji6)))))) else (none)) else (none)) = some r := by first | (rw [hji6] at H; exact H) | (simp only [hji6] at H ⊢; exact H)
     by_cases c7 : 0 ≤ (ji6)
     ·rw [if_pos c7] at H
      have c7b0 : decide (0 ≤ (ji6)) = true := decide_eq_true c7
      clear c7
      by_cases c8 : (ji6) < 256
      ·rw [if_pos c8] at H
       have c8b0 : decide ((ji6) < 256) = true := decide_eq_true c8
       clear c8
       obtain rfl := Option.some.inj H
       have p9 : 0 ≤ ((ji6) : Int) := of_decide_eq_true (by first | (with_reducible assumption) | assumption)
       have q9 : (ji6) < (256 : Int) := of_decide_eq_true (by first | (with_reducible assumption) | assumption)
       have hx9 := bt_at (⟨#[0, 1, 2, 2, 3, 3, 3, 3, 4, 4, 4, 4, 4, 4, 4, 4, 5, 5, 5, 5, 5, 5, 5, 5, 5, 5, 5, 5, 5, 5, 5, 5, 6, 6, 6, 6, 6, 6, 6, 6, 6, 6, 6, 6, 6, 6, 6, 6, 6, 6, 6, 6, 6, 6, 6, 6, 6, 6, 6, 6, 6, 6, 6, 6, 7, 7, 7, 7, 7, 7, 7, 7, 7, 7, 7, 7, 7, 7, 7, 7, 7, 7, 7, 7, 7, 7, 7, 7, 7, 7, 7, 7, 7, 7, 7, 7, 7, 7, 7, 7, 7, 7, 7, 7, 7, 7, 7, 7, 7, 7, 7, 7, 7, 7, 7, 7, 7, 7, 7, 7, 7, 7, 7, 7, 7, 7, 7, 7, 8, 8, 8, 8, 8, 8, 8, 8, 8, 8, 8, 8, 8, 8, 8, 8, 8, 8, 8, 8, 8, 8, 8, 8, 8, 8, 8, 8, 8, 8, 8, 8, 8, 8, 8, 8, 8, 8, 8, 8, 8, 8, 8, 8, 8, 8, 8, 8, 8, 8, 8, 8, 8, 8, 8, 8, 8, 8, 8, 8, 8, 8, 8, 8, 8, 8, 8, 8, 8, 8, 8, 8, 8, 8, 8, 8, 8, 8, 8, 8, 8, 8, 8, 8, 8, 8, 8, 8, 8, 8, 8, 8, 8, 8, 8, 8, 8, 8, 8, 8, 8, 8, 8, 8, 8, 8, 8, 8, 8, 8, 8, 8, 8, 8, 8, 8, 8, 8, 8, 8, 8, 8, 8, 8, 8, 8, 8, 8]⟩ : ByteArray) (ji6)
       replace p9 := eq_true p9
       replace q9 := eq_true q9
       go_wp2
       go_ret
       exact ⟨by first | rfl | (simp; done) | (simp only [← hji6] <;> (first | rfl | simp)) | (simp [*]; done), by repeat (first | exact Drawn0.refl _ | apply Drawn0.step)⟩
      ·rw [if_neg c8] at H
       exact absurd H (by simp)
     ·rw [if_neg c7] at H
      exact absurd H (by simp)
    ·rw [if_neg c5] at H
     have c5b0 : decide (256 ≤ (x0_1 / 65536)) = false := decide_eq_false c5
     clear c5
     obtain ⟨ji10, hji10⟩ : ∃ j_ : Int, ((x0_1 / 65536) % 256) = j_ := ⟨_, rfl⟩
     replace H : (if 0 ≤ (ji10) then (if (ji10) < 256 then (some (wrap64 ((wrap64 (x2_1 + 16)) + (wrap64 (bt (⟨#[0, 1, 2, 2, 3, 3, 3, 3, 4, 4, 4, 4, 4, 4, 4, 4, 5, 5, 5, 5, 5, 5, 5, 5, 5, 5, 5, 5, 5, 5, 5, 5, 6, 6, 6, 6, 6, 6, 6, 6, 6, 6, 6, 6, 6, 6, 6, 6, 6, 6, 6, 6, 6, 6, 6, 6, 6, 6, 6, 6, 6, 6, 6, 6, 7, 7, 7, 7, 7, 7, 7, 7, 7, 7, 7, 7, 7, 7, 7, 7, 7, 7, 7, 7, 7, 7, 7, 7, 7, 7, 7, 7, 7, 7, 7, 7, 7, 7, 7, 7, 7, 7, 7, 7, 7, 7, 7, 7, 7, 7, 7, 7, 7, 7, 7, 7, 7, 7, 7, 7, 7, 7, 7, 7, 7, 7, 7, 7, 8, 8, 8, 8, 8, 8, 8, 8, 8, 8, 8, 8, 8, 8, 8, 8, 8, 8, 8, 8, 8, 8, 8, 8, 8, 8, 8, 8, 8, 8, 8, 8, 8, 8, 8, 8, 8, 8, 8, 8, 8, 8, 8, 8, 8, 8, 8, 8, 8, 8, 8, 8, 8, 8, 8, 8, 8, 8, 8, 8, 8, 8, 8, 8, 8, 8, 8, 8, 8, 8, 8, 8, 8, 8, 8, 8, 8, 8, 8, 8, 8, 8, 8, 8, 8, 8, 8, 8, 8, 8, 8, 8, 8, 8, 8, 8, 8, 8, 8, 8, 8, 8, 8, 8, 8, 8, 8, 8, 8, 8, 8, 8, 8, 8, 8, 8, 8, 8, 8, 8, 8, 8, 8, 8, 8, 8, 8, 8]⟩ : ByteArray) (ji10)))))) else (none)) else (none)) = some r := by first | (rw [hji10] at H; exact H) | (simp only [hji10] at H ⊢; exact H)
     by_cases c11 : 0 ≤ (ji10)
     ·rw [if_pos c11] at H
      have c11b0 : decide (0 ≤ (ji10)) = true := decide_eq_true c11
      clear c11
      by_cases c12 : (ji10) < 256
      ·rw [if_pos c12] at H
       have c12b0 : decide ((ji10) < 256) = true := decide_eq_true c12
       clear c12
       obtain rfl := Option.some.inj H
       have p13 : 0 ≤ ((ji10) : Int) := of_decide_eq_true (by first | (with_reducible assumption) | assumption)
       have q13 : (ji10) < (256 : Int) := of_decide_eq_true (by first | (with_reducible assumption) | assumption)
       have hx13 := bt_at (⟨#[0, 1, 2, 2, 3, 3, 3, 3, 4, 4, 4, 4, 4, 4, 4, 4, 5, 5, 5, 5, 5, 5, 5, 5, 5, 5, 5, 5, 5, 5, 5, 5, 6, 6, 6, 6, 6, 6, 6, 6, 6, 6, 6, 6, 6, 6, 6, 6, 6, 6, 6, 6, 6, 6, 6, 6, 6, 6, 6, 6, 6, 6, 6, 6, 7, 7, 7, 7, 7, 7, 7, 7, 7, 7, 7, 7, 7, 7, 7, 7, 7, 7, 7, 7, 7, 7, 7, 7, 7, 7, 7, 7, 7, 7, 7, 7, 7, 7, 7, 7, 7, 7, 7, 7, 7, 7, 7, 7, 7, 7, 7, 7, 7, 7, 7, 7, 7, 7, 7, 7, 7, 7, 7, 7, 7, 7, 7, 7, 8, 8, 8, 8, 8, 8, 8, 8, 8, 8, 8, 8, 8, 8, 8, 8, 8, 8, 8, 8, 8, 8, 8, 8, 8, 8, 8, 8, 8, 8, 8, 8, 8, 8, 8, 8, 8, 8, 8, 8, 8, 8, 8, 8, 8, 8, 8, 8, 8, 8, 8, 8, 8, 8, 8, 8, 8, 8, 8, 8, 8, 8, 8, 8, 8, 8, 8, 8, 8, 8, 8, 8, 8, 8, 8, 8, 8, 8, 8, 8, 8, 8, 8, 8, 8, 8, 8, 8, 8, 8, 8, 8, 8, 8, 8, 8, 8, 8, 8, 8, 8, 8, 8, 8, 8, 8, 8, 8, 8, 8, 8, 8, 8, 8, 8, 8, 8, 8, 8, 8, 8, 8, 8, 8, 8, 8, 8, 8]⟩ : ByteArray) (ji10)
       replace p13 := eq_true p13
       replace q13 := eq_true q13
       go_wp2
       go_ret
       exact ⟨by first | rfl | (simp; done) | (simp only [← hji10] <;> (first | rfl | simp)) | (simp [*]; done), by repeat (first | exact Drawn0.refl _ | apply Drawn0.step)⟩
      ·rw [if_neg c12] at H
       exact absurd H (by simp)
     ·rw [if_neg c11] at H
      exact absurd H (by simp)
   ·rw [if_neg c4] at H
    have c4b0 : decide (65536 ≤ x0_1) = false := decide_eq_false c4
    clear c4
    by_cases c14 : x0_1 ≥ 256
    ·rw [if_pos c14] at H
     have c14b0 : decide (256 ≤ x0_1) = true := decide_eq_true c14
     clear c14
     obtain ⟨ji15, hji15⟩ : ∃ j_ : Int, ((x0_1 / 256) % 256) = j_ := ⟨_, rfl⟩
     replace H : (if 0 ≤ (ji15) then (if (ji15) < 256 then (some (wrap64 ((wrap64 (x2_1 + 8)) + (wrap64 (bt (⟨#[0, 1, 2, 2, 3, 3, 3, 3, 4, 4, 4, 4, 4, 4, 4, 4, 5, 5, 5, 5, 5, 5, 5, 5, 5, 5, 5, 5, 5, 5, 5, 5, 6, 6, 6, 6, 6, 6, 6, 6, 6, 6, 6, 6, 6, 6, 6, 6, 6, 6, 6, 6, 6, 6, 6, 6, 6, 6, 6, 6, 6, 6, 6, 6, 7, 7, 7, 7, 7, 7, 7, 7, 7, 7, 7, 7, 7, 7, 7, 7, 7, 7, 7, 7, 7, 7, 7, 7, 7, 7, 7, 7, 7, 7, 7, 7, 7, 7, 7, 7, 7, 7, 7, 7, 7, 7, 7, 7, 7, 7, 7, 7, 7, 7, 7, 7, 7, 7, 7, 7, 7, 7, 7, 7, 7, 7, 7, 7, 8, 8, 8, 8, 8, 8, 8, 8, 8, 8, 8, 8, 8, 8, 8, 8, 8, 8, 8, 8, 8, 8, 8, 8, 8, 8, 8, 8, 8, 8, 8, 8, 8, 8, 8, 8, 8, 8, 8, 8, 8, 8, 8, 8, 8, 8, 8, 8, 8, 8, 8, 8, 8, 8, 8, 8, 8, 8, 8, 8, 8, 8, 8, 8, 8, 8, 8, 8, 8, 8, 8, 8, 8, 8, 8, 8, 8, 8, 8, 8, 8, 8, 8, 8, 8, 8, 8, 8, 8, 8, 8, 8, 8, 8, 8, 8, 8, 8, 8, 8, 8, 8, 8, 8, 8, 8, 8, 8, 8, 8, 8, 8, 8, 8, 8, 8, 8, 8, 8, 8, 8, 8, 8, 8, 8, 8, 8, 8]⟩ : ByteArray) (ji15)))))) else (none)) else (none)) = some r := by first | (rw [hji15] at H; exact H) | (simp only [hji15] at H ⊢; exact H)
     by_cases c16 : 0 ≤ (ji15)
     ·rw [if_pos c16] at H
      have c16b0 : decide (0 ≤ (ji15)) = true := decide_eq_true c16
      clear c16
      by_cases c17 : (ji15) < 256
      ·rw [if_pos c17] at H
       have c17b0 : decide ((ji15) < 256) = true := decide_eq_true c17
       clear c17
       obtain rfl := Option.some.inj H
       have p18 : 0 ≤ ((ji15) : Int) := of_decide_eq_true (by first | (with_reducible assumption) | assumption)
       have q18 : (ji15) < (256 : Int) := of_decide_eq_true (by first | (with_reducible assumption) | assumption)
       have hx18 := bt_at (⟨#[0, 1, 2, 2, 3, 3, 3, 3, 4, 4, 4, 4, 4, 4, 4, 4, 5, 5, 5, 5, 5, 5, 5, 5, 5, 5, 5, 5, 5, 5, 5, 5, 6, 6, 6, 6, 6, 6, 6, 6, 6, 6, 6, 6, 6, 6, 6, 6, 6, 6, 6, 6, 6, 6, 6, 6, 6, 6, 6, 6, 6, 6, 6, 6, 7, 7, 7, 7, 7, 7, 7, 7, 7, 7, 7, 7, 7, 7, 7, 7, 7, 7, 7, 7, 7, 7, 7, 7, 7, 7, 7, 7, 7, 7, 7, 7, 7, 7, 7, 7, 7, 7, 7, 7, 7, 7, 7, 7, 7, 7, 7, 7, 7, 7, 7, 7, 7, 7, 7, 7, 7, 7, 7, 7, 7, 7, 7, 7, 8, 8, 8, 8, 8, 8, 8, 8, 8, 8, 8, 8, 8, 8, 8, 8, 8, 8, 8, 8, 8, 8, 8, 8, 8, 8, 8, 8, 8, 8, 8, 8, 8, 8, 8, 8, 8, 8, 8, 8, 8, 8, 8, 8, 8, 8, 8, 8, 8, 8, 8, 8, 8, 8, 8, 8, 8, 8, 8, 8, 8, 8, 8, 8, 8, 8, 8, 8, 8, 8, 8, 8, 8, 8, 8, 8, 8, 8, 8, 8, 8, 8, 8, 8, 8, 8, 8, 8, 8, 8, 8, 8, 8, 8, 8, 8, 8, 8, 8, 8, 8, 8, 8, 8, 8, 8, 8, 8, 8, 8, 8, 8, 8, 8, 8, 8, 8, 8, 8, 8, 8, 8, 8, 8, 8, 8, 8, 8]⟩ : ByteArray) (ji15)
       replace p18 := eq_true p18
       replace q18 := eq_true q18
       go_wp2
       go_ret
       exact ⟨by first | rfl | (simp; done) | (simp only [← hji15] <;> (first | rfl | simp)) | (simp [*]; done), by repeat (first | exact Drawn0.refl _ | apply Drawn0.step)⟩
      ·rw [if_neg c17] at H
       exact absurd H (by simp)
     ·rw [if_neg c16] at H
      exact absurd H (by simp)
    ·rw [if_neg c14] at H
     have c14b0 : decide (256 ≤ x0_1) = false := decide_eq_false c14
     clear c14
     obtain ⟨ji19, hji19⟩ : ∃ j_ : Int, ((x0_1) % 256) = j_ := ⟨_, rfl⟩
     replace H : (if 0 ≤ (ji19) then (if (ji19) < 256 then (some (wrap64 (x2_1 + (wrap64 (bt (⟨#[0, 1, 2, 2, 3, 3, 3, 3, 4, 4, 4, 4, 4, 4, 4, 4, 5, 5, 5, 5, 5, 5, 5, 5, 5, 5, 5, 5, 5, 5, 5, 5, 6, 6, 6, 6, 6, 6, 6, 6, 6, 6, 6, 6, 6, 6, 6, 6, 6, 6, 6, 6, 6, 6, 6, 6, 6, 6, 6, 6, 6, 6, 6, 6, 7, 7, 7, 7, 7, 7, 7, 7, 7, 7, 7, 7, 7, 7, 7, 7, 7, 7, 7, 7, 7, 7, 7, 7, 7, 7, 7, 7, 7, 7, 7, 7, 7, 7, 7, 7, 7, 7, 7, 7, 7, 7, 7, 7, 7, 7, 7, 7, 7, 7, 7, 7, 7, 7, 7, 7, 7, 7, 7, 7, 7, 7, 7, 7, 8, 8, 8, 8, 8, 8, 8, 8, 8, 8, 8, 8, 8, 8, 8, 8, 8, 8, 8, 8, 8, 8, 8, 8, 8, 8, 8, 8, 8, 8, 8, 8, 8, 8, 8, 8, 8, 8, 8, 8, 8, 8, 8, 8, 8, 8, 8, 8, 8, 8, 8, 8, 8, 8, 8, 8, 8, 8, 8, 8, 8, 8, 8, 8, 8, 8, 8, 8, 8, 8, 8, 8, 8, 8, 8, 8, 8, 8, 8, 8, 8, 8, 8, 8, 8, 8, 8, 8, 8, 8, 8, 8, 8, 8, 8, 8, 8, 8, 8, 8, 8, 8, 8, 8, 8, 8, 8, 8, 8, 8, 8, 8, 8, 8, 8, 8, 8, 8, 8, 8, 8, 8, 8, 8, 8, 8, 8, 8]⟩ : ByteArray) (ji19)))))) else (none)) else (none)) = some r := by first | (rw [hji19] at H; exact H) | (simp only [hji19] at H ⊢; exact H)
     by_cases c20 : 0 ≤ (ji19)
     ·rw [if_pos c20] at H
      have c20b0 : decide (0 ≤ (ji19)) = true := decide_eq_true c20
      clear c20
      by_cases c21 : (ji19) < 256
      ·rw [if_pos c21] at H
       have c21b0 : decide ((ji19) < 256) = true := decide_eq_true c21
       clear c21
       obtain rfl := Option.some.inj H
       have p22 : 0 ≤ ((ji19) : Int) := of_decide_eq_true (by first | (with_reducible assumption) | assumption)
       have q22 : (ji19) < (256 : Int) := of_decide_eq_true (by first | (with_reducible assumption) | assumption)
       have hx22 := bt_at (⟨#[0, 1, 2, 2, 3, 3, 3, 3, 4, 4, 4, 4, 4, 4, 4, 4, 5, 5, 5, 5, 5, 5, 5, 5, 5, 5, 5, 5, 5, 5, 5, 5, 6, 6, 6, 6, 6, 6, 6, 6, 6, 6, 6, 6, 6, 6, 6, 6, 6, 6, 6, 6, 6, 6, 6, 6, 6, 6, 6, 6, 6, 6, 6, 6, 7, 7, 7, 7, 7, 7, 7, 7, 7, 7, 7, 7, 7, 7, 7, 7, 7, 7, 7, 7, 7, 7, 7, 7, 7, 7, 7, 7, 7, 7, 7, 7, 7, 7, 7, 7, 7, 7, 7, 7, 7, 7, 7, 7, 7, 7, 7, 7, 7, 7, 7, 7, 7, 7, 7, 7, 7, 7, 7, 7, 7, 7, 7, 7, 8, 8, 8, 8, 8, 8, 8, 8, 8, 8, 8, 8, 8, 8, 8, 8, 8, 8, 8, 8, 8, 8, 8, 8, 8, 8, 8, 8, 8, 8, 8, 8, 8, 8, 8, 8, 8, 8, 8, 8, 8, 8, 8, 8, 8, 8, 8, 8, 8, 8, 8, 8, 8, 8, 8, 8, 8, 8, 8, 8, 8, 8, 8, 8, 8, 8, 8, 8, 8, 8, 8, 8, 8, 8, 8, 8, 8, 8, 8, 8, 8, 8, 8, 8, 8, 8, 8, 8, 8, 8, 8, 8, 8, 8, 8, 8, 8, 8, 8, 8, 8, 8, 8, 8, 8, 8, 8, 8, 8, 8, 8, 8, 8, 8, 8, 8, 8, 8, 8, 8, 8, 8, 8, 8, 8, 8, 8, 8]⟩ : ByteArray) (ji19)
       replace p22 := eq_true p22
       replace q22 := eq_true q22
       go_wp2
       go_ret
       exact ⟨by first | rfl | (simp; done) | (simp only [← hji19] <;> (first | rfl | simp)) | (simp [*]; done), by repeat (first | exact Drawn0.refl _ | apply Drawn0.step)⟩
      ·rw [if_neg c21] at H
       exact absurd H (by simp)
     ·rw [if_neg c20] at H
      exact absurd H (by simp)
def bits_LeadingZeros64.f (k : Nat) (a0 : Int) : Option (Int) := (bits_Len64.f k a0).bind fun t782 => (some (wrap64 (64 - t782)))
set_option maxHeartbeats 8000000 in
set_option maxRecDepth 100000 in
theorem bits_LeadingZeros64.calls (k : Nat) (a0 : Int) (r : Int) (w : World) (h : bits_LeadingZeros64.f k a0 = some r) :
  Calls Tryd.prog 148 #[.int .u64 a0] w fun e w' => e = .returned (.int .i64 r) ∧ Drawn0 w w' := by
 have H : ((bits_Len64.f k a0).bind fun t782 => (some (wrap64 (64 - t782)))) = some r := h
 clear h
 replace H := Option.bind_eq_some_iff.mp H
 obtain ⟨t782, A20, H⟩ := H
 replace H : (some (wrap64 (64 - t782))) = some r := H
 have A2 := Aside0.mk A20
 clear A20
 obtain rfl := Option.some.inj H
 go_enter Tryd.func148, Tryd.ntmps148
 go_wp2_with (first | ((with_reducible refine gate_callee (f := 165) rfl ?_); refine goesL_ (some 4) rfl rfl Tryd.func165 (by kernel_rfl) rfl #[.int .u64 a0] rfl (by (try simp only [List.map_toArray, List.map_cons, List.map_nil]); first | done | rfl | (simp only [List.length_drop, List.length_take]; rfl)) ?_; (with_reducible refine (bits_Len64.calls k a0 t782 _ A2.out).mono ?_); rintro e w' ⟨rfl, ⟨nd, rfl⟩⟩; refine ⟨_, rfl, ?_⟩))
 go_ret
 exact ⟨by first | rfl | (simp; done) | (simp [*]; done), by repeat (first | exact Drawn0.refl _ | apply Drawn0.step)⟩
def impl_nat_bits.f (k : Nat) (l0 : List Int) : Option (Int) := if (l0.length : Int) = 0 then (some 0) else (if 0 ≤ (wrap64 ((l0.length : Int) - 1)) then (if (wrap64 ((l0.length : Int) - 1)) < (l0.length : Int) then ((bits_LeadingZeros64.f k (rd l0 (wrap64 ((l0.length : Int) - 1)))).bind fun t784 => (some (wrap64 ((wrap64 (64 * (l0.length : Int))) - t784)))) else (none)) else (none))
set_option maxHeartbeats 8000000 in
set_option maxRecDepth 100000 in
theorem impl_nat_bits.calls (k : Nat) (A0 : Option Addr) (c0 : Nat) (l0 : List Int) (r : Int) (w : World) (hr0 : Kd.C (Kd.int .u64) w A0 l0.length l0) (hc0 : l0.length ≤ c0) (h : impl_nat_bits.f k l0 = some r) :
  Calls Tryd.prog 128 #[.slice A0 l0.length c0] w fun e w' => e = .returned (.int .i64 r) ∧ Drawn0 w w' := by
 have HR0 := Aside0.mk hr0
 have HC0 := Aside0.mk hc0
 clear hr0 hc0
 have H : (if (l0.length : Int) = 0 then (some 0) else (if 0 ≤ (wrap64 ((l0.length : Int) - 1)) then (if (wrap64 ((l0.length : Int) - 1)) < (l0.length : Int) then ((bits_LeadingZeros64.f k (rd l0 (wrap64 ((l0.length : Int) - 1)))).bind fun t784 => (some (wrap64 ((wrap64 (64 * (l0.length : Int))) - t784)))) else (none)) else (none))) = some r := h
 clear h
 by_cases c2 : (l0.length : Int) = 0
 ·rw [if_pos c2] at H
  have c2b0 : ((l0.length : Int) == 0) = true := beq_iff_eq.mpr c2
  have c2b1 : ((l0.length : Int) != 0) = false := bne_eq_false_iff_eq.mpr c2
  clear c2
  obtain rfl := Option.some.inj H
  go_enter Tryd.func128, Tryd.ntmps128
  go_wp2
  go_ret
  exact ⟨by first | rfl | (simp; done) | (simp [*]; done), by repeat (first | exact Drawn0.refl _ | apply Drawn0.step)⟩
 ·rw [if_neg c2] at H
  have c2b0 : ((l0.length : Int) == 0) = false := beq_eq_false_iff_ne.mpr c2
  have c2b1 : ((l0.length : Int) != 0) = true := bne_iff_ne.mpr c2
  have c2b2 : ¬ (l0 = []) := fun h_ => c2 (by rw [h_]; rfl)
  obtain ⟨ji3, hji3⟩ : ∃ j_ : Int, (wrap64 ((l0.length : Int) - 1)) = j_ := ⟨_, rfl⟩
  replace H : (if 0 ≤ (ji3) then (if (ji3) < (l0.length : Int) then ((bits_LeadingZeros64.f k (rd l0 (ji3))).bind fun t784 => (some (wrap64 ((wrap64 (64 * (l0.length : Int))) - t784)))) else (none)) else (none)) = some r := by first | (rw [hji3] at H; exact H) | (simp only [hji3] at H ⊢; exact H)
  have hji3w : (IntKind.i64.wrap ((l0.length : Int) - 1)) = ji3 := (i64_w _).trans hji3
  by_cases c4 : 0 ≤ (ji3)
  ·rw [if_pos c4] at H
   have c4b0 : decide (0 ≤ (ji3)) = true := decide_eq_true c4
   clear c4
   by_cases c5 : (ji3) < (l0.length : Int)
   ·rw [if_pos c5] at H
    have c5b0 : decide ((ji3) < (l0.length : Int)) = true := decide_eq_true c5
    clear c5
    replace H := Option.bind_eq_some_iff.mp H
    obtain ⟨t784, A60, H⟩ := H
    replace H : (some (wrap64 ((wrap64 (64 * (l0.length : Int))) - t784))) = some r := H
    have A6 := Aside0.mk A60
    clear A60
    obtain rfl := Option.some.inj H
    have p783 : 0 ≤ ((ji3) : Int) := of_decide_eq_true (by first | (with_reducible assumption) | assumption)
    have q783 : (ji3) < (l0.length : Int) := of_decide_eq_true (by first | (with_reducible assumption) | assumption)
    obtain ⟨ad783, e783, hx783_0⟩ := Kd.at_int HR0.out (ji3) p783 q783
    cases e783
    replace p783 := eq_true p783
    replace q783 := eq_true q783
    go_enter Tryd.func128, Tryd.ntmps128
    go_wp2_with (first | ((with_reducible refine gate_callee (f := 148) rfl ?_); refine goesL_ (some 15) rfl rfl Tryd.func148 (by kernel_rfl) rfl #[.int .u64 (rd l0 (ji3))] rfl (by (try simp only [List.map_toArray, List.map_cons, List.map_nil]); first | done | (simp only [hji3]; rfl) | rfl | (simp only [List.length_drop, List.length_take]; rfl)) ?_; (with_reducible refine (bits_LeadingZeros64.calls k (rd l0 (ji3)) t784 _ A6.out).mono ?_); rintro e w' ⟨rfl, ⟨nd, rfl⟩⟩; refine ⟨_, rfl, ?_⟩))
    go_ret
    exact ⟨by first | rfl | (simp; done) | (simp only [← hji3] <;> (first | rfl | simp)) | (simp [*]; done), by repeat (first | exact Drawn0.refl _ | apply Drawn0.step)⟩
   ·rw [if_neg c5] at H
    exact absurd H (by simp)
  ·rw [if_neg c4] at H
   exact absurd H (by simp)
end Go.Proofs.YtdbnmdchecacdaaDoor.PL
end
section
namespace Go.Proofs.YtdbnmdchecacdaaDoor.M
open Go.RowKit Go.Proofs.YtdbnmdchecacdaaDoor.G Go.Proofs.YtdbnmdchecacdaaDoorV.PrintWords Go.Proofs.YtdbnmdchecacdaaDoorV.PrintLast Go.Proofs.YtdbnmdchecacdaaDoorV.PrintMore Go.Proofs.YtdbnmdchecacdaaDoor.PL
set_option linter.unusedVariables false
set_option linter.unusedSimpArgs false
def IsBits (v n : Nat) : Prop := v < 2 ^ n ∧ (n = 0 ∨ 2 ^ (n - 1) ≤ v)
instance (v n : Nat) : Decidable (IsBits v n) := by unfold IsBits; infer_instance
theorem IsBits.uniq {v n m : Nat} (h : IsBits v n) (k : IsBits v m) : n = m := by
  have one : ∀ a b : Nat, IsBits v a → IsBits v b → a ≤ b := by
    intro a b h k
    rcases h.2 with h2 | h2
    · omega
    · rcases Nat.lt_or_ge b a with h3 | h3
      · have := Nat.pow_le_pow_right (n := 2) (by omega) (show b ≤ a - 1 by omega)
        have := k.1
        omega
      · exact h3
  exact Nat.le_antisymm (one n m h k) (one m n k h)
theorem IsBits.zero : IsBits 0 0 := ⟨by decide, Or.inl rfl⟩
theorem IsBits.pos {v n : Nat} (h : IsBits v n) (hv : 0 < v) : 0 < n := by
  rcases Nat.eq_zero_or_pos n with h2 | h2
  · subst h2
    have := h.1
    simp at this
    omega
  · exact h2
theorem IsBits.up {v m s : Nat} (h : IsBits (v / 2 ^ s) m) (hv : 0 < v / 2 ^ s) : IsBits v (s + m) := by
  have hp : 0 < 2 ^ s := Nat.pow_pos (by omega)
  have hm := h.pos hv
  refine ⟨?_, Or.inr ?_⟩
  · rw [Nat.pow_add, Nat.mul_comm]
    exact (Nat.div_lt_iff_lt_mul hp).1 h.1
  · rcases h.2 with h2 | h2
    · omega
    · rw [show s + m - 1 = s + (m - 1) by omega, Nat.pow_add, Nat.mul_comm]
      exact (Nat.le_div_iff_mul_le hp).1 h2
theorem IsBits.le {v n w : Nat} (h : IsBits v n) (hv : v < 2 ^ w) : n ≤ w := by
  rcases h.2 with h2 | h2
  · omega
  · rcases Nat.lt_or_ge w n with h3 | h3
    · have := Nat.pow_le_pow_right (n := 2) (by omega) (show w ≤ n - 1 by omega)
      omega
    · exact h3
theorem lenT : ∀ i : Nat, i < 256 → IsBits i (bt (⟨#[0, 1, 2, 2, 3, 3, 3, 3, 4, 4, 4, 4, 4, 4, 4, 4, 5, 5, 5, 5, 5, 5, 5, 5, 5, 5, 5, 5, 5, 5, 5, 5, 6, 6, 6, 6, 6, 6, 6, 6, 6, 6, 6, 6, 6, 6, 6, 6, 6, 6, 6, 6, 6, 6, 6, 6, 6, 6, 6, 6, 6, 6, 6, 6, 7, 7, 7, 7, 7, 7, 7, 7, 7, 7, 7, 7, 7, 7, 7, 7, 7, 7, 7, 7, 7, 7, 7, 7, 7, 7, 7, 7, 7, 7, 7, 7, 7, 7, 7, 7, 7, 7, 7, 7, 7, 7, 7, 7, 7, 7, 7, 7, 7, 7, 7, 7, 7, 7, 7, 7, 7, 7, 7, 7, 7, 7, 7, 7, 8, 8, 8, 8, 8, 8, 8, 8, 8, 8, 8, 8, 8, 8, 8, 8, 8, 8, 8, 8, 8, 8, 8, 8, 8, 8, 8, 8, 8, 8, 8, 8, 8, 8, 8, 8, 8, 8, 8, 8, 8, 8, 8, 8, 8, 8, 8, 8, 8, 8, 8, 8, 8, 8, 8, 8, 8, 8, 8, 8, 8, 8, 8, 8, 8, 8, 8, 8, 8, 8, 8, 8, 8, 8, 8, 8, 8, 8, 8, 8, 8, 8, 8, 8, 8, 8, 8, 8, 8, 8, 8, 8, 8, 8, 8, 8, 8, 8, 8, 8, 8, 8, 8, 8, 8, 8, 8, 8, 8, 8, 8, 8, 8, 8, 8, 8, 8, 8, 8, 8, 8, 8, 8, 8, 8, 8, 8, 8]⟩ : ByteArray) (i : Int)).toNat ∧ 0 ≤ bt (⟨#[0, 1, 2, 2, 3, 3, 3, 3, 4, 4, 4, 4, 4, 4, 4, 4, 5, 5, 5, 5, 5, 5, 5, 5, 5, 5, 5, 5, 5, 5, 5, 5, 6, 6, 6, 6, 6, 6, 6, 6, 6, 6, 6, 6, 6, 6, 6, 6, 6, 6, 6, 6, 6, 6, 6, 6, 6, 6, 6, 6, 6, 6, 6, 6, 7, 7, 7, 7, 7, 7, 7, 7, 7, 7, 7, 7, 7, 7, 7, 7, 7, 7, 7, 7, 7, 7, 7, 7, 7, 7, 7, 7, 7, 7, 7, 7, 7, 7, 7, 7, 7, 7, 7, 7, 7, 7, 7, 7, 7, 7, 7, 7, 7, 7, 7, 7, 7, 7, 7, 7, 7, 7, 7, 7, 7, 7, 7, 7, 8, 8, 8, 8, 8, 8, 8, 8, 8, 8, 8, 8, 8, 8, 8, 8, 8, 8, 8, 8, 8, 8, 8, 8, 8, 8, 8, 8, 8, 8, 8, 8, 8, 8, 8, 8, 8, 8, 8, 8, 8, 8, 8, 8, 8, 8, 8, 8, 8, 8, 8, 8, 8, 8, 8, 8, 8, 8, 8, 8, 8, 8, 8, 8, 8, 8, 8, 8, 8, 8, 8, 8, 8, 8, 8, 8, 8, 8, 8, 8, 8, 8, 8, 8, 8, 8, 8, 8, 8, 8, 8, 8, 8, 8, 8, 8, 8, 8, 8, 8, 8, 8, 8, 8, 8, 8, 8, 8, 8, 8, 8, 8, 8, 8, 8, 8, 8, 8, 8, 8, 8, 8, 8, 8, 8, 8, 8, 8]⟩ : ByteArray) (i : Int) := by decide +kernel
theorem len_top (c x2 : Nat) (hc : c < 256) (h2 : x2 ≤ 1000) : ∃ m : Nat, IsBits c m ∧ m ≤ 8 ∧ (fun _ : Unit => wrap64 ((x2 : Int) + wrap64 (bt (⟨#[0, 1, 2, 2, 3, 3, 3, 3, 4, 4, 4, 4, 4, 4, 4, 4, 5, 5, 5, 5, 5, 5, 5, 5, 5, 5, 5, 5, 5, 5, 5, 5, 6, 6, 6, 6, 6, 6, 6, 6, 6, 6, 6, 6, 6, 6, 6, 6, 6, 6, 6, 6, 6, 6, 6, 6, 6, 6, 6, 6, 6, 6, 6, 6, 7, 7, 7, 7, 7, 7, 7, 7, 7, 7, 7, 7, 7, 7, 7, 7, 7, 7, 7, 7, 7, 7, 7, 7, 7, 7, 7, 7, 7, 7, 7, 7, 7, 7, 7, 7, 7, 7, 7, 7, 7, 7, 7, 7, 7, 7, 7, 7, 7, 7, 7, 7, 7, 7, 7, 7, 7, 7, 7, 7, 7, 7, 7, 7, 8, 8, 8, 8, 8, 8, 8, 8, 8, 8, 8, 8, 8, 8, 8, 8, 8, 8, 8, 8, 8, 8, 8, 8, 8, 8, 8, 8, 8, 8, 8, 8, 8, 8, 8, 8, 8, 8, 8, 8, 8, 8, 8, 8, 8, 8, 8, 8, 8, 8, 8, 8, 8, 8, 8, 8, 8, 8, 8, 8, 8, 8, 8, 8, 8, 8, 8, 8, 8, 8, 8, 8, 8, 8, 8, 8, 8, 8, 8, 8, 8, 8, 8, 8, 8, 8, 8, 8, 8, 8, 8, 8, 8, 8, 8, 8, 8, 8, 8, 8, 8, 8, 8, 8, 8, 8, 8, 8, 8, 8, 8, 8, 8, 8, 8, 8, 8, 8, 8, 8, 8, 8, 8, 8, 8, 8, 8, 8]⟩ : ByteArray) (c : Int)))) = (fun _ => ((x2 + m : Nat) : Int)) := by
  obtain ⟨h1, h0⟩ := lenT c hc
  have h8 := h1.le (w := 8) hc
  refine ⟨_, h1, h8, funext fun _ => ?_⟩
  generalize bt (⟨#[0, 1, 2, 2, 3, 3, 3, 3, 4, 4, 4, 4, 4, 4, 4, 4, 5, 5, 5, 5, 5, 5, 5, 5, 5, 5, 5, 5, 5, 5, 5, 5, 6, 6, 6, 6, 6, 6, 6, 6, 6, 6, 6, 6, 6, 6, 6, 6, 6, 6, 6, 6, 6, 6, 6, 6, 6, 6, 6, 6, 6, 6, 6, 6, 7, 7, 7, 7, 7, 7, 7, 7, 7, 7, 7, 7, 7, 7, 7, 7, 7, 7, 7, 7, 7, 7, 7, 7, 7, 7, 7, 7, 7, 7, 7, 7, 7, 7, 7, 7, 7, 7, 7, 7, 7, 7, 7, 7, 7, 7, 7, 7, 7, 7, 7, 7, 7, 7, 7, 7, 7, 7, 7, 7, 7, 7, 7, 7, 8, 8, 8, 8, 8, 8, 8, 8, 8, 8, 8, 8, 8, 8, 8, 8, 8, 8, 8, 8, 8, 8, 8, 8, 8, 8, 8, 8, 8, 8, 8, 8, 8, 8, 8, 8, 8, 8, 8, 8, 8, 8, 8, 8, 8, 8, 8, 8, 8, 8, 8, 8, 8, 8, 8, 8, 8, 8, 8, 8, 8, 8, 8, 8, 8, 8, 8, 8, 8, 8, 8, 8, 8, 8, 8, 8, 8, 8, 8, 8, 8, 8, 8, 8, 8, 8, 8, 8, 8, 8, 8, 8, 8, 8, 8, 8, 8, 8, 8, 8, 8, 8, 8, 8, 8, 8, 8, 8, 8, 8, 8, 8, 8, 8, 8, 8, 8, 8, 8, 8, 8, 8, 8, 8, 8, 8, 8, 8]⟩ : ByteArray) (c : Int) = z at *
  rw [wrap64_id (n := z) (by omega), wrap64_id (by omega)]
  omega
set_option maxRecDepth 20000 in
theorem len_j0 (x x2 : Nat) (hx : x < 4294967296) (h2 : x2 ≤ 100) : ∃ m : Nat, IsBits x m ∧ m ≤ 32 ∧ Ev (fun k => bits_Len64.j0 k (x : Int) (x2 : Int)) ((x2 + m : Nat) : Int) := by
  have wr : ∀ a b : Nat, a ≤ 1000 → b ≤ 1000 → wrap64 ((a : Int) + (b : Int)) = ((a + b : Nat) : Int) := by
    intro a b ha hb
    rw [wrap64_id (by omega)]
    omega
  by_cases c1 : 65536 ≤ x
  · by_cases c2 : 256 ≤ x / 65536
    · obtain ⟨m, hm, h8, he⟩ := len_top (x / 65536 / 256) (x2 + 16 + 8) (by omega) (by omega)
      have hb : IsBits x (24 + m) := by
        refine IsBits.up (s := 24) ?_ (by omega)
        rw [show x / 2 ^ 24 = x / 65536 / 256 by omega]
        exact hm
      refine ⟨24 + m, hb, by omega, Ev.step (f := fun _ => some ((x2 + (24 + m) : Nat) : Int)) (fun k => ?_) (Ev.now _)⟩
      have e1 : ((x : Int) / 65536 / 256 % 256) = ((x / 65536 / 256 : Nat) : Int) := by omega
      rw [bits_Len64.j0]
      rw [if_pos (by omega), if_pos (by omega), if_pos (by omega), if_pos (by omega), e1, show (16 : Int) = ((16 : Nat) : Int) from rfl, wr _ _ (by omega) (by omega), show (8 : Int) = ((8 : Nat) : Int) from rfl, wr _ _ (by omega) (by omega), congrFun he ()]
      congr 2
      omega
    · obtain ⟨m, hm, h8, he⟩ := len_top (x / 65536) (x2 + 16) (by omega) (by omega)
      have hb : IsBits x (16 + m) := by
        refine IsBits.up (s := 16) ?_ (by omega)
        exact hm
      refine ⟨16 + m, hb, by omega, Ev.step (f := fun _ => some ((x2 + (16 + m) : Nat) : Int)) (fun k => ?_) (Ev.now _)⟩
      have e1 : ((x : Int) / 65536 % 256) = ((x / 65536 : Nat) : Int) := by omega
      rw [bits_Len64.j0]
      rw [if_pos (by omega), if_neg (by omega), if_pos (by omega), if_pos (by omega), e1, show (16 : Int) = ((16 : Nat) : Int) from rfl, wr _ _ (by omega) (by omega), congrFun he ()]
      congr 2
      omega
  · by_cases c2 : 256 ≤ x
    · obtain ⟨m, hm, h8, he⟩ := len_top (x / 256) (x2 + 8) (by omega) (by omega)
      have hb : IsBits x (8 + m) := by
        refine IsBits.up (s := 8) ?_ (by omega)
        exact hm
      refine ⟨8 + m, hb, by omega, Ev.step (f := fun _ => some ((x2 + (8 + m) : Nat) : Int)) (fun k => ?_) (Ev.now _)⟩
      have e1 : ((x : Int) / 256 % 256) = ((x / 256 : Nat) : Int) := by omega
      rw [bits_Len64.j0]
      rw [if_neg (by omega), if_pos (by omega), if_pos (by omega), if_pos (by omega), e1, show (8 : Int) = ((8 : Nat) : Int) from rfl, wr _ _ (by omega) (by omega), congrFun he ()]
      congr 2
      omega
    · obtain ⟨m, hm, h8, he⟩ := len_top x x2 (by omega) (by omega)
      refine ⟨m, hm, by omega, Ev.step (f := fun _ => some ((x2 + m : Nat) : Int)) (fun k => ?_) (Ev.now _)⟩
      have e1 : ((x : Int) % 256) = (x : Int) := by omega
      rw [bits_Len64.j0]
      rw [if_neg (by omega), if_neg (by omega), if_pos (by omega), if_pos (by omega), e1, congrFun he ()]
theorem len64_ev (x : Nat) (hx : x < 18446744073709551616) : ∃ m : Nat, IsBits x m ∧ m ≤ 64 ∧ Ev (fun k => bits_Len64.f k (x : Int)) (m : Int) := by
  unfold bits_Len64.f
  by_cases c : 4294967296 ≤ x
  · obtain ⟨m, hm, h1, h2⟩ := len_j0 (x / 4294967296) 32 (by omega) (by omega)
    refine ⟨32 + m, IsBits.up (s := 32) hm (by omega), by omega, Ev.congr (fun k => ?_) h2⟩
    rw [if_pos (by omega)]
    rfl
  · obtain ⟨m, hm, h1, h2⟩ := len_j0 x 0 (by omega) (by omega)
    refine ⟨m, hm, by omega, Ev.congr (fun k => ?_) (ev_to h2 (by simp))⟩
    rw [if_neg (by omega)]
    rfl
theorem sbits_loop (m : Nat) : ∀ (u n : Nat), IsBits u m → n + m ≤ 4611686018427387904 → Ev (fun k => spec_l1Bits.l0 k (n : Int) (u : Int)) ((n + m : Nat) : Int) := by
  induction m with
  | zero =>
    intro u n h hb
    have := h.1
    refine Ev.step (f := fun _ => some ((n + 0 : Nat) : Int)) (fun k => ?_) (Ev.now _)
    simp only [spec_l1Bits.l0]
    rw [if_neg (by omega)]
    rfl
  | succ m ih =>
    intro u n h hb
    have hu : 2 ^ m ≤ u := by
      rcases h.2 with h2 | h2
      · omega
      · simpa using h2
    have hp : 0 < 2 ^ m := Nat.pow_pos (by omega)
    have h1 := h.1
    rw [Nat.pow_succ] at h1
    have hh : IsBits (u / 2) m := by
      refine ⟨by omega, ?_⟩
      rcases Nat.eq_zero_or_pos m with h3 | h3
      · exact Or.inl h3
      · right
        rw [show m = (m - 1) + 1 by omega, Nat.pow_succ] at hu
        omega
    refine Ev.step (fun k => ?_) (ev_to (ih (u / 2) (n + 1) hh (by omega)) (by congr 1; omega))
    simp only [spec_l1Bits.l0]
    rw [if_pos (by omega), wrap64_id (by omega)]
    rfl
def ofW (v : Nat) : List Int := trimL [((v % 4294967296 : Nat) : Int), ((v / 4294967296 : Nat) : Int)]
theorem ofW_eq (v : Nat) (hv : v < 18446744073709551616) : spec_l1Of.f (v : Int) = some (ofW v) := by
  unfold spec_l1Of.f
  rw [trim_eq _ (by simp), Option.bind_some, and_low32 _ (by omega) (by omega)]
  rfl
theorem ofW_dig (v : Nat) (hv : v < 18446744073709551616) : Dig B32 (ofW v) := by
  unfold ofW
  exact (Dig.cons (by unfold B32; omega) (Dig.cons (by unfold B32; omega) (Dig.nil _))).trim
theorem ofW_val (v : Nat) : val B32 (ofW v) = v := by
  unfold ofW
  rw [val_trim]
  simp only [val_cons, val_nil]
  unfold B32
  omega
theorem ofW_length (v : Nat) : (ofW v).length ≤ 2 := by
  unfold ofW
  have := trimL_length [((v % 4294967296 : Nat) : Int), ((v / 4294967296 : Nat) : Int)]
  simpa using this
end Go.Proofs.YtdbnmdchecacdaaDoor.M
end
section
namespace Go.Proofs.YtdbnmdchecacdaaDoor.M
open Go.RowKit Go.Proofs.YtdbnmdchecacdaaDoor.G Go.Proofs.YtdbnmdchecacdaaDoorV.PrintWords Go.Proofs.YtdbnmdchecacdaaDoorV.PrintLast Go.Proofs.YtdbnmdchecacdaaDoorV.PrintMore Go.Proofs.YtdbnmdchecacdaaDoor.PL
set_option linter.unusedVariables false
set_option linter.unusedSimpArgs false
theorem bits_of (v : Nat) (hv : v < 18446744073709551616) : ∃ m : Nat, IsBits v m ∧ m ≤ 64 := by
  by_cases h0 : v = 0
  · subst h0
    exact ⟨0, IsBits.zero, by decide⟩
  · have h1 : v < 2 ^ (v.log2 + 1) := Nat.lt_log2_self
    have h2 : 2 ^ v.log2 ≤ v := Nat.log2_self_le h0
    have h : IsBits v (v.log2 + 1) := ⟨h1, .inr (by rw [Nat.add_sub_cancel]; exact h2)⟩
    exact ⟨v.log2 + 1, h, h.le (w := 64) hv⟩
theorem sbits_gen (a : List Int) (ha : Dig B32 a) (na : Norm a) (la : a.length ≤ 1073741824) :
    ∃ m : Nat, Ev (fun k => spec_l1Bits.f k a) (m : Int) ∧ IsBits (val B32 a) m ∧ m ≤ 32 * a.length := by
  unfold spec_l1Bits.f
  rcases Nat.eq_zero_or_pos a.length with h | h
  · obtain rfl := List.eq_nil_of_length_eq_zero h
    exact ⟨0, Ev.congr (fun k => by simp) (Ev.now _), IsBits.zero, by simp⟩
  · obtain ⟨b, x, rfl⟩ := snoc_of h
    have hx := norm_snoc.1 na
    have hx0 := ha x (by simp)
    have hb : Dig B32 b := fun y hy => ha y (by simp [hy])
    have hl : (b ++ [x]).length = b.length + 1 := by simp
    rw [hl] at la
    obtain ⟨m, hm, hm64⟩ := bits_of x.toNat (by unfold B32 at hx0; omega)
    have hm32 : m ≤ 32 := hm.le (by unfold B32 at hx0; omega)
    have hv : val B32 (b ++ [x]) / 2 ^ (32 * b.length) = x.toNat := by
      rw [val_snoc, Nat.pow_mul, ← B32_pow, Nat.add_mul_div_left _ _ (Nat.pow_pos B32_pos), Nat.div_eq_of_lt (val_lt hb), Nat.zero_add]
    refine ⟨32 * b.length + m, ?_, IsBits.up (s := 32 * b.length) (by rw [hv]; exact hm) (by rw [hv]; omega), by rw [hl]; omega⟩
    have hr : rd (b ++ [x]) ((b.length : Nat) : Int) = ((x.toNat : Nat) : Int) := by
      rw [rd_nat]; simp; omega
    have w1 : wrap64 (((b ++ [x]).length : Int) - 1) = ((b.length : Nat) : Int) := by rw [hl, wrap64_id (by omega)]; omega
    have w2 : wrap64 (32 * ((b.length : Nat) : Int)) = ((32 * b.length : Nat) : Int) := by rw [wrap64_id (by omega)]; omega
    have g1 : ¬ ((b ++ [x]).length : Int) = 0 := by omega
    have g2 : ((b.length : Nat) : Int) < ((b ++ [x]).length : Int) := by omega
    refine Ev.congr (fun k => ?_) (sbits_loop m x.toNat (32 * b.length) hm (by omega))
    rw [if_neg g1, w1, w2, if_pos (Int.natCast_nonneg _), if_pos g2, hr]
theorem wtdiv32 (i : Nat) (h : i ≤ 9223372036854775807) : wrap64 (Int.tdiv (i : Int) 32) = ((i / 32 : Nat) : Int) := by
  have h1 := wtdiv i 32 h
  rw [show ((32 : Nat) : Int) = 32 from rfl] at h1
  exact h1
theorem wtmod32 (i : Nat) (h : i ≤ 9223372036854775807) : IntKind.u64.wrap (Int.tmod (i : Int) 32) = ((i % 32 : Nat) : Int) := by
  have h1 := wtmod i 32 h
  rw [show ((32 : Nat) : Int) = 32 from rfl] at h1
  exact h1
end Go.Proofs.YtdbnmdchecacdaaDoor.M
end
section
namespace Go.Proofs.YtdbnmdchecacdaaDoor.M
open Go.RowKit Go.Proofs.YtdbnmdchecacdaaDoor.G Go.Proofs.YtdbnmdchecacdaaDoorV.PrintWords Go.Proofs.YtdbnmdchecacdaaDoorV.PrintLast Go.Proofs.YtdbnmdchecacdaaDoorV.PrintMore Go.Proofs.YtdbnmdchecacdaaDoor.PL
set_option linter.unusedVariables false
set_option linter.unusedSimpArgs false
theorem rd_val {B : Nat} (hB : 0 < B) {a : List Int} (ha : Dig B a) (p : Nat) : (rd a (p : Int)).toNat = val B a / B ^ p % B := by
  rw [← val_drop B hB ha p, val_mod B B (Nat.dvd_refl _)]
  have h : rd (a.drop p) 0 = rd a (p : Int) := by
    show rd (a.drop p) ((0 : Nat) : Int) = rd a (p : Int)
    rw [rd_nat, rd_nat]
    simp [List.getD_eq_getElem?_getD]
  rw [h]
  have := ha.rd hB (p : Int)
  rw [Nat.mod_eq_of_lt (by omega)]
theorem bit_of (v i : Nat) : v / B32 ^ (i / 32) % B32 / 2 ^ (i % 32) % 2 = v / 2 ^ i % 2 := by
  have e1 : B32 ^ (i / 32) * 2 ^ (i % 32) = 2 ^ i := by rw [B32_pow, ← Nat.pow_mul, ← Nat.pow_add]; congr 1; omega
  rw [← e1, ← Nat.div_div_eq_div_mul]
  generalize v / B32 ^ (i / 32) = u
  have hs : i % 32 < 32 := Nat.mod_lt _ (by decide)
  generalize i % 32 = s at *
  have e2 : B32 = 2 ^ s * (2 * 2 ^ (31 - s)) := by
    rw [B32_pow, ← Nat.mul_assoc, ← Nat.pow_succ, ← Nat.pow_add]; congr 1; omega
  rw [e2, Nat.mod_mul_right_div_self, Nat.mod_mul_right_mod]
theorem and1 (x : Nat) (h : x < 18446744073709551616) : bits .and .u64 (x : Int) 1 = ((x % 2 : Nat) : Int) := by
  have := and_mask 1 (by decide) (x : Int) (by omega) (by omega)
  simpa using this
theorem l1Bit_eq (a : List Int) (ha : Dig B32 a) (i : Nat) (hi : i ≤ 100000) : spec_l1Bit.f a (i : Int) = some ((val B32 a / 2 ^ i % 2 : Nat) : Int) := by
  have hr := ha.rd B32_pos ((i / 32 : Nat) : Int)
  have hv := rd_val B32_pos ha (i / 32)
  have hb := bit_of (val B32 a) i
  have h32 : B32 = 4294967296 := rfl
  have e1 : rd a ((i / 32 : Nat) : Int) = ((val B32 a / B32 ^ (i / 32) % B32 : Nat) : Int) := by rw [← hv]; omega
  have hx : val B32 a / B32 ^ (i / 32) % B32 < 18446744073709551616 := Nat.lt_trans (Nat.mod_lt _ B32_pos) (by decide)
  have hx2 : val B32 a / B32 ^ (i / 32) % B32 / 2 ^ (i % 32) < 18446744073709551616 := Nat.lt_of_le_of_lt (Nat.div_le_self _ _) hx
  have b1 : i ≤ 9223372036854775807 := by omega
  have b2 : i % 32 ≤ 64 := by omega
  unfold spec_l1Bit.f
  rw [wtdiv32 i b1, wtmod32 i b1, at_eq _ _ (Int.natCast_nonneg _), Option.bind_some, if_pos (Int.natCast_nonneg _), e1, shr_nat _ _ b2, and1 _ hx2, hb]
theorem l2Low_ev (a : List Int) (ha : Dig B32 a) (la : a.length ≤ 100000) (n : Nat) (hn : n ≤ 100000) :
    ∃ r, Ev (fun k => spec_l2Low.f k a (n : Int)) r ∧ Dig B32 r ∧ Norm r ∧ val B32 r = val B32 a % 2 ^ n ∧ r.length ≤ a.length := by
  obtain ⟨s, hs, ds, ns, vs, ls⟩ := sright_ev a ha (by omega) n (by omega)
  obtain ⟨t, ht, dt, nt, vt, lt⟩ := sleft_ev s ds (by omega) n (by omega)
  have hle : val B32 t ≤ val B32 a := by rw [vt, vs]; exact Nat.div_mul_le_self _ _
  obtain ⟨r, hr, dr, nr, vr, lr⟩ := ssub_ev a t ha dt (by omega) hle
  refine ⟨r, ?_, dr, nr, ?_, lr⟩
  · unfold spec_l2Low.f
    exact Ev.bind hs (Ev.bind ht (Ev.bind hr (Ev.now _)))
  · rw [vr, vt, vs]
    have := Nat.div_add_mod (val B32 a) (2 ^ n)
    rw [Nat.mul_comm] at this
    omega
theorem l2Two_ev (n : Nat) (hn : n ≤ 100000) : ∃ r, Ev (fun k => spec_l2Two.f k (n : Int)) r ∧ Dig B32 r ∧ Norm r ∧ val B32 r = 2 ^ n ∧ r.length ≤ 1000003 := by
  have o1 := ofW_eq 1 (by decide)
  have l1 := ofW_length 1
  obtain ⟨t, ht, dt, nt, vt, lt⟩ := sleft_ev (ofW 1) (ofW_dig 1 (by decide)) (by omega) n (by omega)
  refine ⟨t, ?_, dt, nt, by rw [vt, ofW_val, Nat.one_mul], by omega⟩
  unfold spec_l2Two.f
  exact ev_bindc o1 (Ev.bind ht (Ev.now _))
theorem two_digits (l : List Int) (hl : Dig B64 l) (h2 : l.length ≤ 2) : rd (l ++ [0, 0]) 0 = loI (val B64 l) ∧ rd (l ++ [0, 0]) 1 = hiI (val B64 l) ∧ 2 ≤ (l ++ [0, 0]).length := by
  have hB : B64 = 18446744073709551616 := rfl
  match l, hl, h2 with
  | [], _, _ => exact ⟨rfl, rfl, by simp⟩
  | [x], hl, _ =>
    have hx := hl x (by simp)
    refine ⟨?_, ?_, by simp⟩
    · show x = loI (val B64 [x])
      rw [val_one]
      unfold loI
      omega
    · show (0 : Int) = hiI (val B64 [x])
      rw [val_one]
      unfold hiI
      omega
  | [x, y], hl, _ =>
    have hx := hl x (by simp)
    have hy := hl y (by simp)
    refine ⟨?_, ?_, by simp⟩
    · show x = loI (val B64 [x, y])
      rw [val_cons, val_one, hB]
      unfold B64 at hx hy
      unfold loI
      omega
    · show y = hiI (val B64 [x, y])
      rw [val_cons, val_one, hB]
      unfold B64 at hx hy
      unfold hiI
      omega
  | x :: y :: z :: l, _, h2 => simp at h2
theorem l2Word_ev (a : List Int) (ha : Dig B32 a) (na : Norm a) (la : a.length ≤ 2000000) (hv : val B32 a < B128) : Ev (fun k => spec_l2Word.f k a) (hiI (val B32 a), loI (val B32 a)) := by
  have ho := out_ev a ha (by omega)
  have hN := IsNat.out ha na rfl
  have hB : B128 = B64 ^ 2 := by unfold B64; rfl
  have hlen : (outL a).length ≤ 2 := by
    rcases Nat.lt_or_ge 2 (outL a).length with h1 | h1
    · have h2 := val_ge hN.1 hN.2.1 (by omega)
      have h3 : B64 ^ 2 ≤ B64 ^ ((outL a).length - 1) := Nat.pow_le_pow_right B64_pos (by omega)
      have := hN.2.2
      rw [hB] at hv
      omega
    · exact h1
  obtain ⟨d1, d2, d3⟩ := two_digits (outL a) hN.1 hlen
  rw [hN.2.2] at d1 d2
  unfold spec_l2Word.f
  refine Ev.bind ho (Ev.congr (fun k => ?_) (Ev.now _))
  have c1 : (outL a).length + ([0, 0] : List Int).length < 17592186044416 := by
    show (outL a).length + 2 < 17592186044416
    omega
  have c2 : (1 : Int) < ((outL a ++ [0, 0]).length : Int) := by omega
  have c3 : (0 : Int) < ((outL a ++ [0, 0]).length : Int) := by omega
  rw [Option.bind_some, if_pos c1, Option.bind_some, if_pos c2, if_pos c3, d1, d2]
theorem l2Of_ev (w : Nat) (hw : w < B128) : ∃ r, Ev (fun k => spec_l2Of.f k (hiI w) (loI w)) r ∧ Dig B32 r ∧ Norm r ∧ val B32 r = w ∧ r.length ≤ 4 := by
  have hh := hi_lt hw
  have hd : Dig B64 [loI w, hiI w] := by
    intro x hx
    simp only [List.mem_cons, List.not_mem_nil, or_false] at hx
    unfold B64
    rcases hx with h | h <;> subst h
    · unfold loI; omega
    · unfold hiI; omega
  have hi := in_ev [loI w, hiI w] hd (show 2 ≤ 1073741824 by decide)
  have hl := inL_length [loI w, hiI w]
  refine ⟨inL [loI w, hiI w], ?_, inL_dig hd, inL_norm _, ?_, hl⟩
  · unfold spec_l2Of.f
    exact Ev.bind hi (Ev.now _)
  · rw [inL_val hd, val_cons, val_one]
    unfold loI hiI B64
    rw [Int.toNat_natCast, Int.toNat_natCast]
    have := Nat.div_add_mod w 18446744073709551616
    omega
end Go.Proofs.YtdbnmdchecacdaaDoor.M
end
section
namespace Go.Proofs.YtdbnmdchecacdaaDoor.M
open Go.RowKit Go.Proofs.YtdbnmdchecacdaaDoor.G Go.Proofs.YtdbnmdchecacdaaDoorV.PrintWords Go.Proofs.YtdbnmdchecacdaaDoorV.PrintLast Go.Proofs.YtdbnmdchecacdaaDoorV.PrintMore Go.Proofs.YtdbnmdchecacdaaDoor.PL
set_option linter.unusedVariables false
set_option linter.unusedSimpArgs false
abbrev Prt : Type := Int × Bool × Int × Int × Int
def badP : Prt := (0, false, 0, 0, 0)
def partsOf (P : Nat) (emin emax : Int) (E : Nat) (e : Nat) (neg : Bool) (rest : Nat) : Prt :=
  if e = 2 ^ E - 1 then (if rest = 0 then (4, neg, 0, 0, 0) else (5, false, 0, 0, 0))
  else if e = 0 then (if rest = 0 then (1, neg, 0, 0, 0) else (2, neg, hiI rest, loI rest, emin - P + 1))
  else (3, neg, hiI (rest + 2 ^ (P - 1)), loI (rest + 2 ^ (P - 1)), e - emax - P + 1)
def fracN (P : Nat) (ex : Bool) : Nat := if ex = true then P else P - 1
def unpN (P : Nat) (emin emax : Int) (W E : Nat) (ex : Bool) (w : Nat) : Prt :=
  if 2 ^ W ≤ w then badP
  else if ex = true then
    (if (2 ^ (P - 1) ≤ w % 2 ^ P ↔ w / 2 ^ P % 2 ^ E ≠ 0) then partsOf P emin emax E (w / 2 ^ P % 2 ^ E) (decide (w / 2 ^ (W - 1) % 2 = 1)) (w % 2 ^ P % 2 ^ (P - 1)) else badP)
  else partsOf P emin emax E (w / 2 ^ (P - 1) % 2 ^ E) (decide (w / 2 ^ (W - 1) % 2 = 1)) (w % 2 ^ (P - 1))
structure Fmt (P : Nat) (emin emax : Int) (W E : Nat) (ex : Bool) : Prop where
  p0 : 2 ≤ P
  p1 : P ≤ 113
  e0 : 1 ≤ E
  e1 : E ≤ 15
  w1 : fracN P ex + E + 1 = W
  w2 : W ≤ 128
  m0 : -20000 ≤ emin ∧ emin ≤ 20000
  m1 : -20000 ≤ emax ∧ emax ≤ 20000
theorem wsm (x : Int) (h : -10000000 ≤ x ∧ x ≤ 10000000) : wrap64 x = x := wrap64_id (by omega)
section
variable {P : Nat} {emin emax : Int} {W E : Nat} {ex : Bool}
theorem Fmt.plt (h : Fmt P emin emax W E ex) : 2 ^ E ≤ 32768 := by
  have := Nat.pow_le_pow_right (n := 2) (by decide) h.e1
  exact this
end
end Go.Proofs.YtdbnmdchecacdaaDoor.M
end
section
namespace Go.Proofs.YtdbnmdchecacdaaDoor.M
open Go.RowKit Go.Proofs.YtdbnmdchecacdaaDoor.G Go.Proofs.YtdbnmdchecacdaaDoorV.PrintWords Go.Proofs.YtdbnmdchecacdaaDoorV.PrintLast Go.Proofs.YtdbnmdchecacdaaDoorV.PrintMore Go.Proofs.YtdbnmdchecacdaaDoor.PL
set_option linter.unusedVariables false
set_option linter.unusedSimpArgs false
theorem bit_top {v m : Nat} (h : v < 2 ^ (m + 1)) : v / 2 ^ m % 2 = if 2 ^ m ≤ v then 1 else 0 := by
  have hp : 0 < 2 ^ m := Nat.pow_pos (by decide)
  rw [Nat.pow_succ] at h
  have h2 : v / 2 ^ m < 2 := by rw [Nat.div_lt_iff_lt_mul hp, Nat.mul_comm]; exact h
  by_cases hv : 2 ^ m ≤ v
  · rw [if_pos hv]
    have := (Nat.le_div_iff_mul_le hp).2 (show 1 * 2 ^ m ≤ v by omega)
    omega
  · rw [if_neg hv, Nat.div_eq_of_lt (by omega)]
end Go.Proofs.YtdbnmdchecacdaaDoor.M
end
section
namespace Go.Proofs.YtdbnmdchecacdaaDoor.M
open Go.RowKit Go.Proofs.YtdbnmdchecacdaaDoor.G Go.Proofs.YtdbnmdchecacdaaDoorV.PrintWords Go.Proofs.YtdbnmdchecacdaaDoorV.PrintLast Go.Proofs.YtdbnmdchecacdaaDoorV.PrintMore Go.Proofs.YtdbnmdchecacdaaDoor.PL
set_option linter.unusedVariables false
set_option linter.unusedSimpArgs false
theorem word_ne (x : Nat) : (!(hiI x == 0) || (!(loI x == 0))) = decide (x ≠ 0) := by
  unfold hiI loI
  by_cases h : x = 0
  · subst h; rfl
  · rw [decide_eq_true h]
    by_cases h1 : x / 18446744073709551616 = 0
    · have h2 : x % 18446744073709551616 ≠ 0 := by omega
      have : (((x % 18446744073709551616 : Nat) : Int) == 0) = false := by rw [beq_eq_false_iff_ne]; omega
      rw [this]; simp
    · have : (((x / 18446744073709551616 : Nat) : Int) == 0) = false := by rw [beq_eq_false_iff_ne]; omega
      rw [this]; rfl
theorem word_eq0 (x : Nat) : (hiI x == 0 && (loI x == 0)) = decide (x = 0) := by
  have h := word_ne x
  have h2 : (hiI x == 0 && (loI x == 0)) = !(!(hiI x == 0) || (!(loI x == 0))) := by cases (hiI x == 0) <;> cases (loI x == 0) <;> rfl
  rw [h2, h]
  by_cases h0 : x = 0
  · rw [decide_eq_true h0, decide_eq_false (by simpa using h0)]; rfl
  · rw [decide_eq_false h0, decide_eq_true h0]; rfl
section
variable {P : Nat} {emin emax : Int} {W E : Nat} {ex : Bool}
theorem top_eq (h : Fmt P emin emax W E ex) : impl_layout_top.f (P : Int) emin emax (W : Int) (E : Int) ex = some ((2 ^ E - 1 : Nat) : Int) := by
  have hE := h.plt
  have he1 := h.e1
  have hp : 0 < 2 ^ E := Nat.pow_pos (by decide)
  unfold impl_layout_top.f
  have hs : shl .i64 1 (E : Int) = ((2 ^ E : Nat) : Int) := by
    unfold shl
    rw [Int.toNat_natCast, show IntKind.i64.bits = 64 from rfl, Nat.min_eq_left (by omega), show ((1 : Int) * 2 ^ E) = ((2 ^ E : Nat) : Int) by simp]
    have : IntKind.i64.wrap ((2 ^ E : Nat) : Int) = wrap64 ((2 ^ E : Nat) : Int) := (i64_w _)
    rw [this]
    exact wsm _ (by omega)
  rw [if_pos (Int.natCast_nonneg _), hs, wsm _ (by omega)]
  congr 1
  omega
theorem frac_eq (h : Fmt P emin emax W E ex) : impl_layout_fracBits.f (P : Int) emin emax (W : Int) (E : Int) ex = some (fracN P ex : Int) := by
  have hp0 := h.p0
  have hp1 := h.p1
  unfold impl_layout_fracBits.f fracN
  cases ex with
  | true => rfl
  | false =>
    rw [if_neg (by decide), if_neg (by decide), wsm _ (by omega)]
    congr 1
    omega
theorem qmin_eq (h : Fmt P emin emax W E ex) : impl_layout_qMin.f (P : Int) emin emax (W : Int) (E : Int) ex = some (emin - P + 1) := by
  have hp1 := h.p1
  have m0 := h.m0
  unfold impl_layout_qMin.f
  rw [wsm (emin - (P : Int)) (by omega), wsm _ (by omega)]
theorem small2 (q : Nat) (h : q < 2) : q ≠ 0 ↔ q % 2 = 1 := by omega
end
end Go.Proofs.YtdbnmdchecacdaaDoor.M
end
section
namespace Go.Proofs.YtdbnmdchecacdaaDoor.M
open Go.RowKit Go.Proofs.YtdbnmdchecacdaaDoor.G Go.Proofs.YtdbnmdchecacdaaDoorV.PrintWords Go.Proofs.YtdbnmdchecacdaaDoorV.PrintLast Go.Proofs.YtdbnmdchecacdaaDoorV.PrintMore Go.Proofs.YtdbnmdchecacdaaDoor.PL
set_option linter.unusedVariables false
set_option linter.unusedSimpArgs false
theorem fmt0 : Fmt 24 (-126) 127 32 8 false := ⟨by decide, by decide, by decide, by decide, by decide, by decide, by decide, by decide⟩
theorem fmt1 : Fmt 53 (-1022) 1023 64 11 false := ⟨by decide, by decide, by decide, by decide, by decide, by decide, by decide, by decide⟩
theorem fmt2 : Fmt 64 (-16382) 16383 80 15 true := ⟨by decide, by decide, by decide, by decide, by decide, by decide, by decide, by decide⟩
theorem fmt3 : Fmt 113 (-16382) 16383 128 15 false := ⟨by decide, by decide, by decide, by decide, by decide, by decide, by decide, by decide⟩
theorem word_split {hi lo : Int} (h1 : (Lit.int .u64 hi).wf = true) (h2 : (Lit.int .u64 lo).wf = true) : ∃ w : Nat, w < B128 ∧ hi = hiI w ∧ lo = loI w := by
  have a := wf_u64 (l := [hi]) (by simpa using h1) hi (by simp)
  have b := wf_u64 (l := [lo]) (by simpa using h2) lo (by simp)
  unfold B64 at a b
  obtain ⟨x, rfl⟩ : ∃ x : Nat, hi = x := ⟨hi.toNat, by omega⟩
  obtain ⟨y, rfl⟩ : ∃ y : Nat, lo = y := ⟨lo.toNat, by omega⟩
  have h := wordI_of x y (by omega)
  exact ⟨x * 18446744073709551616 + y, by unfold B128; omega, h.1.symm, h.2.symm⟩
end Go.Proofs.YtdbnmdchecacdaaDoor.M
end
