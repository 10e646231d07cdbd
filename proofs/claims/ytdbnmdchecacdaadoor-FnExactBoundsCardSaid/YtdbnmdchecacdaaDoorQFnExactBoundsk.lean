import Derived.Test.YtdbnmdchecacdaaDoorQFnExactBoundsj
section
namespace Go.Proofs.YtdbnmdchecacdaaDoor.M
open Go.RowKit Go.Proofs.YtdbnmdchecacdaaDoor.G Go.Proofs.YtdbnmdchecacdaaDoorV.PrintWords Go.Proofs.YtdbnmdchecacdaaDoorV.PrintLast Go.Proofs.YtdbnmdchecacdaaDoorV.PrintMore Go.Proofs.YtdbnmdchecacdaaDoor.PB
set_option linter.unusedVariables false
set_option linter.unusedSimpArgs false
theorem rd_val {B : Nat} (hB : 0 < B) {a : List Int} (ha : Dig B a) (p : Nat) : (rd a (p : Int)).toNat = val B a / B ^ p % B := by
  rw [← val_drop B hB ha p, val_mod B B (Nat.dvd_refl _)]
  have h : rd (a.drop p) 0 = rd a (p : Int) := by
    show rd (a.drop p) ((0 : Nat) : Int) = rd a (p : Int)
    rw [rd_nat, rd_nat]
    simp [List.getD_eq_getElem?_getD]
  rw [h]
  have := ha.rd hB (p : Int)
  rw [Nat.mod_eq_of_lt (by omega)]
theorem bit_of (v i : Nat) : v / B32 ^ (i / 32) % B32 / 2 ^ (i % 32) % 2 = v / 2 ^ i % 2 := by
  have e1 : B32 ^ (i / 32) * 2 ^ (i % 32) = 2 ^ i := by rw [B32_pow, ← Nat.pow_mul, ← Nat.pow_add]; congr 1; omega
  rw [← e1, ← Nat.div_div_eq_div_mul]
  generalize v / B32 ^ (i / 32) = u
  have hs : i % 32 < 32 := Nat.mod_lt _ (by decide)
  generalize i % 32 = s at *
  have e2 : B32 = 2 ^ s * (2 * 2 ^ (31 - s)) := by
    rw [B32_pow, ← Nat.mul_assoc, ← Nat.pow_succ, ← Nat.pow_add]; congr 1; omega
  rw [e2, Nat.mod_mul_right_div_self, Nat.mod_mul_right_mod]
theorem and1 (x : Nat) (h : x < 18446744073709551616) : bits .and .u64 (x : Int) 1 = ((x % 2 : Nat) : Int) := by
  have := and_mask 1 (by decide) (x : Int) (by omega) (by omega)
  simpa using this
theorem l1Bit_eq (a : List Int) (ha : Dig B32 a) (i : Nat) (hi : i ≤ 100000) : spec_l1Bit.f a (i : Int) = some ((val B32 a / 2 ^ i % 2 : Nat) : Int) := by
  have hr := ha.rd B32_pos ((i / 32 : Nat) : Int)
  have hv := rd_val B32_pos ha (i / 32)
  have hb := bit_of (val B32 a) i
  have h32 : B32 = 4294967296 := rfl
  have e1 : rd a ((i / 32 : Nat) : Int) = ((val B32 a / B32 ^ (i / 32) % B32 : Nat) : Int) := by rw [← hv]; omega
  have hx : val B32 a / B32 ^ (i / 32) % B32 < 18446744073709551616 := Nat.lt_trans (Nat.mod_lt _ B32_pos) (by decide)
  have hx2 : val B32 a / B32 ^ (i / 32) % B32 / 2 ^ (i % 32) < 18446744073709551616 := Nat.lt_of_le_of_lt (Nat.div_le_self _ _) hx
  have b1 : i ≤ 9223372036854775807 := by omega
  have b2 : i % 32 ≤ 64 := by omega
  unfold spec_l1Bit.f
  rw [wtdiv32 i b1, wtmod32 i b1, at_eq _ _ (Int.natCast_nonneg _), Option.bind_some, if_pos (Int.natCast_nonneg _), e1, shr_nat _ _ b2, and1 _ hx2, hb]
theorem l2Low_ev (a : List Int) (ha : Dig B32 a) (la : a.length ≤ 100000) (n : Nat) (hn : n ≤ 100000) :
    ∃ r, Ev (fun k => spec_l2Low.f k a (n : Int)) r ∧ Dig B32 r ∧ Norm r ∧ val B32 r = val B32 a % 2 ^ n ∧ r.length ≤ a.length := by
  obtain ⟨s, hs, ds, ns, vs, ls⟩ := sright_ev a ha (by omega) n (by omega)
  obtain ⟨t, ht, dt, nt, vt, lt⟩ := sleft_ev s ds (by omega) n (by omega)
  have hle : val B32 t ≤ val B32 a := by rw [vt, vs]; exact Nat.div_mul_le_self _ _
  obtain ⟨r, hr, dr, nr, vr, lr⟩ := ssub_ev a t ha dt (by omega) hle
  refine ⟨r, ?_, dr, nr, ?_, lr⟩
  · unfold spec_l2Low.f
    exact Ev.bind hs (Ev.bind ht (Ev.bind hr (Ev.now _)))
  · rw [vr, vt, vs]
    have := Nat.div_add_mod (val B32 a) (2 ^ n)
    rw [Nat.mul_comm] at this
    omega
theorem l2Two_ev (n : Nat) (hn : n ≤ 100000) : ∃ r, Ev (fun k => spec_l2Two.f k (n : Int)) r ∧ Dig B32 r ∧ Norm r ∧ val B32 r = 2 ^ n ∧ r.length ≤ 1000003 := by
  have o1 := ofW_eq 1 (by decide)
  have l1 := ofW_length 1
  obtain ⟨t, ht, dt, nt, vt, lt⟩ := sleft_ev (ofW 1) (ofW_dig 1 (by decide)) (by omega) n (by omega)
  refine ⟨t, ?_, dt, nt, by rw [vt, ofW_val, Nat.one_mul], by omega⟩
  unfold spec_l2Two.f
  exact ev_bindc o1 (Ev.bind ht (Ev.now _))
theorem two_digits (l : List Int) (hl : Dig B64 l) (h2 : l.length ≤ 2) : rd (l ++ [0, 0]) 0 = loI (val B64 l) ∧ rd (l ++ [0, 0]) 1 = hiI (val B64 l) ∧ 2 ≤ (l ++ [0, 0]).length := by
  have hB : B64 = 18446744073709551616 := rfl
  match l, hl, h2 with
  | [], _, _ => exact ⟨rfl, rfl, by simp⟩
  | [x], hl, _ =>
    have hx := hl x (by simp)
    refine ⟨?_, ?_, by simp⟩
    · show x = loI (val B64 [x])
      rw [val_one]
      unfold loI
      omega
    · show (0 : Int) = hiI (val B64 [x])
      rw [val_one]
      unfold hiI
      omega
  | [x, y], hl, _ =>
    have hx := hl x (by simp)
    have hy := hl y (by simp)
    refine ⟨?_, ?_, by simp⟩
    · show x = loI (val B64 [x, y])
      rw [val_cons, val_one, hB]
      unfold B64 at hx hy
      unfold loI
      omega
    · show y = hiI (val B64 [x, y])
      rw [val_cons, val_one, hB]
      unfold B64 at hx hy
      unfold hiI
      omega
  | x :: y :: z :: l, _, h2 => simp at h2
theorem l2Word_ev (a : List Int) (ha : Dig B32 a) (na : Norm a) (la : a.length ≤ 2000000) (hv : val B32 a < B128) : Ev (fun k => spec_l2Word.f k a) (hiI (val B32 a), loI (val B32 a)) := by
  have ho := out_ev a ha (by omega)
  have hN := IsNat.out ha na rfl
  have hB : B128 = B64 ^ 2 := by unfold B64; rfl
  have hlen : (outL a).length ≤ 2 := by
    rcases Nat.lt_or_ge 2 (outL a).length with h1 | h1
    · have h2 := val_ge hN.1 hN.2.1 (by omega)
      have h3 : B64 ^ 2 ≤ B64 ^ ((outL a).length - 1) := Nat.pow_le_pow_right B64_pos (by omega)
      have := hN.2.2
      rw [hB] at hv
      omega
    · exact h1
  obtain ⟨d1, d2, d3⟩ := two_digits (outL a) hN.1 hlen
  rw [hN.2.2] at d1 d2
  unfold spec_l2Word.f
  refine Ev.bind ho (Ev.congr (fun k => ?_) (Ev.now _))
  have c1 : (outL a).length + ([0, 0] : List Int).length < 17592186044416 := by
    show (outL a).length + 2 < 17592186044416
    omega
  have c2 : (1 : Int) < ((outL a ++ [0, 0]).length : Int) := by omega
  have c3 : (0 : Int) < ((outL a ++ [0, 0]).length : Int) := by omega
  rw [Option.bind_some, if_pos c1, Option.bind_some, if_pos c2, if_pos c3, d1, d2]
theorem l2Of_ev (w : Nat) (hw : w < B128) : ∃ r, Ev (fun k => spec_l2Of.f k (hiI w) (loI w)) r ∧ Dig B32 r ∧ Norm r ∧ val B32 r = w ∧ r.length ≤ 4 := by
  have hh := hi_lt hw
  have hd : Dig B64 [loI w, hiI w] := by
    intro x hx
    simp only [List.mem_cons, List.not_mem_nil, or_false] at hx
    unfold B64
    rcases hx with h | h <;> subst h
    · unfold loI; omega
    · unfold hiI; omega
  have hi := in_ev [loI w, hiI w] hd (show 2 ≤ 1073741824 by decide)
  have hl := inL_length [loI w, hiI w]
  refine ⟨inL [loI w, hiI w], ?_, inL_dig hd, inL_norm _, ?_, hl⟩
  · unfold spec_l2Of.f
    exact Ev.bind hi (Ev.now _)
  · rw [inL_val hd, val_cons, val_one]
    unfold loI hiI B64
    rw [Int.toNat_natCast, Int.toNat_natCast]
    have := Nat.div_add_mod w 18446744073709551616
    omega
theorem isBits_gt {v m W : Nat} (h : IsBits v m) : W < m ↔ 2 ^ W ≤ v := by
  constructor
  · intro hW
    rcases h.2 with h2 | h2
    · omega
    · exact Nat.le_trans (Nat.pow_le_pow_right (by decide) (by omega)) h2
  · intro hv
    rcases Nat.lt_or_ge W m with h2 | h2
    · exact h2
    · have := Nat.pow_le_pow_right (n := 2) (by decide) h2
      have := h.1
      omega
end Go.Proofs.YtdbnmdchecacdaaDoor.M
end
section
namespace Go.Proofs.YtdbnmdchecacdaaDoor.M
open Go.RowKit Go.Proofs.YtdbnmdchecacdaaDoor.G Go.Proofs.YtdbnmdchecacdaaDoorV.PrintWords Go.Proofs.YtdbnmdchecacdaaDoorV.PrintLast Go.Proofs.YtdbnmdchecacdaaDoorV.PrintMore Go.Proofs.YtdbnmdchecacdaaDoor.PB
set_option linter.unusedVariables false
set_option linter.unusedSimpArgs false
abbrev Prt : Type := Int × Bool × Int × Int × Int
def badP : Prt := (0, false, 0, 0, 0)
def partsOf (P : Nat) (emin emax : Int) (E : Nat) (e : Nat) (neg : Bool) (rest : Nat) : Prt :=
  if e = 2 ^ E - 1 then (if rest = 0 then (4, neg, 0, 0, 0) else (5, false, 0, 0, 0))
  else if e = 0 then (if rest = 0 then (1, neg, 0, 0, 0) else (2, neg, hiI rest, loI rest, emin - P + 1))
  else (3, neg, hiI (rest + 2 ^ (P - 1)), loI (rest + 2 ^ (P - 1)), e - emax - P + 1)
def fracN (P : Nat) (ex : Bool) : Nat := if ex = true then P else P - 1
def unpN (P : Nat) (emin emax : Int) (W E : Nat) (ex : Bool) (w : Nat) : Prt :=
  if 2 ^ W ≤ w then badP
  else if ex = true then
    (if (2 ^ (P - 1) ≤ w % 2 ^ P ↔ w / 2 ^ P % 2 ^ E ≠ 0) then partsOf P emin emax E (w / 2 ^ P % 2 ^ E) (decide (w / 2 ^ (W - 1) % 2 = 1)) (w % 2 ^ P % 2 ^ (P - 1)) else badP)
  else partsOf P emin emax E (w / 2 ^ (P - 1) % 2 ^ E) (decide (w / 2 ^ (W - 1) % 2 = 1)) (w % 2 ^ (P - 1))
structure Fmt (P : Nat) (emin emax : Int) (W E : Nat) (ex : Bool) : Prop where
  p0 : 2 ≤ P
  p1 : P ≤ 113
  e0 : 1 ≤ E
  e1 : E ≤ 15
  w1 : fracN P ex + E + 1 = W
  w2 : W ≤ 128
  m0 : -20000 ≤ emin ∧ emin ≤ 20000
  m1 : -20000 ≤ emax ∧ emax ≤ 20000
theorem wsm (x : Int) (h : -10000000 ≤ x ∧ x ≤ 10000000) : wrap64 x = x := wrap64_id (by omega)
section
variable {P : Nat} {emin emax : Int} {W E : Nat} {ex : Bool}
theorem Fmt.plt (h : Fmt P emin emax W E ex) : 2 ^ E ≤ 32768 := by
  have := Nat.pow_le_pow_right (n := 2) (by decide) h.e1
  exact this
theorem l2_j5 (h : Fmt P emin emax W E ex) (rest : List Int) (dr : Dig B32 rest) (nr : Norm rest) (lr : rest.length ≤ 100) (hr : val B32 rest < 2 ^ P) (e : Nat) (he : e < 2 ^ E) (neg : Bool) (x0 : Int) (x6 x7 x8 x9 : Int) (z : Bool) (hz : z = decide (e = 0 ∧ val B32 rest = 0)) :
    Ev (fun k => spec_Unpack.j5 k (e : Int) rest z (P : Int) emin emax (W : Int) (E : Int) ex x0 neg 0 0 0) (if e = 0 then (if val B32 rest = 0 then (1, neg, 0, 0, 0) else (2, neg, hiI (val B32 rest), loI (val B32 rest), emin - P + 1)) else (3, neg, hiI (val B32 rest + 2 ^ (P - 1)), loI (val B32 rest + 2 ^ (P - 1)), e - emax - P + 1)) := by
  have hp1 := h.p1
  have hp0 := h.p0
  have hE := h.plt
  have m0 := h.m0
  have m1 := h.m1
  have hB : val B32 rest < B128 := Nat.lt_of_lt_of_le hr ((show 2 ^ P ≤ 2 ^ 128 from Nat.pow_le_pow_right (by decide) (by omega)))
  by_cases h0 : e = 0
  · subst h0
    rw [if_pos rfl]
    by_cases h1 : val B32 rest = 0
    · rw [if_pos h1]
      refine Ev.step (f := fun _ => some (1, neg, 0, 0, 0)) (fun k => ?_) (Ev.now _)
      simp only [spec_Unpack.j5]
      rw [hz, decide_eq_true ⟨rfl, h1⟩, if_pos rfl]
    · rw [if_neg h1]
      have hw := l2Word_ev rest dr nr (by omega) hB
      have w1 : wrap64 (wrap64 (emin - (P : Int)) + 1) = emin - (P : Int) + 1 := by rw [wsm (emin - (P : Int)) (by omega), wsm _ (by omega)]
      refine Ev.step (f := fun k => (spec_l2Word.f k rest).bind fun t => some (2, neg, t.1, t.2, wrap64 (wrap64 (emin - (P : Int)) + 1))) (fun k => ?_) (Ev.bind hw (ev_const (by rw [w1])))
      simp only [spec_Unpack.j5]
      rw [hz, decide_eq_false (fun e => h1 e.2), if_neg (by decide), if_pos (by rfl)]
  · rw [if_neg h0]
    obtain ⟨t, ht, dt, nt, vt, lt⟩ := l2Two_ev (P - 1) (by omega)
    obtain ⟨s, hs, ds, ns, vs, ls⟩ := sadd_ev rest t dr dt (by omega) (by omega)
    have hlt : val B32 rest + 2 ^ (P - 1) < B128 := by
      have h2 : 2 ^ P ≤ 2 ^ 127 := Nat.pow_le_pow_right (by decide) (by omega)
      have h3 := Nat.pow_le_pow_right (n := 2) (by decide) (show P - 1 ≤ P by omega)
      have h4 : (2 : Nat) ^ 127 + 2 ^ 127 = B128 := by decide
      omega
    have hw := l2Word_ev s ds ns (by omega) (by rw [vs, vt]; exact hlt)
    rw [vs, vt] at hw
    have b1 : 1 ≤ P := by omega
    have c0 : ¬ (e : Int) = 0 := by omega
    have wq : wrap64 (wrap64 (wrap64 ((e : Int) - emax) - (P : Int)) + 1) = (e : Int) - emax - (P : Int) + 1 := by rw [wsm ((e : Int) - emax) (by omega), wsm ((e : Int) - emax - (P : Int)) (by omega), wsm _ (by omega)]
    have wp : wrap64 ((P : Int) - 1) = ((P - 1 : Nat) : Int) := by rw [wsm _ (by clear wq; omega)]; clear wq; omega
    refine Ev.step (f := fun k => (spec_l2Two.f k (wrap64 ((P : Int) - 1))).bind fun t1 => (spec_l1Add.f k rest t1).bind fun t2 => (spec_l2Word.f k t2).bind fun t3 => some (3, neg, t3.1, t3.2, wrap64 (wrap64 (wrap64 ((e : Int) - emax) - (P : Int)) + 1))) (fun k => ?_) ?_
    · simp only [spec_Unpack.j5]
      rw [hz, decide_eq_false (fun e => h0 e.1), if_neg (by decide), if_neg c0]
    · rw [wp, wq]
      exact Ev.bind ht (Ev.bind hs (Ev.bind hw (Ev.now _)))
theorem len_zero {rest : List Int} (dr : Dig B32 rest) (nr : Norm rest) : ((rest.length : Int) == 0) = decide (val B32 rest = 0) := by
  have h := norm_zero B32_pos dr nr
  by_cases h0 : val B32 rest = 0
  · have := h.2 h0
    subst this
    rw [decide_eq_true h0]; rfl
  · have h1 : ¬ rest = [] := fun e => h0 (h.1 e)
    have h2 : rest.length ≠ 0 := fun e => h1 (List.eq_nil_of_length_eq_zero e)
    rw [decide_eq_false h0, beq_eq_false_iff_ne]
    omega
theorem l2_j3 (h : Fmt P emin emax W E ex) (rest : List Int) (dr : Dig B32 rest) (nr : Norm rest) (lr : rest.length ≤ 100) (hr : val B32 rest < 2 ^ P) (e : Nat) (he : e < 2 ^ E) (neg : Bool) (x0 : Int) :
    Ev (fun k => spec_Unpack.j3 k (e : Int) ((2 ^ E - 1 : Nat) : Int) rest (P : Int) emin emax (W : Int) (E : Int) ex x0 neg 0 0 0) (partsOf P emin emax E e neg (val B32 rest)) := by
  have hz := len_zero dr nr
  have hE0 : 2 ≤ 2 ^ E := by
    have := Nat.pow_le_pow_right (n := 2) (by decide) h.e0
    exact this
  have hj5 := fun z hz => l2_j5 h rest dr nr lr hr e he neg x0 0 0 0 0 z hz
  unfold partsOf
  by_cases h1 : e = 2 ^ E - 1
  · have c1 : (e : Int) = ((2 ^ E - 1 : Nat) : Int) := by rw [h1]
    rw [if_pos h1]
    by_cases h2 : val B32 rest = 0
    · rw [if_pos h2]
      refine Ev.step (f := fun k => spec_Unpack.j4 k (e : Int) ((2 ^ E - 1 : Nat) : Int) rest true (P : Int) emin emax (W : Int) (E : Int) ex x0 neg 0 0 0) (fun k => ?_) (Ev.step (f := fun _ => some (4, neg, 0, 0, 0)) (fun k => ?_) (Ev.now _))
      · simp only [spec_Unpack.j3]
        rw [if_pos c1, hz, decide_eq_true h2]
      · simp only [spec_Unpack.j4]
        rw [if_pos trivial]
    · rw [if_neg h2]
      refine Ev.step (f := fun k => spec_Unpack.j4 k (e : Int) ((2 ^ E - 1 : Nat) : Int) rest false (P : Int) emin emax (W : Int) (E : Int) ex x0 neg 0 0 0) (fun k => ?_) (Ev.step (f := fun _ => some (5, false, 0, 0, 0)) (fun k => ?_) (Ev.now _))
      · simp only [spec_Unpack.j3]
        rw [if_pos c1, hz, decide_eq_false h2]
      · simp only [spec_Unpack.j4]
        rw [if_neg (by decide), if_pos c1]
  · have c1 : ¬ (e : Int) = ((2 ^ E - 1 : Nat) : Int) := by omega
    rw [if_neg h1]
    refine Ev.step (f := fun k => spec_Unpack.j4 k (e : Int) ((2 ^ E - 1 : Nat) : Int) rest false (P : Int) emin emax (W : Int) (E : Int) ex x0 neg 0 0 0) (fun k => ?_) ?_
    · simp only [spec_Unpack.j3]
      rw [if_neg c1]
    · refine Ev.step (f := fun k => spec_Unpack.j5 k (e : Int) rest (decide (e = 0 ∧ val B32 rest = 0)) (P : Int) emin emax (W : Int) (E : Int) ex x0 neg 0 0 0) (fun k => ?_) (hj5 _ rfl)
      simp only [spec_Unpack.j4]
      rw [if_neg (by decide), if_neg c1]
      by_cases h0 : e = 0
      · have c0 : (e : Int) = 0 := by omega
        rw [if_pos c0, hz]
        congr 1
        rw [decide_eq_decide]
        exact ⟨fun a => ⟨h0, a⟩, fun a => a.2⟩
      · have c0 : ¬ (e : Int) = 0 := by omega
        rw [if_neg c0, decide_eq_false (fun a => h0 a.1)]
theorem l2_top (h : Fmt P emin emax W E ex) (FR : List Int) (e : Nat) (neg : Bool) (x0 : Int) (R : Prt) (d : Nat) (hR : Ev (fun k => spec_Unpack.l1 k FR (e : Int) ((2 ^ E : Nat) : Int) (E : Int) (P : Int) emin emax (W : Int) (E : Int) ex x0 neg 0 0 0) R) :
    ∀ i : Nat, i + d = E → Ev (fun k => spec_Unpack.l1 k FR (e : Int) ((2 ^ i : Nat) : Int) (i : Int) (P : Int) emin emax (W : Int) (E : Int) ex x0 neg 0 0 0) R := by
  induction d with
  | zero => intro i hi; obtain rfl : i = E := (by omega); exact hR
  | succ d ih =>
    intro i hi
    refine Ev.step (fun k => ?_) (ih (i + 1) (by omega))
    have hE := h.e1
    have hp := Nat.pow_le_pow_right (n := 2) (by decide) (show i ≤ 15 by omega)
    have hp2 : (2 : Nat) ^ 15 = 32768 := rfl
    have c1 : (i : Int) < (E : Int) := by omega
    have e2 : 2 ^ (i + 1) = 2 ^ i * 2 := Nat.pow_succ 2 i
    rw [e2]
    generalize 2 ^ i = q at *
    have w1 : wrap64 ((q : Int) * 2) = ((q * 2 : Nat) : Int) := by rw [wsm _ (by omega)]; omega
    have w2 : wrap64 ((i : Int) + 1) = ((i + 1 : Nat) : Int) := by rw [wsm _ (by clear w1; omega)]; rfl
    simp only [spec_Unpack.l1]
    rw [if_pos c1, w1, w2]
end
end Go.Proofs.YtdbnmdchecacdaaDoor.M
end
section
namespace Go.Proofs.YtdbnmdchecacdaaDoor.M
open Go.RowKit Go.Proofs.YtdbnmdchecacdaaDoor.G Go.Proofs.YtdbnmdchecacdaaDoorV.PrintWords Go.Proofs.YtdbnmdchecacdaaDoorV.PrintLast Go.Proofs.YtdbnmdchecacdaaDoorV.PrintMore Go.Proofs.YtdbnmdchecacdaaDoor.PB
set_option linter.unusedVariables false
set_option linter.unusedSimpArgs false
theorem bit_top {v m : Nat} (h : v < 2 ^ (m + 1)) : v / 2 ^ m % 2 = if 2 ^ m ≤ v then 1 else 0 := by
  have hp : 0 < 2 ^ m := Nat.pow_pos (by decide)
  rw [Nat.pow_succ] at h
  have h2 : v / 2 ^ m < 2 := by rw [Nat.div_lt_iff_lt_mul hp, Nat.mul_comm]; exact h
  by_cases hv : 2 ^ m ≤ v
  · rw [if_pos hv]
    have := (Nat.le_div_iff_mul_le hp).2 (show 1 * 2 ^ m ≤ v by omega)
    omega
  · rw [if_neg hv, Nat.div_eq_of_lt (by omega)]
section
variable {P : Nat} {emin emax : Int} {W E : Nat} {ex : Bool}
theorem l2_l1end (h : Fmt P emin emax W E ex) (FR : List Int) (dF : Dig B32 FR) (nF : Norm FR) (lF : FR.length ≤ 100) (hF : val B32 FR < 2 ^ fracN P ex) (e : Nat) (he : e < 2 ^ E) (neg : Bool) (x0 : Int) :
    Ev (fun k => spec_Unpack.l1 k FR (e : Int) ((2 ^ E : Nat) : Int) (E : Int) (P : Int) emin emax (W : Int) (E : Int) ex x0 neg 0 0 0)
      (if ex = true then (if (2 ^ (P - 1) ≤ val B32 FR ↔ e ≠ 0) then partsOf P emin emax E e neg (val B32 FR % 2 ^ (P - 1)) else badP) else partsOf P emin emax E e neg (val B32 FR)) := by
  have hp0 := h.p0
  have hp1 := h.p1
  have hE := h.plt
  have hE0 : 2 ≤ 2 ^ E := by
    have := Nat.pow_le_pow_right (n := 2) (by decide) h.e0
    exact this
  have b1 : 1 ≤ P := by omega
  have hPP : 2 ^ (P - 1) ≤ 2 ^ P := Nat.pow_le_pow_right (by decide) (by omega)
  have c0 : ¬ (E : Int) < (E : Int) := by omega
  have wp : wrap64 ((P : Int) - 1) = ((P - 1 : Nat) : Int) := by rw [wsm _ (by omega)]; omega
  have wt : wrap64 (((2 ^ E : Nat) : Int) - 1) = ((2 ^ E - 1 : Nat) : Int) := by rw [wsm _ (by clear wp; omega)]; clear wp; omega
  cases ex with
  | false =>
    rw [if_neg (by decide)]
    unfold fracN at hF
    rw [if_neg (by decide)] at hF
    refine Ev.step (fun k => ?_) (l2_j3 h FR dF nF lF (by clear wp wt; omega) e he neg x0)
    simp only [spec_Unpack.l1]
    rw [if_neg c0, wt]
    simp only [Bool.false_eq_true, if_false]
  | true =>
    rw [if_pos rfl]
    unfold fracN at hF
    rw [if_pos rfl] at hF
    obtain ⟨r, hr, dr, nr, vr, lr⟩ := l2Low_ev FR dF (by clear wp wt; omega) (P - 1) (by clear wp wt; omega)
    have hb := l1Bit_eq FR dF (P - 1) (by clear wp wt; omega)
    have hbt : val B32 FR / 2 ^ (P - 1) % 2 = if 2 ^ (P - 1) ≤ val B32 FR then 1 else 0 := bit_top (by rw [show P - 1 + 1 = P by clear wp wt; omega]; exact hF)
    rw [hbt] at hb
    have hr2 : val B32 r < 2 ^ P := by rw [vr]; exact Nat.lt_of_lt_of_le (Nat.mod_lt _ (Nat.pow_pos (by decide))) hPP
    have hj := l2_j3 h r dr nr (by clear wp wt; omega) hr2 e he neg x0
    rw [vr] at hj
    refine Ev.step (f := fun k => (spec_l2Low.f k FR ((P - 1 : Nat) : Int)).bind fun t => if (2 ^ (P - 1) ≤ val B32 FR ↔ e ≠ 0) then spec_Unpack.j3 k (e : Int) ((2 ^ E - 1 : Nat) : Int) t (P : Int) emin emax (W : Int) (E : Int) true x0 neg 0 0 0 else some badP) (fun k => ?_) (Ev.bind hr ?_)
    · simp only [spec_Unpack.l1]
      rw [if_neg c0, wp, wt]
      simp only [if_true]
      rw [hb, Option.bind_some]
      congr 1
      funext t
      by_cases hl : 2 ^ (P - 1) ≤ val B32 FR
      · rw [if_pos hl]
        by_cases h0 : e = 0
        · have c1 : (e : Int) = 0 := by clear wp wt; omega
          rw [if_pos c1, if_pos (show ((1 : Nat) : Int) = 1 from rfl), if_neg (fun x => x.1 hl h0)]
          rfl
        · have c1 : ¬ (e : Int) = 0 := by clear wp wt; omega
          have c2 : (e : Int) > 0 := by clear wp wt; omega
          rw [if_neg c1, if_pos c2, if_pos (show ((1 : Nat) : Int) = 1 from rfl), if_pos ⟨fun _ => h0, fun _ => hl⟩]
      · rw [if_neg hl]
        by_cases h0 : e = 0
        · have c1 : (e : Int) = 0 := by clear wp wt; omega
          have c2 : ¬ (e : Int) > 0 := by clear wp wt; omega
          rw [if_pos c1, if_neg (show ¬ ((0 : Nat) : Int) = 1 by decide), if_neg c2, if_pos ⟨fun x => absurd x hl, fun x => absurd h0 x⟩]
        · have c1 : ¬ (e : Int) = 0 := by clear wp wt; omega
          have c2 : (e : Int) > 0 := by clear wp wt; omega
          rw [if_neg c1, if_pos c2, if_neg (show ¬ ((0 : Nat) : Int) = 1 by decide), if_neg (fun x => hl (x.2 h0))]
          rfl
    · by_cases hc : (2 ^ (P - 1) ≤ val B32 FR ↔ e ≠ 0)
      · simp only [if_pos hc]
        exact hj
      · simp only [if_neg hc]
        exact Ev.now _
theorem l2_l0 (h : Fmt P emin emax W E ex) (A FR : List Int) (dA : Dig B32 A) (w : Nat) (hA : val B32 A = w) (R : Prt)
    (hR : Ev (fun k => spec_Unpack.l1 k FR ((w / 2 ^ fracN P ex % 2 ^ E : Nat) : Int) ((2 ^ 0 : Nat) : Int) ((0 : Nat) : Int) (P : Int) emin emax (W : Int) (E : Int) ex 0 (decide (w / 2 ^ (W - 1) % 2 = 1)) 0 0 0) R) :
    ∀ i : Nat, i ≤ E → Ev (fun k => spec_Unpack.l0 k A (fracN P ex : Int) FR ((w / 2 ^ (fracN P ex + i) % 2 ^ (E - i) : Nat) : Int) ((i : Int) - 1) (P : Int) emin emax (W : Int) (E : Int) ex) R := by
  have hp0 := h.p0
  have hp1 := h.p1
  have hw1 := h.w1
  have hw2 := h.w2
  have he1 := h.e1
  intro i
  induction i with
  | zero =>
    intro _
    rw [Nat.add_zero, Nat.sub_zero]
    have hb := l1Bit_eq A dA (W - 1) (by omega)
    rw [hA] at hb
    have ww : wrap64 ((W : Int) - 1) = ((W - 1 : Nat) : Int) := by rw [wsm _ (by omega)]; omega
    have hm := Nat.mod_lt (w / 2 ^ (W - 1)) (show 0 < 2 by decide)
    refine Ev.step (fun k => ?_) hR
    have c0 : ¬ (((0 : Nat) : Int) - 1 ≥ 0) := by omega
    simp only [spec_Unpack.l0]
    rw [if_neg c0, ww, hb, Option.bind_some]
    have hd : (((w / 2 ^ (W - 1) % 2 : Nat) : Int) == 1) = decide (w / 2 ^ (W - 1) % 2 = 1) := by
      clear ww
      by_cases hx : w / 2 ^ (W - 1) % 2 = 1
      · rw [hx]; rfl
      · rw [decide_eq_false hx, beq_eq_false_iff_ne]; omega
    rw [hd]
    rfl
  | succ i ih =>
    intro hi
    have hb := l1Bit_eq A dA (fracN P ex + i) (by omega)
    rw [hA] at hb
    have e0 : ((i + 1 : Nat) : Int) - 1 = (i : Int) := by omega
    rw [e0]
    have hstep : w / 2 ^ (fracN P ex + i) % 2 ^ (E - i) = w / 2 ^ (fracN P ex + (i + 1)) % 2 ^ (E - (i + 1)) * 2 + w / 2 ^ (fracN P ex + i) % 2 := by
      have e1 : 2 ^ (E - i) = 2 * 2 ^ (E - (i + 1)) := by rw [Nat.mul_comm, ← Nat.pow_succ]; congr 1; omega
      have e2 : w / 2 ^ (fracN P ex + (i + 1)) = w / 2 ^ (fracN P ex + i) / 2 := by rw [Nat.div_div_eq_div_mul, ← Nat.pow_succ]; rfl
      rw [e1, e2, Nat.mod_mul]
      omega
    have hacc : w / 2 ^ (fracN P ex + (i + 1)) % 2 ^ (E - (i + 1)) < 32768 := Nat.lt_of_lt_of_le (Nat.mod_lt _ (Nat.pow_pos (by decide))) (Nat.le_trans (Nat.pow_le_pow_right (by decide) (Nat.sub_le _ _)) h.plt)
    have hbit := Nat.mod_lt (w / 2 ^ (fracN P ex + i)) (show 0 < 2 by decide)
    have c0 : (i : Int) ≥ 0 := Int.natCast_nonneg _
    have hfr : fracN P ex ≤ 1000 := by omega
    have ih1 := ih (by omega)
    rw [hstep] at ih1
    generalize w / 2 ^ (fracN P ex + (i + 1)) % 2 ^ (E - (i + 1)) = acc at *
    generalize w / 2 ^ (fracN P ex + i) % 2 = bit at *
    clear hstep
    refine Ev.step (fun k => ?_) ih1
    have w1 : wrap64 ((fracN P ex : Int) + (i : Int)) = ((fracN P ex + i : Nat) : Int) := by rw [wsm _ (by omega)]; rfl
    have w2 : wrap64 (wrap64 ((acc : Int) * 2) + wrap64 (bit : Int)) = ((acc * 2 + bit : Nat) : Int) := by
      clear w1
      rw [wsm ((acc : Int) * 2) (by omega), wsm (bit : Int) (by omega), wsm _ (by omega)]
      omega
    have w3 : wrap64 ((i : Int) - 1) = (i : Int) - 1 := wsm _ (by clear w1 w2; omega)
    simp only [spec_Unpack.l0]
    rw [if_pos c0, w1, hb, Option.bind_some, w2, w3]
theorem unpS_ev (h : Fmt P emin emax W E ex) (f : Int) (hf : spec_Describe.f f = some ((P : Int), emin, emax, (W : Int), (E : Int), ex)) (w : Nat) (hw : w < B128) : Ev (fun k => spec_Unpack.f k f (hiI w) (loI w)) (unpN P emin emax W E ex w) := by
  have hp0 := h.p0
  have hp1 := h.p1
  have hw1 := h.w1
  have hw2 := h.w2
  have he0 := h.e0
  have he1 := h.e1
  obtain ⟨A, hA, dA, nA, vA, lA⟩ := l2Of_ev w hw
  obtain ⟨m, hm, bm, lm⟩ := sbits_gen A dA nA (by omega)
  rw [vA] at bm
  have hgt := isBits_gt bm (W := W)
  have cP : ¬ (P : Int) = 0 := by omega
  have hfn : fracN P ex = if ex = true then P else P - 1 := rfl
  have wP : wrap64 ((P : Int) - 1) = ((P - 1 : Nat) : Int) := by rw [wsm _ (by omega)]; omega
  have core : w < 2 ^ W → Ev (fun k => spec_Unpack.j0 k A (fracN P ex : Int) (P : Int) emin emax (W : Int) (E : Int) ex) (unpN P emin emax W E ex w) := by
    intro hlt
    clear wP
    have hfr : fracN P ex ≤ 1000 := by omega
    obtain ⟨FR, hF, dF, nF, vF, lF⟩ := l2Low_ev A dA (by omega) (fracN P ex) (by omega)
    rw [vA] at vF
    have hFlt : val B32 FR < 2 ^ fracN P ex := by rw [vF]; exact Nat.mod_lt _ (Nat.pow_pos (by decide))
    have helt : w / 2 ^ fracN P ex % 2 ^ E < 2 ^ E := Nat.mod_lt _ (Nat.pow_pos (by decide))
    have hend := l2_l1end h FR dF nF (by omega) hFlt (w / 2 ^ fracN P ex % 2 ^ E) helt (decide (w / 2 ^ (W - 1) % 2 = 1)) 0
    have htop := l2_top h FR (w / 2 ^ fracN P ex % 2 ^ E) (decide (w / 2 ^ (W - 1) % 2 = 1)) 0 _ E hend 0 (by omega)
    have hl0 := l2_l0 h A FR dA w vA _ htop E (Nat.le_refl _)
    rw [Nat.sub_self, Nat.pow_zero, Nat.mod_one] at hl0
    have hval : (if ex = true then (if (2 ^ (P - 1) ≤ val B32 FR ↔ w / 2 ^ fracN P ex % 2 ^ E ≠ 0) then partsOf P emin emax E (w / 2 ^ fracN P ex % 2 ^ E) (decide (w / 2 ^ (W - 1) % 2 = 1)) (val B32 FR % 2 ^ (P - 1)) else badP) else partsOf P emin emax E (w / 2 ^ fracN P ex % 2 ^ E) (decide (w / 2 ^ (W - 1) % 2 = 1)) (val B32 FR)) = unpN P emin emax W E ex w := by
      unfold unpN
      rw [if_neg (Nat.not_le.2 hlt), vF, hfn]
      cases ex with
      | true => rfl
      | false => rfl
    rw [hval] at hl0
    have wE : wrap64 ((E : Int) - 1) = (E : Int) - 1 := wsm _ (by omega)
    refine Ev.step (f := fun k => (spec_l2Low.f k A (fracN P ex : Int)).bind fun t => spec_Unpack.l0 k A (fracN P ex : Int) t 0 ((E : Int) - 1) (P : Int) emin emax (W : Int) (E : Int) ex) (fun k => ?_) (Ev.bind hF hl0)
    simp only [spec_Unpack.j0]
    rw [wE]
  unfold spec_Unpack.f
  refine Ev.congr (f := fun k => (spec_l2Of.f k (hiI w) (loI w)).bind fun t => (spec_l1Bits.f k t).bind fun t2 => if t2 > (W : Int) then some badP else if ex = true then spec_Unpack.j0 k t (P : Int) (P : Int) emin emax (W : Int) (E : Int) ex else spec_Unpack.j0 k t ((P - 1 : Nat) : Int) (P : Int) emin emax (W : Int) (E : Int) ex) (fun k => ?_) (Ev.bind hA (Ev.bind hm ?_))
  · rw [hf, Option.bind_some]
    dsimp only
    rw [if_neg cP, wP]
    rfl
  · clear wP
    by_cases hg : W < m
    · have c1 : (m : Int) > (W : Int) := by omega
      have hle := hgt.1 hg
      have hu : unpN P emin emax W E ex w = badP := by unfold unpN; rw [if_pos hle]
      rw [hu]
      exact Ev.congr (fun k => by rw [if_pos c1]) (Ev.now _)
    · have c1 : ¬ (m : Int) > (W : Int) := by omega
      have hlt : w < 2 ^ W := Nat.lt_of_not_le (fun x => hg (hgt.2 x))
      have hc := core hlt
      refine Ev.congr (fun k => ?_) hc
      rw [if_neg c1, hfn]
      cases ex with
      | true => rfl
      | false => rfl
end
end Go.Proofs.YtdbnmdchecacdaaDoor.M
end
section
namespace Go.Proofs.YtdbnmdchecacdaaDoor.PB
open Go.RowKit Go.Proofs.YtdbnmdchecacdaaDoor.G Go.Proofs.YtdbnmdchecacdaaDoorV.PrintWords Go.Proofs.YtdbnmdchecacdaaDoorV.PrintLast Go.Proofs.YtdbnmdchecacdaaDoorV.PrintMore
attribute [local go_sem] max2_int min2_int max_two min_two max_three min_three max_four min_four run_Add64 run_Sub64 fld25_1
set_option linter.unusedVariables false
set_option linter.unusedSimpArgs false
theorem eqA25 (d : Nat) (w : World) (x0 y0 : Int) (x1 y1 : Int) :
    (Op.equalIn (d + 2) 25 (.agg #[.int .u64 x0, .int .u64 x1]) (.agg #[.int .u64 y0, .int .u64 y1])).run Tryd.prog w = .ok (x0 == y0 && (x1 == y1)) w := by
  refine eqA_of Tryd.underlying25 (by kernel_rfl) ?_
  refine eqf_cons (by rfl) (by go_simp; rfl) (by go_simp; rfl) (by go_simp) ?_
  exact eqf_last (by rfl) (by go_simp; rfl) (by go_simp; rfl) (by go_simp)
end Go.Proofs.YtdbnmdchecacdaaDoor.PB
end
section
namespace Go.Proofs.YtdbnmdchecacdaaDoor.PB
open Go.RowKit Go.Proofs.YtdbnmdchecacdaaDoor.G Go.Proofs.YtdbnmdchecacdaaDoorV.PrintWords Go.Proofs.YtdbnmdchecacdaaDoorV.PrintLast Go.Proofs.YtdbnmdchecacdaaDoorV.PrintMore
attribute [local go_sem] max2_int min2_int max_two min_two max_three min_three max_four min_four run_Add64 run_Sub64 fld25_1
set_option linter.unusedVariables false
set_option linter.unusedSimpArgs false
attribute [local go_sem high] eqA25
mutual
def impl_Unpack.j0 : Nat → Bool → Int → Int → Int → Int → Int → Int → Int → Bool → Option (Int × Bool × Int × Int × Int)
 | 0, _, _, _, _, _, _, _, _, _ => none
 | k + 1, x34, x339000, x339001, x348000, x348001, x348002, x348003, x348004, x348005 => if x34 = true then (some (0, false, 0, 0, 0)) else ((impl_layout_fracBits.f x348000 x348001 x348002 x348003 x348004 x348005).bind fun t350 => ((impl_Word_low.f x339000 x339001 t350).bind fun bt351 => ((impl_Word_right.f x339000 x339001 t350).bind fun bt354 => ((impl_Word_low.f bt354.1 bt354.2 x348004).bind fun bt356 => ((impl_Word_right.f x339000 x339001 (wrap64 (x348003 - 1))).bind fun bt358 => (if x348005 = true then ((impl_Word_right.f bt351.1 bt351.2 (wrap64 (x348000 - 1))).bind fun bt361 => (if ((!(bt361.1 == 0) || (!(bt361.2 == 0))) != ((wrap64 (bt356.2)) != 0)) = true then (some (0, false, 0, 0, 0)) else ((impl_Word_low.f bt351.1 bt351.2 (wrap64 (x348000 - 1))).bind fun bt363 => (impl_Unpack.j1 k (wrap64 (bt356.2)) (!(bt358.1 == 0) || (!(bt358.2 == 0))) x348000 x348001 x348002 x348003 x348004 x348005 bt351.1 bt351.2 bt363.1 bt363.2)))) else (impl_Unpack.j1 k (wrap64 (bt356.2)) (!(bt358.1 == 0) || (!(bt358.2 == 0))) x348000 x348001 x348002 x348003 x348004 x348005 bt351.1 bt351.2 bt351.1 bt351.2)))))))
def impl_Unpack.j1 : Nat → Int → Bool → Int → Int → Int → Int → Int → Bool → Int → Int → Int → Int → Option (Int × Bool × Int × Int × Int)
 | 0, _, _, _, _, _, _, _, _, _, _, _, _ => none
 | k + 1, x9, x10, x348000, x348001, x348002, x348003, x348004, x348005, x354000, x354001, x361000, x361001 => (impl_layout_top.f x348000 x348001 x348002 x348003 x348004 x348005).bind fun t365 => (if x9 = t365 then (impl_Unpack.j2 k x9 x10 (x361000 == 0 && (x361001 == 0)) x348000 x348001 x348002 x348003 x348004 x348005 x354000 x354001) else (impl_Unpack.j2 k x9 x10 false x348000 x348001 x348002 x348003 x348004 x348005 x354000 x354001))
def impl_Unpack.j2 : Nat → Int → Bool → Bool → Int → Int → Int → Int → Int → Bool → Int → Int → Option (Int × Bool × Int × Int × Int)
 | 0, _, _, _, _, _, _, _, _, _, _, _ => none
 | k + 1, x9, x10, x81, x348000, x348001, x348002, x348003, x348004, x348005, x354000, x354001 => if x81 = true then (some (4, x10, 0, 0, 0)) else ((impl_layout_top.f x348000 x348001 x348002 x348003 x348004 x348005).bind fun t366 => (if x9 = t366 then (some (5, false, 0, 0, 0)) else (if x9 = 0 then (impl_Unpack.j3 k x9 x10 (x354000 == 0 && (x354001 == 0)) x348000 x348001 x348002 x348003 x348004 x348005 x354000 x354001) else (impl_Unpack.j3 k x9 x10 false x348000 x348001 x348002 x348003 x348004 x348005 x354000 x354001))))
def impl_Unpack.j3 : Nat → Int → Bool → Bool → Int → Int → Int → Int → Int → Bool → Int → Int → Option (Int × Bool × Int × Int × Int)
 | 0, _, _, _, _, _, _, _, _, _, _, _ => none
 | k + 1, x9, x10, x99, x348000, x348001, x348002, x348003, x348004, x348005, x354000, x354001 => if x99 = true then (some (1, x10, 0, 0, 0)) else (if x9 = 0 then ((impl_layout_qMin.f x348000 x348001 x348002 x348003 x348004 x348005).bind fun t367 => (some (2, x10, x354000, x354001, t367))) else ((impl_one.f (wrap64 (x348000 - 1))).bind fun bt368 => ((impl_Word_or.f x354000 x354001 bt368.1 bt368.2).bind fun bt370 => (some (3, x10, bt370.1, bt370.2, wrap64 ((wrap64 ((wrap64 (x9 - x348002)) - x348000)) + 1))))))
end
def impl_Unpack.f (k : Nat) (a0 : Int) (a1_0 : Int) (a1_1 : Int) : Option (Int × Bool × Int × Int × Int) := (impl_layoutOf.f a0).bind fun bt340 => (if bt340.2.2.2.2.2.2 = true then (if bt340.2.2.2.1 < 128 then ((impl_Word_right.f a1_0 a1_1 bt340.2.2.2.1).bind fun bt348 => (impl_Unpack.j0 k (!(bt348.1 == 0) || (!(bt348.2 == 0))) a1_0 a1_1 bt340.1 bt340.2.1 bt340.2.2.1 bt340.2.2.2.1 bt340.2.2.2.2.1 bt340.2.2.2.2.2.1)) else (impl_Unpack.j0 k false a1_0 a1_1 bt340.1 bt340.2.1 bt340.2.2.1 bt340.2.2.2.1 bt340.2.2.2.2.1 bt340.2.2.2.2.2.1)) else (impl_Unpack.j0 k true a1_0 a1_1 bt340.1 bt340.2.1 bt340.2.2.1 bt340.2.2.2.1 bt340.2.2.2.2.1 bt340.2.2.2.2.2.1))
def impl_Unpack.T6 : Bool × List (List Nat × List Nat) := (true, [([], []), ([], []), ([0, 1], [0, 1]), ([], []), ([3], [3]), ([4], [4]), ([2, 5, 2], [2, 5]), ([6], [6]), ([7], [7]), ([8, 6, 0, 1, 2, 3, 4, 5, 6, 7, 8], [8])])
def impl_Unpack.B6 : List Nat := [0, 0, 3, 0, 8, 24, 63, 127, 255, 511]
theorem impl_Unpack.tab6 : rtab .any (opsOf Tryd.f17 6) = impl_Unpack.T6 := by kernel_rfl
theorem impl_Unpack.bits6 : waitsOk impl_Unpack.T6.2 impl_Unpack.B6 = true := by kernel_rfl
def impl_Unpack.T22 : Bool × List (List Nat × List Nat) := (true, [([], []), ([], []), ([], []), ([2], [2]), ([3], [3]), ([4], [4]), ([5], [5]), ([1, 6, 6], [1, 6]), ([], []), ([], []), ([9], [9]), ([10], [10]), ([8, 11], [8, 11]), ([], []), ([13], [13]), ([14], [14]), ([12, 15], [12, 15]), ([16], [16]), ([0, 7, 17], [0, 7, 17]), ([18, 7, 0, 1, 2, 3, 4, 5, 6, 7, 8, 9, 10, 11, 12, 13, 14, 15, 16, 17, 18], [18])])
def impl_Unpack.B22 : List Nat := [0, 0, 0, 4, 12, 28, 60, 126, 0, 0, 512, 1536, 3840, 0, 8192, 24576, 65280, 130816, 262143, 524287]
theorem impl_Unpack.tab22 : rtab .any (opsOf Tryd.f17 22) = impl_Unpack.T22 := by kernel_rfl
theorem impl_Unpack.bits22 : waitsOk impl_Unpack.T22.2 impl_Unpack.B22 = true := by kernel_rfl
set_option maxHeartbeats 8000000 in
set_option maxRecDepth 100000 in
theorem impl_Unpack.calls (k : Nat) (a0 : Int) (a1_0 : Int) (a1_1 : Int) (r1 : Int) (r2 : Bool) (r3 : Int) (r4 : Int) (r5 : Int) (w : World) (hT : Tabled w) (h : impl_Unpack.f k a0 a1_0 a1_1 = some (r1, r2, r3, r4, r5)) :
  Calls Tryd.prog 17 #[.int .i64 a0, .agg #[.int .u64 a1_0, .int .u64 a1_1]] w fun e w' => e = .returned (.agg #[.int .i64 r1, .bool r2, .int .u64 r3, .int .u64 r4, .int .i64 r5]) ∧ Below w.heap.size w w' := by
 have hu25 := Tryd.underlying25
 have hu27 := Tryd.underlying27
 have hu91 := Tryd.underlying91
 have HTb_ := zM hT
 clear hT
 have HB := zM (Below.refl w.heap.size w)
 have H : ((impl_layoutOf.f a0).bind fun bt340 => (if bt340.2.2.2.2.2.2 = true then (if bt340.2.2.2.1 < 128 then ((impl_Word_right.f a1_0 a1_1 bt340.2.2.2.1).bind fun bt348 => (impl_Unpack.j0 k (!(bt348.1 == 0) || (!(bt348.2 == 0))) a1_0 a1_1 bt340.1 bt340.2.1 bt340.2.2.1 bt340.2.2.2.1 bt340.2.2.2.2.1 bt340.2.2.2.2.2.1)) else (impl_Unpack.j0 k false a1_0 a1_1 bt340.1 bt340.2.1 bt340.2.2.1 bt340.2.2.2.1 bt340.2.2.2.2.1 bt340.2.2.2.2.2.1)) else (impl_Unpack.j0 k true a1_0 a1_1 bt340.1 bt340.2.1 bt340.2.2.1 bt340.2.2.2.1 bt340.2.2.2.2.1 bt340.2.2.2.2.2.1))) = some (r1, r2, r3, r4, r5) := h
 clear h
 replace H := Option.bind_eq_some_iff.mp H
 obtain ⟨⟨t340, t341, t342, t343, t344, t345, t346⟩, A30, H⟩ := H
 replace H : (if t346 = true then (if t343 < 128 then ((impl_Word_right.f a1_0 a1_1 t343).bind fun bt348 => (impl_Unpack.j0 k (!(bt348.1 == 0) || (!(bt348.2 == 0))) a1_0 a1_1 t340 t341 t342 t343 t344 t345)) else (impl_Unpack.j0 k false a1_0 a1_1 t340 t341 t342 t343 t344 t345)) else (impl_Unpack.j0 k true a1_0 a1_1 t340 t341 t342 t343 t344 t345)) = some (r1, r2, r3, r4, r5) := H
 have A3 := zM A30
 clear A30
 have HC4 := zM H
 clear H
 go_enter Tryd.func17, Tryd.ntmps17
 go_upto_region 2 with (first | ((with_reducible refine gate_dst (N := 3) rfl ?_); refine box_event ?hg (N := 3) ?hd (cs := #[.int .u64 a1_0, .int .u64 a1_1]) (t := 25) ?hr ?_; (case hd => rfl); (case hg => rfl); (case hr => first | (go_simp; done) | (go_simp; rfl)); intro gb338 hg w5 hbox hb; have n0_ := zM (below_step HB.out hb); have n1_ := zM (hbox); have n2_ := zM ((by rw [hg]; exact (below_size HB.out) : w.heap.size ≤ gb338)); have n3_ := zM ((by rw [hg]; exact (below_size HB.out) : w.heap.size ≤ gb338)); clear HB; have HB := n0_; have BK338 := n1_; have GW338 := n2_; have GE338 := n3_; clear n0_ n1_ n2_ n3_; clear hb hbox hg) | ((with_reducible refine gate_dst (N := 4) rfl ?_); refine box_event ?hg (N := 4) ?hd (cs := #[.int .i64 0, .bool false, .int .u64 0, .int .u64 0, .int .i64 0]) (t := 27) ?hr ?_; (case hd => rfl); (case hg => rfl); (case hr => first | (go_simp; done) | (go_simp; rfl)); intro gb339 hg w6 hbox hb; have n0_ := zM (blk_below BK338.out hb); have n1_ := zM (below_step HB.out hb); have n2_ := zM (hbox); have n3_ := zM ((by rw [hg]; exact (below_size HB.out) : w.heap.size ≤ gb339)); have n4_ := zM ((by rw [hg]; exact (below_size HB.out) : w.heap.size ≤ gb339)); have n5_ := zM ((by rw [hg]; exact Nat.ne_of_lt (blk_lt BK338.out) : gb338 ≠ gb339)); have n6_ := zM ((by rw [hg]; exact Nat.ne_of_gt (blk_lt BK338.out) : gb339 ≠ gb338)); clear BK338; clear HB; have BK338 := n0_; have HB := n1_; have BK339 := n2_; have GW339 := n3_; have GE339 := n4_; have NB338_339 := n5_; have NB339_338 := n6_; clear n0_ n1_ n2_ n3_ n4_ n5_ n6_; clear hb hbox hg) | ((with_reducible refine gate_callee (f := 65) rfl ?_); refine goesL_ (some 15) rfl rfl Tryd.func65 (by kernel_rfl) rfl #[.int .i64 a0] rfl (by first | rfl | (simp only [List.map_toArray, List.map_cons, List.map_nil, List.length_drop, List.length_take]; rfl)) ?_; (with_reducible refine (impl_layoutOf.calls a0 t340 t341 t342 t343 t344 t345 t346 _ ?side1 A3.out).mono ?_); (case side1 => exact tabled_below HTb_.out HB.out); rintro e w7 ⟨rfl, hb⟩; refine ⟨_, rfl, ?_⟩; have n0_ := zM (blk_below BK338.out hb); have n1_ := zM (blk_below BK339.out hb); have n2_ := zM (below_step HB.out hb); clear BK338; clear BK339; clear HB; have BK338 := n0_; have BK339 := n1_; have HB := n2_; clear n0_ n1_ n2_; (try clear hb); (try clear hb2); (try clear hk); (try clear hi)) | ((with_reducible refine gate_dst (N := 5) rfl ?_); refine box_event ?hg (N := 5) ?hd (cs := #[.int .i64 0, .int .i64 0, .int .i64 0, .int .i64 0, .int .i64 0, .bool false]) (t := 91) ?hr ?_; (case hd => rfl); (case hg => rfl); (case hr => first | (go_simp; done) | (go_simp; rfl)); intro gb347 hg w8 hbox hb; have n0_ := zM (blk_below BK338.out hb); have n1_ := zM (blk_below BK339.out hb); have n2_ := zM (below_step HB.out hb); have n3_ := zM (hbox); have n4_ := zM ((by rw [hg]; exact (below_size HB.out) : w.heap.size ≤ gb347)); have n5_ := zM ((by rw [hg]; exact (below_size HB.out) : w.heap.size ≤ gb347)); have n6_ := zM ((by rw [hg]; exact Nat.ne_of_lt (blk_lt BK338.out) : gb338 ≠ gb347)); have n7_ := zM ((by rw [hg]; exact Nat.ne_of_gt (blk_lt BK338.out) : gb347 ≠ gb338)); have n8_ := zM ((by rw [hg]; exact Nat.ne_of_lt (blk_lt BK339.out) : gb339 ≠ gb347)); have n9_ := zM ((by rw [hg]; exact Nat.ne_of_gt (blk_lt BK339.out) : gb347 ≠ gb339)); clear BK338; clear BK339; clear HB; have BK338 := n0_; have BK339 := n1_; have HB := n2_; have BK347 := n3_; have GW347 := n4_; have GE347 := n5_; have NB338_347 := n6_; have NB347_338 := n7_; have NB339_347 := n8_; have NB347_339 := n9_; clear n0_ n1_ n2_ n3_ n4_ n5_ n6_ n7_ n8_ n9_; clear hb hbox hg; have hnb9 := NB347_338.out; have hnc9 := NB338_347.out; have hnb10 := NB347_339.out; have hnc10 := NB339_347.out; have hcz11_0 : w8.cell? ⟨gb347, 0, none⟩ = some (.int .i64 0) := (blk_cell BK347.out 0).trans rfl; have hcz11_1 : w8.cell? ⟨gb347, 1, none⟩ = some (.int .i64 0) := (blk_cell BK347.out 1).trans rfl; have hcz11_2 : w8.cell? ⟨gb347, 2, none⟩ = some (.int .i64 0) := (blk_cell BK347.out 2).trans rfl; have hcz11_3 : w8.cell? ⟨gb347, 3, none⟩ = some (.int .i64 0) := (blk_cell BK347.out 3).trans rfl; have hcz11_4 : w8.cell? ⟨gb347, 4, none⟩ = some (.int .i64 0) := (blk_cell BK347.out 4).trans rfl; have hcz11_5 : w8.cell? ⟨gb347, 5, none⟩ = some (.bool false) := (blk_cell BK347.out 5).trans rfl; have hfz11_0 := blk_frozen BK347.out 0; have hfz11_1 := blk_frozen BK347.out 1; have hfz11_2 := blk_frozen BK347.out 2; have hfz11_3 := blk_frozen BK347.out 3; have hfz11_4 := blk_frozen BK347.out 4; have hfz11_5 := blk_frozen BK347.out 5))
 (try simp only [Act.put, xT, xZ, xS])
 go_cut [34] (fun v34 wc => ∃ (kq : Nat) (x34_3 : Bool), v34 = .bool x34_3 ∧ Aside0 (impl_Unpack.j0 kq x34_3 a1_0 a1_1 t340 t341 t342 t343 t344 t345 = some (r1, r2, r3, r4, r5)) ∧ Aside0 (kq ≤ k) ∧ Aside0 (wc.heap[gb338]? = some (.cells #[.int .u64 a1_0, .int .u64 a1_1] 25 (0, 0))) ∧ Aside0 (wc.heap[gb339]? = some (.cells #[.int .i64 0, .bool false, .int .u64 0, .int .u64 0, .int .i64 0] 27 (0, 0))) ∧ Aside0 (wc.heap[gb347]? = some (.cells #[.int .i64 t340, .int .i64 t341, .int .i64 t342, .int .i64 t343, .int .i64 t344, .bool t345] 91 (0, 0))) ∧ Aside0 (Below w.heap.size w wc))
 case first =>
  have H := HC4.out
  clear HC4
  by_cases c12 : t346 = true
  ·subst c12
   have H1 : (if t343 < 128 then ((impl_Word_right.f a1_0 a1_1 t343).bind fun bt348 => (impl_Unpack.j0 k (!(bt348.1 == 0) || (!(bt348.2 == 0))) a1_0 a1_1 t340 t341 t342 t343 t344 t345)) else (impl_Unpack.j0 k false a1_0 a1_1 t340 t341 t342 t343 t344 t345)) = some (r1, r2, r3, r4, r5) := by rw [if_pos rfl] at H; exact H
   clear H
   have H := H1
   clear H1
   by_cases c13 : t343 < 128
   ·rw [if_pos c13] at H
    have c13b0 : decide (t343 < 128) = true := decide_eq_true c13
    clear c13
    (first | rw [c13b0] | (simp only [i64_w, i32_w]; rw [c13b0]) | rw [c13b1] | (simp only [c13b1]) | skip)
    replace H := Option.bind_eq_some_iff.mp H
    obtain ⟨⟨t348, t349⟩, A140, H⟩ := H
    replace H : (impl_Unpack.j0 k (!(t348 == 0) || (!(t349 == 0))) a1_0 a1_1 t340 t341 t342 t343 t344 t345) = some (r1, r2, r3, r4, r5) := H
    have A14 := zM A140
    clear A140
    have H' := zM H
    clear H
    have hnb15 := NB347_338.out
    have hnc15 := NB338_347.out
    have hnb16 := NB347_339.out
    have hnc16 := NB339_347.out
    have hcz17_0 : w8.cell? ⟨gb347, 0, none⟩ = some (.int .i64 0) := (blk_cell BK347.out 0).trans rfl
    have hcz17_1 : w8.cell? ⟨gb347, 1, none⟩ = some (.int .i64 0) := (blk_cell BK347.out 1).trans rfl
    have hcz17_2 : w8.cell? ⟨gb347, 2, none⟩ = some (.int .i64 0) := (blk_cell BK347.out 2).trans rfl
    have hcz17_3 : w8.cell? ⟨gb347, 3, none⟩ = some (.int .i64 0) := (blk_cell BK347.out 3).trans rfl
    have hcz17_4 : w8.cell? ⟨gb347, 4, none⟩ = some (.int .i64 0) := (blk_cell BK347.out 4).trans rfl
    have hcz17_5 : w8.cell? ⟨gb347, 5, none⟩ = some (.bool false) := (blk_cell BK347.out 5).trans rfl
    have hfz17_0 := blk_frozen BK347.out 0
    have hfz17_1 := blk_frozen BK347.out 1
    have hfz17_2 := blk_frozen BK347.out 2
    have hfz17_3 := blk_frozen BK347.out 3
    have hfz17_4 := blk_frozen BK347.out 4
    have hfz17_5 := blk_frozen BK347.out 5
    have hnb18 := NB338_339.out
    have hnc18 := NB339_338.out
    have hcz19_0 : w8.cell? ⟨gb338, 0, none⟩ = some (.int .u64 a1_0) := (blk_cell BK338.out 0).trans rfl
    have hcz19_1 : w8.cell? ⟨gb338, 1, none⟩ = some (.int .u64 a1_1) := (blk_cell BK338.out 1).trans rfl
    have hfz19_0 := blk_frozen BK338.out 0
    have hfz19_1 := blk_frozen BK338.out 1
    go_wp2_with (first | (go_at_call 66; (with_reducible refine (impl_Word_right.calls a1_0 a1_1 t343 t348 t349 _ A14.out).mono ?_); rintro e w20 ⟨rfl, hb⟩; have n0_ := zM (blk_below (g := gb338) (o := .cells #[.int .u64 a1_0, .int .u64 a1_1] 25 (0, 0)) (by refine blk_far ?_ NB338_347.out _; refine blk_far ?_ NB338_347.out _; refine blk_far ?_ NB338_347.out _; refine blk_far ?_ NB338_347.out _; refine blk_far ?_ NB338_347.out _; refine blk_far ?_ NB338_347.out _; exact BK338.out) hb); have n1_ := zM (blk_below (g := gb339) (o := .cells #[.int .i64 0, .bool false, .int .u64 0, .int .u64 0, .int .i64 0] 27 (0, 0)) (by refine blk_far ?_ NB339_347.out _; refine blk_far ?_ NB339_347.out _; refine blk_far ?_ NB339_347.out _; refine blk_far ?_ NB339_347.out _; refine blk_far ?_ NB339_347.out _; refine blk_far ?_ NB339_347.out _; exact BK339.out) hb); have n2_ := zM (blk_below (g := gb347) (o := .cells #[.int .i64 t340, .int .i64 t341, .int .i64 t342, .int .i64 t343, .int .i64 t344, .bool t345] 91 (0, 0)) (by refine blk_put (cs := #[.int .i64 t340, .int .i64 t341, .int .i64 t342, .int .i64 t343, .int .i64 t344, .bool false]) ?_ 5 _ rfl; refine blk_put (cs := #[.int .i64 t340, .int .i64 t341, .int .i64 t342, .int .i64 t343, .int .i64 0, .bool false]) ?_ 4 _ rfl; refine blk_put (cs := #[.int .i64 t340, .int .i64 t341, .int .i64 t342, .int .i64 0, .int .i64 0, .bool false]) ?_ 3 _ rfl; refine blk_put (cs := #[.int .i64 t340, .int .i64 t341, .int .i64 0, .int .i64 0, .int .i64 0, .bool false]) ?_ 2 _ rfl; refine blk_put (cs := #[.int .i64 t340, .int .i64 0, .int .i64 0, .int .i64 0, .int .i64 0, .bool false]) ?_ 1 _ rfl; refine blk_put (cs := #[.int .i64 0, .int .i64 0, .int .i64 0, .int .i64 0, .int .i64 0, .bool false]) ?_ 0 _ rfl; exact BK347.out) hb); have n3_ := zM (below_step (by repeat (first | (with_reducible first | exact HB.out | apply yA | apply yN | apply yD | refine below_set ?_ GE338.out | refine below_set ?_ GE339.out | refine below_set ?_ GE347.out) | exact HB.out)) hb); clear BK338; clear BK339; clear BK347; clear HB; have BK338 := n0_; have BK339 := n1_; have BK347 := n2_; have HB := n3_; clear n0_ n1_ n2_ n3_; (try clear hb); (try clear hb2); (try clear hk); (try clear hi)))
    go_meet
    case rel => exact ⟨_, ((!(t348 == 0) || (!(t349 == 0)))), (by first | rfl | (simp; done) | (simp [*]; done)), H', ⟨by first | omega | exact Nat.le_refl _⟩, ⟨by exact BK338.out⟩, ⟨by exact BK339.out⟩, ⟨by exact BK347.out⟩, ⟨by repeat (first | (with_reducible first | exact HB.out | apply yA | apply yN | apply yD | refine below_set ?_ GE338.out | refine below_set ?_ GE339.out | refine below_set ?_ GE347.out) | exact HB.out)⟩⟩
   ·rw [if_neg c13] at H
    have c13b0 : decide (t343 < 128) = false := decide_eq_false c13
    clear c13
    (first | rw [c13b0] | (simp only [i64_w, i32_w]; rw [c13b0]) | rw [c13b1] | (simp only [c13b1]) | skip)
    have H' := zM H
    clear H
    have hnb21 := NB347_338.out
    have hnc21 := NB338_347.out
    have hnb22 := NB347_339.out
    have hnc22 := NB339_347.out
    have hcz23_0 : w8.cell? ⟨gb347, 0, none⟩ = some (.int .i64 0) := (blk_cell BK347.out 0).trans rfl
    have hcz23_1 : w8.cell? ⟨gb347, 1, none⟩ = some (.int .i64 0) := (blk_cell BK347.out 1).trans rfl
    have hcz23_2 : w8.cell? ⟨gb347, 2, none⟩ = some (.int .i64 0) := (blk_cell BK347.out 2).trans rfl
    have hcz23_3 : w8.cell? ⟨gb347, 3, none⟩ = some (.int .i64 0) := (blk_cell BK347.out 3).trans rfl
    have hcz23_4 : w8.cell? ⟨gb347, 4, none⟩ = some (.int .i64 0) := (blk_cell BK347.out 4).trans rfl
    have hcz23_5 : w8.cell? ⟨gb347, 5, none⟩ = some (.bool false) := (blk_cell BK347.out 5).trans rfl
    have hfz23_0 := blk_frozen BK347.out 0
    have hfz23_1 := blk_frozen BK347.out 1
    have hfz23_2 := blk_frozen BK347.out 2
    have hfz23_3 := blk_frozen BK347.out 3
    have hfz23_4 := blk_frozen BK347.out 4
    have hfz23_5 := blk_frozen BK347.out 5
    go_wp2
    go_meet
    case rel => exact ⟨_, (false), (by first | rfl | (simp; done) | (simp [*]; done)), H', ⟨by first | omega | exact Nat.le_refl _⟩, ⟨by refine blk_far ?_ NB338_347.out _; refine blk_far ?_ NB338_347.out _; refine blk_far ?_ NB338_347.out _; refine blk_far ?_ NB338_347.out _; refine blk_far ?_ NB338_347.out _; refine blk_far ?_ NB338_347.out _; exact BK338.out⟩, ⟨by refine blk_far ?_ NB339_347.out _; refine blk_far ?_ NB339_347.out _; refine blk_far ?_ NB339_347.out _; refine blk_far ?_ NB339_347.out _; refine blk_far ?_ NB339_347.out _; refine blk_far ?_ NB339_347.out _; exact BK339.out⟩, ⟨by refine blk_put (cs := #[.int .i64 t340, .int .i64 t341, .int .i64 t342, .int .i64 t343, .int .i64 t344, .bool false]) ?_ 5 _ rfl; refine blk_put (cs := #[.int .i64 t340, .int .i64 t341, .int .i64 t342, .int .i64 t343, .int .i64 0, .bool false]) ?_ 4 _ rfl; refine blk_put (cs := #[.int .i64 t340, .int .i64 t341, .int .i64 t342, .int .i64 0, .int .i64 0, .bool false]) ?_ 3 _ rfl; refine blk_put (cs := #[.int .i64 t340, .int .i64 t341, .int .i64 0, .int .i64 0, .int .i64 0, .bool false]) ?_ 2 _ rfl; refine blk_put (cs := #[.int .i64 t340, .int .i64 0, .int .i64 0, .int .i64 0, .int .i64 0, .bool false]) ?_ 1 _ rfl; refine blk_put (cs := #[.int .i64 0, .int .i64 0, .int .i64 0, .int .i64 0, .int .i64 0, .bool false]) ?_ 0 _ rfl; exact BK347.out⟩, ⟨by repeat (first | (with_reducible first | exact HB.out | apply yA | apply yN | apply yD | refine below_set ?_ GE338.out | refine below_set ?_ GE339.out | refine below_set ?_ GE347.out) | exact HB.out)⟩⟩
  ·replace c12 := Bool.eq_false_iff.mpr c12
   subst c12
   have H1 : (impl_Unpack.j0 k true a1_0 a1_1 t340 t341 t342 t343 t344 t345) = some (r1, r2, r3, r4, r5) := by rw [if_neg (show ¬ (false = true) by decide)] at H; exact H
   clear H
   have H := H1
   clear H1
   have H' := zM H
   clear H
   go_wp2
   go_meet
   case rel => exact ⟨_, (true), (by first | rfl | (simp; done) | (simp [*]; done)), H', ⟨by first | omega | exact Nat.le_refl _⟩, ⟨by refine blk_far ?_ NB338_347.out _; refine blk_far ?_ NB338_347.out _; refine blk_far ?_ NB338_347.out _; refine blk_far ?_ NB338_347.out _; refine blk_far ?_ NB338_347.out _; refine blk_far ?_ NB338_347.out _; exact BK338.out⟩, ⟨by refine blk_far ?_ NB339_347.out _; refine blk_far ?_ NB339_347.out _; refine blk_far ?_ NB339_347.out _; refine blk_far ?_ NB339_347.out _; refine blk_far ?_ NB339_347.out _; refine blk_far ?_ NB339_347.out _; exact BK339.out⟩, ⟨by refine blk_put (cs := #[.int .i64 t340, .int .i64 t341, .int .i64 t342, .int .i64 t343, .int .i64 t344, .bool false]) ?_ 5 _ rfl; refine blk_put (cs := #[.int .i64 t340, .int .i64 t341, .int .i64 t342, .int .i64 t343, .int .i64 0, .bool false]) ?_ 4 _ rfl; refine blk_put (cs := #[.int .i64 t340, .int .i64 t341, .int .i64 t342, .int .i64 0, .int .i64 0, .bool false]) ?_ 3 _ rfl; refine blk_put (cs := #[.int .i64 t340, .int .i64 t341, .int .i64 0, .int .i64 0, .int .i64 0, .bool false]) ?_ 2 _ rfl; refine blk_put (cs := #[.int .i64 t340, .int .i64 0, .int .i64 0, .int .i64 0, .int .i64 0, .bool false]) ?_ 1 _ rfl; refine blk_put (cs := #[.int .i64 0, .int .i64 0, .int .i64 0, .int .i64 0, .int .i64 0, .bool false]) ?_ 0 _ rfl; exact BK347.out⟩, ⟨by repeat (first | (with_reducible first | exact HB.out | apply yA | apply yN | apply yD | refine below_set ?_ GE338.out | refine below_set ?_ GE339.out | refine below_set ?_ GE347.out) | exact HB.out)⟩⟩
 case rest =>
  clear HC4
  obtain ⟨kq, x34_3, rfl, HA, HJ3, BK338, BK339, BK347, HB⟩ := hcut
  cases kq with
  | zero => exact absurd HA.out (by simp [impl_Unpack.j0])
  | succ kj3 =>
   have H := HA.out
   clear HA
   simp only [impl_Unpack.j0] at H
   by_cases c24 : x34_3 = true
   ·subst c24
    have H1 : (some (0, false, 0, 0, 0)) = some (r1, r2, r3, r4, r5) := by rw [if_pos rfl] at H; exact H
    clear H
    have H := H1
    clear H1
    simp only [Option.some.injEq, Prod.mk.injEq] at H
    obtain ⟨rfl, rfl, rfl, rfl, rfl⟩ := H
    have hnb25 := NB339_338.out
    have hnc25 := NB338_339.out
    have hnb26 := NB339_347.out
    have hnc26 := NB347_339.out
    have hcz27_0 : wc.cell? ⟨gb339, 0, none⟩ = some (.int .i64 0) := (blk_cell BK339.out 0).trans rfl
    have hcz27_1 : wc.cell? ⟨gb339, 1, none⟩ = some (.bool false) := (blk_cell BK339.out 1).trans rfl
    have hcz27_2 : wc.cell? ⟨gb339, 2, none⟩ = some (.int .u64 0) := (blk_cell BK339.out 2).trans rfl
    have hcz27_3 : wc.cell? ⟨gb339, 3, none⟩ = some (.int .u64 0) := (blk_cell BK339.out 3).trans rfl
    have hcz27_4 : wc.cell? ⟨gb339, 4, none⟩ = some (.int .i64 0) := (blk_cell BK339.out 4).trans rfl
    have hfz27_0 := blk_frozen BK339.out 0
    have hfz27_1 := blk_frozen BK339.out 1
    have hfz27_2 := blk_frozen BK339.out 2
    have hfz27_3 := blk_frozen BK339.out 3
    have hfz27_4 := blk_frozen BK339.out 4
    go_wp2
    refine bodyPost_ret (results_cell_row rfl _ _ gb339 27 #[.int .i64 0, .bool false, .int .u64 0, .int .u64 0, .int .i64 0] (0, 0) _ rfl (by refine blk_put (cs := #[.int .i64 0, .bool false, .int .u64 0, .int .u64 0, .int .i64 0]) ?_ 4 _ rfl; refine blk_put (cs := #[.int .i64 0, .bool false, .int .u64 0, .int .u64 0, .int .i64 0]) ?_ 3 _ rfl; refine blk_put (cs := #[.int .i64 0, .bool false, .int .u64 0, .int .u64 0, .int .i64 0]) ?_ 2 _ rfl; refine blk_put (cs := #[.int .i64 0, .bool false, .int .u64 0, .int .u64 0, .int .i64 0]) ?_ 1 _ rfl; refine blk_put (cs := #[.int .i64 0, .bool false, .int .u64 0, .int .u64 0, .int .i64 0]) ?_ 0 _ rfl; exact BK339.out) Tryd.underlying27 rfl (by kernel_rfl)) rfl ?_
    exact ⟨by first | rfl | (simp [errW_none, errW_some] <;> rfl) | (simp [*, errW_none, errW_some] <;> rfl), by repeat (first | (with_reducible first | exact HB.out | apply yA | apply yN | apply yD | refine below_set ?_ GE338.out | refine below_set ?_ GE339.out | refine below_set ?_ GE347.out) | exact HB.out)⟩
   ·replace c24 := Bool.eq_false_iff.mpr c24
    subst c24
    have H1 : ((impl_layout_fracBits.f t340 t341 t342 t343 t344 t345).bind fun t350 => ((impl_Word_low.f a1_0 a1_1 t350).bind fun bt351 => ((impl_Word_right.f a1_0 a1_1 t350).bind fun bt354 => ((impl_Word_low.f bt354.1 bt354.2 t344).bind fun bt356 => ((impl_Word_right.f a1_0 a1_1 (wrap64 (t343 - 1))).bind fun bt358 => (if t345 = true then ((impl_Word_right.f bt351.1 bt351.2 (wrap64 (t340 - 1))).bind fun bt361 => (if ((!(bt361.1 == 0) || (!(bt361.2 == 0))) != ((wrap64 (bt356.2)) != 0)) = true then (some (0, false, 0, 0, 0)) else ((impl_Word_low.f bt351.1 bt351.2 (wrap64 (t340 - 1))).bind fun bt363 => (impl_Unpack.j1 kj3 (wrap64 (bt356.2)) (!(bt358.1 == 0) || (!(bt358.2 == 0))) t340 t341 t342 t343 t344 t345 bt351.1 bt351.2 bt363.1 bt363.2)))) else (impl_Unpack.j1 kj3 (wrap64 (bt356.2)) (!(bt358.1 == 0) || (!(bt358.2 == 0))) t340 t341 t342 t343 t344 t345 bt351.1 bt351.2 bt351.1 bt351.2))))))) = some (r1, r2, r3, r4, r5) := by rw [if_neg (show ¬ (false = true) by decide)] at H; exact H
    clear H
    have H := H1
    clear H1
    replace H := Option.bind_eq_some_iff.mp H
    obtain ⟨t350, A280, H⟩ := H
    replace H : ((impl_Word_low.f a1_0 a1_1 t350).bind fun bt351 => ((impl_Word_right.f a1_0 a1_1 t350).bind fun bt354 => ((impl_Word_low.f bt354.1 bt354.2 t344).bind fun bt356 => ((impl_Word_right.f a1_0 a1_1 (wrap64 (t343 - 1))).bind fun bt358 => (if t345 = true then ((impl_Word_right.f bt351.1 bt351.2 (wrap64 (t340 - 1))).bind fun bt361 => (if ((!(bt361.1 == 0) || (!(bt361.2 == 0))) != ((wrap64 (bt356.2)) != 0)) = true then (some (0, false, 0, 0, 0)) else ((impl_Word_low.f bt351.1 bt351.2 (wrap64 (t340 - 1))).bind fun bt363 => (impl_Unpack.j1 kj3 (wrap64 (bt356.2)) (!(bt358.1 == 0) || (!(bt358.2 == 0))) t340 t341 t342 t343 t344 t345 bt351.1 bt351.2 bt363.1 bt363.2)))) else (impl_Unpack.j1 kj3 (wrap64 (bt356.2)) (!(bt358.1 == 0) || (!(bt358.2 == 0))) t340 t341 t342 t343 t344 t345 bt351.1 bt351.2 bt351.1 bt351.2)))))) = some (r1, r2, r3, r4, r5) := H
    have A28 := zM A280
    clear A280
    replace H := Option.bind_eq_some_iff.mp H
    obtain ⟨⟨t351, t352⟩, A290, H⟩ := H
    replace H : ((impl_Word_right.f a1_0 a1_1 t350).bind fun bt354 => ((impl_Word_low.f bt354.1 bt354.2 t344).bind fun bt356 => ((impl_Word_right.f a1_0 a1_1 (wrap64 (t343 - 1))).bind fun bt358 => (if t345 = true then ((impl_Word_right.f t351 t352 (wrap64 (t340 - 1))).bind fun bt361 => (if ((!(bt361.1 == 0) || (!(bt361.2 == 0))) != ((wrap64 (bt356.2)) != 0)) = true then (some (0, false, 0, 0, 0)) else ((impl_Word_low.f t351 t352 (wrap64 (t340 - 1))).bind fun bt363 => (impl_Unpack.j1 kj3 (wrap64 (bt356.2)) (!(bt358.1 == 0) || (!(bt358.2 == 0))) t340 t341 t342 t343 t344 t345 t351 t352 bt363.1 bt363.2)))) else (impl_Unpack.j1 kj3 (wrap64 (bt356.2)) (!(bt358.1 == 0) || (!(bt358.2 == 0))) t340 t341 t342 t343 t344 t345 t351 t352 t351 t352))))) = some (r1, r2, r3, r4, r5) := H
    have A29 := zM A290
    clear A290
    replace H := Option.bind_eq_some_iff.mp H
    obtain ⟨⟨t354, t355⟩, A300, H⟩ := H
    replace H : ((impl_Word_low.f t354 t355 t344).bind fun bt356 => ((impl_Word_right.f a1_0 a1_1 (wrap64 (t343 - 1))).bind fun bt358 => (if t345 = true then ((impl_Word_right.f t351 t352 (wrap64 (t340 - 1))).bind fun bt361 => (if ((!(bt361.1 == 0) || (!(bt361.2 == 0))) != ((wrap64 (bt356.2)) != 0)) = true then (some (0, false, 0, 0, 0)) else ((impl_Word_low.f t351 t352 (wrap64 (t340 - 1))).bind fun bt363 => (impl_Unpack.j1 kj3 (wrap64 (bt356.2)) (!(bt358.1 == 0) || (!(bt358.2 == 0))) t340 t341 t342 t343 t344 t345 t351 t352 bt363.1 bt363.2)))) else (impl_Unpack.j1 kj3 (wrap64 (bt356.2)) (!(bt358.1 == 0) || (!(bt358.2 == 0))) t340 t341 t342 t343 t344 t345 t351 t352 t351 t352)))) = some (r1, r2, r3, r4, r5) := H
    have A30 := zM A300
    clear A300
    replace H := Option.bind_eq_some_iff.mp H
    obtain ⟨⟨t356, t357⟩, A310, H⟩ := H
    replace H : ((impl_Word_right.f a1_0 a1_1 (wrap64 (t343 - 1))).bind fun bt358 => (if t345 = true then ((impl_Word_right.f t351 t352 (wrap64 (t340 - 1))).bind fun bt361 => (if ((!(bt361.1 == 0) || (!(bt361.2 == 0))) != ((wrap64 (t357)) != 0)) = true then (some (0, false, 0, 0, 0)) else ((impl_Word_low.f t351 t352 (wrap64 (t340 - 1))).bind fun bt363 => (impl_Unpack.j1 kj3 (wrap64 (t357)) (!(bt358.1 == 0) || (!(bt358.2 == 0))) t340 t341 t342 t343 t344 t345 t351 t352 bt363.1 bt363.2)))) else (impl_Unpack.j1 kj3 (wrap64 (t357)) (!(bt358.1 == 0) || (!(bt358.2 == 0))) t340 t341 t342 t343 t344 t345 t351 t352 t351 t352))) = some (r1, r2, r3, r4, r5) := H
    have A31 := zM A310
    clear A310
    replace H := Option.bind_eq_some_iff.mp H
    obtain ⟨⟨t358, t359⟩, A320, H⟩ := H
    replace H : (if t345 = true then ((impl_Word_right.f t351 t352 (wrap64 (t340 - 1))).bind fun bt361 => (if ((!(bt361.1 == 0) || (!(bt361.2 == 0))) != ((wrap64 (t357)) != 0)) = true then (some (0, false, 0, 0, 0)) else ((impl_Word_low.f t351 t352 (wrap64 (t340 - 1))).bind fun bt363 => (impl_Unpack.j1 kj3 (wrap64 (t357)) (!(t358 == 0) || (!(t359 == 0))) t340 t341 t342 t343 t344 t345 t351 t352 bt363.1 bt363.2)))) else (impl_Unpack.j1 kj3 (wrap64 (t357)) (!(t358 == 0) || (!(t359 == 0))) t340 t341 t342 t343 t344 t345 t351 t352 t351 t352)) = some (r1, r2, r3, r4, r5) := H
    have A32 := zM A320
    clear A320
    have HC33 := zM H
    clear H
    have hnb34 := NB347_338.out
    have hnc34 := NB338_347.out
    have hnb35 := NB347_339.out
    have hnc35 := NB339_347.out
    have hcz36_0 : wc.cell? ⟨gb347, 0, none⟩ = some (.int .i64 t340) := (blk_cell BK347.out 0).trans rfl
    have hcz36_1 : wc.cell? ⟨gb347, 1, none⟩ = some (.int .i64 t341) := (blk_cell BK347.out 1).trans rfl
    have hcz36_2 : wc.cell? ⟨gb347, 2, none⟩ = some (.int .i64 t342) := (blk_cell BK347.out 2).trans rfl
    have hcz36_3 : wc.cell? ⟨gb347, 3, none⟩ = some (.int .i64 t343) := (blk_cell BK347.out 3).trans rfl
    have hcz36_4 : wc.cell? ⟨gb347, 4, none⟩ = some (.int .i64 t344) := (blk_cell BK347.out 4).trans rfl
    have hcz36_5 : wc.cell? ⟨gb347, 5, none⟩ = some (.bool t345) := (blk_cell BK347.out 5).trans rfl
    have hfz36_0 := blk_frozen BK347.out 0
    have hfz36_1 := blk_frozen BK347.out 1
    have hfz36_2 := blk_frozen BK347.out 2
    have hfz36_3 := blk_frozen BK347.out 3
    have hfz36_4 := blk_frozen BK347.out 4
    have hfz36_5 := blk_frozen BK347.out 5
    try go_wp2_with (first | ((with_reducible refine gate_callee (f := 67) rfl ?_); refine goesL_ (some 37) rfl rfl Tryd.func67 (by kernel_rfl) rfl #[.agg #[.int .i64 t340, .int .i64 t341, .int .i64 t342, .int .i64 t343, .int .i64 t344, .bool t345]] rfl (by first | rfl | (simp only [List.map_toArray, List.map_cons, List.map_nil, List.length_drop, List.length_take]; rfl)) ?_; (with_reducible refine (impl_layout_fracBits.calls t340 t341 t342 t343 t344 t345 t350 _ A28.out).mono ?_); rintro e w37 ⟨rfl, hb⟩; refine ⟨_, rfl, ?_⟩; have n0_ := zM (blk_below BK338.out hb); have n1_ := zM (blk_below BK339.out hb); have n2_ := zM (blk_below BK347.out hb); have n3_ := zM (below_step HB.out hb); clear BK338; clear BK339; clear BK347; clear HB; have BK338 := n0_; have BK339 := n1_; have BK347 := n2_; have HB := n3_; clear n0_ n1_ n2_ n3_; (try clear hb); (try clear hb2); (try clear hk); (try clear hi); have hnb38 := NB338_339.out; have hnc38 := NB339_338.out; have hcz39_0 : w37.cell? ⟨gb338, 0, none⟩ = some (.int .u64 a1_0) := (blk_cell BK338.out 0).trans rfl; have hcz39_1 : w37.cell? ⟨gb338, 1, none⟩ = some (.int .u64 a1_1) := (blk_cell BK338.out 1).trans rfl; have hfz39_0 := blk_frozen BK338.out 0; have hfz39_1 := blk_frozen BK338.out 1) | ((with_reducible refine gate_callee (f := 68) rfl ?_); refine goesL_ (some 40) rfl rfl Tryd.func68 (by kernel_rfl) rfl #[.agg #[.int .u64 a1_0, .int .u64 a1_1], .int .i64 t350] rfl (by first | rfl | (simp only [List.map_toArray, List.map_cons, List.map_nil, List.length_drop, List.length_take]; rfl)) ?_; (with_reducible refine (impl_Word_low.calls a1_0 a1_1 t350 t351 t352 _ A29.out).mono ?_); rintro e w40 ⟨rfl, hb⟩; refine ⟨_, rfl, ?_⟩; have n0_ := zM (blk_below BK338.out hb); have n1_ := zM (blk_below BK339.out hb); have n2_ := zM (blk_below BK347.out hb); have n3_ := zM (below_step HB.out hb); clear BK338; clear BK339; clear BK347; clear HB; have BK338 := n0_; have BK339 := n1_; have BK347 := n2_; have HB := n3_; clear n0_ n1_ n2_ n3_; (try clear hb); (try clear hb2); (try clear hk); (try clear hi)) | ((with_reducible refine gate_dst (N := 8) rfl ?_); refine box_event ?hg (N := 8) ?hd (cs := #[.int .u64 0, .int .u64 0]) (t := 25) ?hr ?_; (case hd => rfl); (case hg => rfl); (case hr => first | (go_simp; done) | (go_simp; rfl)); intro gb353 hg w41 hbox hb; have n0_ := zM (blk_below BK338.out hb); have n1_ := zM (blk_below BK339.out hb); have n2_ := zM (blk_below BK347.out hb); have n3_ := zM (below_step HB.out hb); have n4_ := zM (hbox); have n5_ := zM ((by rw [hg]; exact (below_size HB.out) : w.heap.size ≤ gb353)); have n6_ := zM ((by rw [hg]; exact (below_size HB.out) : w.heap.size ≤ gb353)); have n7_ := zM ((by rw [hg]; exact Nat.ne_of_lt (blk_lt BK338.out) : gb338 ≠ gb353)); have n8_ := zM ((by rw [hg]; exact Nat.ne_of_gt (blk_lt BK338.out) : gb353 ≠ gb338)); have n9_ := zM ((by rw [hg]; exact Nat.ne_of_lt (blk_lt BK339.out) : gb339 ≠ gb353)); have n10_ := zM ((by rw [hg]; exact Nat.ne_of_gt (blk_lt BK339.out) : gb353 ≠ gb339)); have n11_ := zM ((by rw [hg]; exact Nat.ne_of_lt (blk_lt BK347.out) : gb347 ≠ gb353)); have n12_ := zM ((by rw [hg]; exact Nat.ne_of_gt (blk_lt BK347.out) : gb353 ≠ gb347)); clear BK338; clear BK339; clear BK347; clear HB; have BK338 := n0_; have BK339 := n1_; have BK347 := n2_; have HB := n3_; have BK353 := n4_; have GW353 := n5_; have GE353 := n6_; have NB338_353 := n7_; have NB353_338 := n8_; have NB339_353 := n9_; have NB353_339 := n10_; have NB347_353 := n11_; have NB353_347 := n12_; clear n0_ n1_ n2_ n3_ n4_ n5_ n6_ n7_ n8_ n9_ n10_ n11_ n12_; clear hb hbox hg; have hnb42 := NB353_338.out; have hnc42 := NB338_353.out; have hnb43 := NB353_339.out; have hnc43 := NB339_353.out; have hnb44 := NB353_347.out; have hnc44 := NB347_353.out; have hcz45_0 : w41.cell? ⟨gb353, 0, none⟩ = some (.int .u64 0) := (blk_cell BK353.out 0).trans rfl; have hcz45_1 : w41.cell? ⟨gb353, 1, none⟩ = some (.int .u64 0) := (blk_cell BK353.out 1).trans rfl; have hfz45_0 := blk_frozen BK353.out 0; have hfz45_1 := blk_frozen BK353.out 1))
    have n0_ : Aside0 (((w41.setCell ⟨gb353, 0, none⟩ (.int .u64 t351)).setCell ⟨gb353, 1, none⟩ (.int .u64 t352)).heap[gb338]? = some (.cells #[.int .u64 a1_0, .int .u64 a1_1] 25 (0, 0))) := ⟨by refine blk_far ?_ NB338_353.out _; refine blk_far ?_ NB338_353.out _; exact BK338.out⟩
    have n1_ : Aside0 (((w41.setCell ⟨gb353, 0, none⟩ (.int .u64 t351)).setCell ⟨gb353, 1, none⟩ (.int .u64 t352)).heap[gb339]? = some (.cells #[.int .i64 0, .bool false, .int .u64 0, .int .u64 0, .int .i64 0] 27 (0, 0))) := ⟨by refine blk_far ?_ NB339_353.out _; refine blk_far ?_ NB339_353.out _; exact BK339.out⟩
    have n2_ : Aside0 (((w41.setCell ⟨gb353, 0, none⟩ (.int .u64 t351)).setCell ⟨gb353, 1, none⟩ (.int .u64 t352)).heap[gb347]? = some (.cells #[.int .i64 t340, .int .i64 t341, .int .i64 t342, .int .i64 t343, .int .i64 t344, .bool t345] 91 (0, 0))) := ⟨by refine blk_far ?_ NB347_353.out _; refine blk_far ?_ NB347_353.out _; exact BK347.out⟩
    have n3_ : Aside0 (((w41.setCell ⟨gb353, 0, none⟩ (.int .u64 t351)).setCell ⟨gb353, 1, none⟩ (.int .u64 t352)).heap[gb353]? = some (.cells #[.int .u64 t351, .int .u64 t352] 25 (0, 0))) := ⟨by refine blk_put (cs := #[.int .u64 t351, .int .u64 0]) ?_ 1 _ rfl; refine blk_put (cs := #[.int .u64 0, .int .u64 0]) ?_ 0 _ rfl; exact BK353.out⟩
    have n4_ : Aside0 (Below w.heap.size w ((w41.setCell ⟨gb353, 0, none⟩ (.int .u64 t351)).setCell ⟨gb353, 1, none⟩ (.int .u64 t352))) := ⟨by repeat (first | (with_reducible first | exact HB.out | apply yA | apply yN | apply yD | refine below_set ?_ GE338.out | refine below_set ?_ GE339.out | refine below_set ?_ GE347.out | refine below_set ?_ GE353.out) | exact HB.out)⟩
    (try clear BK338)
    (try clear BK339)
    (try clear BK347)
    (try clear BK353)
    (try clear HB)
    generalize ((w41.setCell ⟨gb353, 0, none⟩ (.int .u64 t351)).setCell ⟨gb353, 1, none⟩ (.int .u64 t352)) = w46 at n0_ n1_ n2_ n3_ n4_ ⊢
    have BK338 := n0_
    have BK339 := n1_
    have BK347 := n2_
    have BK353 := n3_
    have HB := n4_
    clear n0_ n1_ n2_ n3_ n4_
    have n0_ := zM (zD BK338.out)
    have n1_ := zM (zD BK339.out)
    have n2_ := zM (zD BK347.out)
    have n3_ := zM (zD BK353.out)
    have n4_ := zM (yD HB.out)
    clear BK338
    clear BK339
    clear BK347
    clear BK353
    clear HB
    have BK338 := n0_
    have BK339 := n1_
    have BK347 := n2_
    have BK353 := n3_
    have HB := n4_
    clear n0_ n1_ n2_ n3_ n4_
    refine start_ (n := 10) (S := fun w' => w'.cell? ⟨gb338, 0, none⟩ = some (.int .u64 a1_0) ∧ w'.cell? ⟨gb338, 1, none⟩ = some (.int .u64 a1_1) ∧ w'.cell? ⟨gb347, 0, none⟩ = some (.int .i64 t340) ∧ w'.cell? ⟨gb347, 1, none⟩ = some (.int .i64 t341) ∧ w'.cell? ⟨gb347, 2, none⟩ = some (.int .i64 t342) ∧ w'.cell? ⟨gb347, 3, none⟩ = some (.int .i64 t343) ∧ w'.cell? ⟨gb347, 4, none⟩ = some (.int .i64 t344) ∧ w'.cell? ⟨gb347, 5, none⟩ = some (.bool t345)) (ds := []) #[false, false, false, false, false, false, false, false, false, false] (by kernel_rfl) rfl rfl ⟨(blk_cell BK338.out 0).trans rfl, (blk_cell BK338.out 1).trans rfl, (blk_cell BK347.out 0).trans rfl, (blk_cell BK347.out 1).trans rfl, (blk_cell BK347.out 2).trans rfl, (blk_cell BK347.out 3).trans rfl, (blk_cell BK347.out 4).trans rfl, (blk_cell BK347.out 5).trans rfl⟩ (fun hHeld => ?_); refine with_tabW impl_Unpack.tab6 impl_Unpack.bits6 (fun HT_ HW_ => ?_)
    generalize w46.drew = w47 at BK338 BK339 BK347 BK353 HB hHeld ⊢
    refine pure_ (i := 1) (N := some 42) (v := ?_) (a' := ?_) #[false, true, false, false, false, false, false, false, false, false] rfl rfl (any_of HT_.out (by kernel_rfl)) (fun _ _ _ h => h) (Or.inl ⟨by rfl, ?_⟩) ?_ ?_
    rotate_left
    ·intro w'
     go_simp
     with_reducible rfl
    rotate_left
    ·simp only [Act.put, xT, xZ, xS, i64_w, i32_w]
     rfl
    refine pure_ (i := 3) (N := some 44) (v := ?_) (a' := ?_) #[false, true, false, true, false, false, false, false, false, false] rfl rfl (any_of HT_.out (by kernel_rfl)) (fun _ _ _ h => h) (Or.inl ⟨by rfl, ?_⟩) ?_ ?_
    rotate_left
    ·intro w'
     go_simp
     with_reducible rfl
    rotate_left
    ·simp only [Act.put, xT, xZ, xS, i64_w, i32_w]
     rfl
    refine pure_ (i := 4) (N := some 45) (v := ?_) (a' := ?_) #[false, true, false, true, true, false, false, false, false, false] rfl rfl (any_of HT_.out (by kernel_rfl)) (fun _ _ _ h => h) (Or.inl ⟨by rfl, ?_⟩) ?_ ?_
    rotate_left
    ·intro w'
     go_simp
     with_reducible rfl
    rotate_left
    ·simp only [Act.put, xT, xZ, xS, i64_w, i32_w]
     rfl
    refine take_ (i := 0) (N := some 41) (v := ?_) (a' := ?_) #[true, true, false, true, true, false, false, false, false, false] rfl rfl (take_ofW HT_.out HW_.out (by kernel_rfl)) (fun _ _ _ h => h) (Or.inl ⟨by rfl, ?_⟩) hHeld ?_ ?_
    rotate_left
    ·rintro w' ⟨s0, s1, s2, s3, s4, s5, s6, s7⟩
     go_simp
     with_reducible rfl
    rotate_left
    ·simp only [Act.put, xT, xZ, xS, i64_w, i32_w]
     rfl
    refine take_ (i := 5) (N := some 46) (v := ?_) (a' := ?_) #[true, true, false, true, true, true, false, false, false, false] rfl rfl (take_ofW HT_.out HW_.out (by kernel_rfl)) (fun _ _ _ h => h) (Or.inl ⟨by rfl, ?_⟩) hHeld ?_ ?_
    rotate_left
    ·rintro w' ⟨s0, s1, s2, s3, s4, s5, s6, s7⟩
     go_simp
     with_reducible rfl
    rotate_left
    ·simp only [Act.put, xT, xZ, xS, i64_w, i32_w]
     rfl
    refine one_ (i := 2) (N := some 43) #[true, true, true, true, true, true, false, false, false, false] rfl rfl (one_of HT_.out (by kernel_rfl)) (by decide) (fun K hK => ?_)
    refine goes_ Tryd.func66 (by kernel_rfl) rfl #[.agg #[.int .u64 a1_0, .int .u64 a1_1], .int .i64 t350] (by rfl) rfl rfl (by first | rfl | (simp only [List.map_toArray, List.map_cons, List.map_nil, List.length_drop, List.length_take]; rfl)) ?_
    with_reducible refine (impl_Word_right.calls a1_0 a1_1 t350 t354 t355 _ A30.out).mono ?_
    rintro e w48 ⟨rfl, hb⟩
    refine ⟨_, rfl, ?_⟩
    have n0_ := zM (blk_below BK338.out hb)
    have n1_ := zM (blk_below BK339.out hb)
    have n2_ := zM (blk_below BK347.out hb)
    have n3_ := zM (blk_below BK353.out hb)
    have n4_ := zM (below_step HB.out hb)
    clear BK338
    clear BK339
    clear BK347
    clear BK353
    clear HB
    have BK338 := n0_
    have BK339 := n1_
    have BK347 := n2_
    have BK353 := n3_
    have HB := n4_
    clear n0_ n1_ n2_ n3_ n4_
    try clear hb; try clear hb2; try clear hk; try clear hi
    refine hK.out _ _ ⟨(blk_cell BK338.out 0).trans rfl, (blk_cell BK338.out 1).trans rfl, (blk_cell BK347.out 0).trans rfl, (blk_cell BK347.out 1).trans rfl, (blk_cell BK347.out 2).trans rfl, (blk_cell BK347.out 3).trans rfl, (blk_cell BK347.out 4).trans rfl, (blk_cell BK347.out 5).trans rfl⟩ (fun hHeld => ?_)
    clear hK K
    refine norm_ (a' := ?_) ?_ ?_
    rotate_left
    ·show Act.put _ (some 43) _ = _
     simp only [Act.put, xT, xZ, xS, i64_w, i32_w]
     rfl
    refine one_ (i := 6) (N := some 47) #[true, true, true, true, true, true, true, false, false, false] rfl rfl (one_of HT_.out (by kernel_rfl)) (by decide) (fun K hK => ?_)
    refine goes_ Tryd.func68 (by kernel_rfl) rfl #[.agg #[.int .u64 t354, .int .u64 t355], .int .i64 t344] (by rfl) rfl rfl (by first | rfl | (simp only [List.map_toArray, List.map_cons, List.map_nil, List.length_drop, List.length_take]; rfl)) ?_
    with_reducible refine (impl_Word_low.calls t354 t355 t344 t356 t357 _ A31.out).mono ?_
    rintro e w49 ⟨rfl, hb⟩
    refine ⟨_, rfl, ?_⟩
    have n0_ := zM (blk_below BK338.out hb)
    have n1_ := zM (blk_below BK339.out hb)
    have n2_ := zM (blk_below BK347.out hb)
    have n3_ := zM (blk_below BK353.out hb)
    have n4_ := zM (below_step HB.out hb)
    clear BK338
    clear BK339
    clear BK347
    clear BK353
    clear HB
    have BK338 := n0_
    have BK339 := n1_
    have BK347 := n2_
    have BK353 := n3_
    have HB := n4_
    clear n0_ n1_ n2_ n3_ n4_
    try clear hb; try clear hb2; try clear hk; try clear hi
    refine hK.out _ _ ⟨(blk_cell BK338.out 0).trans rfl, (blk_cell BK338.out 1).trans rfl, (blk_cell BK347.out 0).trans rfl, (blk_cell BK347.out 1).trans rfl, (blk_cell BK347.out 2).trans rfl, (blk_cell BK347.out 3).trans rfl, (blk_cell BK347.out 4).trans rfl, (blk_cell BK347.out 5).trans rfl⟩ (fun hHeld => ?_)
    clear hK K
    refine norm_ (a' := ?_) ?_ ?_
    rotate_left
    ·show Act.put _ (some 47) _ = _
     simp only [Act.put, xT, xZ, xS, i64_w, i32_w]
     rfl
    refine pure_ (i := 7) (N := some 48) (v := ?_) (a' := ?_) #[true, true, true, true, true, true, true, true, false, false] rfl rfl (any_of HT_.out (by kernel_rfl)) (fun _ _ _ h => h) (Or.inl ⟨by rfl, ?_⟩) ?_ ?_
    rotate_left
    ·intro w'
     go_simp
     with_reducible rfl
    rotate_left
    ·simp only [Act.put, xT, xZ, xS, i64_w, i32_w]
     rfl
    refine pure_ (i := 8) (N := some 49) (v := ?_) (a' := ?_) #[true, true, true, true, true, true, true, true, true, false] rfl rfl (any_of HT_.out (by kernel_rfl)) (fun _ _ _ h => h) (Or.inl ⟨by rfl, ?_⟩) ?_ ?_
    rotate_left
    ·intro w'
     go_simp
     with_reducible rfl
    rotate_left
    ·simp only [Act.put, xT, xZ, xS, i64_w, i32_w]
     rfl
    refine pure_ (i := 9) (N := some 9) (v := ?_) (a' := ?_) #[true, true, true, true, true, true, true, true, true, true] rfl rfl (any_of HT_.out (by kernel_rfl)) (fun _ _ _ h => h) (Or.inl ⟨by rfl, ?_⟩) ?_ ?_
    rotate_left
    ·intro w'
     go_simp
     with_reducible rfl
    rotate_left
    ·simp only [Act.put, xT, xZ, xS, i64_w, i32_w]
     rfl
    refine done_ (done_of HT_.out (by kernel_rfl)) ?_
    have hcz50_0 : w49.cell? ⟨gb338, 0, none⟩ = some (.int .u64 a1_0) := (blk_cell BK338.out 0).trans rfl
    have hcz50_1 : w49.cell? ⟨gb338, 1, none⟩ = some (.int .u64 a1_1) := (blk_cell BK338.out 1).trans rfl
    have hfz50_0 := blk_frozen BK338.out 0
    have hfz50_1 := blk_frozen BK338.out 1
    have hcz51_0 : w49.cell? ⟨gb347, 0, none⟩ = some (.int .i64 t340) := (blk_cell BK347.out 0).trans rfl
    have hcz51_1 : w49.cell? ⟨gb347, 1, none⟩ = some (.int .i64 t341) := (blk_cell BK347.out 1).trans rfl
    have hcz51_2 : w49.cell? ⟨gb347, 2, none⟩ = some (.int .i64 t342) := (blk_cell BK347.out 2).trans rfl
    have hcz51_3 : w49.cell? ⟨gb347, 3, none⟩ = some (.int .i64 t343) := (blk_cell BK347.out 3).trans rfl
    have hcz51_4 : w49.cell? ⟨gb347, 4, none⟩ = some (.int .i64 t344) := (blk_cell BK347.out 4).trans rfl
    have hcz51_5 : w49.cell? ⟨gb347, 5, none⟩ = some (.bool t345) := (blk_cell BK347.out 5).trans rfl
    have hfz51_0 := blk_frozen BK347.out 0
    have hfz51_1 := blk_frozen BK347.out 1
    have hfz51_2 := blk_frozen BK347.out 2
    have hfz51_3 := blk_frozen BK347.out 3
    have hfz51_4 := blk_frozen BK347.out 4
    have hfz51_5 := blk_frozen BK347.out 5
    go_upto_if 61 with (first | ((with_reducible refine gate_callee (f := 66) rfl ?_); refine goesL_ (some 55) rfl rfl Tryd.func66 (by kernel_rfl) rfl #[.agg #[.int .u64 a1_0, .int .u64 a1_1], .int .i64 (wrap64 (t343 - 1))] rfl (by first | rfl | (simp only [List.map_toArray, List.map_cons, List.map_nil, List.length_drop, List.length_take]; rfl)) ?_; (with_reducible refine (impl_Word_right.calls a1_0 a1_1 (wrap64 (t343 - 1)) t358 t359 _ A32.out).mono ?_); rintro e w52 ⟨rfl, hb⟩; refine ⟨_, rfl, ?_⟩; have n0_ := zM (blk_below BK338.out hb); have n1_ := zM (blk_below BK339.out hb); have n2_ := zM (blk_below BK347.out hb); have n3_ := zM (blk_below BK353.out hb); have n4_ := zM (below_step HB.out hb); clear BK338; clear BK339; clear BK347; clear BK353; clear HB; have BK338 := n0_; have BK339 := n1_; have BK347 := n2_; have BK353 := n3_; have HB := n4_; clear n0_ n1_ n2_ n3_ n4_; (try clear hb); (try clear hb2); (try clear hk); (try clear hi); have hcz53_0 : w52.cell? ⟨gb353, 0, none⟩ = some (.int .u64 t351) := (blk_cell BK353.out 0).trans rfl; have hcz53_1 : w52.cell? ⟨gb353, 1, none⟩ = some (.int .u64 t352) := (blk_cell BK353.out 1).trans rfl; have hfz53_0 := blk_frozen BK353.out 0; have hfz53_1 := blk_frozen BK353.out 1) | ((with_reducible refine gate_dst (N := 11) rfl ?_); refine box_event ?hg (N := 11) ?hd (cs := #[.int .u64 0, .int .u64 0]) (t := 25) ?hr ?_; (case hd => rfl); (case hg => rfl); (case hr => first | (go_simp; done) | (go_simp; rfl)); intro gb360 hg w54 hbox hb; have n0_ := zM (blk_below BK338.out hb); have n1_ := zM (blk_below BK339.out hb); have n2_ := zM (blk_below BK347.out hb); have n3_ := zM (blk_below BK353.out hb); have n4_ := zM (below_step HB.out hb); have n5_ := zM (hbox); have n6_ := zM ((by rw [hg]; exact (below_size HB.out) : w.heap.size ≤ gb360)); have n7_ := zM ((by rw [hg]; exact (below_size HB.out) : w.heap.size ≤ gb360)); have n8_ := zM ((by rw [hg]; exact Nat.ne_of_lt (blk_lt BK338.out) : gb338 ≠ gb360)); have n9_ := zM ((by rw [hg]; exact Nat.ne_of_gt (blk_lt BK338.out) : gb360 ≠ gb338)); have n10_ := zM ((by rw [hg]; exact Nat.ne_of_lt (blk_lt BK339.out) : gb339 ≠ gb360)); have n11_ := zM ((by rw [hg]; exact Nat.ne_of_gt (blk_lt BK339.out) : gb360 ≠ gb339)); have n12_ := zM ((by rw [hg]; exact Nat.ne_of_lt (blk_lt BK347.out) : gb347 ≠ gb360)); have n13_ := zM ((by rw [hg]; exact Nat.ne_of_gt (blk_lt BK347.out) : gb360 ≠ gb347)); have n14_ := zM ((by rw [hg]; exact Nat.ne_of_lt (blk_lt BK353.out) : gb353 ≠ gb360)); have n15_ := zM ((by rw [hg]; exact Nat.ne_of_gt (blk_lt BK353.out) : gb360 ≠ gb353)); clear BK338; clear BK339; clear BK347; clear BK353; clear HB; have BK338 := n0_; have BK339 := n1_; have BK347 := n2_; have BK353 := n3_; have HB := n4_; have BK360 := n5_; have GW360 := n6_; have GE360 := n7_; have NB338_360 := n8_; have NB360_338 := n9_; have NB339_360 := n10_; have NB360_339 := n11_; have NB347_360 := n12_; have NB360_347 := n13_; have NB353_360 := n14_; have NB360_353 := n15_; clear n0_ n1_ n2_ n3_ n4_ n5_ n6_ n7_ n8_ n9_ n10_ n11_ n12_ n13_ n14_ n15_; clear hb hbox hg; have hnb55 := NB360_338.out; have hnc55 := NB338_360.out; have hnb56 := NB360_339.out; have hnc56 := NB339_360.out; have hnb57 := NB360_347.out; have hnc57 := NB347_360.out; have hnb58 := NB360_353.out; have hnc58 := NB353_360.out; have hcz59_0 : w54.cell? ⟨gb360, 0, none⟩ = some (.int .u64 0) := (blk_cell BK360.out 0).trans rfl; have hcz59_1 : w54.cell? ⟨gb360, 1, none⟩ = some (.int .u64 0) := (blk_cell BK360.out 1).trans rfl; have hfz59_0 := blk_frozen BK360.out 0; have hfz59_1 := blk_frozen BK360.out 1; have hcz60_0 : w54.cell? ⟨gb347, 0, none⟩ = some (.int .i64 t340) := (blk_cell BK347.out 0).trans rfl; have hcz60_1 : w54.cell? ⟨gb347, 1, none⟩ = some (.int .i64 t341) := (blk_cell BK347.out 1).trans rfl; have hcz60_2 : w54.cell? ⟨gb347, 2, none⟩ = some (.int .i64 t342) := (blk_cell BK347.out 2).trans rfl; have hcz60_3 : w54.cell? ⟨gb347, 3, none⟩ = some (.int .i64 t343) := (blk_cell BK347.out 3).trans rfl; have hcz60_4 : w54.cell? ⟨gb347, 4, none⟩ = some (.int .i64 t344) := (blk_cell BK347.out 4).trans rfl; have hcz60_5 : w54.cell? ⟨gb347, 5, none⟩ = some (.bool t345) := (blk_cell BK347.out 5).trans rfl; have hfz60_0 := blk_frozen BK347.out 0; have hfz60_1 := blk_frozen BK347.out 1; have hfz60_2 := blk_frozen BK347.out 2; have hfz60_3 := blk_frozen BK347.out 3; have hfz60_4 := blk_frozen BK347.out 4; have hfz60_5 := blk_frozen BK347.out 5))
    (try simp only [Act.put, xT, xZ, xS])
    go_cut [] (fun wc => ∃ (kq : Nat) (x340000_32 : Int) (x340001_32 : Bool) (x340002_32 : Int) (x340003_32 : Int) (x340004_32 : Int) (x361000_32 : Int) (x361001_32 : Int), Aside0 (impl_Unpack.j1 kq (wrap64 (t357)) (!(t358 == 0) || (!(t359 == 0))) t340 t341 t342 t343 t344 t345 t351 t352 x361000_32 x361001_32 = some (r1, r2, r3, r4, r5)) ∧ Aside0 (kq ≤ kj3) ∧ Aside0 (wc.heap[gb338]? = some (.cells #[.int .u64 a1_0, .int .u64 a1_1] 25 (0, 0))) ∧ Aside0 (wc.heap[gb339]? = some (.cells #[.int .i64 x340000_32, .bool x340001_32, .int .u64 x340002_32, .int .u64 x340003_32, .int .i64 x340004_32] 27 (0, 0))) ∧ Aside0 (wc.heap[gb347]? = some (.cells #[.int .i64 t340, .int .i64 t341, .int .i64 t342, .int .i64 t343, .int .i64 t344, .bool t345] 91 (0, 0))) ∧ Aside0 (wc.heap[gb353]? = some (.cells #[.int .u64 t351, .int .u64 t352] 25 (0, 0))) ∧ Aside0 (wc.heap[gb360]? = some (.cells #[.int .u64 x361000_32, .int .u64 x361001_32] 25 (0, 0))) ∧ Aside0 (Below w.heap.size w wc))
    case first =>
     have H := HC33.out
     clear HC33
     by_cases c61 : t345 = true
     ·subst c61
      have H1 : ((impl_Word_right.f t351 t352 (wrap64 (t340 - 1))).bind fun bt361 => (if ((!(bt361.1 == 0) || (!(bt361.2 == 0))) != ((wrap64 (t357)) != 0)) = true then (some (0, false, 0, 0, 0)) else ((impl_Word_low.f t351 t352 (wrap64 (t340 - 1))).bind fun bt363 => (impl_Unpack.j1 kj3 (wrap64 (t357)) (!(t358 == 0) || (!(t359 == 0))) t340 t341 t342 t343 t344 true t351 t352 bt363.1 bt363.2)))) = some (r1, r2, r3, r4, r5) := by rw [if_pos rfl] at H; exact H
      clear H
      have H := H1
      clear H1
      replace H := Option.bind_eq_some_iff.mp H
      obtain ⟨⟨t361, t362⟩, A620, H⟩ := H
      replace H : (if ((!(t361 == 0) || (!(t362 == 0))) != ((wrap64 (t357)) != 0)) = true then (some (0, false, 0, 0, 0)) else ((impl_Word_low.f t351 t352 (wrap64 (t340 - 1))).bind fun bt363 => (impl_Unpack.j1 kj3 (wrap64 (t357)) (!(t358 == 0) || (!(t359 == 0))) t340 t341 t342 t343 t344 true t351 t352 bt363.1 bt363.2))) = some (r1, r2, r3, r4, r5) := H
      have A62 := zM A620
      clear A620
      by_cases c63 : ((!(t361 == 0) || (!(t362 == 0))) != ((wrap64 (t357)) != 0)) = true
      ·rw [if_pos c63] at H
       have c63b0 : ((!(t361 == 0) || (!(t362 == 0))) != ((wrap64 (t357)) != 0)) = true := c63
       (try (have c63b1 : decide ((!(t361 == 0) || (!(t362 == 0))) = ((wrap64 (t357)) != 0)) = false := by simpa using c63))
       (try (have c63b2 : ((!(t361 == 0) || (!(t362 == 0))) == ((wrap64 (t357)) != 0)) = false := by simpa using c63))
       (try (have c63b3 : ¬ ((!(t361 == 0) || (!(t362 == 0))) = ((wrap64 (t357)) != 0)) := by simpa using c63))
       clear c63
       (first | rw [c63b0] | (simp only [i64_w, i32_w]; rw [c63b0]) | rw [c63b1] | (simp only [c63b1]) | skip)
       simp only [Option.some.injEq, Prod.mk.injEq] at H
       obtain ⟨rfl, rfl, rfl, rfl, rfl⟩ := H
       have hnb64 := NB353_338.out
       have hnc64 := NB338_353.out
       have hnb65 := NB353_339.out
       have hnc65 := NB339_353.out
       have hnb66 := NB353_347.out
       have hnc66 := NB347_353.out
       have hnb67 := NB353_360.out
       have hnc67 := NB360_353.out
       have hcz68_0 : w54.cell? ⟨gb353, 0, none⟩ = some (.int .u64 t351) := (blk_cell BK353.out 0).trans rfl
       have hcz68_1 : w54.cell? ⟨gb353, 1, none⟩ = some (.int .u64 t352) := (blk_cell BK353.out 1).trans rfl
       have hfz68_0 := blk_frozen BK353.out 0
       have hfz68_1 := blk_frozen BK353.out 1
       have hnb69 := NB347_338.out
       have hnc69 := NB338_347.out
       have hnb70 := NB347_339.out
       have hnc70 := NB339_347.out
       have hnb71 := NB347_360.out
       have hnc71 := NB360_347.out
       have hcz72_0 : w54.cell? ⟨gb347, 0, none⟩ = some (.int .i64 t340) := (blk_cell BK347.out 0).trans rfl
       have hcz72_1 : w54.cell? ⟨gb347, 1, none⟩ = some (.int .i64 t341) := (blk_cell BK347.out 1).trans rfl
       have hcz72_2 : w54.cell? ⟨gb347, 2, none⟩ = some (.int .i64 t342) := (blk_cell BK347.out 2).trans rfl
       have hcz72_3 : w54.cell? ⟨gb347, 3, none⟩ = some (.int .i64 t343) := (blk_cell BK347.out 3).trans rfl
       have hcz72_4 : w54.cell? ⟨gb347, 4, none⟩ = some (.int .i64 t344) := (blk_cell BK347.out 4).trans rfl
       have hcz72_5 : w54.cell? ⟨gb347, 5, none⟩ = some (.bool true) := (blk_cell BK347.out 5).trans rfl
       have hfz72_0 := blk_frozen BK347.out 0
       have hfz72_1 := blk_frozen BK347.out 1
       have hfz72_2 := blk_frozen BK347.out 2
       have hfz72_3 := blk_frozen BK347.out 3
       have hfz72_4 := blk_frozen BK347.out 4
       have hfz72_5 := blk_frozen BK347.out 5
       go_wp2_with (first | ((with_reducible refine gate_callee (f := 66) rfl ?_); refine goesL_ (some 67) rfl rfl Tryd.func66 (by kernel_rfl) rfl #[.agg #[.int .u64 t351, .int .u64 t352], .int .i64 (wrap64 (t340 - 1))] rfl (by first | rfl | (simp only [List.map_toArray, List.map_cons, List.map_nil, List.length_drop, List.length_take]; rfl)) ?_; (with_reducible refine (impl_Word_right.calls t351 t352 (wrap64 (t340 - 1)) t361 t362 _ A62.out).mono ?_); rintro e w73 ⟨rfl, hb⟩; refine ⟨_, rfl, ?_⟩; have n0_ := zM (blk_below (g := gb338) (o := .cells #[.int .u64 a1_0, .int .u64 a1_1] 25 (0, 0)) (by refine blk_far ?_ NB338_360.out _; refine blk_far ?_ NB338_360.out _; exact BK338.out) hb); have n1_ := zM (blk_below (g := gb339) (o := .cells #[.int .i64 0, .bool false, .int .u64 0, .int .u64 0, .int .i64 0] 27 (0, 0)) (by refine blk_far ?_ NB339_360.out _; refine blk_far ?_ NB339_360.out _; exact BK339.out) hb); have n2_ := zM (blk_below (g := gb347) (o := .cells #[.int .i64 t340, .int .i64 t341, .int .i64 t342, .int .i64 t343, .int .i64 t344, .bool true] 91 (0, 0)) (by refine blk_far ?_ NB347_360.out _; refine blk_far ?_ NB347_360.out _; exact BK347.out) hb); have n3_ := zM (blk_below (g := gb353) (o := .cells #[.int .u64 t351, .int .u64 t352] 25 (0, 0)) (by refine blk_far ?_ NB353_360.out _; refine blk_far ?_ NB353_360.out _; exact BK353.out) hb); have n4_ := zM (blk_below (g := gb360) (o := .cells #[.int .u64 t351, .int .u64 t352] 25 (0, 0)) (by refine blk_put (cs := #[.int .u64 t351, .int .u64 0]) ?_ 1 _ rfl; refine blk_put (cs := #[.int .u64 0, .int .u64 0]) ?_ 0 _ rfl; exact BK360.out) hb); have n5_ := zM (below_step (by repeat (first | (with_reducible first | exact HB.out | apply yA | apply yN | apply yD | refine below_set ?_ GE338.out | refine below_set ?_ GE339.out | refine below_set ?_ GE347.out | refine below_set ?_ GE353.out | refine below_set ?_ GE360.out) | exact HB.out)) hb); clear BK338; clear BK339; clear BK347; clear BK353; clear BK360; clear HB; have BK338 := n0_; have BK339 := n1_; have BK347 := n2_; have BK353 := n3_; have BK360 := n4_; have HB := n5_; clear n0_ n1_ n2_ n3_ n4_ n5_; (try clear hb); (try clear hb2); (try clear hk); (try clear hi); have hnb74 := NB339_338.out; have hnc74 := NB338_339.out; have hnb75 := NB339_360.out; have hnc75 := NB360_339.out; have hcz76_0 : w73.cell? ⟨gb339, 0, none⟩ = some (.int .i64 0) := (blk_cell BK339.out 0).trans rfl; have hcz76_1 : w73.cell? ⟨gb339, 1, none⟩ = some (.bool false) := (blk_cell BK339.out 1).trans rfl; have hcz76_2 : w73.cell? ⟨gb339, 2, none⟩ = some (.int .u64 0) := (blk_cell BK339.out 2).trans rfl; have hcz76_3 : w73.cell? ⟨gb339, 3, none⟩ = some (.int .u64 0) := (blk_cell BK339.out 3).trans rfl; have hcz76_4 : w73.cell? ⟨gb339, 4, none⟩ = some (.int .i64 0) := (blk_cell BK339.out 4).trans rfl; have hfz76_0 := blk_frozen BK339.out 0; have hfz76_1 := blk_frozen BK339.out 1; have hfz76_2 := blk_frozen BK339.out 2; have hfz76_3 := blk_frozen BK339.out 3; have hfz76_4 := blk_frozen BK339.out 4))
       refine bodyPost_ret (results_cell_row rfl _ _ gb339 27 #[.int .i64 0, .bool false, .int .u64 0, .int .u64 0, .int .i64 0] (0, 0) _ rfl (by refine blk_put (cs := #[.int .i64 0, .bool false, .int .u64 0, .int .u64 0, .int .i64 0]) ?_ 4 _ rfl; refine blk_put (cs := #[.int .i64 0, .bool false, .int .u64 0, .int .u64 0, .int .i64 0]) ?_ 3 _ rfl; refine blk_put (cs := #[.int .i64 0, .bool false, .int .u64 0, .int .u64 0, .int .i64 0]) ?_ 2 _ rfl; refine blk_put (cs := #[.int .i64 0, .bool false, .int .u64 0, .int .u64 0, .int .i64 0]) ?_ 1 _ rfl; refine blk_put (cs := #[.int .i64 0, .bool false, .int .u64 0, .int .u64 0, .int .i64 0]) ?_ 0 _ rfl; exact BK339.out) Tryd.underlying27 rfl (by kernel_rfl)) rfl ?_
       exact ⟨by first | rfl | (simp [errW_none, errW_some] <;> rfl) | (simp [*, errW_none, errW_some] <;> rfl), by repeat (first | (with_reducible first | exact HB.out | apply yA | apply yN | apply yD | refine below_set ?_ GE338.out | refine below_set ?_ GE339.out | refine below_set ?_ GE347.out | refine below_set ?_ GE353.out | refine below_set ?_ GE360.out) | exact HB.out)⟩
      ·rw [if_neg c63] at H
       have c63b0 : ((!(t361 == 0) || (!(t362 == 0))) != ((wrap64 (t357)) != 0)) = false := by simpa using c63
       (try (have c63b1 : decide ((!(t361 == 0) || (!(t362 == 0))) = ((wrap64 (t357)) != 0)) = true := by simpa using c63))
       (try (have c63b2 : ((!(t361 == 0) || (!(t362 == 0))) == ((wrap64 (t357)) != 0)) = true := by simpa using c63))
       clear c63
       (first | rw [c63b0] | (simp only [i64_w, i32_w]; rw [c63b0]) | rw [c63b1] | (simp only [c63b1]) | skip)
       replace H := Option.bind_eq_some_iff.mp H
       obtain ⟨⟨t363, t364⟩, A770, H⟩ := H
       replace H : (impl_Unpack.j1 kj3 (wrap64 (t357)) (!(t358 == 0) || (!(t359 == 0))) t340 t341 t342 t343 t344 true t351 t352 t363 t364) = some (r1, r2, r3, r4, r5) := H
       have A77 := zM A770
       clear A770
       have H' := zM H
       clear H
       have hnb78 := NB353_338.out
       have hnc78 := NB338_353.out
       have hnb79 := NB353_339.out
       have hnc79 := NB339_353.out
       have hnb80 := NB353_347.out
       have hnc80 := NB347_353.out
       have hnb81 := NB353_360.out
       have hnc81 := NB360_353.out
       have hcz82_0 : w54.cell? ⟨gb353, 0, none⟩ = some (.int .u64 t351) := (blk_cell BK353.out 0).trans rfl
       have hcz82_1 : w54.cell? ⟨gb353, 1, none⟩ = some (.int .u64 t352) := (blk_cell BK353.out 1).trans rfl
       have hfz82_0 := blk_frozen BK353.out 0
       have hfz82_1 := blk_frozen BK353.out 1
       have hnb83 := NB347_338.out
       have hnc83 := NB338_347.out
       have hnb84 := NB347_339.out
       have hnc84 := NB339_347.out
       have hnb85 := NB347_360.out
       have hnc85 := NB360_347.out
       have hcz86_0 : w54.cell? ⟨gb347, 0, none⟩ = some (.int .i64 t340) := (blk_cell BK347.out 0).trans rfl
       have hcz86_1 : w54.cell? ⟨gb347, 1, none⟩ = some (.int .i64 t341) := (blk_cell BK347.out 1).trans rfl
       have hcz86_2 : w54.cell? ⟨gb347, 2, none⟩ = some (.int .i64 t342) := (blk_cell BK347.out 2).trans rfl
       have hcz86_3 : w54.cell? ⟨gb347, 3, none⟩ = some (.int .i64 t343) := (blk_cell BK347.out 3).trans rfl
       have hcz86_4 : w54.cell? ⟨gb347, 4, none⟩ = some (.int .i64 t344) := (blk_cell BK347.out 4).trans rfl
       have hcz86_5 : w54.cell? ⟨gb347, 5, none⟩ = some (.bool true) := (blk_cell BK347.out 5).trans rfl
       have hfz86_0 := blk_frozen BK347.out 0
       have hfz86_1 := blk_frozen BK347.out 1
       have hfz86_2 := blk_frozen BK347.out 2
       have hfz86_3 := blk_frozen BK347.out 3
       have hfz86_4 := blk_frozen BK347.out 4
       have hfz86_5 := blk_frozen BK347.out 5
       go_wp2_with (first | ((with_reducible refine gate_callee (f := 66) rfl ?_); refine goesL_ (some 67) rfl rfl Tryd.func66 (by kernel_rfl) rfl #[.agg #[.int .u64 t351, .int .u64 t352], .int .i64 (wrap64 (t340 - 1))] rfl (by first | rfl | (simp only [List.map_toArray, List.map_cons, List.map_nil, List.length_drop, List.length_take]; rfl)) ?_; (with_reducible refine (impl_Word_right.calls t351 t352 (wrap64 (t340 - 1)) t361 t362 _ A62.out).mono ?_); rintro e w87 ⟨rfl, hb⟩; refine ⟨_, rfl, ?_⟩; have n0_ := zM (blk_below (g := gb338) (o := .cells #[.int .u64 a1_0, .int .u64 a1_1] 25 (0, 0)) (by refine blk_far ?_ NB338_360.out _; refine blk_far ?_ NB338_360.out _; exact BK338.out) hb); have n1_ := zM (blk_below (g := gb339) (o := .cells #[.int .i64 0, .bool false, .int .u64 0, .int .u64 0, .int .i64 0] 27 (0, 0)) (by refine blk_far ?_ NB339_360.out _; refine blk_far ?_ NB339_360.out _; exact BK339.out) hb); have n2_ := zM (blk_below (g := gb347) (o := .cells #[.int .i64 t340, .int .i64 t341, .int .i64 t342, .int .i64 t343, .int .i64 t344, .bool true] 91 (0, 0)) (by refine blk_far ?_ NB347_360.out _; refine blk_far ?_ NB347_360.out _; exact BK347.out) hb); have n3_ := zM (blk_below (g := gb353) (o := .cells #[.int .u64 t351, .int .u64 t352] 25 (0, 0)) (by refine blk_far ?_ NB353_360.out _; refine blk_far ?_ NB353_360.out _; exact BK353.out) hb); have n4_ := zM (blk_below (g := gb360) (o := .cells #[.int .u64 t351, .int .u64 t352] 25 (0, 0)) (by refine blk_put (cs := #[.int .u64 t351, .int .u64 0]) ?_ 1 _ rfl; refine blk_put (cs := #[.int .u64 0, .int .u64 0]) ?_ 0 _ rfl; exact BK360.out) hb); have n5_ := zM (below_step (by repeat (first | (with_reducible first | exact HB.out | apply yA | apply yN | apply yD | refine below_set ?_ GE338.out | refine below_set ?_ GE339.out | refine below_set ?_ GE347.out | refine below_set ?_ GE353.out | refine below_set ?_ GE360.out) | exact HB.out)) hb); clear BK338; clear BK339; clear BK347; clear BK353; clear BK360; clear HB; have BK338 := n0_; have BK339 := n1_; have BK347 := n2_; have BK353 := n3_; have BK360 := n4_; have HB := n5_; clear n0_ n1_ n2_ n3_ n4_ n5_; (try clear hb); (try clear hb2); (try clear hk); (try clear hi); have hcz88_0 : w87.cell? ⟨gb353, 0, none⟩ = some (.int .u64 t351) := (blk_cell BK353.out 0).trans rfl; have hcz88_1 : w87.cell? ⟨gb353, 1, none⟩ = some (.int .u64 t352) := (blk_cell BK353.out 1).trans rfl; have hfz88_0 := blk_frozen BK353.out 0; have hfz88_1 := blk_frozen BK353.out 1; have hcz89_0 : w87.cell? ⟨gb347, 0, none⟩ = some (.int .i64 t340) := (blk_cell BK347.out 0).trans rfl; have hcz89_1 : w87.cell? ⟨gb347, 1, none⟩ = some (.int .i64 t341) := (blk_cell BK347.out 1).trans rfl; have hcz89_2 : w87.cell? ⟨gb347, 2, none⟩ = some (.int .i64 t342) := (blk_cell BK347.out 2).trans rfl; have hcz89_3 : w87.cell? ⟨gb347, 3, none⟩ = some (.int .i64 t343) := (blk_cell BK347.out 3).trans rfl; have hcz89_4 : w87.cell? ⟨gb347, 4, none⟩ = some (.int .i64 t344) := (blk_cell BK347.out 4).trans rfl; have hcz89_5 : w87.cell? ⟨gb347, 5, none⟩ = some (.bool true) := (blk_cell BK347.out 5).trans rfl; have hfz89_0 := blk_frozen BK347.out 0; have hfz89_1 := blk_frozen BK347.out 1; have hfz89_2 := blk_frozen BK347.out 2; have hfz89_3 := blk_frozen BK347.out 3; have hfz89_4 := blk_frozen BK347.out 4; have hfz89_5 := blk_frozen BK347.out 5) | ((with_reducible refine gate_callee (f := 68) rfl ?_); refine goesL_ (some 80) rfl rfl Tryd.func68 (by kernel_rfl) rfl #[.agg #[.int .u64 t351, .int .u64 t352], .int .i64 (wrap64 (t340 - 1))] rfl (by first | rfl | (simp only [List.map_toArray, List.map_cons, List.map_nil, List.length_drop, List.length_take]; rfl)) ?_; (with_reducible refine (impl_Word_low.calls t351 t352 (wrap64 (t340 - 1)) t363 t364 _ A77.out).mono ?_); rintro e w90 ⟨rfl, hb⟩; refine ⟨_, rfl, ?_⟩; have n0_ := zM (blk_below BK338.out hb); have n1_ := zM (blk_below BK339.out hb); have n2_ := zM (blk_below BK347.out hb); have n3_ := zM (blk_below BK353.out hb); have n4_ := zM (blk_below BK360.out hb); have n5_ := zM (below_step HB.out hb); clear BK338; clear BK339; clear BK347; clear BK353; clear BK360; clear HB; have BK338 := n0_; have BK339 := n1_; have BK347 := n2_; have BK353 := n3_; have BK360 := n4_; have HB := n5_; clear n0_ n1_ n2_ n3_ n4_ n5_; (try clear hb); (try clear hb2); (try clear hk); (try clear hi); have hnb91 := NB360_338.out; have hnc91 := NB338_360.out; have hnb92 := NB360_339.out; have hnc92 := NB339_360.out; have hcz93_0 : w90.cell? ⟨gb360, 0, none⟩ = some (.int .u64 t351) := (blk_cell BK360.out 0).trans rfl; have hcz93_1 : w90.cell? ⟨gb360, 1, none⟩ = some (.int .u64 t352) := (blk_cell BK360.out 1).trans rfl; have hfz93_0 := blk_frozen BK360.out 0; have hfz93_1 := blk_frozen BK360.out 1))
       go_meet
       case rel => exact ⟨_, (0), (false), (0), (0), (0), (t363), (t364), H', ⟨by have := HJ3.out; first | omega | exact Nat.le_refl _⟩, ⟨by refine blk_far ?_ NB338_360.out _; refine blk_far ?_ NB338_360.out _; exact BK338.out⟩, ⟨by refine blk_far ?_ NB339_360.out _; refine blk_far ?_ NB339_360.out _; exact BK339.out⟩, ⟨by refine blk_far ?_ NB347_360.out _; refine blk_far ?_ NB347_360.out _; exact BK347.out⟩, ⟨by refine blk_far ?_ NB353_360.out _; refine blk_far ?_ NB353_360.out _; exact BK353.out⟩, ⟨by refine blk_put (cs := #[.int .u64 t363, .int .u64 t352]) ?_ 1 _ rfl; refine blk_put (cs := #[.int .u64 t351, .int .u64 t352]) ?_ 0 _ rfl; exact BK360.out⟩, ⟨by repeat (first | (with_reducible first | exact HB.out | apply yA | apply yN | apply yD | refine below_set ?_ GE338.out | refine below_set ?_ GE339.out | refine below_set ?_ GE347.out | refine below_set ?_ GE353.out | refine below_set ?_ GE360.out) | exact HB.out)⟩⟩
     ·replace c61 := Bool.eq_false_iff.mpr c61
      subst c61
      have H1 : (impl_Unpack.j1 kj3 (wrap64 (t357)) (!(t358 == 0) || (!(t359 == 0))) t340 t341 t342 t343 t344 false t351 t352 t351 t352) = some (r1, r2, r3, r4, r5) := by rw [if_neg (show ¬ (false = true) by decide)] at H; exact H
      clear H
      have H := H1
      clear H1
      have H' := zM H
      clear H
      go_wp2
      go_meet
      case rel => exact ⟨_, (0), (false), (0), (0), (0), (t351), (t352), H', ⟨by have := HJ3.out; first | omega | exact Nat.le_refl _⟩, ⟨by refine blk_far ?_ NB338_360.out _; refine blk_far ?_ NB338_360.out _; exact BK338.out⟩, ⟨by refine blk_far ?_ NB339_360.out _; refine blk_far ?_ NB339_360.out _; exact BK339.out⟩, ⟨by refine blk_far ?_ NB347_360.out _; refine blk_far ?_ NB347_360.out _; exact BK347.out⟩, ⟨by refine blk_far ?_ NB353_360.out _; refine blk_far ?_ NB353_360.out _; exact BK353.out⟩, ⟨by refine blk_put (cs := #[.int .u64 t351, .int .u64 0]) ?_ 1 _ rfl; refine blk_put (cs := #[.int .u64 0, .int .u64 0]) ?_ 0 _ rfl; exact BK360.out⟩, ⟨by repeat (first | (with_reducible first | exact HB.out | apply yA | apply yN | apply yD | refine below_set ?_ GE338.out | refine below_set ?_ GE339.out | refine below_set ?_ GE347.out | refine below_set ?_ GE353.out | refine below_set ?_ GE360.out) | exact HB.out)⟩⟩
    case rest =>
     clear HC33
     obtain ⟨kq, x340000_32, x340001_32, x340002_32, x340003_32, x340004_32, x361000_32, x361001_32, HA, HJ32, BK338, BK339, BK347, BK353, BK360, HB⟩ := hcut
     cases kq with
     | zero => exact absurd HA.out (by simp [impl_Unpack.j1])
     | succ kj32 =>
      have H := HA.out
      clear HA
      simp only [impl_Unpack.j1] at H
      have HC94 := zM H
      clear H
      go_upto_region 14 with (fail)
      go_cut [81] (fun v81 wc => ∃ (kq : Nat) (x81_93 : Bool), v81 = .bool x81_93 ∧ Aside0 (impl_Unpack.j2 kq (wrap64 (t357)) (!(t358 == 0) || (!(t359 == 0))) x81_93 t340 t341 t342 t343 t344 t345 t351 t352 = some (r1, r2, r3, r4, r5)) ∧ Aside0 (kq ≤ kj32) ∧ Aside0 (wc.heap[gb338]? = some (.cells #[.int .u64 a1_0, .int .u64 a1_1] 25 (0, 0))) ∧ Aside0 (wc.heap[gb339]? = some (.cells #[.int .i64 x340000_32, .bool x340001_32, .int .u64 x340002_32, .int .u64 x340003_32, .int .i64 x340004_32] 27 (0, 0))) ∧ Aside0 (wc.heap[gb347]? = some (.cells #[.int .i64 t340, .int .i64 t341, .int .i64 t342, .int .i64 t343, .int .i64 t344, .bool t345] 91 (0, 0))) ∧ Aside0 (wc.heap[gb353]? = some (.cells #[.int .u64 t351, .int .u64 t352] 25 (0, 0))) ∧ Aside0 (wc.heap[gb360]? = some (.cells #[.int .u64 x361000_32, .int .u64 x361001_32] 25 (0, 0))) ∧ Aside0 (Below w.heap.size w wc))
      case first =>
       have H := HC94.out
       clear HC94
       replace H := Option.bind_eq_some_iff.mp H
       obtain ⟨t365, A950, H⟩ := H
       replace H : (if (wrap64 (t357)) = t365 then (impl_Unpack.j2 kj32 (wrap64 (t357)) (!(t358 == 0) || (!(t359 == 0))) (x361000_32 == 0 && (x361001_32 == 0)) t340 t341 t342 t343 t344 t345 t351 t352) else (impl_Unpack.j2 kj32 (wrap64 (t357)) (!(t358 == 0) || (!(t359 == 0))) false t340 t341 t342 t343 t344 t345 t351 t352)) = some (r1, r2, r3, r4, r5) := H
       have A95 := zM A950
       clear A950
       by_cases c96 : (wrap64 (t357)) = t365
       ·rw [if_pos c96] at H
        have c96b0 : ((wrap64 (t357)) == t365) = true := beq_iff_eq.mpr c96
        have c96b1 : ((wrap64 (t357)) != t365) = false := bne_eq_false_iff_eq.mpr c96
        clear c96
        (first | rw [c96b0] | (simp only [i64_w, i32_w]; rw [c96b0]) | rw [c96b1] | (simp only [c96b1]) | skip)
        have H' := zM H
        clear H
        have hnb97 := NB347_338.out
        have hnc97 := NB338_347.out
        have hnb98 := NB347_339.out
        have hnc98 := NB339_347.out
        have hnb99 := NB347_353.out
        have hnc99 := NB353_347.out
        have hnb100 := NB347_360.out
        have hnc100 := NB360_347.out
        have hcz101_0 : wc.cell? ⟨gb347, 0, none⟩ = some (.int .i64 t340) := (blk_cell BK347.out 0).trans rfl
        have hcz101_1 : wc.cell? ⟨gb347, 1, none⟩ = some (.int .i64 t341) := (blk_cell BK347.out 1).trans rfl
        have hcz101_2 : wc.cell? ⟨gb347, 2, none⟩ = some (.int .i64 t342) := (blk_cell BK347.out 2).trans rfl
        have hcz101_3 : wc.cell? ⟨gb347, 3, none⟩ = some (.int .i64 t343) := (blk_cell BK347.out 3).trans rfl
        have hcz101_4 : wc.cell? ⟨gb347, 4, none⟩ = some (.int .i64 t344) := (blk_cell BK347.out 4).trans rfl
        have hcz101_5 : wc.cell? ⟨gb347, 5, none⟩ = some (.bool t345) := (blk_cell BK347.out 5).trans rfl
        have hfz101_0 := blk_frozen BK347.out 0
        have hfz101_1 := blk_frozen BK347.out 1
        have hfz101_2 := blk_frozen BK347.out 2
        have hfz101_3 := blk_frozen BK347.out 3
        have hfz101_4 := blk_frozen BK347.out 4
        have hfz101_5 := blk_frozen BK347.out 5
        go_wp2_with (first | ((with_reducible refine gate_callee (f := 69) rfl ?_); refine goesL_ (some 84) rfl rfl Tryd.func69 (by kernel_rfl) rfl #[.agg #[.int .i64 t340, .int .i64 t341, .int .i64 t342, .int .i64 t343, .int .i64 t344, .bool t345]] rfl (by first | rfl | (simp only [List.map_toArray, List.map_cons, List.map_nil, List.length_drop, List.length_take]; rfl)) ?_; (with_reducible refine (impl_layout_top.calls t340 t341 t342 t343 t344 t345 t365 _ A95.out).mono ?_); rintro e w102 ⟨rfl, hb⟩; refine ⟨_, rfl, ?_⟩; have n0_ := zM (blk_below BK338.out hb); have n1_ := zM (blk_below BK339.out hb); have n2_ := zM (blk_below BK347.out hb); have n3_ := zM (blk_below BK353.out hb); have n4_ := zM (blk_below BK360.out hb); have n5_ := zM (below_step HB.out hb); clear BK338; clear BK339; clear BK347; clear BK353; clear BK360; clear HB; have BK338 := n0_; have BK339 := n1_; have BK347 := n2_; have BK353 := n3_; have BK360 := n4_; have HB := n5_; clear n0_ n1_ n2_ n3_ n4_ n5_; (try clear hb); (try clear hb2); (try clear hk); (try clear hi); have hnb103 := NB360_338.out; have hnc103 := NB338_360.out; have hnb104 := NB360_339.out; have hnc104 := NB339_360.out; have hnb105 := NB360_353.out; have hnc105 := NB353_360.out; have hcz106_0 : w102.cell? ⟨gb360, 0, none⟩ = some (.int .u64 x361000_32) := (blk_cell BK360.out 0).trans rfl; have hcz106_1 : w102.cell? ⟨gb360, 1, none⟩ = some (.int .u64 x361001_32) := (blk_cell BK360.out 1).trans rfl; have hfz106_0 := blk_frozen BK360.out 0; have hfz106_1 := blk_frozen BK360.out 1))
        go_meet
        case rel => exact ⟨_, ((x361000_32 == 0 && (x361001_32 == 0))), (by first | rfl | (simp; done) | (simp [*]; done)), H', ⟨by have := HJ3.out; have := HJ32.out; first | omega | exact Nat.le_refl _⟩, ⟨by exact BK338.out⟩, ⟨by exact BK339.out⟩, ⟨by exact BK347.out⟩, ⟨by exact BK353.out⟩, ⟨by exact BK360.out⟩, ⟨by repeat (first | (with_reducible first | exact HB.out | apply yA | apply yN | apply yD | refine below_set ?_ GE338.out | refine below_set ?_ GE339.out | refine below_set ?_ GE347.out | refine below_set ?_ GE353.out | refine below_set ?_ GE360.out) | exact HB.out)⟩⟩
       ·rw [if_neg c96] at H
        have c96b0 : ((wrap64 (t357)) == t365) = false := beq_eq_false_iff_ne.mpr c96
        have c96b1 : ((wrap64 (t357)) != t365) = true := bne_iff_ne.mpr c96
        (first | rw [c96b0] | (simp only [i64_w, i32_w]; rw [c96b0]) | rw [c96b1] | (simp only [c96b1]) | skip)
        have H' := zM H
        clear H
        have hnb107 := NB347_338.out
        have hnc107 := NB338_347.out
        have hnb108 := NB347_339.out
        have hnc108 := NB339_347.out
        have hnb109 := NB347_353.out
        have hnc109 := NB353_347.out
        have hnb110 := NB347_360.out
        have hnc110 := NB360_347.out
        have hcz111_0 : wc.cell? ⟨gb347, 0, none⟩ = some (.int .i64 t340) := (blk_cell BK347.out 0).trans rfl
        have hcz111_1 : wc.cell? ⟨gb347, 1, none⟩ = some (.int .i64 t341) := (blk_cell BK347.out 1).trans rfl
        have hcz111_2 : wc.cell? ⟨gb347, 2, none⟩ = some (.int .i64 t342) := (blk_cell BK347.out 2).trans rfl
        have hcz111_3 : wc.cell? ⟨gb347, 3, none⟩ = some (.int .i64 t343) := (blk_cell BK347.out 3).trans rfl
        have hcz111_4 : wc.cell? ⟨gb347, 4, none⟩ = some (.int .i64 t344) := (blk_cell BK347.out 4).trans rfl
        have hcz111_5 : wc.cell? ⟨gb347, 5, none⟩ = some (.bool t345) := (blk_cell BK347.out 5).trans rfl
        have hfz111_0 := blk_frozen BK347.out 0
        have hfz111_1 := blk_frozen BK347.out 1
        have hfz111_2 := blk_frozen BK347.out 2
        have hfz111_3 := blk_frozen BK347.out 3
        have hfz111_4 := blk_frozen BK347.out 4
        have hfz111_5 := blk_frozen BK347.out 5
        go_wp2_with (first | ((with_reducible refine gate_callee (f := 69) rfl ?_); refine goesL_ (some 84) rfl rfl Tryd.func69 (by kernel_rfl) rfl #[.agg #[.int .i64 t340, .int .i64 t341, .int .i64 t342, .int .i64 t343, .int .i64 t344, .bool t345]] rfl (by first | rfl | (simp only [List.map_toArray, List.map_cons, List.map_nil, List.length_drop, List.length_take]; rfl)) ?_; (with_reducible refine (impl_layout_top.calls t340 t341 t342 t343 t344 t345 t365 _ A95.out).mono ?_); rintro e w112 ⟨rfl, hb⟩; refine ⟨_, rfl, ?_⟩; have n0_ := zM (blk_below BK338.out hb); have n1_ := zM (blk_below BK339.out hb); have n2_ := zM (blk_below BK347.out hb); have n3_ := zM (blk_below BK353.out hb); have n4_ := zM (blk_below BK360.out hb); have n5_ := zM (below_step HB.out hb); clear BK338; clear BK339; clear BK347; clear BK353; clear BK360; clear HB; have BK338 := n0_; have BK339 := n1_; have BK347 := n2_; have BK353 := n3_; have BK360 := n4_; have HB := n5_; clear n0_ n1_ n2_ n3_ n4_ n5_; (try clear hb); (try clear hb2); (try clear hk); (try clear hi)))
        go_meet
        case rel => exact ⟨_, (false), (by first | rfl | (simp; done) | (simp [*]; done)), H', ⟨by have := HJ3.out; have := HJ32.out; first | omega | exact Nat.le_refl _⟩, ⟨by exact BK338.out⟩, ⟨by exact BK339.out⟩, ⟨by exact BK347.out⟩, ⟨by exact BK353.out⟩, ⟨by exact BK360.out⟩, ⟨by repeat (first | (with_reducible first | exact HB.out | apply yA | apply yN | apply yD | refine below_set ?_ GE338.out | refine below_set ?_ GE339.out | refine below_set ?_ GE347.out | refine below_set ?_ GE353.out | refine below_set ?_ GE360.out) | exact HB.out)⟩⟩
      case rest =>
       clear HC94
       obtain ⟨kq, x81_93, rfl, HA, HJ93, BK338, BK339, BK347, BK353, BK360, HB⟩ := hcut
       cases kq with
       | zero => exact absurd HA.out (by simp [impl_Unpack.j2])
       | succ kj93 =>
        have H := HA.out
        clear HA
        simp only [impl_Unpack.j2] at H
        by_cases c113 : x81_93 = true
        ·subst c113
         have H1 : (some (4, (!(t358 == 0) || (!(t359 == 0))), 0, 0, 0)) = some (r1, r2, r3, r4, r5) := by rw [if_pos rfl] at H; exact H
         clear H
         have H := H1
         clear H1
         simp only [Option.some.injEq, Prod.mk.injEq] at H
         obtain ⟨rfl, rfl, rfl, rfl, rfl⟩ := H
         have hnb114 := NB339_338.out
         have hnc114 := NB338_339.out
         have hnb115 := NB339_347.out
         have hnc115 := NB347_339.out
         have hnb116 := NB339_353.out
         have hnc116 := NB353_339.out
         have hnb117 := NB339_360.out
         have hnc117 := NB360_339.out
         have hcz118_0 : wc.cell? ⟨gb339, 0, none⟩ = some (.int .i64 x340000_32) := (blk_cell BK339.out 0).trans rfl
         have hcz118_1 : wc.cell? ⟨gb339, 1, none⟩ = some (.bool x340001_32) := (blk_cell BK339.out 1).trans rfl
         have hcz118_2 : wc.cell? ⟨gb339, 2, none⟩ = some (.int .u64 x340002_32) := (blk_cell BK339.out 2).trans rfl
         have hcz118_3 : wc.cell? ⟨gb339, 3, none⟩ = some (.int .u64 x340003_32) := (blk_cell BK339.out 3).trans rfl
         have hcz118_4 : wc.cell? ⟨gb339, 4, none⟩ = some (.int .i64 x340004_32) := (blk_cell BK339.out 4).trans rfl
         have hfz118_0 := blk_frozen BK339.out 0
         have hfz118_1 := blk_frozen BK339.out 1
         have hfz118_2 := blk_frozen BK339.out 2
         have hfz118_3 := blk_frozen BK339.out 3
         have hfz118_4 := blk_frozen BK339.out 4
         go_wp2
         refine bodyPost_ret (results_cell_row rfl _ _ gb339 27 #[.int .i64 4, .bool (!(t358 == 0) || (!(t359 == 0))), .int .u64 0, .int .u64 0, .int .i64 0] (0, 0) _ rfl (by refine blk_put (cs := #[.int .i64 4, .bool (!(t358 == 0) || (!(t359 == 0))), .int .u64 0, .int .u64 0, .int .i64 x340004_32]) ?_ 4 _ rfl; refine blk_put (cs := #[.int .i64 4, .bool (!(t358 == 0) || (!(t359 == 0))), .int .u64 0, .int .u64 x340003_32, .int .i64 x340004_32]) ?_ 3 _ rfl; refine blk_put (cs := #[.int .i64 4, .bool (!(t358 == 0) || (!(t359 == 0))), .int .u64 x340002_32, .int .u64 x340003_32, .int .i64 x340004_32]) ?_ 2 _ rfl; refine blk_put (cs := #[.int .i64 4, .bool x340001_32, .int .u64 x340002_32, .int .u64 x340003_32, .int .i64 x340004_32]) ?_ 1 _ rfl; refine blk_put (cs := #[.int .i64 x340000_32, .bool x340001_32, .int .u64 x340002_32, .int .u64 x340003_32, .int .i64 x340004_32]) ?_ 0 _ rfl; exact BK339.out) Tryd.underlying27 rfl (by kernel_rfl)) rfl ?_
         exact ⟨by first | rfl | (simp [errW_none, errW_some] <;> rfl) | (simp [*, errW_none, errW_some] <;> rfl), by repeat (first | (with_reducible first | exact HB.out | apply yA | apply yN | apply yD | refine below_set ?_ GE338.out | refine below_set ?_ GE339.out | refine below_set ?_ GE347.out | refine below_set ?_ GE353.out | refine below_set ?_ GE360.out) | exact HB.out)⟩
        ·replace c113 := Bool.eq_false_iff.mpr c113
         subst c113
         have H1 : ((impl_layout_top.f t340 t341 t342 t343 t344 t345).bind fun t366 => (if (wrap64 (t357)) = t366 then (some (5, false, 0, 0, 0)) else (if (wrap64 (t357)) = 0 then (impl_Unpack.j3 kj93 (wrap64 (t357)) (!(t358 == 0) || (!(t359 == 0))) (t351 == 0 && (t352 == 0)) t340 t341 t342 t343 t344 t345 t351 t352) else (impl_Unpack.j3 kj93 (wrap64 (t357)) (!(t358 == 0) || (!(t359 == 0))) false t340 t341 t342 t343 t344 t345 t351 t352)))) = some (r1, r2, r3, r4, r5) := by rw [if_neg (show ¬ (false = true) by decide)] at H; exact H
         clear H
         have H := H1
         clear H1
         replace H := Option.bind_eq_some_iff.mp H
         obtain ⟨t366, A1190, H⟩ := H
         replace H : (if (wrap64 (t357)) = t366 then (some (5, false, 0, 0, 0)) else (if (wrap64 (t357)) = 0 then (impl_Unpack.j3 kj93 (wrap64 (t357)) (!(t358 == 0) || (!(t359 == 0))) (t351 == 0 && (t352 == 0)) t340 t341 t342 t343 t344 t345 t351 t352) else (impl_Unpack.j3 kj93 (wrap64 (t357)) (!(t358 == 0) || (!(t359 == 0))) false t340 t341 t342 t343 t344 t345 t351 t352))) = some (r1, r2, r3, r4, r5) := H
         have A119 := zM A1190
         clear A1190
         by_cases c120 : (wrap64 (t357)) = t366
         ·rw [if_pos c120] at H
          have c120b0 : ((wrap64 (t357)) == t366) = true := beq_iff_eq.mpr c120
          have c120b1 : ((wrap64 (t357)) != t366) = false := bne_eq_false_iff_eq.mpr c120
          clear c120
          simp only [Option.some.injEq, Prod.mk.injEq] at H
          obtain ⟨rfl, rfl, rfl, rfl, rfl⟩ := H
          have hnb121 := NB347_338.out
          have hnc121 := NB338_347.out
          have hnb122 := NB347_339.out
          have hnc122 := NB339_347.out
          have hnb123 := NB347_353.out
          have hnc123 := NB353_347.out
          have hnb124 := NB347_360.out
          have hnc124 := NB360_347.out
          have hcz125_0 : wc.cell? ⟨gb347, 0, none⟩ = some (.int .i64 t340) := (blk_cell BK347.out 0).trans rfl
          have hcz125_1 : wc.cell? ⟨gb347, 1, none⟩ = some (.int .i64 t341) := (blk_cell BK347.out 1).trans rfl
          have hcz125_2 : wc.cell? ⟨gb347, 2, none⟩ = some (.int .i64 t342) := (blk_cell BK347.out 2).trans rfl
          have hcz125_3 : wc.cell? ⟨gb347, 3, none⟩ = some (.int .i64 t343) := (blk_cell BK347.out 3).trans rfl
          have hcz125_4 : wc.cell? ⟨gb347, 4, none⟩ = some (.int .i64 t344) := (blk_cell BK347.out 4).trans rfl
          have hcz125_5 : wc.cell? ⟨gb347, 5, none⟩ = some (.bool t345) := (blk_cell BK347.out 5).trans rfl
          have hfz125_0 := blk_frozen BK347.out 0
          have hfz125_1 := blk_frozen BK347.out 1
          have hfz125_2 := blk_frozen BK347.out 2
          have hfz125_3 := blk_frozen BK347.out 3
          have hfz125_4 := blk_frozen BK347.out 4
          have hfz125_5 := blk_frozen BK347.out 5
          go_wp2_with (first | ((with_reducible refine gate_callee (f := 69) rfl ?_); refine goesL_ (some 96) rfl rfl Tryd.func69 (by kernel_rfl) rfl #[.agg #[.int .i64 t340, .int .i64 t341, .int .i64 t342, .int .i64 t343, .int .i64 t344, .bool t345]] rfl (by first | rfl | (simp only [List.map_toArray, List.map_cons, List.map_nil, List.length_drop, List.length_take]; rfl)) ?_; (with_reducible refine (impl_layout_top.calls t340 t341 t342 t343 t344 t345 t366 _ A119.out).mono ?_); rintro e w126 ⟨rfl, hb⟩; refine ⟨_, rfl, ?_⟩; have n0_ := zM (blk_below BK338.out hb); have n1_ := zM (blk_below BK339.out hb); have n2_ := zM (blk_below BK347.out hb); have n3_ := zM (blk_below BK353.out hb); have n4_ := zM (blk_below BK360.out hb); have n5_ := zM (below_step HB.out hb); clear BK338; clear BK339; clear BK347; clear BK353; clear BK360; clear HB; have BK338 := n0_; have BK339 := n1_; have BK347 := n2_; have BK353 := n3_; have BK360 := n4_; have HB := n5_; clear n0_ n1_ n2_ n3_ n4_ n5_; (try clear hb); (try clear hb2); (try clear hk); (try clear hi); have hnb127 := NB339_338.out; have hnc127 := NB338_339.out; have hnb128 := NB339_353.out; have hnc128 := NB353_339.out; have hnb129 := NB339_360.out; have hnc129 := NB360_339.out; have hcz130_0 : w126.cell? ⟨gb339, 0, none⟩ = some (.int .i64 x340000_32) := (blk_cell BK339.out 0).trans rfl; have hcz130_1 : w126.cell? ⟨gb339, 1, none⟩ = some (.bool x340001_32) := (blk_cell BK339.out 1).trans rfl; have hcz130_2 : w126.cell? ⟨gb339, 2, none⟩ = some (.int .u64 x340002_32) := (blk_cell BK339.out 2).trans rfl; have hcz130_3 : w126.cell? ⟨gb339, 3, none⟩ = some (.int .u64 x340003_32) := (blk_cell BK339.out 3).trans rfl; have hcz130_4 : w126.cell? ⟨gb339, 4, none⟩ = some (.int .i64 x340004_32) := (blk_cell BK339.out 4).trans rfl; have hfz130_0 := blk_frozen BK339.out 0; have hfz130_1 := blk_frozen BK339.out 1; have hfz130_2 := blk_frozen BK339.out 2; have hfz130_3 := blk_frozen BK339.out 3; have hfz130_4 := blk_frozen BK339.out 4))
          refine bodyPost_ret (results_cell_row rfl _ _ gb339 27 #[.int .i64 5, .bool false, .int .u64 0, .int .u64 0, .int .i64 0] (0, 0) _ rfl (by refine blk_put (cs := #[.int .i64 5, .bool false, .int .u64 0, .int .u64 0, .int .i64 x340004_32]) ?_ 4 _ rfl; refine blk_put (cs := #[.int .i64 5, .bool false, .int .u64 0, .int .u64 x340003_32, .int .i64 x340004_32]) ?_ 3 _ rfl; refine blk_put (cs := #[.int .i64 5, .bool false, .int .u64 x340002_32, .int .u64 x340003_32, .int .i64 x340004_32]) ?_ 2 _ rfl; refine blk_put (cs := #[.int .i64 5, .bool x340001_32, .int .u64 x340002_32, .int .u64 x340003_32, .int .i64 x340004_32]) ?_ 1 _ rfl; refine blk_put (cs := #[.int .i64 x340000_32, .bool x340001_32, .int .u64 x340002_32, .int .u64 x340003_32, .int .i64 x340004_32]) ?_ 0 _ rfl; exact BK339.out) Tryd.underlying27 rfl (by kernel_rfl)) rfl ?_
          exact ⟨by first | rfl | (simp [errW_none, errW_some] <;> rfl) | (simp [*, errW_none, errW_some] <;> rfl), by repeat (first | (with_reducible first | exact HB.out | apply yA | apply yN | apply yD | refine below_set ?_ GE338.out | refine below_set ?_ GE339.out | refine below_set ?_ GE347.out | refine below_set ?_ GE353.out | refine below_set ?_ GE360.out) | exact HB.out)⟩
         ·rw [if_neg c120] at H
          have c120b0 : ((wrap64 (t357)) == t366) = false := beq_eq_false_iff_ne.mpr c120
          have c120b1 : ((wrap64 (t357)) != t366) = true := bne_iff_ne.mpr c120
          have HC131 := zM H
          clear H
          have hnb132 := NB347_338.out
          have hnc132 := NB338_347.out
          have hnb133 := NB347_339.out
          have hnc133 := NB339_347.out
          have hnb134 := NB347_353.out
          have hnc134 := NB353_347.out
          have hnb135 := NB347_360.out
          have hnc135 := NB360_347.out
          have hcz136_0 : wc.cell? ⟨gb347, 0, none⟩ = some (.int .i64 t340) := (blk_cell BK347.out 0).trans rfl
          have hcz136_1 : wc.cell? ⟨gb347, 1, none⟩ = some (.int .i64 t341) := (blk_cell BK347.out 1).trans rfl
          have hcz136_2 : wc.cell? ⟨gb347, 2, none⟩ = some (.int .i64 t342) := (blk_cell BK347.out 2).trans rfl
          have hcz136_3 : wc.cell? ⟨gb347, 3, none⟩ = some (.int .i64 t343) := (blk_cell BK347.out 3).trans rfl
          have hcz136_4 : wc.cell? ⟨gb347, 4, none⟩ = some (.int .i64 t344) := (blk_cell BK347.out 4).trans rfl
          have hcz136_5 : wc.cell? ⟨gb347, 5, none⟩ = some (.bool t345) := (blk_cell BK347.out 5).trans rfl
          have hfz136_0 := blk_frozen BK347.out 0
          have hfz136_1 := blk_frozen BK347.out 1
          have hfz136_2 := blk_frozen BK347.out 2
          have hfz136_3 := blk_frozen BK347.out 3
          have hfz136_4 := blk_frozen BK347.out 4
          have hfz136_5 := blk_frozen BK347.out 5
          go_upto_region 18 with (first | ((with_reducible refine gate_callee (f := 69) rfl ?_); refine goesL_ (some 96) rfl rfl Tryd.func69 (by kernel_rfl) rfl #[.agg #[.int .i64 t340, .int .i64 t341, .int .i64 t342, .int .i64 t343, .int .i64 t344, .bool t345]] rfl (by first | rfl | (simp only [List.map_toArray, List.map_cons, List.map_nil, List.length_drop, List.length_take]; rfl)) ?_; (with_reducible refine (impl_layout_top.calls t340 t341 t342 t343 t344 t345 t366 _ A119.out).mono ?_); rintro e w137 ⟨rfl, hb⟩; refine ⟨_, rfl, ?_⟩; have n0_ := zM (blk_below BK338.out hb); have n1_ := zM (blk_below BK339.out hb); have n2_ := zM (blk_below BK347.out hb); have n3_ := zM (blk_below BK353.out hb); have n4_ := zM (blk_below BK360.out hb); have n5_ := zM (below_step HB.out hb); clear BK338; clear BK339; clear BK347; clear BK353; clear BK360; clear HB; have BK338 := n0_; have BK339 := n1_; have BK347 := n2_; have BK353 := n3_; have BK360 := n4_; have HB := n5_; clear n0_ n1_ n2_ n3_ n4_ n5_; (try clear hb); (try clear hb2); (try clear hk); (try clear hi)))
          (try simp only [Act.put, xT, xZ, xS])
          go_cut [99] (fun v99 wc => ∃ (kq : Nat) (x99_130 : Bool), v99 = .bool x99_130 ∧ Aside0 (impl_Unpack.j3 kq (wrap64 (t357)) (!(t358 == 0) || (!(t359 == 0))) x99_130 t340 t341 t342 t343 t344 t345 t351 t352 = some (r1, r2, r3, r4, r5)) ∧ Aside0 (kq ≤ kj93) ∧ Aside0 (wc.heap[gb338]? = some (.cells #[.int .u64 a1_0, .int .u64 a1_1] 25 (0, 0))) ∧ Aside0 (wc.heap[gb339]? = some (.cells #[.int .i64 x340000_32, .bool x340001_32, .int .u64 x340002_32, .int .u64 x340003_32, .int .i64 x340004_32] 27 (0, 0))) ∧ Aside0 (wc.heap[gb347]? = some (.cells #[.int .i64 t340, .int .i64 t341, .int .i64 t342, .int .i64 t343, .int .i64 t344, .bool t345] 91 (0, 0))) ∧ Aside0 (wc.heap[gb353]? = some (.cells #[.int .u64 t351, .int .u64 t352] 25 (0, 0))) ∧ Aside0 (wc.heap[gb360]? = some (.cells #[.int .u64 x361000_32, .int .u64 x361001_32] 25 (0, 0))) ∧ Aside0 (Below w.heap.size w wc))
          case first =>
           have H := HC131.out
           clear HC131
           by_cases c138 : (wrap64 (t357)) = 0
           ·rw [if_pos c138] at H
            have c138b0 : ((wrap64 (t357)) == 0) = true := beq_iff_eq.mpr c138
            have c138b1 : ((wrap64 (t357)) != 0) = false := bne_eq_false_iff_eq.mpr c138
            clear c138
            (first | rw [c138b0] | (simp only [i64_w, i32_w]; rw [c138b0]) | rw [c138b1] | (simp only [c138b1]) | skip)
            have H' := zM H
            clear H
            have hnb139 := NB353_338.out
            have hnc139 := NB338_353.out
            have hnb140 := NB353_339.out
            have hnc140 := NB339_353.out
            have hnb141 := NB353_347.out
            have hnc141 := NB347_353.out
            have hnb142 := NB353_360.out
            have hnc142 := NB360_353.out
            have hcz143_0 : w137.cell? ⟨gb353, 0, none⟩ = some (.int .u64 t351) := (blk_cell BK353.out 0).trans rfl
            have hcz143_1 : w137.cell? ⟨gb353, 1, none⟩ = some (.int .u64 t352) := (blk_cell BK353.out 1).trans rfl
            have hfz143_0 := blk_frozen BK353.out 0
            have hfz143_1 := blk_frozen BK353.out 1
            go_wp2
            go_meet
            case rel => exact ⟨_, ((t351 == 0 && (t352 == 0))), (by first | rfl | (simp; done) | (simp [*]; done)), H', ⟨by have := HJ3.out; have := HJ32.out; have := HJ93.out; first | omega | exact Nat.le_refl _⟩, ⟨by exact BK338.out⟩, ⟨by exact BK339.out⟩, ⟨by exact BK347.out⟩, ⟨by exact BK353.out⟩, ⟨by exact BK360.out⟩, ⟨by repeat (first | (with_reducible first | exact HB.out | apply yA | apply yN | apply yD | refine below_set ?_ GE338.out | refine below_set ?_ GE339.out | refine below_set ?_ GE347.out | refine below_set ?_ GE353.out | refine below_set ?_ GE360.out) | exact HB.out)⟩⟩
           ·rw [if_neg c138] at H
            have c138b0 : ((wrap64 (t357)) == 0) = false := beq_eq_false_iff_ne.mpr c138
            have c138b1 : ((wrap64 (t357)) != 0) = true := bne_iff_ne.mpr c138
            (first | rw [c138b0] | (simp only [i64_w, i32_w]; rw [c138b0]) | rw [c138b1] | (simp only [c138b1]) | skip)
            have H' := zM H
            clear H
            go_wp2
            go_meet
            case rel => exact ⟨_, (false), (by first | rfl | (simp; done) | (simp [*]; done)), H', ⟨by have := HJ3.out; have := HJ32.out; have := HJ93.out; first | omega | exact Nat.le_refl _⟩, ⟨by exact BK338.out⟩, ⟨by exact BK339.out⟩, ⟨by exact BK347.out⟩, ⟨by exact BK353.out⟩, ⟨by exact BK360.out⟩, ⟨by repeat (first | (with_reducible first | exact HB.out | apply yA | apply yN | apply yD | refine below_set ?_ GE338.out | refine below_set ?_ GE339.out | refine below_set ?_ GE347.out | refine below_set ?_ GE353.out | refine below_set ?_ GE360.out) | exact HB.out)⟩⟩
          case rest =>
           clear HC131
           obtain ⟨kq, x99_130, rfl, HA, HJ130, BK338, BK339, BK347, BK353, BK360, HB⟩ := hcut
           cases kq with
           | zero => exact absurd HA.out (by simp [impl_Unpack.j3])
           | succ kj130 =>
            have H := HA.out
            clear HA
            simp only [impl_Unpack.j3] at H
            by_cases c144 : x99_130 = true
            ·subst c144
             have H1 : (some (1, (!(t358 == 0) || (!(t359 == 0))), 0, 0, 0)) = some (r1, r2, r3, r4, r5) := by rw [if_pos rfl] at H; exact H
             clear H
             have H := H1
             clear H1
             simp only [Option.some.injEq, Prod.mk.injEq] at H
             obtain ⟨rfl, rfl, rfl, rfl, rfl⟩ := H
             have hnb145 := NB339_338.out
             have hnc145 := NB338_339.out
             have hnb146 := NB339_347.out
             have hnc146 := NB347_339.out
             have hnb147 := NB339_353.out
             have hnc147 := NB353_339.out
             have hnb148 := NB339_360.out
             have hnc148 := NB360_339.out
             have hcz149_0 : wc.cell? ⟨gb339, 0, none⟩ = some (.int .i64 x340000_32) := (blk_cell BK339.out 0).trans rfl
             have hcz149_1 : wc.cell? ⟨gb339, 1, none⟩ = some (.bool x340001_32) := (blk_cell BK339.out 1).trans rfl
             have hcz149_2 : wc.cell? ⟨gb339, 2, none⟩ = some (.int .u64 x340002_32) := (blk_cell BK339.out 2).trans rfl
             have hcz149_3 : wc.cell? ⟨gb339, 3, none⟩ = some (.int .u64 x340003_32) := (blk_cell BK339.out 3).trans rfl
             have hcz149_4 : wc.cell? ⟨gb339, 4, none⟩ = some (.int .i64 x340004_32) := (blk_cell BK339.out 4).trans rfl
             have hfz149_0 := blk_frozen BK339.out 0
             have hfz149_1 := blk_frozen BK339.out 1
             have hfz149_2 := blk_frozen BK339.out 2
             have hfz149_3 := blk_frozen BK339.out 3
             have hfz149_4 := blk_frozen BK339.out 4
             go_wp2
             refine bodyPost_ret (results_cell_row rfl _ _ gb339 27 #[.int .i64 1, .bool (!(t358 == 0) || (!(t359 == 0))), .int .u64 0, .int .u64 0, .int .i64 0] (0, 0) _ rfl (by refine blk_put (cs := #[.int .i64 1, .bool (!(t358 == 0) || (!(t359 == 0))), .int .u64 0, .int .u64 0, .int .i64 x340004_32]) ?_ 4 _ rfl; refine blk_put (cs := #[.int .i64 1, .bool (!(t358 == 0) || (!(t359 == 0))), .int .u64 0, .int .u64 x340003_32, .int .i64 x340004_32]) ?_ 3 _ rfl; refine blk_put (cs := #[.int .i64 1, .bool (!(t358 == 0) || (!(t359 == 0))), .int .u64 x340002_32, .int .u64 x340003_32, .int .i64 x340004_32]) ?_ 2 _ rfl; refine blk_put (cs := #[.int .i64 1, .bool x340001_32, .int .u64 x340002_32, .int .u64 x340003_32, .int .i64 x340004_32]) ?_ 1 _ rfl; refine blk_put (cs := #[.int .i64 x340000_32, .bool x340001_32, .int .u64 x340002_32, .int .u64 x340003_32, .int .i64 x340004_32]) ?_ 0 _ rfl; exact BK339.out) Tryd.underlying27 rfl (by kernel_rfl)) rfl ?_
             exact ⟨by first | rfl | (simp [errW_none, errW_some] <;> rfl) | (simp [*, errW_none, errW_some] <;> rfl), by repeat (first | (with_reducible first | exact HB.out | apply yA | apply yN | apply yD | refine below_set ?_ GE338.out | refine below_set ?_ GE339.out | refine below_set ?_ GE347.out | refine below_set ?_ GE353.out | refine below_set ?_ GE360.out) | exact HB.out)⟩
            ·replace c144 := Bool.eq_false_iff.mpr c144
             subst c144
             have H1 : (if (wrap64 (t357)) = 0 then ((impl_layout_qMin.f t340 t341 t342 t343 t344 t345).bind fun t367 => (some (2, (!(t358 == 0) || (!(t359 == 0))), t351, t352, t367))) else ((impl_one.f (wrap64 (t340 - 1))).bind fun bt368 => ((impl_Word_or.f t351 t352 bt368.1 bt368.2).bind fun bt370 => (some (3, (!(t358 == 0) || (!(t359 == 0))), bt370.1, bt370.2, wrap64 ((wrap64 ((wrap64 ((wrap64 (t357)) - t342)) - t340)) + 1)))))) = some (r1, r2, r3, r4, r5) := by rw [if_neg (show ¬ (false = true) by decide)] at H; exact H
             clear H
             have H := H1
             clear H1
             by_cases c150 : (wrap64 (t357)) = 0
             ·rw [if_pos c150] at H
              have c150b0 : ((wrap64 (t357)) == 0) = true := beq_iff_eq.mpr c150
              have c150b1 : ((wrap64 (t357)) != 0) = false := bne_eq_false_iff_eq.mpr c150
              clear c150
              replace H := Option.bind_eq_some_iff.mp H
              obtain ⟨t367, A1510, H⟩ := H
              replace H : (some (2, (!(t358 == 0) || (!(t359 == 0))), t351, t352, t367)) = some (r1, r2, r3, r4, r5) := H
              have A151 := zM A1510
              clear A1510
              simp only [Option.some.injEq, Prod.mk.injEq] at H
              obtain ⟨rfl, rfl, rfl, rfl, rfl⟩ := H
              try go_wp2
              have n0_ := zM (zD BK338.out)
              have n1_ := zM (zD BK339.out)
              have n2_ := zM (zD BK347.out)
              have n3_ := zM (zD BK353.out)
              have n4_ := zM (zD BK360.out)
              have n5_ := zM (yD HB.out)
              clear BK338
              clear BK339
              clear BK347
              clear BK353
              clear BK360
              clear HB
              have BK338 := n0_
              have BK339 := n1_
              have BK347 := n2_
              have BK353 := n3_
              have BK360 := n4_
              have HB := n5_
              clear n0_ n1_ n2_ n3_ n4_ n5_
              refine start_ (n := 6) (S := fun w' => w'.cell? ⟨gb353, 0, none⟩ = some (.int .u64 t351) ∧ w'.cell? ⟨gb353, 1, none⟩ = some (.int .u64 t352) ∧ w'.cell? ⟨gb347, 0, none⟩ = some (.int .i64 t340) ∧ w'.cell? ⟨gb347, 1, none⟩ = some (.int .i64 t341) ∧ w'.cell? ⟨gb347, 2, none⟩ = some (.int .i64 t342) ∧ w'.cell? ⟨gb347, 3, none⟩ = some (.int .i64 t343) ∧ w'.cell? ⟨gb347, 4, none⟩ = some (.int .i64 t344) ∧ w'.cell? ⟨gb347, 5, none⟩ = some (.bool t345)) (ds := []) #[false, false, false, false, false, false] (by kernel_rfl) rfl rfl ⟨(blk_cell BK353.out 0).trans rfl, (blk_cell BK353.out 1).trans rfl, (blk_cell BK347.out 0).trans rfl, (blk_cell BK347.out 1).trans rfl, (blk_cell BK347.out 2).trans rfl, (blk_cell BK347.out 3).trans rfl, (blk_cell BK347.out 4).trans rfl, (blk_cell BK347.out 5).trans rfl⟩ (fun hHeld => ?_)
              generalize wc.drew = w152 at BK338 BK339 BK347 BK353 BK360 HB hHeld ⊢
              refine pure_ (i := 0) (N := some 112) (v := ?_) (a' := ?_) #[true, false, false, false, false, false] rfl rfl (by kernel_rfl) (fun _ _ _ h => h) (Or.inl ⟨by rfl, ?_⟩) ?_ ?_
              rotate_left
              ·intro w'
               go_simp
               with_reducible rfl
              rotate_left
              ·simp only [Act.put, xT, xZ, xS, i64_w, i32_w]
               rfl
              refine take_ (i := 1) (N := some 113) (v := ?_) (a' := ?_) #[true, true, false, false, false, false] rfl rfl (by kernel_rfl) (fun _ _ _ h => h) (Or.inl ⟨by rfl, ?_⟩) hHeld ?_ ?_
              rotate_left
              ·rintro w' ⟨s0, s1, s2, s3, s4, s5, s6, s7⟩
               go_simp
               with_reducible rfl
              rotate_left
              ·simp only [Act.put, xT, xZ, xS, i64_w, i32_w]
               rfl
              refine take_ (i := 2) (N := some 114) (v := ?_) (a' := ?_) #[true, true, true, false, false, false] rfl rfl (by kernel_rfl) (fun _ _ _ h => h) (Or.inl ⟨by rfl, ?_⟩) hHeld ?_ ?_
              rotate_left
              ·rintro w' ⟨s0, s1, s2, s3, s4, s5, s6, s7⟩
               go_simp
               with_reducible rfl
              rotate_left
              ·simp only [Act.put, xT, xZ, xS, i64_w, i32_w]
               rfl
              refine one_ (i := 3) (N := some 115) #[true, true, true, true, false, false] rfl rfl (by kernel_rfl) (by decide) (fun K hK => ?_)
              refine goes_ Tryd.func70 (by kernel_rfl) rfl #[.agg #[.int .i64 t340, .int .i64 t341, .int .i64 t342, .int .i64 t343, .int .i64 t344, .bool t345]] (by rfl) rfl rfl (by first | rfl | (simp only [List.map_toArray, List.map_cons, List.map_nil, List.length_drop, List.length_take]; rfl)) ?_
              with_reducible refine (impl_layout_qMin.calls t340 t341 t342 t343 t344 t345 t367 _ A151.out).mono ?_
              rintro e w153 ⟨rfl, hb⟩
              refine ⟨_, rfl, ?_⟩
              have n0_ := zM (blk_below BK338.out hb)
              have n1_ := zM (blk_below BK339.out hb)
              have n2_ := zM (blk_below BK347.out hb)
              have n3_ := zM (blk_below BK353.out hb)
              have n4_ := zM (blk_below BK360.out hb)
              have n5_ := zM (below_step HB.out hb)
              clear BK338
              clear BK339
              clear BK347
              clear BK353
              clear BK360
              clear HB
              have BK338 := n0_
              have BK339 := n1_
              have BK347 := n2_
              have BK353 := n3_
              have BK360 := n4_
              have HB := n5_
              clear n0_ n1_ n2_ n3_ n4_ n5_
              try clear hb; try clear hb2; try clear hk; try clear hi
              refine hK.out _ _ ⟨(blk_cell BK353.out 0).trans rfl, (blk_cell BK353.out 1).trans rfl, (blk_cell BK347.out 0).trans rfl, (blk_cell BK347.out 1).trans rfl, (blk_cell BK347.out 2).trans rfl, (blk_cell BK347.out 3).trans rfl, (blk_cell BK347.out 4).trans rfl, (blk_cell BK347.out 5).trans rfl⟩ (fun hHeld => ?_)
              clear hK K
              refine norm_ (a' := ?_) ?_ ?_
              rotate_left
              ·show Act.put _ (some 115) _ = _
               simp only [Act.put, xT, xZ, xS, i64_w, i32_w]
               rfl
              refine pure_ (i := 4) (N := some 116) (v := ?_) (a' := ?_) #[true, true, true, true, true, false] rfl rfl (by kernel_rfl) (fun _ _ _ h => h) (Or.inl ⟨by rfl, ?_⟩) ?_ ?_
              rotate_left
              ·intro w'
               go_simp
               with_reducible rfl
              rotate_left
              ·simp only [Act.put, xT, xZ, xS, i64_w, i32_w]
               rfl
              refine one_ (i := 5) (N := none) #[true, true, true, true, true, true] rfl rfl (by kernel_rfl) (by decide) (fun K hK => ?_)
              have hs154 : w153.cell? ⟨gb339, 0, none⟩ = some (.int .i64 x340000_32) := (blk_cell BK339.out 0).trans rfl
              have hfs154 := blk_frozen BK339.out 0
              have hns154_0 := NB338_339.out
              have hns154_2 := NB347_339.out
              have hns154_3 := NB353_339.out
              have hns154_4 := NB360_339.out
              have hms154_0 := NB339_338.out
              have hms154_2 := NB339_347.out
              have hms154_3 := NB339_353.out
              have hms154_4 := NB339_360.out
              have hs155 : w153.cell? ⟨gb339, 1, none⟩ = some (.bool x340001_32) := (blk_cell BK339.out 1).trans rfl
              have hfs155 := blk_frozen BK339.out 1
              have hns155_0 := NB338_339.out
              have hns155_2 := NB347_339.out
              have hns155_3 := NB353_339.out
              have hns155_4 := NB360_339.out
              have hms155_0 := NB339_338.out
              have hms155_2 := NB339_347.out
              have hms155_3 := NB339_353.out
              have hms155_4 := NB339_360.out
              have hs156 : w153.cell? ⟨gb339, 2, none⟩ = some (.int .u64 x340002_32) := (blk_cell BK339.out 2).trans rfl
              have hfs156 := blk_frozen BK339.out 2
              have hns156_0 := NB338_339.out
              have hns156_2 := NB347_339.out
              have hns156_3 := NB353_339.out
              have hns156_4 := NB360_339.out
              have hms156_0 := NB339_338.out
              have hms156_2 := NB339_347.out
              have hms156_3 := NB339_353.out
              have hms156_4 := NB339_360.out
              have hs157 : w153.cell? ⟨gb339, 3, none⟩ = some (.int .u64 x340003_32) := (blk_cell BK339.out 3).trans rfl
              have hfs157 := blk_frozen BK339.out 3
              have hns157_0 := NB338_339.out
              have hns157_2 := NB347_339.out
              have hns157_3 := NB353_339.out
              have hns157_4 := NB360_339.out
              have hms157_0 := NB339_338.out
              have hms157_2 := NB339_347.out
              have hms157_3 := NB339_353.out
              have hms157_4 := NB339_360.out
              have hs158 : w153.cell? ⟨gb339, 4, none⟩ = some (.int .i64 x340004_32) := (blk_cell BK339.out 4).trans rfl
              have hfs158 := blk_frozen BK339.out 4
              have hns158_0 := NB338_339.out
              have hns158_2 := NB347_339.out
              have hns158_3 := NB353_339.out
              have hns158_4 := NB360_339.out
              have hms158_0 := NB339_338.out
              have hms158_2 := NB339_347.out
              have hms158_3 := NB339_353.out
              have hms158_4 := NB339_360.out
              refine skip_ (w1 := ?_) (by rfl) rfl ?_ ?_
              rotate_left
              ·go_simp
               rfl
              refine hK.out _ _ ⟨((cell_far (p := ⟨gb339, _, none⟩) NB353_339.out _).trans (((cell_far (p := ⟨gb339, _, none⟩) NB353_339.out _).trans (((cell_far (p := ⟨gb339, _, none⟩) NB353_339.out _).trans (((cell_far (p := ⟨gb339, _, none⟩) NB353_339.out _).trans (((cell_far (p := ⟨gb339, _, none⟩) NB353_339.out _).trans (hHeld.1)))))))))), ((cell_far (p := ⟨gb339, _, none⟩) NB353_339.out _).trans (((cell_far (p := ⟨gb339, _, none⟩) NB353_339.out _).trans (((cell_far (p := ⟨gb339, _, none⟩) NB353_339.out _).trans (((cell_far (p := ⟨gb339, _, none⟩) NB353_339.out _).trans (((cell_far (p := ⟨gb339, _, none⟩) NB353_339.out _).trans (hHeld.2.1)))))))))), ((cell_far (p := ⟨gb339, _, none⟩) NB347_339.out _).trans (((cell_far (p := ⟨gb339, _, none⟩) NB347_339.out _).trans (((cell_far (p := ⟨gb339, _, none⟩) NB347_339.out _).trans (((cell_far (p := ⟨gb339, _, none⟩) NB347_339.out _).trans (((cell_far (p := ⟨gb339, _, none⟩) NB347_339.out _).trans (hHeld.2.2.1)))))))))), ((cell_far (p := ⟨gb339, _, none⟩) NB347_339.out _).trans (((cell_far (p := ⟨gb339, _, none⟩) NB347_339.out _).trans (((cell_far (p := ⟨gb339, _, none⟩) NB347_339.out _).trans (((cell_far (p := ⟨gb339, _, none⟩) NB347_339.out _).trans (((cell_far (p := ⟨gb339, _, none⟩) NB347_339.out _).trans (hHeld.2.2.2.1)))))))))), ((cell_far (p := ⟨gb339, _, none⟩) NB347_339.out _).trans (((cell_far (p := ⟨gb339, _, none⟩) NB347_339.out _).trans (((cell_far (p := ⟨gb339, _, none⟩) NB347_339.out _).trans (((cell_far (p := ⟨gb339, _, none⟩) NB347_339.out _).trans (((cell_far (p := ⟨gb339, _, none⟩) NB347_339.out _).trans (hHeld.2.2.2.2.1)))))))))), ((cell_far (p := ⟨gb339, _, none⟩) NB347_339.out _).trans (((cell_far (p := ⟨gb339, _, none⟩) NB347_339.out _).trans (((cell_far (p := ⟨gb339, _, none⟩) NB347_339.out _).trans (((cell_far (p := ⟨gb339, _, none⟩) NB347_339.out _).trans (((cell_far (p := ⟨gb339, _, none⟩) NB347_339.out _).trans (hHeld.2.2.2.2.2.1)))))))))), ((cell_far (p := ⟨gb339, _, none⟩) NB347_339.out _).trans (((cell_far (p := ⟨gb339, _, none⟩) NB347_339.out _).trans (((cell_far (p := ⟨gb339, _, none⟩) NB347_339.out _).trans (((cell_far (p := ⟨gb339, _, none⟩) NB347_339.out _).trans (((cell_far (p := ⟨gb339, _, none⟩) NB347_339.out _).trans (hHeld.2.2.2.2.2.2.1)))))))))), ((cell_far (p := ⟨gb339, _, none⟩) NB347_339.out _).trans (((cell_far (p := ⟨gb339, _, none⟩) NB347_339.out _).trans (((cell_far (p := ⟨gb339, _, none⟩) NB347_339.out _).trans (((cell_far (p := ⟨gb339, _, none⟩) NB347_339.out _).trans (((cell_far (p := ⟨gb339, _, none⟩) NB347_339.out _).trans (hHeld.2.2.2.2.2.2.2))))))))))⟩ (fun hHeld => ?_)
              clear hK K
              refine done_ (by kernel_rfl) ?_
              try go_wp2
              refine bodyPost_ret (results_cell_row rfl _ _ gb339 27 #[.int .i64 2, .bool (!(t358 == 0) || (!(t359 == 0))), .int .u64 t351, .int .u64 t352, .int .i64 t367] (0, 0) _ rfl (by refine blk_put (cs := #[.int .i64 2, .bool (!(t358 == 0) || (!(t359 == 0))), .int .u64 t351, .int .u64 t352, .int .i64 x340004_32]) ?_ 4 _ rfl; refine blk_put (cs := #[.int .i64 2, .bool (!(t358 == 0) || (!(t359 == 0))), .int .u64 t351, .int .u64 x340003_32, .int .i64 x340004_32]) ?_ 3 _ rfl; refine blk_put (cs := #[.int .i64 2, .bool (!(t358 == 0) || (!(t359 == 0))), .int .u64 x340002_32, .int .u64 x340003_32, .int .i64 x340004_32]) ?_ 2 _ rfl; refine blk_put (cs := #[.int .i64 2, .bool x340001_32, .int .u64 x340002_32, .int .u64 x340003_32, .int .i64 x340004_32]) ?_ 1 _ rfl; refine blk_put (cs := #[.int .i64 x340000_32, .bool x340001_32, .int .u64 x340002_32, .int .u64 x340003_32, .int .i64 x340004_32]) ?_ 0 _ rfl; exact BK339.out) Tryd.underlying27 rfl (by kernel_rfl)) rfl ?_
              exact ⟨by first | rfl | (simp [errW_none, errW_some] <;> rfl) | (simp [*, errW_none, errW_some] <;> rfl), by repeat (first | (with_reducible first | exact HB.out | apply yA | apply yN | apply yD | refine below_set ?_ GE338.out | refine below_set ?_ GE339.out | refine below_set ?_ GE347.out | refine below_set ?_ GE353.out | refine below_set ?_ GE360.out) | exact HB.out)⟩
             ·rw [if_neg c150] at H
              have c150b0 : ((wrap64 (t357)) == 0) = false := beq_eq_false_iff_ne.mpr c150
              have c150b1 : ((wrap64 (t357)) != 0) = true := bne_iff_ne.mpr c150
              replace H := Option.bind_eq_some_iff.mp H
              obtain ⟨⟨t368, t369⟩, A1590, H⟩ := H
              replace H : ((impl_Word_or.f t351 t352 t368 t369).bind fun bt370 => (some (3, (!(t358 == 0) || (!(t359 == 0))), bt370.1, bt370.2, wrap64 ((wrap64 ((wrap64 ((wrap64 (t357)) - t342)) - t340)) + 1)))) = some (r1, r2, r3, r4, r5) := H
              have A159 := zM A1590
              clear A1590
              replace H := Option.bind_eq_some_iff.mp H
              obtain ⟨⟨t370, t371⟩, A1600, H⟩ := H
              replace H : (some (3, (!(t358 == 0) || (!(t359 == 0))), t370, t371, wrap64 ((wrap64 ((wrap64 ((wrap64 (t357)) - t342)) - t340)) + 1))) = some (r1, r2, r3, r4, r5) := H
              have A160 := zM A1600
              clear A1600
              simp only [Option.some.injEq, Prod.mk.injEq] at H
              obtain ⟨rfl, rfl, rfl, rfl, rfl⟩ := H
              try go_wp2
              have n0_ := zM (zD BK338.out)
              have n1_ := zM (zD BK339.out)
              have n2_ := zM (zD BK347.out)
              have n3_ := zM (zD BK353.out)
              have n4_ := zM (zD BK360.out)
              have n5_ := zM (yD HB.out)
              clear BK338
              clear BK339
              clear BK347
              clear BK353
              clear BK360
              clear HB
              have BK338 := n0_
              have BK339 := n1_
              have BK347 := n2_
              have BK353 := n3_
              have BK360 := n4_
              have HB := n5_
              clear n0_ n1_ n2_ n3_ n4_ n5_
              refine start_ (n := 20) (S := fun w' => w'.cell? ⟨gb353, 0, none⟩ = some (.int .u64 t351) ∧ w'.cell? ⟨gb353, 1, none⟩ = some (.int .u64 t352) ∧ w'.cell? ⟨gb347, 0, none⟩ = some (.int .i64 t340) ∧ w'.cell? ⟨gb347, 1, none⟩ = some (.int .i64 t341) ∧ w'.cell? ⟨gb347, 2, none⟩ = some (.int .i64 t342) ∧ w'.cell? ⟨gb347, 3, none⟩ = some (.int .i64 t343) ∧ w'.cell? ⟨gb347, 4, none⟩ = some (.int .i64 t344) ∧ w'.cell? ⟨gb347, 5, none⟩ = some (.bool t345)) (ds := []) #[false, false, false, false, false, false, false, false, false, false, false, false, false, false, false, false, false, false, false, false] (by kernel_rfl) rfl rfl ⟨(blk_cell BK353.out 0).trans rfl, (blk_cell BK353.out 1).trans rfl, (blk_cell BK347.out 0).trans rfl, (blk_cell BK347.out 1).trans rfl, (blk_cell BK347.out 2).trans rfl, (blk_cell BK347.out 3).trans rfl, (blk_cell BK347.out 4).trans rfl, (blk_cell BK347.out 5).trans rfl⟩ (fun hHeld => ?_); refine with_tabW impl_Unpack.tab22 impl_Unpack.bits22 (fun HT_ HW_ => ?_)
              generalize wc.drew = w161 at BK338 BK339 BK347 BK353 BK360 HB hHeld ⊢
              refine pure_ (i := 0) (N := some 117) (v := ?_) (a' := ?_) #[true, false, false, false, false, false, false, false, false, false, false, false, false, false, false, false, false, false, false, false] rfl rfl (any_of HT_.out (by kernel_rfl)) (fun _ _ _ h => h) (Or.inl ⟨by rfl, ?_⟩) ?_ ?_
              rotate_left
              ·intro w'
               go_simp
               with_reducible rfl
              rotate_left
              ·simp only [Act.put, xT, xZ, xS, i64_w, i32_w]
               rfl
              refine pure_ (i := 2) (N := some 119) (v := ?_) (a' := ?_) #[true, false, true, false, false, false, false, false, false, false, false, false, false, false, false, false, false, false, false, false] rfl rfl (any_of HT_.out (by kernel_rfl)) (fun _ _ _ h => h) (Or.inl ⟨by rfl, ?_⟩) ?_ ?_
              rotate_left
              ·intro w'
               go_simp
               with_reducible rfl
              rotate_left
              ·simp only [Act.put, xT, xZ, xS, i64_w, i32_w]
               rfl
              refine pure_ (i := 3) (N := some 120) (v := ?_) (a' := ?_) #[true, false, true, true, false, false, false, false, false, false, false, false, false, false, false, false, false, false, false, false] rfl rfl (any_of HT_.out (by kernel_rfl)) (fun _ _ _ h => h) (Or.inl ⟨by rfl, ?_⟩) ?_ ?_
              rotate_left
              ·intro w'
               go_simp
               with_reducible rfl
              rotate_left
              ·simp only [Act.put, xT, xZ, xS, i64_w, i32_w]
               rfl
              refine pure_ (i := 8) (N := some 125) (v := ?_) (a' := ?_) #[true, false, true, true, false, false, false, false, true, false, false, false, false, false, false, false, false, false, false, false] rfl rfl (any_of HT_.out (by kernel_rfl)) (fun _ _ _ h => h) (Or.inl ⟨by rfl, ?_⟩) ?_ ?_
              rotate_left
              ·intro w'
               go_simp
               with_reducible rfl
              rotate_left
              ·simp only [Act.put, xT, xZ, xS, i64_w, i32_w]
               rfl
              refine pure_ (i := 9) (N := some 126) (v := ?_) (a' := ?_) #[true, false, true, true, false, false, false, false, true, true, false, false, false, false, false, false, false, false, false, false] rfl rfl (any_of HT_.out (by kernel_rfl)) (fun _ _ _ h => h) (Or.inl ⟨by rfl, ?_⟩) ?_ ?_
              rotate_left
              ·intro w'
               go_simp
               with_reducible rfl
              rotate_left
              ·simp only [Act.put, xT, xZ, xS, i64_w, i32_w]
               rfl
              refine pure_ (i := 10) (N := some 127) (v := ?_) (a' := ?_) #[true, false, true, true, false, false, false, false, true, true, true, false, false, false, false, false, false, false, false, false] rfl rfl (any_of HT_.out (by kernel_rfl)) (fun _ _ _ h => h) (Or.inl ⟨by rfl, ?_⟩) ?_ ?_
              rotate_left
              ·intro w'
               go_simp
               with_reducible rfl
              rotate_left
              ·simp only [Act.put, xT, xZ, xS, i64_w, i32_w]
               rfl
              refine pure_ (i := 13) (N := some 130) (v := ?_) (a' := ?_) #[true, false, true, true, false, false, false, false, true, true, true, false, false, true, false, false, false, false, false, false] rfl rfl (any_of HT_.out (by kernel_rfl)) (fun _ _ _ h => h) (Or.inl ⟨by rfl, ?_⟩) ?_ ?_
              rotate_left
              ·intro w'
               go_simp
               with_reducible rfl
              rotate_left
              ·simp only [Act.put, xT, xZ, xS, i64_w, i32_w]
               rfl
              refine pure_ (i := 14) (N := some 131) (v := ?_) (a' := ?_) #[true, false, true, true, false, false, false, false, true, true, true, false, false, true, true, false, false, false, false, false] rfl rfl (any_of HT_.out (by kernel_rfl)) (fun _ _ _ h => h) (Or.inl ⟨by rfl, ?_⟩) ?_ ?_
              rotate_left
              ·intro w'
               go_simp
               with_reducible rfl
              rotate_left
              ·simp only [Act.put, xT, xZ, xS, i64_w, i32_w]
               rfl
              refine take_ (i := 1) (N := some 118) (v := ?_) (a' := ?_) #[true, true, true, true, false, false, false, false, true, true, true, false, false, true, true, false, false, false, false, false] rfl rfl (take_ofW HT_.out HW_.out (by kernel_rfl)) (fun _ _ _ h => h) (Or.inl ⟨by rfl, ?_⟩) hHeld ?_ ?_
              rotate_left
              ·rintro w' ⟨s0, s1, s2, s3, s4, s5, s6, s7⟩
               go_simp
               with_reducible rfl
              rotate_left
              ·simp only [Act.put, xT, xZ, xS, i64_w, i32_w]
               rfl
              refine take_ (i := 4) (N := some 121) (v := ?_) (a' := ?_) #[true, true, true, true, true, false, false, false, true, true, true, false, false, true, true, false, false, false, false, false] rfl rfl (take_ofW HT_.out HW_.out (by kernel_rfl)) (fun _ _ _ h => h) (Or.inl ⟨by rfl, ?_⟩) hHeld ?_ ?_
              rotate_left
              ·rintro w' ⟨s0, s1, s2, s3, s4, s5, s6, s7⟩
               go_simp
               with_reducible rfl
              rotate_left
              ·simp only [Act.put, xT, xZ, xS, i64_w, i32_w]
               rfl
              refine pure_ (i := 5) (N := some 122) (v := ?_) (a' := ?_) #[true, true, true, true, true, true, false, false, true, true, true, false, false, true, true, false, false, false, false, false] rfl rfl (any_of HT_.out (by kernel_rfl)) (fun _ _ _ h => h) (Or.inl ⟨by rfl, ?_⟩) ?_ ?_
              rotate_left
              ·intro w'
               go_simp
               with_reducible rfl
              rotate_left
              ·simp only [Act.put, xT, xZ, xS, i64_w, i32_w]
               rfl
              refine take_ (i := 11) (N := some 128) (v := ?_) (a' := ?_) #[true, true, true, true, true, true, false, false, true, true, true, true, false, true, true, false, false, false, false, false] rfl rfl (take_ofW HT_.out HW_.out (by kernel_rfl)) (fun _ _ _ h => h) (Or.inl ⟨by rfl, ?_⟩) hHeld ?_ ?_
              rotate_left
              ·rintro w' ⟨s0, s1, s2, s3, s4, s5, s6, s7⟩
               go_simp
               with_reducible rfl
              rotate_left
              ·simp only [Act.put, xT, xZ, xS, i64_w, i32_w]
               rfl
              refine pure_ (i := 12) (N := some 129) (v := ?_) (a' := ?_) #[true, true, true, true, true, true, false, false, true, true, true, true, true, true, true, false, false, false, false, false] rfl rfl (any_of HT_.out (by kernel_rfl)) (fun _ _ _ h => h) (Or.inl ⟨by rfl, ?_⟩) ?_ ?_
              rotate_left
              ·intro w'
               go_simp
               with_reducible rfl
              rotate_left
              ·simp only [Act.put, xT, xZ, xS, i64_w, i32_w]
               rfl
              refine take_ (i := 15) (N := some 132) (v := ?_) (a' := ?_) #[true, true, true, true, true, true, false, false, true, true, true, true, true, true, true, true, false, false, false, false] rfl rfl (take_ofW HT_.out HW_.out (by kernel_rfl)) (fun _ _ _ h => h) (Or.inl ⟨by rfl, ?_⟩) hHeld ?_ ?_
              rotate_left
              ·rintro w' ⟨s0, s1, s2, s3, s4, s5, s6, s7⟩
               go_simp
               with_reducible rfl
              rotate_left
              ·simp only [Act.put, xT, xZ, xS, i64_w, i32_w]
               rfl
              refine pure_ (i := 16) (N := some 133) (v := ?_) (a' := ?_) #[true, true, true, true, true, true, false, false, true, true, true, true, true, true, true, true, true, false, false, false] rfl rfl (any_of HT_.out (by kernel_rfl)) (fun _ _ _ h => h) (Or.inl ⟨by rfl, ?_⟩) ?_ ?_
              rotate_left
              ·intro w'
               go_simp
               with_reducible rfl
              rotate_left
              ·simp only [Act.put, xT, xZ, xS, i64_w, i32_w]
               rfl
              refine pure_ (i := 17) (N := some 134) (v := ?_) (a' := ?_) #[true, true, true, true, true, true, false, false, true, true, true, true, true, true, true, true, true, true, false, false] rfl rfl (any_of HT_.out (by kernel_rfl)) (fun _ _ _ h => h) (Or.inl ⟨by rfl, ?_⟩) ?_ ?_
              rotate_left
              ·intro w'
               go_simp
               with_reducible rfl
              rotate_left
              ·simp only [Act.put, xT, xZ, xS, i64_w, i32_w]
               rfl
              refine one_ (i := 6) (N := some 123) #[true, true, true, true, true, true, true, false, true, true, true, true, true, true, true, true, true, true, false, false] rfl rfl (one_of HT_.out (by kernel_rfl)) (by decide) (fun K hK => ?_)
              refine goes_ Tryd.func72 (by kernel_rfl) rfl #[.int .i64 (wrap64 (t340 - 1))] (by rfl) rfl rfl (by first | rfl | (simp only [List.map_toArray, List.map_cons, List.map_nil, List.length_drop, List.length_take]; rfl)) ?_
              with_reducible refine (impl_one.calls (wrap64 (t340 - 1)) t368 t369 _ A159.out).mono ?_
              rintro e w162 ⟨rfl, hb⟩
              refine ⟨_, rfl, ?_⟩
              have n0_ := zM (blk_below BK338.out hb)
              have n1_ := zM (blk_below BK339.out hb)
              have n2_ := zM (blk_below BK347.out hb)
              have n3_ := zM (blk_below BK353.out hb)
              have n4_ := zM (blk_below BK360.out hb)
              have n5_ := zM (below_step HB.out hb)
              clear BK338
              clear BK339
              clear BK347
              clear BK353
              clear BK360
              clear HB
              have BK338 := n0_
              have BK339 := n1_
              have BK347 := n2_
              have BK353 := n3_
              have BK360 := n4_
              have HB := n5_
              clear n0_ n1_ n2_ n3_ n4_ n5_
              try clear hb; try clear hb2; try clear hk; try clear hi
              refine hK.out _ _ ⟨(blk_cell BK353.out 0).trans rfl, (blk_cell BK353.out 1).trans rfl, (blk_cell BK347.out 0).trans rfl, (blk_cell BK347.out 1).trans rfl, (blk_cell BK347.out 2).trans rfl, (blk_cell BK347.out 3).trans rfl, (blk_cell BK347.out 4).trans rfl, (blk_cell BK347.out 5).trans rfl⟩ (fun hHeld => ?_)
              clear hK K
              refine norm_ (a' := ?_) ?_ ?_
              rotate_left
              ·show Act.put _ (some 123) _ = _
               simp only [Act.put, xT, xZ, xS, i64_w, i32_w]
               rfl
              refine one_ (i := 7) (N := some 124) #[true, true, true, true, true, true, true, true, true, true, true, true, true, true, true, true, true, true, false, false] rfl rfl (one_of HT_.out (by kernel_rfl)) (by decide) (fun K hK => ?_)
              refine goes_ Tryd.func71 (by kernel_rfl) rfl #[.agg #[.int .u64 t351, .int .u64 t352], .agg #[.int .u64 t368, .int .u64 t369]] (by rfl) rfl rfl (by first | rfl | (simp only [List.map_toArray, List.map_cons, List.map_nil, List.length_drop, List.length_take]; rfl)) ?_
              with_reducible refine (impl_Word_or.calls t351 t352 t368 t369 t370 t371 _ A160.out).mono ?_
              rintro e w163 ⟨rfl, hb⟩
              refine ⟨_, rfl, ?_⟩
              have n0_ := zM (blk_below BK338.out hb)
              have n1_ := zM (blk_below BK339.out hb)
              have n2_ := zM (blk_below BK347.out hb)
              have n3_ := zM (blk_below BK353.out hb)
              have n4_ := zM (blk_below BK360.out hb)
              have n5_ := zM (below_step HB.out hb)
              clear BK338
              clear BK339
              clear BK347
              clear BK353
              clear BK360
              clear HB
              have BK338 := n0_
              have BK339 := n1_
              have BK347 := n2_
              have BK353 := n3_
              have BK360 := n4_
              have HB := n5_
              clear n0_ n1_ n2_ n3_ n4_ n5_
              try clear hb; try clear hb2; try clear hk; try clear hi
              refine hK.out _ _ ⟨(blk_cell BK353.out 0).trans rfl, (blk_cell BK353.out 1).trans rfl, (blk_cell BK347.out 0).trans rfl, (blk_cell BK347.out 1).trans rfl, (blk_cell BK347.out 2).trans rfl, (blk_cell BK347.out 3).trans rfl, (blk_cell BK347.out 4).trans rfl, (blk_cell BK347.out 5).trans rfl⟩ (fun hHeld => ?_)
              clear hK K
              refine norm_ (a' := ?_) ?_ ?_
              rotate_left
              ·show Act.put _ (some 124) _ = _
               simp only [Act.put, xT, xZ, xS, i64_w, i32_w]
               rfl
              refine pure_ (i := 18) (N := some 135) (v := ?_) (a' := ?_) #[true, true, true, true, true, true, true, true, true, true, true, true, true, true, true, true, true, true, true, false] rfl rfl (any_of HT_.out (by kernel_rfl)) (fun _ _ _ h => h) (Or.inl ⟨by rfl, ?_⟩) ?_ ?_
              rotate_left
              ·intro w'
               go_simp
               with_reducible rfl
              rotate_left
              ·simp only [Act.put, xT, xZ, xS, i64_w, i32_w]
               rfl
              refine one_ (i := 19) (N := none) #[true, true, true, true, true, true, true, true, true, true, true, true, true, true, true, true, true, true, true, true] rfl rfl (one_of HT_.out (by kernel_rfl)) (by decide) (fun K hK => ?_)
              have hs164 : w163.cell? ⟨gb339, 0, none⟩ = some (.int .i64 x340000_32) := (blk_cell BK339.out 0).trans rfl
              have hfs164 := blk_frozen BK339.out 0
              have hns164_0 := NB338_339.out
              have hns164_2 := NB347_339.out
              have hns164_3 := NB353_339.out
              have hns164_4 := NB360_339.out
              have hms164_0 := NB339_338.out
              have hms164_2 := NB339_347.out
              have hms164_3 := NB339_353.out
              have hms164_4 := NB339_360.out
              have hs165 : w163.cell? ⟨gb339, 1, none⟩ = some (.bool x340001_32) := (blk_cell BK339.out 1).trans rfl
              have hfs165 := blk_frozen BK339.out 1
              have hns165_0 := NB338_339.out
              have hns165_2 := NB347_339.out
              have hns165_3 := NB353_339.out
              have hns165_4 := NB360_339.out
              have hms165_0 := NB339_338.out
              have hms165_2 := NB339_347.out
              have hms165_3 := NB339_353.out
              have hms165_4 := NB339_360.out
              have hs166 : w163.cell? ⟨gb339, 2, none⟩ = some (.int .u64 x340002_32) := (blk_cell BK339.out 2).trans rfl
              have hfs166 := blk_frozen BK339.out 2
              have hns166_0 := NB338_339.out
              have hns166_2 := NB347_339.out
              have hns166_3 := NB353_339.out
              have hns166_4 := NB360_339.out
              have hms166_0 := NB339_338.out
              have hms166_2 := NB339_347.out
              have hms166_3 := NB339_353.out
              have hms166_4 := NB339_360.out
              have hs167 : w163.cell? ⟨gb339, 3, none⟩ = some (.int .u64 x340003_32) := (blk_cell BK339.out 3).trans rfl
              have hfs167 := blk_frozen BK339.out 3
              have hns167_0 := NB338_339.out
              have hns167_2 := NB347_339.out
              have hns167_3 := NB353_339.out
              have hns167_4 := NB360_339.out
              have hms167_0 := NB339_338.out
              have hms167_2 := NB339_347.out
              have hms167_3 := NB339_353.out
              have hms167_4 := NB339_360.out
              have hs168 : w163.cell? ⟨gb339, 4, none⟩ = some (.int .i64 x340004_32) := (blk_cell BK339.out 4).trans rfl
              have hfs168 := blk_frozen BK339.out 4
              have hns168_0 := NB338_339.out
              have hns168_2 := NB347_339.out
              have hns168_3 := NB353_339.out
              have hns168_4 := NB360_339.out
              have hms168_0 := NB339_338.out
              have hms168_2 := NB339_347.out
              have hms168_3 := NB339_353.out
              have hms168_4 := NB339_360.out
              refine skip_ (w1 := ?_) (by rfl) rfl ?_ ?_
              rotate_left
              ·go_simp
               rfl
              refine hK.out _ _ ⟨((cell_far (p := ⟨gb339, _, none⟩) NB353_339.out _).trans (((cell_far (p := ⟨gb339, _, none⟩) NB353_339.out _).trans (((cell_far (p := ⟨gb339, _, none⟩) NB353_339.out _).trans (((cell_far (p := ⟨gb339, _, none⟩) NB353_339.out _).trans (((cell_far (p := ⟨gb339, _, none⟩) NB353_339.out _).trans (hHeld.1)))))))))), ((cell_far (p := ⟨gb339, _, none⟩) NB353_339.out _).trans (((cell_far (p := ⟨gb339, _, none⟩) NB353_339.out _).trans (((cell_far (p := ⟨gb339, _, none⟩) NB353_339.out _).trans (((cell_far (p := ⟨gb339, _, none⟩) NB353_339.out _).trans (((cell_far (p := ⟨gb339, _, none⟩) NB353_339.out _).trans (hHeld.2.1)))))))))), ((cell_far (p := ⟨gb339, _, none⟩) NB347_339.out _).trans (((cell_far (p := ⟨gb339, _, none⟩) NB347_339.out _).trans (((cell_far (p := ⟨gb339, _, none⟩) NB347_339.out _).trans (((cell_far (p := ⟨gb339, _, none⟩) NB347_339.out _).trans (((cell_far (p := ⟨gb339, _, none⟩) NB347_339.out _).trans (hHeld.2.2.1)))))))))), ((cell_far (p := ⟨gb339, _, none⟩) NB347_339.out _).trans (((cell_far (p := ⟨gb339, _, none⟩) NB347_339.out _).trans (((cell_far (p := ⟨gb339, _, none⟩) NB347_339.out _).trans (((cell_far (p := ⟨gb339, _, none⟩) NB347_339.out _).trans (((cell_far (p := ⟨gb339, _, none⟩) NB347_339.out _).trans (hHeld.2.2.2.1)))))))))), ((cell_far (p := ⟨gb339, _, none⟩) NB347_339.out _).trans (((cell_far (p := ⟨gb339, _, none⟩) NB347_339.out _).trans (((cell_far (p := ⟨gb339, _, none⟩) NB347_339.out _).trans (((cell_far (p := ⟨gb339, _, none⟩) NB347_339.out _).trans (((cell_far (p := ⟨gb339, _, none⟩) NB347_339.out _).trans (hHeld.2.2.2.2.1)))))))))), ((cell_far (p := ⟨gb339, _, none⟩) NB347_339.out _).trans (((cell_far (p := ⟨gb339, _, none⟩) NB347_339.out _).trans (((cell_far (p := ⟨gb339, _, none⟩) NB347_339.out _).trans (((cell_far (p := ⟨gb339, _, none⟩) NB347_339.out _).trans (((cell_far (p := ⟨gb339, _, none⟩) NB347_339.out _).trans (hHeld.2.2.2.2.2.1)))))))))), ((cell_far (p := ⟨gb339, _, none⟩) NB347_339.out _).trans (((cell_far (p := ⟨gb339, _, none⟩) NB347_339.out _).trans (((cell_far (p := ⟨gb339, _, none⟩) NB347_339.out _).trans (((cell_far (p := ⟨gb339, _, none⟩) NB347_339.out _).trans (((cell_far (p := ⟨gb339, _, none⟩) NB347_339.out _).trans (hHeld.2.2.2.2.2.2.1)))))))))), ((cell_far (p := ⟨gb339, _, none⟩) NB347_339.out _).trans (((cell_far (p := ⟨gb339, _, none⟩) NB347_339.out _).trans (((cell_far (p := ⟨gb339, _, none⟩) NB347_339.out _).trans (((cell_far (p := ⟨gb339, _, none⟩) NB347_339.out _).trans (((cell_far (p := ⟨gb339, _, none⟩) NB347_339.out _).trans (hHeld.2.2.2.2.2.2.2))))))))))⟩ (fun hHeld => ?_)
              clear hK K
              refine done_ (done_of HT_.out (by kernel_rfl)) ?_
              try go_wp2
              refine bodyPost_ret (results_cell_row rfl _ _ gb339 27 #[.int .i64 3, .bool (!(t358 == 0) || (!(t359 == 0))), .int .u64 t370, .int .u64 t371, .int .i64 (wrap64 ((wrap64 ((wrap64 ((wrap64 (t357)) - t342)) - t340)) + 1))] (0, 0) _ rfl (by refine blk_put (cs := #[.int .i64 3, .bool (!(t358 == 0) || (!(t359 == 0))), .int .u64 t370, .int .u64 t371, .int .i64 x340004_32]) ?_ 4 _ rfl; refine blk_put (cs := #[.int .i64 3, .bool (!(t358 == 0) || (!(t359 == 0))), .int .u64 t370, .int .u64 x340003_32, .int .i64 x340004_32]) ?_ 3 _ rfl; refine blk_put (cs := #[.int .i64 3, .bool (!(t358 == 0) || (!(t359 == 0))), .int .u64 x340002_32, .int .u64 x340003_32, .int .i64 x340004_32]) ?_ 2 _ rfl; refine blk_put (cs := #[.int .i64 3, .bool x340001_32, .int .u64 x340002_32, .int .u64 x340003_32, .int .i64 x340004_32]) ?_ 1 _ rfl; refine blk_put (cs := #[.int .i64 x340000_32, .bool x340001_32, .int .u64 x340002_32, .int .u64 x340003_32, .int .i64 x340004_32]) ?_ 0 _ rfl; exact BK339.out) Tryd.underlying27 rfl (by kernel_rfl)) rfl ?_
              exact ⟨by first | rfl | (simp [errW_none, errW_some] <;> rfl) | (simp [*, errW_none, errW_some] <;> rfl), by repeat (first | (with_reducible first | exact HB.out | apply yA | apply yN | apply yD | refine below_set ?_ GE338.out | refine below_set ?_ GE339.out | refine below_set ?_ GE347.out | refine below_set ?_ GE353.out | refine below_set ?_ GE360.out) | exact HB.out)⟩
end Go.Proofs.YtdbnmdchecacdaaDoor.PB
end
section
namespace Go.Proofs.YtdbnmdchecacdaaDoor.M
open Go.RowKit Go.Proofs.YtdbnmdchecacdaaDoor.G Go.Proofs.YtdbnmdchecacdaaDoorV.PrintWords Go.Proofs.YtdbnmdchecacdaaDoorV.PrintLast Go.Proofs.YtdbnmdchecacdaaDoorV.PrintMore Go.Proofs.YtdbnmdchecacdaaDoor.PB
set_option linter.unusedVariables false
set_option linter.unusedSimpArgs false
theorem word_ne (x : Nat) : (!(hiI x == 0) || (!(loI x == 0))) = decide (x ≠ 0) := by
  unfold hiI loI
  by_cases h : x = 0
  · subst h; rfl
  · rw [decide_eq_true h]
    by_cases h1 : x / 18446744073709551616 = 0
    · have h2 : x % 18446744073709551616 ≠ 0 := by omega
      have : (((x % 18446744073709551616 : Nat) : Int) == 0) = false := by rw [beq_eq_false_iff_ne]; omega
      rw [this]; simp
    · have : (((x / 18446744073709551616 : Nat) : Int) == 0) = false := by rw [beq_eq_false_iff_ne]; omega
      rw [this]; rfl
theorem word_eq0 (x : Nat) : (hiI x == 0 && (loI x == 0)) = decide (x = 0) := by
  have h := word_ne x
  have h2 : (hiI x == 0 && (loI x == 0)) = !(!(hiI x == 0) || (!(loI x == 0))) := by cases (hiI x == 0) <;> cases (loI x == 0) <;> rfl
  rw [h2, h]
  by_cases h0 : x = 0
  · rw [decide_eq_true h0, decide_eq_false (by simpa using h0)]; rfl
  · rw [decide_eq_false h0, decide_eq_true h0]; rfl
section
variable {P : Nat} {emin emax : Int} {W E : Nat} {ex : Bool}
theorem top_eq (h : Fmt P emin emax W E ex) : impl_layout_top.f (P : Int) emin emax (W : Int) (E : Int) ex = some ((2 ^ E - 1 : Nat) : Int) := by
  have hE := h.plt
  have he1 := h.e1
  have hp : 0 < 2 ^ E := Nat.pow_pos (by decide)
  unfold impl_layout_top.f
  have hs : shl .i64 1 (E : Int) = ((2 ^ E : Nat) : Int) := by
    unfold shl
    rw [Int.toNat_natCast, show IntKind.i64.bits = 64 from rfl, Nat.min_eq_left (by omega), show ((1 : Int) * 2 ^ E) = ((2 ^ E : Nat) : Int) by simp]
    have : IntKind.i64.wrap ((2 ^ E : Nat) : Int) = wrap64 ((2 ^ E : Nat) : Int) := (i64_w _)
    rw [this]
    exact wsm _ (by omega)
  rw [if_pos (Int.natCast_nonneg _), hs, wsm _ (by omega)]
  congr 1
  omega
theorem frac_eq (h : Fmt P emin emax W E ex) : impl_layout_fracBits.f (P : Int) emin emax (W : Int) (E : Int) ex = some (fracN P ex : Int) := by
  have hp0 := h.p0
  have hp1 := h.p1
  unfold impl_layout_fracBits.f fracN
  cases ex with
  | true => rfl
  | false =>
    rw [if_neg (by decide), if_neg (by decide), wsm _ (by omega)]
    congr 1
    omega
theorem qmin_eq (h : Fmt P emin emax W E ex) : impl_layout_qMin.f (P : Int) emin emax (W : Int) (E : Int) ex = some (emin - P + 1) := by
  have hp1 := h.p1
  have m0 := h.m0
  unfold impl_layout_qMin.f
  rw [wsm (emin - (P : Int)) (by omega), wsm _ (by omega)]
theorem small2 (q : Nat) (h : q < 2) : q ≠ 0 ↔ q % 2 = 1 := by omega
theorem dne_f {p q : Prop} [Decidable p] [Decidable q] (h : p ↔ q) : (decide p != decide q) = false := by by_cases hp : p <;> by_cases hq : q <;> simp_all
theorem dne_t {p q : Prop} [Decidable p] [Decidable q] (h : ¬ (p ↔ q)) : (decide p != decide q) = true := by by_cases hp : p <;> by_cases hq : q <;> simp_all
theorem im_j1 (h : Fmt P emin emax W E ex) (e : Nat) (he : e < 2 ^ E) (neg : Bool) (rest : Nat) (hr : rest < 2 ^ (P - 1)) (b : Bool) (hb : e = 0 → b = false) (hb2 : ex = false → b = false) :
    Ev (fun k => impl_Unpack.j1 k (e : Int) neg (P : Int) emin emax (W : Int) (E : Int) ex (hiI (if b = true then rest + 2 ^ (P - 1) else rest)) (loI (if b = true then rest + 2 ^ (P - 1) else rest)) (hiI rest) (loI rest)) (partsOf P emin emax E e neg rest) := by
  have hp0 := h.p0
  have hp1 := h.p1
  have hE := h.plt
  have m1 := h.m1
  have ht := top_eq h
  have hq := qmin_eq h
  have hz := word_eq0 rest
  have hfz : e = 0 → (if b = true then rest + 2 ^ (P - 1) else rest) = rest := fun h0 => by rw [hb h0]; rfl
  have hor := or_eq rest (P - 1) (by omega) hr b
  obtain ⟨fr, hfr⟩ : ∃ fr, fr = (if b = true then rest + 2 ^ (P - 1) else rest) := ⟨_, rfl⟩
  rw [← hfr] at hor hfz ⊢
  have hone := one_eq (P - 1) (by omega)
  have wp : wrap64 ((P : Int) - 1) = ((P - 1 : Nat) : Int) := by rw [wsm _ (by omega)]; omega
  have wq : wrap64 (wrap64 (wrap64 ((e : Int) - emax) - (P : Int)) + 1) = (e : Int) - emax - (P : Int) + 1 := by
    clear wp
    rw [wsm ((e : Int) - emax) (by omega), wsm ((e : Int) - emax - (P : Int)) (by omega), wsm _ (by omega)]
  have j3 : e ≠ 2 ^ E - 1 → ∀ z : Bool, z = decide (e = 0 ∧ rest = 0) → Ev (fun k => impl_Unpack.j3 k (e : Int) neg z (P : Int) emin emax (W : Int) (E : Int) ex (hiI fr) (loI fr)) (partsOf P emin emax E e neg rest) := by
    intro hne z hzz
    unfold partsOf
    rw [if_neg hne]
    by_cases h0 : e = 0
    · have c0 : (e : Int) = 0 := by clear wp wq; omega
      rw [if_pos h0]
      by_cases h1 : rest = 0
      · rw [if_pos h1]
        refine Ev.step (f := fun _ => some (1, neg, 0, 0, 0)) (fun k => ?_) (Ev.now _)
        simp only [impl_Unpack.j3]
        rw [hzz, decide_eq_true ⟨h0, h1⟩, if_pos rfl]
      · rw [if_neg h1]
        refine Ev.step (f := fun _ => some (2, neg, hiI rest, loI rest, emin - P + 1)) (fun k => ?_) (Ev.now _)
        simp only [impl_Unpack.j3]
        rw [hzz, decide_eq_false (fun a => h1 a.2), if_neg (by decide), if_pos c0, hq, Option.bind_some, hfz h0]
    · have c0 : ¬ (e : Int) = 0 := by clear wp wq; omega
      rw [if_neg h0]
      refine Ev.step (f := fun _ => some (3, neg, hiI (rest + 2 ^ (P - 1)), loI (rest + 2 ^ (P - 1)), (e : Int) - emax - P + 1)) (fun k => ?_) (Ev.now _)
      simp only [impl_Unpack.j3]
      rw [hzz, decide_eq_false (fun a => h0 a.1), if_neg (by decide), if_neg c0, wp, hone, Option.bind_some]
      dsimp only
      rw [hor, Option.bind_some, wq]
  by_cases hte : e = 2 ^ E - 1
  · have c1 : (e : Int) = ((2 ^ E - 1 : Nat) : Int) := by rw [hte]
    unfold partsOf
    rw [if_pos hte]
    by_cases h1 : rest = 0
    · rw [if_pos h1]
      refine Ev.step (f := fun k => impl_Unpack.j2 k (e : Int) neg true (P : Int) emin emax (W : Int) (E : Int) ex (hiI fr) (loI fr)) (fun k => ?_) (Ev.step (f := fun _ => some (4, neg, 0, 0, 0)) (fun k => ?_) (Ev.now _))
      · simp only [impl_Unpack.j1]
        rw [ht, Option.bind_some, if_pos c1, hz, decide_eq_true h1]
      · simp only [impl_Unpack.j2]
        rw [if_pos trivial]
    · rw [if_neg h1]
      refine Ev.step (f := fun k => impl_Unpack.j2 k (e : Int) neg false (P : Int) emin emax (W : Int) (E : Int) ex (hiI fr) (loI fr)) (fun k => ?_) (Ev.step (f := fun _ => some (5, false, 0, 0, 0)) (fun k => ?_) (Ev.now _))
      · simp only [impl_Unpack.j1]
        rw [ht, Option.bind_some, if_pos c1, hz, decide_eq_false h1]
      · simp only [impl_Unpack.j2]
        rw [if_neg (by decide), ht, Option.bind_some, if_pos c1]
  · have c1 : ¬ (e : Int) = ((2 ^ E - 1 : Nat) : Int) := by clear wp wq; omega
    refine Ev.step (f := fun k => impl_Unpack.j2 k (e : Int) neg false (P : Int) emin emax (W : Int) (E : Int) ex (hiI fr) (loI fr)) (fun k => ?_) (Ev.step (f := fun k => impl_Unpack.j3 k (e : Int) neg (decide (e = 0 ∧ rest = 0)) (P : Int) emin emax (W : Int) (E : Int) ex (hiI fr) (loI fr)) (fun k => ?_) (j3 hte _ rfl))
    · simp only [impl_Unpack.j1]
      rw [ht, Option.bind_some, if_neg c1]
    · simp only [impl_Unpack.j2]
      rw [if_neg (by decide), ht, Option.bind_some, if_neg c1]
      by_cases h0 : e = 0
      · have c0 : (e : Int) = 0 := by clear wp wq; omega
        rw [if_pos c0, hfz h0, hz]
        congr 1
        rw [decide_eq_decide]
        exact ⟨fun a => ⟨h0, a⟩, fun a => a.2⟩
      · have c0 : ¬ (e : Int) = 0 := by clear wp wq; omega
        rw [if_neg c0, decide_eq_false (fun a => h0 a.1)]
theorem frac_split (x p : Nat) (hx : x < 2 ^ (p + 1)) : x = (if decide (2 ^ p ≤ x) = true then x % 2 ^ p + 2 ^ p else x % 2 ^ p) := by
  have hp : 0 < 2 ^ p := Nat.pow_pos (by decide)
  rw [Nat.pow_succ] at hx
  by_cases h : 2 ^ p ≤ x
  · rw [decide_eq_true h, if_pos rfl, Nat.mod_eq_sub_mod h, Nat.mod_eq_of_lt (by omega)]
    omega
  · rw [decide_eq_false h, if_neg (by decide), Nat.mod_eq_of_lt (by omega)]
theorem unpI_ev (h : Fmt P emin emax W E ex) (f : Int) (hf : impl_layoutOf.f f = some ((P : Int), emin, emax, (W : Int), (E : Int), ex, true)) (w : Nat) (hw : w < B128) : Ev (fun k => impl_Unpack.f k f (hiI w) (loI w)) (unpN P emin emax W E ex w) := by
  have hp0 := h.p0
  have hp1 := h.p1
  have hw1 := h.w1
  have hw2 := h.w2
  have he0 := h.e0
  have he1 := h.e1
  have hE := h.plt
  have hfn : fracN P ex = if ex = true then P else P - 1 := rfl
  have hfr : fracN P ex ≤ 113 := by rw [hfn]; split <;> omega
  -- behind the first check
  have core : w < 2 ^ W → Ev (fun k => impl_Unpack.j0 k false (hiI w) (loI w) (P : Int) emin emax (W : Int) (E : Int) ex) (unpN P emin emax W E ex w) := by
    intro hlt
    have l1 := low_eq w (fracN P ex) hw (by omega)
    have r1 := right_eq w (fracN P ex) hw (by omega)
    have hq : w / 2 ^ fracN P ex < B128 := Nat.lt_of_le_of_lt (Nat.div_le_self _ _) hw
    have l2 := low_eq (w / 2 ^ fracN P ex) E hq (by omega)
    have r2 := right_eq w (W - 1) hw (by omega)
    have hne := word_ne (w / 2 ^ (W - 1))
    have helt : w / 2 ^ fracN P ex % 2 ^ E < 2 ^ E := Nat.mod_lt _ (Nat.pow_pos (by decide))
    have hneg : decide (w / 2 ^ (W - 1) ≠ 0) = decide (w / 2 ^ (W - 1) % 2 = 1) := by
      have h2 : w / 2 ^ (W - 1) < 2 := by
        rw [Nat.div_lt_iff_lt_mul (Nat.pow_pos (by decide)), Nat.mul_comm, ← Nat.pow_succ, show (W - 1).succ = W by omega]
        exact hlt
      rw [decide_eq_decide]
      exact small2 _ h2
    rw [hneg] at hne
    have hflt : w % 2 ^ fracN P ex < 2 ^ fracN P ex := Nat.mod_lt _ (Nat.pow_pos (by decide))
    have wW : wrap64 ((W : Int) - 1) = ((W - 1 : Nat) : Int) := by rw [wsm _ (by omega)]; omega
    have wP : wrap64 ((P : Int) - 1) = ((P - 1 : Nat) : Int) := by rw [wsm _ (by clear wW; omega)]; clear wW; omega
    have heI : loI (w / 2 ^ fracN P ex % 2 ^ E) = ((w / 2 ^ fracN P ex % 2 ^ E : Nat) : Int) := by
      clear wW wP
      unfold loI
      rw [Nat.mod_eq_of_lt (show w / 2 ^ fracN P ex % 2 ^ E < 18446744073709551616 by omega)]
    have wE : wrap64 ((w / 2 ^ fracN P ex % 2 ^ E : Nat) : Int) = ((w / 2 ^ fracN P ex % 2 ^ E : Nat) : Int) := wsm _ (by clear wW wP; omega)
    have hfE := frac_eq h
    have hj : ∀ R : Prt, (if ex = true then (if (2 ^ (P - 1) ≤ w % 2 ^ fracN P ex ↔ w / 2 ^ fracN P ex % 2 ^ E ≠ 0) then Ev (fun k => impl_Unpack.j1 k ((w / 2 ^ fracN P ex % 2 ^ E : Nat) : Int) (decide (w / 2 ^ (W - 1) % 2 = 1)) (P : Int) emin emax (W : Int) (E : Int) ex (hiI (w % 2 ^ fracN P ex)) (loI (w % 2 ^ fracN P ex)) (hiI (w % 2 ^ fracN P ex % 2 ^ (P - 1))) (loI (w % 2 ^ fracN P ex % 2 ^ (P - 1)))) R else R = badP) else Ev (fun k => impl_Unpack.j1 k ((w / 2 ^ fracN P ex % 2 ^ E : Nat) : Int) (decide (w / 2 ^ (W - 1) % 2 = 1)) (P : Int) emin emax (W : Int) (E : Int) ex (hiI (w % 2 ^ fracN P ex)) (loI (w % 2 ^ fracN P ex)) (hiI (w % 2 ^ fracN P ex)) (loI (w % 2 ^ fracN P ex))) R) →
        Ev (fun k => impl_Unpack.j0 k false (hiI w) (loI w) (P : Int) emin emax (W : Int) (E : Int) ex) R := by
      intro R hR
      have hfB : w % 2 ^ fracN P ex < B128 := Nat.lt_of_le_of_lt (Nat.mod_le _ _) hw
      cases ex with
      | false =>
        rw [if_neg (by decide)] at hR
        refine Ev.step (fun k => ?_) hR
        simp only [impl_Unpack.j0]
        rw [if_neg (by decide), hfE, Option.bind_some, l1, Option.bind_some, r1, Option.bind_some]
        dsimp only
        rw [l2, Option.bind_some, wW, r2, Option.bind_some]
        dsimp only
        rw [if_neg (by decide), heI, wE, hne]
      | true =>
        rw [if_pos rfl] at hR
        have r3 := right_eq (w % 2 ^ fracN P true) (P - 1) hfB (by clear wW wP wE; omega)
        have l3 := low_eq (w % 2 ^ fracN P true) (P - 1) hfB (by clear wW wP wE; omega)
        have hn3 := word_ne (w % 2 ^ fracN P true / 2 ^ (P - 1))
        have hbit : decide (w % 2 ^ fracN P true / 2 ^ (P - 1) ≠ 0) = decide (2 ^ (P - 1) ≤ w % 2 ^ fracN P true) := by
          rw [decide_eq_decide, Nat.div_ne_zero_iff]
          exact ⟨fun a => a.2, fun a => ⟨Nat.ne_of_gt (Nat.pow_pos (by decide)), a⟩⟩
        rw [hbit] at hn3
        have he0' : (((w / 2 ^ fracN P true % 2 ^ E : Nat) : Int) != 0) = decide (w / 2 ^ fracN P true % 2 ^ E ≠ 0) := by
          clear wW wP wE
          by_cases hz : w / 2 ^ fracN P true % 2 ^ E = 0
          · rw [hz]; rfl
          · rw [decide_eq_true hz, bne_iff_ne]
            omega
        by_cases hc : (2 ^ (P - 1) ≤ w % 2 ^ fracN P true ↔ w / 2 ^ fracN P true % 2 ^ E ≠ 0)
        · rw [if_pos hc] at hR
          have hcd : (decide (2 ^ (P - 1) ≤ w % 2 ^ fracN P true) != decide (w / 2 ^ fracN P true % 2 ^ E ≠ 0)) = false := dne_f hc
          refine Ev.step (fun k => ?_) hR
          simp only [impl_Unpack.j0]
          rw [if_neg (by decide), hfE, Option.bind_some, l1, Option.bind_some, r1, Option.bind_some]
          dsimp only
          rw [l2, Option.bind_some, wW, r2, Option.bind_some]
          dsimp only
          rw [if_pos trivial, wP, r3, Option.bind_some, heI, wE, he0', hn3, hcd, if_neg (by decide), l3, Option.bind_some, hne]
        · rw [if_neg hc] at hR
          have hcd : (decide (2 ^ (P - 1) ≤ w % 2 ^ fracN P true) != decide (w / 2 ^ fracN P true % 2 ^ E ≠ 0)) = true := dne_t hc
          refine Ev.step (f := fun _ => some R) (fun k => ?_) (Ev.now _)
          simp only [impl_Unpack.j0]
          rw [if_neg (by decide), hfE, Option.bind_some, l1, Option.bind_some, r1, Option.bind_some]
          dsimp only
          rw [l2, Option.bind_some, wW, r2, Option.bind_some]
          dsimp only
          rw [if_pos trivial, wP, r3, Option.bind_some, heI, wE, he0', hn3, hcd, if_pos rfl, hR]
          rfl
    apply hj
    unfold unpN
    rw [if_neg (Nat.not_le.2 hlt)]
    clear wW wP wE hj
    cases ex with
    | false =>
      rw [if_neg (by decide), if_neg (by decide)]
      rw [hfn, if_neg (by decide)] at hflt helt ⊢
      have hj1 := im_j1 h (w / 2 ^ (P - 1) % 2 ^ E) helt (decide (w / 2 ^ (W - 1) % 2 = 1)) (w % 2 ^ (P - 1)) hflt false (fun _ => rfl) (fun _ => rfl)
      rw [if_neg (by decide)] at hj1
      exact hj1
    | true =>
      rw [if_pos rfl, if_pos rfl]
      rw [hfn, if_pos rfl] at hflt helt ⊢
      by_cases hc : (2 ^ (P - 1) ≤ w % 2 ^ P ↔ w / 2 ^ P % 2 ^ E ≠ 0)
      · rw [if_pos hc, if_pos hc]
        have hs := frac_split (w % 2 ^ P) (P - 1) (by rw [show P - 1 + 1 = P by omega]; exact hflt)
        have hj1 := im_j1 h (w / 2 ^ P % 2 ^ E) helt (decide (w / 2 ^ (W - 1) % 2 = 1)) (w % 2 ^ P % 2 ^ (P - 1)) (Nat.mod_lt _ (Nat.pow_pos (by decide))) (decide (2 ^ (P - 1) ≤ w % 2 ^ P)) (fun h0 => decide_eq_false (fun a => (hc.1 a) h0)) (fun a => by cases a)
        rw [← hs] at hj1
        exact hj1
      · rw [if_neg hc, if_neg hc]
  unfold impl_Unpack.f
  by_cases h128 : W < 128
  · have c1 : (W : Int) < 128 := by omega
    have r0 := right_eq w W hw (by omega)
    have n0 := word_ne (w / 2 ^ W)
    by_cases hge : 2 ^ W ≤ w
    · have hz : decide (w / 2 ^ W ≠ 0) = true := by
        rw [decide_eq_true_iff, Nat.div_ne_zero_iff]
        exact ⟨Nat.ne_of_gt (Nat.pow_pos (by decide)), hge⟩
      have hu : unpN P emin emax W E ex w = badP := by unfold unpN; rw [if_pos hge]
      rw [hu]
      refine Ev.congr (f := fun k => impl_Unpack.j0 k true (hiI w) (loI w) (P : Int) emin emax (W : Int) (E : Int) ex) (fun k => ?_) (Ev.step (f := fun _ => some badP) (fun k => ?_) (Ev.now _))
      · rw [hf, Option.bind_some]
        dsimp only
        rw [if_pos rfl, if_pos c1, r0, Option.bind_some]
        dsimp only
        rw [n0, hz]
      · simp only [impl_Unpack.j0]
        rw [if_pos trivial]
        rfl
    · have hz : decide (w / 2 ^ W ≠ 0) = false := by
        rw [decide_eq_false_iff_not, Nat.div_ne_zero_iff]
        exact fun a => hge a.2
      refine Ev.congr (fun k => ?_) (core (Nat.lt_of_not_le hge))
      rw [hf, Option.bind_some]
      dsimp only
      rw [if_pos rfl, if_pos c1, r0, Option.bind_some]
      dsimp only
      rw [n0, hz]
  · have c1 : ¬ (W : Int) < 128 := by omega
    have hWe : W = 128 := by omega
    refine Ev.congr (fun k => ?_) (core (by rw [hWe]; exact hw))
    rw [hf, Option.bind_some]
    dsimp only
    rw [if_pos rfl, if_neg c1]
end
end Go.Proofs.YtdbnmdchecacdaaDoor.M
end
section
namespace Go.Proofs.YtdbnmdchecacdaaDoor.M
open Go.RowKit Go.Proofs.YtdbnmdchecacdaaDoor.G Go.Proofs.YtdbnmdchecacdaaDoorV.PrintWords Go.Proofs.YtdbnmdchecacdaaDoorV.PrintLast Go.Proofs.YtdbnmdchecacdaaDoorV.PrintMore Go.Proofs.YtdbnmdchecacdaaDoor.PB
set_option linter.unusedVariables false
set_option linter.unusedSimpArgs false
theorem fmt0 : Fmt 24 (-126) 127 32 8 false := ⟨by decide, by decide, by decide, by decide, by decide, by decide, by decide, by decide⟩
theorem fmt1 : Fmt 53 (-1022) 1023 64 11 false := ⟨by decide, by decide, by decide, by decide, by decide, by decide, by decide, by decide⟩
theorem fmt2 : Fmt 64 (-16382) 16383 80 15 true := ⟨by decide, by decide, by decide, by decide, by decide, by decide, by decide, by decide⟩
theorem fmt3 : Fmt 113 (-16382) 16383 128 15 false := ⟨by decide, by decide, by decide, by decide, by decide, by decide, by decide, by decide⟩
theorem unpack_none (f : Int) (w : Nat) (h0 : f ≠ 0) (h1 : f ≠ 1) (h2 : f ≠ 2) (h3 : f ≠ 3) : Ev (fun k => spec_Unpack.f k f (hiI w) (loI w)) badP ∧ Ev (fun k => impl_Unpack.f k f (hiI w) (loI w)) badP := by
  have hS : spec_Describe.f f = some (0, 0, 0, 0, 0, false) := by
    unfold spec_Describe.f
    rw [if_neg h0, if_neg h1, if_neg h2, if_neg h3]
  have hI : impl_layoutOf.f f = some (0, 0, 0, 0, 0, false, false) := by
    unfold impl_layoutOf.f
    rw [if_neg h0, if_neg h1, if_neg h2, if_neg h3]
  refine ⟨Ev.congr (fun k => ?_) (Ev.now badP), Ev.congr (f := fun k => impl_Unpack.j0 k true (hiI w) (loI w) 0 0 0 0 0 false) (fun k => ?_) (Ev.step (f := fun _ => some badP) (fun k => ?_) (Ev.now _))⟩
  · unfold spec_Unpack.f
    rw [hS, Option.bind_some]
    rfl
  · unfold impl_Unpack.f
    rw [hI, Option.bind_some]
    dsimp only
    rw [if_neg (by decide)]
  · simp only [impl_Unpack.j0]
    rw [if_pos trivial]
    rfl
theorem word_split {hi lo : Int} (h1 : (Lit.int .u64 hi).wf = true) (h2 : (Lit.int .u64 lo).wf = true) : ∃ w : Nat, w < B128 ∧ hi = hiI w ∧ lo = loI w := by
  have a := wf_u64 (l := [hi]) (by simpa using h1) hi (by simp)
  have b := wf_u64 (l := [lo]) (by simpa using h2) lo (by simp)
  unfold B64 at a b
  obtain ⟨x, rfl⟩ : ∃ x : Nat, hi = x := ⟨hi.toNat, by omega⟩
  obtain ⟨y, rfl⟩ : ∃ y : Nat, lo = y := ⟨lo.toNat, by omega⟩
  have h := wordI_of x y (by omega)
  exact ⟨x * 18446744073709551616 + y, by unfold B128; omega, h.1.symm, h.2.symm⟩
end Go.Proofs.YtdbnmdchecacdaaDoor.M
end
section
namespace Go.Proofs.YtdbnmdchecacdaaDoor.M
open Go.RowKit Go.Proofs.YtdbnmdchecacdaaDoor.G Go.Proofs.YtdbnmdchecacdaaDoorV.PrintWords Go.Proofs.YtdbnmdchecacdaaDoorV.PrintLast Go.Proofs.YtdbnmdchecacdaaDoorV.PrintMore Go.Proofs.YtdbnmdchecacdaaDoor.PB
set_option linter.unusedVariables false
set_option linter.unusedSimpArgs false
theorem isub_loop (a b : List Int) (ha : Dig B64 a) (hb : Dig B64 b) (hm : a.length ≤ 1073741824) (d : Nat) : ∀ (i : Nat) (acc : List Int) (c : Int), i + d = a.length → acc.length = i → Dig B64 acc → 0 ≤ c ∧ c ≤ 1 →
    val B64 acc + val B64 (b.take i) = val B64 (a.take i) + B64 ^ i * c.toNat →
    ∃ (r : List Int) (c' : Int), Ev (fun k => impl_nat_sub.l0 k a b (acc ++ List.replicate (a.length - i) 0) c (a.length : Int) (i : Int)) (trimL r) ∧ Dig B64 r ∧ r.length = a.length ∧ 0 ≤ c' ∧ c' ≤ 1 ∧ val B64 r + val B64 (b.take a.length) = val B64 a + B64 ^ a.length * c'.toNat := by
  induction d with
  | zero =>
    intro i acc c hi hac hd hc hv
    refine ⟨acc, c, Ev.step (f := fun _ => some (trimL acc)) (fun k => ?_) (Ev.now _), hd, by omega, hc.1, hc.2, ?_⟩
    · simp only [impl_nat_sub.l0]
      rw [if_neg (by omega), show a.length - i = 0 by omega]
      simp
    · rw [show a.length = i by omega, hv, val_take_all _ a _ (by omega)]
  | succ d ih =>
    intro i acc c hi hac hd hc hv
    have dx := ha.rd B64_pos (i : Int)
    have dy := hb.rd B64_pos (i : Int)
    have hlen : (acc ++ List.replicate (a.length - i) 0).length = a.length := by rw [List.length_append, List.length_replicate]; omega
    obtain ⟨s1, s2, s3, s4, s5⟩ := sub64_spec _ _ _ dx dy hc
    obtain ⟨r, c', hr, h2⟩ := ih (i + 1) (acc ++ [sub64s (rd a (i : Int)) (rd b (i : Int)) c]) (sub64c (rd a (i : Int)) (rd b (i : Int)) c) (by omega) (by simp [hac]) (hd.snoc ⟨s1, s2⟩) ⟨s3, s4⟩ (by
      rw [val_snoc, hac, val_take_succ, val_take_succ, Nat.pow_succ, Nat.mul_assoc]
      have h3 := congrArg (B64 ^ i * ·) s5
      simp only [Nat.mul_add] at h3
      omega)
    refine ⟨r, c', Ev.step (fun k => ?_) hr, h2⟩
    simp only [impl_nat_sub.l0]
    rw [if_pos (by omega)]
    by_cases h : (i : Int) < (b.length : Int)
    · rw [if_pos h, if_pos (by omega), if_pos (by omega), if_pos (by omega), if_pos (by rw [hlen]; omega), Int.toNat_natCast, fill_set acc _ i _ hac (by omega), wrap64_id (by omega)]
      rfl
    · have h0 : rd b (i : Int) = 0 := rd_of_ge b _ (by omega)
      rw [h0]
      rw [if_neg h, if_pos (by omega), if_pos (by omega), if_pos (by omega), if_pos (by rw [hlen]; omega), Int.toNat_natCast, fill_set acc _ i _ hac (by omega), wrap64_id (by omega)]
      rfl
theorem isub_ev (a b : List Int) (ha : Dig B64 a) (hb : Dig B64 b) (la : a.length ≤ 1073741824) (h : val B64 b ≤ val B64 a) :
    ∃ r, Ev (fun k => impl_nat_sub.f k a b) r ∧ Dig B64 r ∧ Norm r ∧ val B64 r = val B64 a - val B64 b ∧ r.length ≤ a.length := by
  obtain ⟨r, c, hr, h1, h2, h3, h4, h5⟩ := isub_loop a b ha hb la a.length 0 [] 0 (by omega) rfl (Dig.nil _) (by omega) (by simp [val])
  have hva := val_lt ha
  have hvr := val_lt h1
  rw [h2] at hvr
  have hbt : val B64 (b.take a.length) = val B64 b := by
    rcases Nat.lt_or_ge b.length a.length with hl | hl
    · rw [val_take_all _ _ _ (by omega)]
    · have hs := val_split B64 b a.length hl
      have h0 : val B64 (b.drop a.length) = 0 := by
        rcases Nat.eq_zero_or_pos (val B64 (b.drop a.length)) with h6 | h6
        · exact h6
        · have : B64 ^ a.length * 1 ≤ B64 ^ a.length * val B64 (b.drop a.length) := Nat.mul_le_mul_left _ h6
          omega
      rw [h0] at hs
      omega
  rw [hbt] at h5
  have hc : c = 0 := by
    rcases (show c = 0 ∨ c = 1 by omega) with hc | hc
    · exact hc
    · rw [hc] at h5
      simp at h5
      omega
  rw [hc] at h5
  refine ⟨trimL r, Ev.congr (fun k => ?_) hr, h1.trim, norm_trim _, ?_, ?_⟩
  · unfold impl_nat_sub.f
    rw [if_pos (by omega), if_pos (by omega)]
    simp
  · rw [val_trim]
    simp at h5
    omega
  · have := trimL_length r
    omega
end Go.Proofs.YtdbnmdchecacdaaDoor.M
end
section
namespace Go.Proofs.YtdbnmdchecacdaaDoor.M
open Go.RowKit Go.Proofs.YtdbnmdchecacdaaDoor.G Go.Proofs.YtdbnmdchecacdaaDoorV.PrintWords Go.Proofs.YtdbnmdchecacdaaDoorV.PrintLast Go.Proofs.YtdbnmdchecacdaaDoorV.PrintMore Go.Proofs.YtdbnmdchecacdaaDoor.PB
set_option linter.unusedVariables false
set_option linter.unusedSimpArgs false
theorem parts_fin {P : Nat} {emin emax : Int} {W E : Nat} {ex : Bool} (h : Fmt P emin emax W E ex) (e : Nat) (he : e < 2 ^ E) (neg : Bool) (rest : Nat) (hr : rest < 2 ^ (P - 1)) :
    ((partsOf P emin emax E e neg rest).1 ≠ 2 ∧ (partsOf P emin emax E e neg rest).1 ≠ 3) ∨ ∃ (c : Int) (n2 : Bool) (S : Nat) (q : Int), partsOf P emin emax E e neg rest = (c, n2, hiI S, loI S, q) ∧ (c = 2 ∨ c = 3) ∧ 0 < S ∧ S < 2 ^ P ∧ -30000 ≤ q ∧ q ≤ 60000 := by
  have hE := h.plt
  have m0 := h.m0
  have m1 := h.m1
  have p0 := h.p0
  have p1 := h.p1
  have hp : 0 < 2 ^ (P - 1) := Nat.pow_pos (by decide)
  have h2 : 2 ^ P = 2 ^ (P - 1) * 2 := by rw [← Nat.pow_succ]; congr 1; omega
  unfold partsOf
  by_cases h1 : e = 2 ^ E - 1
  · rw [if_pos h1]
    by_cases h3 : rest = 0
    · rw [if_pos h3]; exact .inl ⟨show (4 : Int) ≠ 2 by decide, show (4 : Int) ≠ 3 by decide⟩
    · rw [if_neg h3]; exact .inl ⟨show (5 : Int) ≠ 2 by decide, show (5 : Int) ≠ 3 by decide⟩
  · rw [if_neg h1]
    by_cases h4 : e = 0
    · rw [if_pos h4]
      by_cases h3 : rest = 0
      · rw [if_pos h3]; exact .inl ⟨show (1 : Int) ≠ 2 by decide, show (1 : Int) ≠ 3 by decide⟩
      · rw [if_neg h3]
        exact .inr ⟨2, neg, rest, _, rfl, .inl rfl, by omega, by omega, by omega, by omega⟩
    · rw [if_neg h4]
      exact .inr ⟨3, neg, rest + 2 ^ (P - 1), _, rfl, .inr rfl, by omega, by omega, by omega, by omega⟩
theorem unpN_fin {P : Nat} {emin emax : Int} {W E : Nat} {ex : Bool} (h : Fmt P emin emax W E ex) (w : Nat) :
    ((unpN P emin emax W E ex w).1 ≠ 2 ∧ (unpN P emin emax W E ex w).1 ≠ 3) ∨ ∃ (c : Int) (n2 : Bool) (S : Nat) (q : Int), unpN P emin emax W E ex w = (c, n2, hiI S, loI S, q) ∧ (c = 2 ∨ c = 3) ∧ 0 < S ∧ S < 2 ^ P ∧ -30000 ≤ q ∧ q ≤ 60000 := by
  have hb : (badP.1 ≠ 2 ∧ badP.1 ≠ 3) := ⟨show (0 : Int) ≠ 2 by decide, show (0 : Int) ≠ 3 by decide⟩
  unfold unpN
  by_cases h0 : 2 ^ W ≤ w
  · rw [if_pos h0]; exact .inl hb
  · rw [if_neg h0]
    cases ex with
    | false =>
      rw [if_neg (by decide)]
      exact parts_fin h _ (Nat.mod_lt _ (Nat.pow_pos (by decide))) _ _ (Nat.mod_lt _ (Nat.pow_pos (by decide)))
    | true =>
      rw [if_pos rfl]
      by_cases hc : (2 ^ (P - 1) ≤ w % 2 ^ P ↔ w / 2 ^ P % 2 ^ E ≠ 0)
      · rw [if_pos hc]
        exact parts_fin h _ (Nat.mod_lt _ (Nat.pow_pos (by decide))) _ _ (Nat.mod_lt _ (Nat.pow_pos (by decide)))
      · rw [if_neg hc]; exact .inl hb
def spanV (near : Bool) (S : Nat) (q : Int) : Nat × Nat × Nat :=
  let lo := if near = true then S * 4 - 1 else S * 4 - 2
  if q - 2 ≥ 0 then (lo * 2 ^ (q - 2).toNat, (S * 4 + 2) * 2 ^ (q - 2).toNat, 1) else (lo, S * 4 + 2, 2 ^ (2 - q).toNat)
def nearB (P : Nat) (emin : Int) (c : Int) (S : Nat) (q : Int) : Bool := decide (c = 3 ∧ S = 2 ^ (P - 1) ∧ q > emin - P + 1)
structure D32 (l : List Int) (v : Nat) : Prop where
  dig : Dig B32 l
  norm : Norm l
  val : val B32 l = v
  len : l.length ≤ 3000000
abbrev Spn : Type := List Int × List Int × List Int
theorem sspan_j1 (x9 x10 : List Int) (lo hi : Nat) (h9 : D32 x9 hi) (h10 : D32 x10 lo) (l9 : x9.length ≤ 100) (l10 : x10.length ≤ 100) (c : Int) (neg : Bool) (a b : Int) (q : Int) (q0 : -30000 ≤ q) (q1 : q ≤ 60000) :
    ∃ r : Spn, Ev (fun k => spec_l2Span.j1 k x9 x10 c neg a b q) r ∧ (if q - 2 ≥ 0 then D32 r.1 (lo * 2 ^ (q - 2).toNat) ∧ D32 r.2.1 (hi * 2 ^ (q - 2).toNat) ∧ D32 r.2.2 1 else D32 r.1 lo ∧ D32 r.2.1 hi ∧ D32 r.2.2 (2 ^ (2 - q).toNat)) := by
  by_cases ht : q - 2 ≥ 0
  · obtain ⟨n, hn⟩ : ∃ n : Nat, q - 2 = (n : Int) := ⟨(q - 2).toNat, by omega⟩
    have hn2 : n ≤ 1000000 := by omega
    obtain ⟨r1, e1, d1, n1, v1, k1⟩ := sleft_ev x10 h10.dig (by omega) n hn2
    obtain ⟨r2, e2, d2, n2, v2, k2⟩ := sleft_ev x9 h9.dig (by omega) n hn2
    have o1 := ofW_eq 1 (by decide)
    have o2 : D32 (ofW 1) 1 := ⟨ofW_dig 1 (by decide), norm_trim _, ofW_val 1, Nat.le_trans (ofW_length 1) (by decide)⟩
    have ww : wrap64 (q - 2) = (n : Int) := by rw [wsm _ (by clear v1 v2; omega)]; exact hn
    refine ⟨(r1, r2, ofW 1), ?_, ?_⟩
    · refine Ev.step (f := fun k => (spec_l1Left.f k x10 (n : Int)).bind fun t276 => ((spec_l1Left.f k x9 (n : Int)).bind fun t279 => ((spec_l1Of.f 1).bind fun t282 => (some (t276, t279, t282))))) (fun k => ?_) (Ev.bind e1 (Ev.bind e2 (ev_bindc o1 (Ev.now _))))
      simp only [spec_l2Span.j1]
      rw [ww, if_pos (Int.natCast_nonneg _)]
    · rw [if_pos ht, hn, Int.toNat_natCast]
      exact ⟨⟨d1, n1, by rw [v1, h10.val], by show r1.length ≤ 3000000; clear v1 v2 ww; omega⟩, ⟨d2, n2, by rw [v2, h9.val], by show r2.length ≤ 3000000; clear v1 v2 ww; omega⟩, o2⟩
  · obtain ⟨n, hn⟩ : ∃ n : Nat, 2 - q = (n : Int) := ⟨(2 - q).toNat, by omega⟩
    have hn2 : n ≤ 100000 := by omega
    obtain ⟨r1, e1, d1, n1, v1, k1⟩ := l2Two_ev n hn2
    have w0 : wrap64 (q - 2) = q - 2 := wsm _ (by clear v1; omega)
    have ww : wrap64 (-(q - 2)) = (n : Int) := by clear w0; rw [wsm _ (by clear v1; omega)]; clear v1; omega
    refine ⟨(x10, x9, r1), ?_, ?_⟩
    · refine Ev.step (f := fun k => (spec_l2Two.f k (n : Int)).bind fun t285 => (some (x10, x9, t285))) (fun k => ?_) (Ev.bind e1 (Ev.now _))
      simp only [spec_l2Span.j1]
      rw [w0, if_neg ht, ww]
    · rw [if_neg ht, hn, Int.toNat_natCast]
      exact ⟨h10, h9, ⟨d1, n1, v1, by show r1.length ≤ 3000000; clear v1 w0 ww; omega⟩⟩
theorem sspan_ev {P : Nat} {emin emax : Int} {W E : Nat} {ex : Bool} (h : Fmt P emin emax W E ex) (f : Int) (hf : spec_Describe.f f = some ((P : Int), emin, emax, (W : Int), (E : Int), ex)) (c : Int) (neg : Bool) (S : Nat) (q : Int) (s0 : 0 < S) (s1 : S < 2 ^ P) (q0 : -30000 ≤ q) (q1 : q ≤ 60000) :
    ∃ r : Spn, Ev (fun k => spec_l2Span.f k f c neg (hiI S) (loI S) q) r ∧ D32 r.1 (spanV (nearB P emin c S q) S q).1 ∧ D32 r.2.1 (spanV (nearB P emin c S q) S q).2.1 ∧ D32 r.2.2 (spanV (nearB P emin c S q) S q).2.2 := by
  have p0 := h.p0
  have p1 := h.p1
  have m0 := h.m0
  have hB : S < B128 := Nat.lt_of_lt_of_le s1 (show 2 ^ P ≤ 2 ^ 128 from Nat.pow_le_pow_right (by decide) (by omega))
  obtain ⟨A, hA, dA, nA, vA, lA⟩ := l2Of_ev S hB
  obtain ⟨F0, hF0, dF0, nF0, vF0, lF0⟩ := sleft_ev A dA (by omega) 2 (by decide)
  rw [vA, show 2 ^ 2 = 4 from rfl] at vF0
  have lF : F0.length ≤ 10 := by
    rcases Nat.lt_or_ge 10 F0.length with h1 | h1
    · have h2 := val_ge dF0 nF0 (by omega)
      have h3 : B32 ^ 7 ≤ B32 ^ (F0.length - 1) := Nat.pow_le_pow_right B32_pos (by omega)
      have h4 : B32 ^ 7 = 2 ^ 224 := by decide
      rw [vF0] at h2
      have h5 : (2 : Nat) ^ 128 * 4 < 2 ^ 224 := by decide
      have h6 : B128 = 2 ^ 128 := by decide
      exfalso
      have h7 : S * 4 < 2 ^ 224 := by omega
      omega
    · exact h1
  have o2 := ofW_eq 2 (by decide)
  have o2d := ofW_dig 2 (by decide)
  have o2l := ofW_length 2
  have o2v := ofW_val 2
  have o1 := ofW_eq 1 (by decide)
  have o1d := ofW_dig 1 (by decide)
  have o1l := ofW_length 1
  have o1v := ofW_val 1
  obtain ⟨hi, hhi, dhi, nhi, vhi, lhi⟩ := sadd_ev F0 (ofW 2) dF0 o2d (by omega) (by omega)
  obtain ⟨lo, hlo, dlo, nlo, vlo, llo⟩ := ssub_ev F0 (ofW 2) dF0 o2d (by omega) (by rw [o2v, vF0]; omega)
  obtain ⟨l1, hl1, dl1, nl1, vl1, ll1⟩ := ssub_ev F0 (ofW 1) dF0 o1d (by omega) (by rw [o1v, vF0]; omega)
  rw [vF0, o2v] at vhi vlo
  rw [vF0, o1v] at vl1
  have Dhi : D32 hi (S * 4 + 2) := ⟨dhi, nhi, vhi, by clear vhi vlo vl1 vF0; omega⟩
  have Dlo : D32 lo (S * 4 - 2) := ⟨dlo, nlo, vlo, by clear vhi vlo vl1 vF0; omega⟩
  have Dl1 : D32 l1 (S * 4 - 1) := ⟨dl1, nl1, vl1, by clear vhi vlo vl1 vF0; omega⟩
  have khi : hi.length ≤ 100 := by clear vhi vlo vl1 vF0; omega
  have klo : lo.length ≤ 100 := by clear vhi vlo vl1 vF0; omega
  have kl1 : l1.length ≤ 100 := by clear vhi vlo vl1 vF0; omega
  obtain ⟨two, htwo, dtwo, ntwo, vtwo, ltwo⟩ := l2Two_ev (P - 1) (by omega)
  have hcmp := cmp_ev A two dA dtwo (by clear vhi vlo vl1 vF0 vtwo; omega) (by clear vhi vlo vl1 vF0 vtwo; omega)
  rw [vA, vtwo] at hcmp
  clear vhi vlo vl1 vF0 vtwo dhi dlo dl1 nhi nlo nl1 lhi llo ll1 dF0 nF0 lF0
  -- behind the choice of the low end
  have j0 : ∀ near : Bool, ∃ r : Spn, Ev (fun k => spec_l2Span.j0 k F0 hi lo near c neg (hiI S) (loI S) q) r ∧ D32 r.1 (spanV near S q).1 ∧ D32 r.2.1 (spanV near S q).2.1 ∧ D32 r.2.2 (spanV near S q).2.2 := by
    intro near
    unfold spanV
    cases near with
    | true =>
      obtain ⟨r, hr, hv⟩ := sspan_j1 hi l1 (S * 4 - 1) (S * 4 + 2) Dhi Dl1 khi kl1 c neg (hiI S) (loI S) q q0 q1
      refine ⟨r, Ev.step (f := fun k => (spec_l1Of.f 1).bind fun t270 => ((spec_l1Sub.f k F0 t270).bind fun t273 => (spec_l2Span.j1 k hi t273 c neg (hiI S) (loI S) q))) (fun k => ?_) (ev_bindc o1 (Ev.bind hl1 hr)), ?_⟩
      · simp only [spec_l2Span.j0]
        rw [if_pos trivial]
      · simp only [if_true]
        by_cases ht : q - 2 ≥ 0
        · rw [if_pos ht] at hv ⊢; exact hv
        · rw [if_neg ht] at hv ⊢; exact hv
    | false =>
      obtain ⟨r, hr, hv⟩ := sspan_j1 hi lo (S * 4 - 2) (S * 4 + 2) Dhi Dlo khi klo c neg (hiI S) (loI S) q q0 q1
      refine ⟨r, Ev.step (fun k => ?_) hr, ?_⟩
      · simp only [spec_l2Span.j0]
        rw [if_neg (by decide)]
      · simp only [Bool.false_eq_true, if_false]
        by_cases ht : q - 2 ≥ 0
        · rw [if_pos ht] at hv ⊢; exact hv
        · rw [if_neg ht] at hv ⊢; exact hv
  obtain ⟨r, hr, hv⟩ := j0 (nearB P emin c S q)
  refine ⟨r, ?_, hv⟩
  have wP : wrap64 ((P : Int) - 1) = ((P - 1 : Nat) : Int) := by rw [wsm _ (by omega)]; omega
  have wq : wrap64 (wrap64 (emin - (P : Int)) + 1) = emin - (P : Int) + 1 := by clear wP; rw [wsm (emin - (P : Int)) (by omega), wsm _ (by omega)]
  unfold spec_l2Span.f
  refine Ev.congr (f := fun k => ((spec_l2Of.f k (hiI S) (loI S)).bind fun t245 => ((spec_l1Left.f k t245 ((2 : Nat) : Int)).bind fun t248 => ((spec_l1Of.f ((2 : Nat) : Int)).bind fun t251 => ((spec_l1Add.f k t248 t251).bind fun t254 => ((spec_l1Of.f ((2 : Nat) : Int)).bind fun t257 => ((spec_l1Sub.f k t248 t257).bind fun t260 => (if c = 3 then ((spec_l2Of.f k (hiI S) (loI S)).bind fun t263 => ((spec_l2Two.f k ((P - 1 : Nat) : Int)).bind fun t266 => ((spec_l1Cmp.f k t263 t266).bind fun t269 => (if t269 = 0 then (spec_l2Span.j0 k t248 t254 t260 (decide (q > emin - (P : Int) + 1)) c neg (hiI S) (loI S) q) else (spec_l2Span.j0 k t248 t254 t260 false c neg (hiI S) (loI S) q))))) else (spec_l2Span.j0 k t248 t254 t260 false c neg (hiI S) (loI S) q))))))))) (fun k => ?_) (Ev.bind hA (Ev.bind hF0 (ev_bindc o2 (Ev.bind hhi (ev_bindc o2 (Ev.bind hlo ?_))))))
  · rw [hf, Option.bind_some]
    dsimp only
    rw [wP, wq]
    rfl
  · by_cases hc : c = 3
    · simp only [if_pos hc]
      refine Ev.bind hA (Ev.bind htwo (Ev.bind hcmp ?_))
      by_cases hS : S = 2 ^ (P - 1)
      · have h0 : cmpN S (2 ^ (P - 1)) = 0 := by rw [hS]; unfold cmpN; rw [if_neg (Nat.lt_irrefl _), if_neg (Nat.lt_irrefl _)]
        simp only [if_pos h0]
        have hnb : nearB P emin c S q = decide (q > emin - (P : Int) + 1) := by
          unfold nearB
          rw [decide_eq_decide]
          exact ⟨fun a => a.2.2, fun a => ⟨hc, hS, a⟩⟩
        rw [← hnb]
        exact hr
      · have h0 : ¬ cmpN S (2 ^ (P - 1)) = 0 := by
          unfold cmpN
          rcases Nat.lt_or_gt_of_ne hS with a | a
          · rw [if_pos a]; decide
          · rw [if_neg (by omega), if_pos a]; decide
        simp only [if_neg h0]
        have hnb : nearB P emin c S q = false := decide_eq_false (fun a => hS a.2.1)
        rw [hnb] at hr
        exact hr
    · simp only [if_neg hc]
      have hnb : nearB P emin c S q = false := decide_eq_false (fun a => hc a.1)
      rw [hnb] at hr
      exact hr
end Go.Proofs.YtdbnmdchecacdaaDoor.M
end
section
namespace Go.Proofs.YtdbnmdchecacdaaDoor.M
open Go.RowKit Go.Proofs.YtdbnmdchecacdaaDoor.G Go.Proofs.YtdbnmdchecacdaaDoorV.PrintWords Go.Proofs.YtdbnmdchecacdaaDoorV.PrintLast Go.Proofs.YtdbnmdchecacdaaDoorV.PrintMore Go.Proofs.YtdbnmdchecacdaaDoor.PB
set_option linter.unusedVariables false
set_option linter.unusedSimpArgs false
theorem word_eq (v : Int) : impl_word.f v = some (trimL [v]) := rfl
theorem word_nat (v : Nat) (hv : v < 18446744073709551616) : IsNat (trimL [(v : Int)]) v ∧ (trimL [(v : Int)]).length ≤ 1 := by
  refine ⟨⟨(Dig.cons (by unfold B64; omega) (Dig.nil _)).trim, norm_trim _, by rw [val_trim, val_one]; simp⟩, ?_⟩
  have := trimL_length [(v : Int)]
  simpa using this
def powOk (m : Nat) (e : Int) : Prop := ¬ (e < 0) ∧ ¬ (e > 20000) ∧ ¬ (wrap64 ((m : Int) * e) > 76800)
instance (m : Nat) (e : Int) : Decidable (powOk m e) := by unfold powOk; infer_instance
end Go.Proofs.YtdbnmdchecacdaaDoor.M
end
section
namespace Go.Proofs.YtdbnmdchecacdaaDoor.M
open Go.RowKit Go.Proofs.YtdbnmdchecacdaaDoor.G Go.Proofs.YtdbnmdchecacdaaDoorV.PrintWords Go.Proofs.YtdbnmdchecacdaaDoorV.PrintLast Go.Proofs.YtdbnmdchecacdaaDoorV.PrintMore Go.Proofs.YtdbnmdchecacdaaDoor.PB
set_option linter.unusedVariables false
set_option linter.unusedSimpArgs false
theorem set_mid (acc r : List Int) (c y : Int) (p : Nat) (h : p = acc.length) : (acc ++ c :: r).set p y = acc ++ y :: r := by
  subst h
  rw [List.set_append_right _ _ (Nat.le_refl _), Nat.sub_self]
  rfl
theorem rd_mid (acc r : List Int) (c : Int) (p : Nat) (h : p = acc.length) : rd (acc ++ c :: r) (p : Int) = c := by
  subst h
  simp [rd_nat, List.getD_eq_getElem?_getD]
theorem sh64 (p : Nat) (hp : 0 < p ∧ p < 64) : IntKind.u64.wrap (64 - (p : Int)) = ((64 - p : Nat) : Int) := by
  rw [wrap_u64_id (by omega)]
  omega
theorem place_up (p x c : Nat) (hp : p < 64) (hx : x < B64) (hc : c < 2 ^ p) : bits .or .u64 (c : Int) (shl .u64 (x : Int) (p : Int)) = (((x * 2 ^ p + c) % B64 : Nat) : Int) := by
  have hs := pow_split 64 p (by omega)
  have hK : 0 < 2 ^ (64 - p) := Nat.pow_pos (by omega)
  have hmod : x * 2 ^ p % 18446744073709551616 = x % 2 ^ (64 - p) * 2 ^ p := by
    rw [show 18446744073709551616 = 2 ^ 64 from rfl, hs, Nat.mul_mod_mul_right]
  have hlt := Nat.mod_lt x hK
  have h1 := Nat.mul_le_mul_right (2 ^ p) (show x % 2 ^ (64 - p) + 1 ≤ 2 ^ (64 - p) from hlt)
  rw [Nat.add_mul, Nat.one_mul, ← hs] at h1
  have h2 : (2 : Nat) ^ 64 = 18446744073709551616 := rfl
  rw [h2] at h1
  have h3 : (x * 2 ^ p + c) % B64 = c + x % 2 ^ (64 - p) * 2 ^ p := by
    unfold B64
    rw [Nat.add_mod, hmod, Nat.mod_eq_of_lt (a := c) (by omega), Nat.mod_eq_of_lt (by omega), Nat.add_comm]
  rw [shl_nat _ _ (by omega), hmod, or_nat' p _ _ (by omega) (by omega) (Nat.dvd_mul_left _ _) hc, h3]
theorem up_carry (p x c : Nat) (hp : p < 64) (hc : c < 2 ^ p) : (x * 2 ^ p + c) / B64 = x / 2 ^ (64 - p) := by
  rw [B64_pow, pow_split 64 p (by omega), Nat.mul_comm (2 ^ (64 - p)), ← Nat.div_div_eq_div_mul, Nat.add_comm, Nat.add_mul_div_right _ _ (Nat.pow_pos (by omega)), Nat.div_eq_of_lt hc, Nat.zero_add]
theorem wadd (i d : Nat) (h : i + d ≤ 9223372036854775807) : wrap64 ((i : Int) + (d : Int)) = ((i + d : Nat) : Int) := by
  rw [wrap64_id (by omega)]
  omega
theorem ileft_loop (a : List Int) (ha : Dig B64 a) (la : a.length ≤ 1073741824) (N : Int) (d p : Nat) (hw : Unit → wrap64 (Int.tdiv N 64) = (d : Int)) (hd : d ≤ 1000000) (hp : p < 64) (rest : List Int) : ∀ (i : Nat) (acc : List Int) (c : Nat), a.drop i = rest → i ≤ a.length → c < 2 ^ p → acc.length = i + d →
    Ev (fun k => impl_nat_left.l0 k N (acc ++ (c : Int) :: List.replicate rest.length 0) (p : Int) a (a.length : Int) (i : Int)) (trimL (acc ++ sl B64 (2 ^ p) c rest)) := by
  induction rest with
  | nil =>
    intro i acc c hr hi hc hac
    have hlen := congrArg List.length hr
    rw [List.length_drop] at hlen
    simp at hlen
    refine Ev.step (f := fun _ => some (trimL (acc ++ sl B64 (2 ^ p) c []))) (fun k => ?_) (Ev.now _)
    simp only [impl_nat_left.l0]
    rw [if_neg (by omega)]
    rfl
  | cons x rest ih =>
    intro i acc c hr hi hc hac
    have hlen := congrArg List.length hr
    rw [List.length_drop] at hlen
    simp at hlen
    have hx : rd a (i : Int) = x := rd_of_drop hr
    have dx := ha.rd B64_pos (i : Int)
    rw [hx] at dx
    obtain ⟨y, rfl⟩ : ∃ y : Nat, x = (y : Int) := ⟨x.toNat, by omega⟩
    have hy : y < B64 := by omega
    have e1 := fun _ : Unit => wadd i d (by omega)
    have e5 := fun _ : Unit => wadd i 1 (by omega)
    have e6 := fun _ : Unit => wadd (i + d) 1 (by omega)
    have g1 : (i : Int) < (a.length : Int) := by omega
    have g2 : 0 ≤ (i : Int) := by omega
    have g3 : 0 ≤ ((i + d : Nat) : Int) := by omega
    have g4 : 0 ≤ (p : Int) := by omega
    have g6 : 0 ≤ ((i + d + 1 : Nat) : Int) := by omega
    have ll : ∀ z : Int, (acc ++ z :: List.replicate ((y : Int) :: rest).length 0).length = i + d + rest.length + 2 := by
      intro z
      simp
      omega
    have g5 : ((i + d : Nat) : Int) < ((i + d + rest.length + 2 : Nat) : Int) := by omega
    have g7 : ((i + d + 1 : Nat) : Int) < ((i + d + rest.length + 2 : Nat) : Int) := by omega
    have l2 : ∀ z : Int, i + d + 1 = (acc ++ [z]).length := by
      intro z
      simp
      omega
    have hi2 : i + 1 ≤ a.length := by omega
    have hac2 : ∀ z : Int, (acc ++ [z]).length = i + 1 + d := by
      intro z
      simp
      omega
    have hsp := fun h : 0 < p => sh64 p ⟨h, hp⟩
    have hc2 : (y * 2 ^ p + c) / B64 < 2 ^ p := carry_lt hy hc
    have huc := up_carry p y c hp hc
    have hpu := place_up p y c hp hy hc
    have hz : y / 2 ^ (64 - p) < B64 := Nat.lt_of_le_of_lt (Nat.div_le_self _ _) hy
    have e4 := or_nat' 0 (y / 2 ^ (64 - p)) 0 (by omega) (by unfold B64 at hz; exact hz) (by simp) (by omega)
    rw [Nat.zero_add] at e4
    have h64 : 64 - p ≤ 64 := Nat.sub_le _ _
    have h0 : p = 0 → (y * 2 ^ p + c) / B64 = 0 := by
      intro h0
      subst h0
      have : c = 0 := by omega
      rw [this, Nat.pow_zero, Nat.mul_one, Nat.add_zero, Nat.div_eq_of_lt hy]
    have hpp : ¬ p = 0 → (p : Int) > 0 := by omega
    have hpn : p = 0 → ¬ (p : Int) > 0 := by omega
    have hp0 : ¬ p = 0 → 0 < p := by omega
    have hpk : 0 ≤ ((64 - p : Nat) : Int) := by omega
    have hr0 : ∀ z : Int, acc ++ z :: List.replicate ((y : Int) :: rest).length 0 = (acc ++ [z]) ++ 0 :: List.replicate rest.length 0 := by
      intro z
      simp [List.replicate_succ]
    have hih := ih (i + 1) (acc ++ [(((y * 2 ^ p + c) % B64 : Nat) : Int)]) ((y * 2 ^ p + c) / B64) (drop_succ_of hr) hi2 hc2 (hac2 _)
    refine Ev.step (fun k => ?_) (ev_to hih (by simp [sl]))
    simp only [impl_nat_left.l0]
    rw [if_pos g1, if_pos g2, if_pos g1, hw (), e1 (), if_pos g3, if_pos (by rw [ll]; exact g5), if_pos g4, Option.bind_some, Int.toNat_natCast, rd_mid _ _ _ _ hac.symm, set_mid _ _ _ _ _ hac.symm, hx, hpu]
    by_cases hpz : p = 0
    · rw [if_neg (hpn hpz), show (1 : Int) = ((1 : Nat) : Int) from rfl, e5 (), h0 hpz, hr0]
      rfl
    · rw [if_pos (hpp hpz), show (1 : Int) = ((1 : Nat) : Int) from rfl, e6 (), e5 (), if_pos g6, if_pos (by rw [ll]; exact g7), sh64 _ ⟨hp0 hpz, hp⟩, if_pos hpk, shr_nat _ _ h64, Int.toNat_natCast, hr0, rd_mid _ _ _ _ (l2 _), set_mid _ _ _ _ _ (l2 _), huc]
      rw [show (0 : Int) = ((0 : Nat) : Int) from rfl, e4]
theorem rep_split (n m : Nat) : List.replicate (n + (m + 1)) (0 : Int) = List.replicate n 0 ++ ((0 : Nat) : Int) :: List.replicate m 0 := by
  induction n with
  | zero => rw [Nat.zero_add, List.replicate_succ]; rfl
  | succ n ih => rw [show n + 1 + (m + 1) = (n + (m + 1)) + 1 by omega, List.replicate_succ, ih, List.replicate_succ]; rfl
theorem ileft_ev (a : List Int) (ha : Dig B64 a) (la : a.length ≤ 1048576) (n : Nat) (hn : n ≤ 1000000) :
    ∃ r, Ev (fun k => impl_nat_left.f k a (n : Int)) r ∧ Dig B64 r ∧ Norm r ∧ val B64 r = val B64 a * 2 ^ n := by
  have hp : n % 64 < 64 := Nat.mod_lt _ (by omega)
  have hP : 2 ^ (n % 64) ≤ B64 := by rw [B64_pow]; exact Nat.pow_le_pow_right (by omega) (by omega)
  have hP0 : 0 < 2 ^ (n % 64) := Nat.pow_pos (by omega)
  have hd := Nat.div_le_self n 64
  unfold impl_nat_left.f
  by_cases h0 : (a.length : Int) = 0
  · have : a = [] := List.eq_nil_of_length_eq_zero (by omega)
    subst this
    refine ⟨[], ?_, Dig.nil _, norm_nil, by simp [val]⟩
    exact Ev.now _
  have h := ileft_loop a ha (by omega) (n : Int) (n / 64) (n % 64) (fun _ => wtdiv n 64 (by omega)) (by omega) hp a 0 (List.replicate (n / 64) 0) 0 rfl (by omega) hP0 (by simp)
  refine ⟨_, Ev.congr (fun k => ?_) h, ((Dig.zeros B64_pos _).append (sl_dig B64_pos hP _ _ ha hP0)).trim, norm_trim _, ?_⟩
  · rw [if_neg h0, show ((64 : Int)) = ((64 : Nat) : Int) from rfl, wtdiv n 64 (by omega), wtmod n 64 (by omega), wrap64_id (n := (a.length : Int) + ((n / 64 : Nat) : Int)) (by omega), wrap64_id (by omega), if_pos (by omega), if_pos (by omega)]
    rw [show ((a.length : Int) + ((n / 64 : Nat) : Int) + 1).toNat = n / 64 + (a.length + 1) by omega, rep_split]
    rfl
  · rw [val_trim, val_shl, sl_val, pow_mul_mod (val B64 a) 64 n, ← B64_pow]
    rfl
def shOk (a : List Int) (n : Int) : Prop := a.length ≤ 1200 ∧ ¬ (n > 80000) ∧ ¬ (n < -80000)
instance (a : List Int) (n : Int) : Decidable (shOk a n) := by unfold shOk; infer_instance
end Go.Proofs.YtdbnmdchecacdaaDoor.M
end
