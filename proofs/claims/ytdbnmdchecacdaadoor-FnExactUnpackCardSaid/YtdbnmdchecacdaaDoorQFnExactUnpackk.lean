import Derived.Test.YtdbnmdchecacdaaDoorQFnExactUnpackj
section
namespace Go.Proofs.YtdbnmdchecacdaaDoor.M
open Go.RowKit Go.Proofs.YtdbnmdchecacdaaDoor.G Go.Proofs.YtdbnmdchecacdaaDoorV.PrintWords Go.Proofs.YtdbnmdchecacdaaDoorV.PrintLast Go.Proofs.YtdbnmdchecacdaaDoorV.PrintMore Go.Proofs.YtdbnmdchecacdaaDoor.PU
set_option linter.unusedVariables false
set_option linter.unusedSimpArgs false
theorem bit_top {v m : Nat} (h : v < 2 ^ (m + 1)) : v / 2 ^ m % 2 = if 2 ^ m ≤ v then 1 else 0 := by
  have hp : 0 < 2 ^ m := Nat.pow_pos (by decide)
  rw [Nat.pow_succ] at h
  have h2 : v / 2 ^ m < 2 := by rw [Nat.div_lt_iff_lt_mul hp, Nat.mul_comm]; exact h
  by_cases hv : 2 ^ m ≤ v
  · rw [if_pos hv]
    have := (Nat.le_div_iff_mul_le hp).2 (show 1 * 2 ^ m ≤ v by omega)
    omega
  · rw [if_neg hv, Nat.div_eq_of_lt (by omega)]
section
variable {P : Nat} {emin emax : Int} {W E : Nat} {ex : Bool}
theorem l2_l1end (h : Fmt P emin emax W E ex) (FR : List Int) (dF : Dig B32 FR) (nF : Norm FR) (lF : FR.length ≤ 100) (hF : val B32 FR < 2 ^ fracN P ex) (e : Nat) (he : e < 2 ^ E) (neg : Bool) (x0 : Int) :
    Ev (fun k => spec_Unpack.l1 k FR (e : Int) ((2 ^ E : Nat) : Int) (E : Int) (P : Int) emin emax (W : Int) (E : Int) ex x0 neg 0 0 0)
      (if ex = true then (if (2 ^ (P - 1) ≤ val B32 FR ↔ e ≠ 0) then partsOf P emin emax E e neg (val B32 FR % 2 ^ (P - 1)) else badP) else partsOf P emin emax E e neg (val B32 FR)) := by
  have hp0 := h.p0
  have hp1 := h.p1
  have hE := h.plt
  have hE0 : 2 ≤ 2 ^ E := by
    have := Nat.pow_le_pow_right (n := 2) (by decide) h.e0
    exact this
  have b1 : 1 ≤ P := by omega
  have hPP : 2 ^ (P - 1) ≤ 2 ^ P := Nat.pow_le_pow_right (by decide) (by omega)
  have c0 : ¬ (E : Int) < (E : Int) := by omega
  have wp : wrap64 ((P : Int) - 1) = ((P - 1 : Nat) : Int) := by rw [wsm _ (by omega)]; omega
  have wt : wrap64 (((2 ^ E : Nat) : Int) - 1) = ((2 ^ E - 1 : Nat) : Int) := by rw [wsm _ (by clear wp; omega)]; clear wp; omega
  cases ex with
  | false =>
    rw [if_neg (by decide)]
    unfold fracN at hF
    rw [if_neg (by decide)] at hF
    refine Ev.step (fun k => ?_) (l2_j3 h FR dF nF lF (by clear wp wt; omega) e he neg x0)
    simp only [spec_Unpack.l1]
    rw [if_neg c0, wt]
    simp only [Bool.false_eq_true, if_false]
  | true =>
    rw [if_pos rfl]
    unfold fracN at hF
    rw [if_pos rfl] at hF
    obtain ⟨r, hr, dr, nr, vr, lr⟩ := l2Low_ev FR dF (by clear wp wt; omega) (P - 1) (by clear wp wt; omega)
    have hb := l1Bit_eq FR dF (P - 1) (by clear wp wt; omega)
    have hbt : val B32 FR / 2 ^ (P - 1) % 2 = if 2 ^ (P - 1) ≤ val B32 FR then 1 else 0 := bit_top (by rw [show P - 1 + 1 = P by clear wp wt; omega]; exact hF)
    rw [hbt] at hb
    have hr2 : val B32 r < 2 ^ P := by rw [vr]; exact Nat.lt_of_lt_of_le (Nat.mod_lt _ (Nat.pow_pos (by decide))) hPP
    have hj := l2_j3 h r dr nr (by clear wp wt; omega) hr2 e he neg x0
    rw [vr] at hj
    refine Ev.step (f := fun k => (spec_l2Low.f k FR ((P - 1 : Nat) : Int)).bind fun t => if (2 ^ (P - 1) ≤ val B32 FR ↔ e ≠ 0) then spec_Unpack.j3 k (e : Int) ((2 ^ E - 1 : Nat) : Int) t (P : Int) emin emax (W : Int) (E : Int) true x0 neg 0 0 0 else some badP) (fun k => ?_) (Ev.bind hr ?_)
    · simp only [spec_Unpack.l1]
      rw [if_neg c0, wp, wt]
      simp only [if_true]
      rw [hb, Option.bind_some]
      congr 1
      funext t
      by_cases hl : 2 ^ (P - 1) ≤ val B32 FR
      · rw [if_pos hl]
        by_cases h0 : e = 0
        · have c1 : (e : Int) = 0 := by clear wp wt; omega
          rw [if_pos c1, if_pos (show ((1 : Nat) : Int) = 1 from rfl), if_neg (fun x => x.1 hl h0)]
          rfl
        · have c1 : ¬ (e : Int) = 0 := by clear wp wt; omega
          have c2 : (e : Int) > 0 := by clear wp wt; omega
          rw [if_neg c1, if_pos c2, if_pos (show ((1 : Nat) : Int) = 1 from rfl), if_pos ⟨fun _ => h0, fun _ => hl⟩]
      · rw [if_neg hl]
        by_cases h0 : e = 0
        · have c1 : (e : Int) = 0 := by clear wp wt; omega
          have c2 : ¬ (e : Int) > 0 := by clear wp wt; omega
          rw [if_pos c1, if_neg (show ¬ ((0 : Nat) : Int) = 1 by decide), if_neg c2, if_pos ⟨fun x => absurd x hl, fun x => absurd h0 x⟩]
        · have c1 : ¬ (e : Int) = 0 := by clear wp wt; omega
          have c2 : (e : Int) > 0 := by clear wp wt; omega
          rw [if_neg c1, if_pos c2, if_neg (show ¬ ((0 : Nat) : Int) = 1 by decide), if_neg (fun x => hl (x.2 h0))]
          rfl
    · by_cases hc : (2 ^ (P - 1) ≤ val B32 FR ↔ e ≠ 0)
      · simp only [if_pos hc]
        exact hj
      · simp only [if_neg hc]
        exact Ev.now _
theorem l2_l0 (h : Fmt P emin emax W E ex) (A FR : List Int) (dA : Dig B32 A) (w : Nat) (hA : val B32 A = w) (R : Prt)
    (hR : Ev (fun k => spec_Unpack.l1 k FR ((w / 2 ^ fracN P ex % 2 ^ E : Nat) : Int) ((2 ^ 0 : Nat) : Int) ((0 : Nat) : Int) (P : Int) emin emax (W : Int) (E : Int) ex 0 (decide (w / 2 ^ (W - 1) % 2 = 1)) 0 0 0) R) :
    ∀ i : Nat, i ≤ E → Ev (fun k => spec_Unpack.l0 k A (fracN P ex : Int) FR ((w / 2 ^ (fracN P ex + i) % 2 ^ (E - i) : Nat) : Int) ((i : Int) - 1) (P : Int) emin emax (W : Int) (E : Int) ex) R := by
  have hp0 := h.p0
  have hp1 := h.p1
  have hw1 := h.w1
  have hw2 := h.w2
  have he1 := h.e1
  intro i
  induction i with
  | zero =>
    intro _
    rw [Nat.add_zero, Nat.sub_zero]
    have hb := l1Bit_eq A dA (W - 1) (by omega)
    rw [hA] at hb
    have ww : wrap64 ((W : Int) - 1) = ((W - 1 : Nat) : Int) := by rw [wsm _ (by omega)]; omega
    have hm := Nat.mod_lt (w / 2 ^ (W - 1)) (show 0 < 2 by decide)
    refine Ev.step (fun k => ?_) hR
    have c0 : ¬ (((0 : Nat) : Int) - 1 ≥ 0) := by omega
    simp only [spec_Unpack.l0]
    rw [if_neg c0, ww, hb, Option.bind_some]
    have hd : (((w / 2 ^ (W - 1) % 2 : Nat) : Int) == 1) = decide (w / 2 ^ (W - 1) % 2 = 1) := by
      clear ww
      by_cases hx : w / 2 ^ (W - 1) % 2 = 1
      · rw [hx]; rfl
      · rw [decide_eq_false hx, beq_eq_false_iff_ne]; omega
    rw [hd]
    rfl
  | succ i ih =>
    intro hi
    have hb := l1Bit_eq A dA (fracN P ex + i) (by omega)
    rw [hA] at hb
    have e0 : ((i + 1 : Nat) : Int) - 1 = (i : Int) := by omega
    rw [e0]
    have hstep : w / 2 ^ (fracN P ex + i) % 2 ^ (E - i) = w / 2 ^ (fracN P ex + (i + 1)) % 2 ^ (E - (i + 1)) * 2 + w / 2 ^ (fracN P ex + i) % 2 := by
      have e1 : 2 ^ (E - i) = 2 * 2 ^ (E - (i + 1)) := by rw [Nat.mul_comm, ← Nat.pow_succ]; congr 1; omega
      have e2 : w / 2 ^ (fracN P ex + (i + 1)) = w / 2 ^ (fracN P ex + i) / 2 := by rw [Nat.div_div_eq_div_mul, ← Nat.pow_succ]; rfl
      rw [e1, e2, Nat.mod_mul]
      omega
    have hacc : w / 2 ^ (fracN P ex + (i + 1)) % 2 ^ (E - (i + 1)) < 32768 := Nat.lt_of_lt_of_le (Nat.mod_lt _ (Nat.pow_pos (by decide))) (Nat.le_trans (Nat.pow_le_pow_right (by decide) (Nat.sub_le _ _)) h.plt)
    have hbit := Nat.mod_lt (w / 2 ^ (fracN P ex + i)) (show 0 < 2 by decide)
    have c0 : (i : Int) ≥ 0 := Int.natCast_nonneg _
    have hfr : fracN P ex ≤ 1000 := by omega
    have ih1 := ih (by omega)
    rw [hstep] at ih1
    generalize w / 2 ^ (fracN P ex + (i + 1)) % 2 ^ (E - (i + 1)) = acc at *
    generalize w / 2 ^ (fracN P ex + i) % 2 = bit at *
    clear hstep
    refine Ev.step (fun k => ?_) ih1
    have w1 : wrap64 ((fracN P ex : Int) + (i : Int)) = ((fracN P ex + i : Nat) : Int) := by rw [wsm _ (by omega)]; rfl
    have w2 : wrap64 (wrap64 ((acc : Int) * 2) + wrap64 (bit : Int)) = ((acc * 2 + bit : Nat) : Int) := by
      clear w1
      rw [wsm ((acc : Int) * 2) (by omega), wsm (bit : Int) (by omega), wsm _ (by omega)]
      omega
    have w3 : wrap64 ((i : Int) - 1) = (i : Int) - 1 := wsm _ (by clear w1 w2; omega)
    simp only [spec_Unpack.l0]
    rw [if_pos c0, w1, hb, Option.bind_some, w2, w3]
theorem unpS_ev (h : Fmt P emin emax W E ex) (f : Int) (hf : spec_Describe.f f = some ((P : Int), emin, emax, (W : Int), (E : Int), ex)) (w : Nat) (hw : w < B128) : Ev (fun k => spec_Unpack.f k f (hiI w) (loI w)) (unpN P emin emax W E ex w) := by
  have hp0 := h.p0
  have hp1 := h.p1
  have hw1 := h.w1
  have hw2 := h.w2
  have he0 := h.e0
  have he1 := h.e1
  obtain ⟨A, hA, dA, nA, vA, lA⟩ := l2Of_ev w hw
  obtain ⟨m, hm, bm, lm⟩ := sbits_gen A dA nA (by omega)
  rw [vA] at bm
  have hgt := isBits_gt bm (W := W)
  have cP : ¬ (P : Int) = 0 := by omega
  have hfn : fracN P ex = if ex = true then P else P - 1 := rfl
  have wP : wrap64 ((P : Int) - 1) = ((P - 1 : Nat) : Int) := by rw [wsm _ (by omega)]; omega
  have core : w < 2 ^ W → Ev (fun k => spec_Unpack.j0 k A (fracN P ex : Int) (P : Int) emin emax (W : Int) (E : Int) ex) (unpN P emin emax W E ex w) := by
    intro hlt
    clear wP
    have hfr : fracN P ex ≤ 1000 := by omega
    obtain ⟨FR, hF, dF, nF, vF, lF⟩ := l2Low_ev A dA (by omega) (fracN P ex) (by omega)
    rw [vA] at vF
    have hFlt : val B32 FR < 2 ^ fracN P ex := by rw [vF]; exact Nat.mod_lt _ (Nat.pow_pos (by decide))
    have helt : w / 2 ^ fracN P ex % 2 ^ E < 2 ^ E := Nat.mod_lt _ (Nat.pow_pos (by decide))
    have hend := l2_l1end h FR dF nF (by omega) hFlt (w / 2 ^ fracN P ex % 2 ^ E) helt (decide (w / 2 ^ (W - 1) % 2 = 1)) 0
    have htop := l2_top h FR (w / 2 ^ fracN P ex % 2 ^ E) (decide (w / 2 ^ (W - 1) % 2 = 1)) 0 _ E hend 0 (by omega)
    have hl0 := l2_l0 h A FR dA w vA _ htop E (Nat.le_refl _)
    rw [Nat.sub_self, Nat.pow_zero, Nat.mod_one] at hl0
    have hval : (if ex = true then (if (2 ^ (P - 1) ≤ val B32 FR ↔ w / 2 ^ fracN P ex % 2 ^ E ≠ 0) then partsOf P emin emax E (w / 2 ^ fracN P ex % 2 ^ E) (decide (w / 2 ^ (W - 1) % 2 = 1)) (val B32 FR % 2 ^ (P - 1)) else badP) else partsOf P emin emax E (w / 2 ^ fracN P ex % 2 ^ E) (decide (w / 2 ^ (W - 1) % 2 = 1)) (val B32 FR)) = unpN P emin emax W E ex w := by
      unfold unpN
      rw [if_neg (Nat.not_le.2 hlt), vF, hfn]
      cases ex with
      | true => rfl
      | false => rfl
    rw [hval] at hl0
    have wE : wrap64 ((E : Int) - 1) = (E : Int) - 1 := wsm _ (by omega)
    refine Ev.step (f := fun k => (spec_l2Low.f k A (fracN P ex : Int)).bind fun t => spec_Unpack.l0 k A (fracN P ex : Int) t 0 ((E : Int) - 1) (P : Int) emin emax (W : Int) (E : Int) ex) (fun k => ?_) (Ev.bind hF hl0)
    simp only [spec_Unpack.j0]
    rw [wE]
  unfold spec_Unpack.f
  refine Ev.congr (f := fun k => (spec_l2Of.f k (hiI w) (loI w)).bind fun t => (spec_l1Bits.f k t).bind fun t2 => if t2 > (W : Int) then some badP else if ex = true then spec_Unpack.j0 k t (P : Int) (P : Int) emin emax (W : Int) (E : Int) ex else spec_Unpack.j0 k t ((P - 1 : Nat) : Int) (P : Int) emin emax (W : Int) (E : Int) ex) (fun k => ?_) (Ev.bind hA (Ev.bind hm ?_))
  · rw [hf, Option.bind_some]
    dsimp only
    rw [if_neg cP, wP]
    rfl
  · clear wP
    by_cases hg : W < m
    · have c1 : (m : Int) > (W : Int) := by omega
      have hle := hgt.1 hg
      have hu : unpN P emin emax W E ex w = badP := by unfold unpN; rw [if_pos hle]
      rw [hu]
      exact Ev.congr (fun k => by rw [if_pos c1]) (Ev.now _)
    · have c1 : ¬ (m : Int) > (W : Int) := by omega
      have hlt : w < 2 ^ W := Nat.lt_of_not_le (fun x => hg (hgt.2 x))
      have hc := core hlt
      refine Ev.congr (fun k => ?_) hc
      rw [if_neg c1, hfn]
      cases ex with
      | true => rfl
      | false => rfl
end
end Go.Proofs.YtdbnmdchecacdaaDoor.M
end
section
namespace Go.Proofs.YtdbnmdchecacdaaDoor.PU
open Go.RowKit Go.Proofs.YtdbnmdchecacdaaDoor.G Go.Proofs.YtdbnmdchecacdaaDoorV.PrintWords Go.Proofs.YtdbnmdchecacdaaDoorV.PrintLast Go.Proofs.YtdbnmdchecacdaaDoorV.PrintMore
attribute [local go_sem] max2_int min2_int max_two min_two max_three min_three max_four min_four run_Add64 run_Sub64 fld25_1
set_option linter.unusedVariables false
set_option linter.unusedSimpArgs false
theorem eqA25 (d : Nat) (w : World) (x0 y0 : Int) (x1 y1 : Int) :
    (Op.equalIn (d + 2) 25 (.agg #[.int .u64 x0, .int .u64 x1]) (.agg #[.int .u64 y0, .int .u64 y1])).run Tryd.prog w = .ok (x0 == y0 && (x1 == y1)) w := by
  refine eqA_of Tryd.underlying25 (by kernel_rfl) ?_
  refine eqf_cons (by rfl) (by go_simp; rfl) (by go_simp; rfl) (by go_simp) ?_
  exact eqf_last (by rfl) (by go_simp; rfl) (by go_simp; rfl) (by go_simp)
end Go.Proofs.YtdbnmdchecacdaaDoor.PU
end
section
namespace Go.Proofs.YtdbnmdchecacdaaDoor.PU
open Go.RowKit Go.Proofs.YtdbnmdchecacdaaDoor.G Go.Proofs.YtdbnmdchecacdaaDoorV.PrintWords Go.Proofs.YtdbnmdchecacdaaDoorV.PrintLast Go.Proofs.YtdbnmdchecacdaaDoorV.PrintMore
attribute [local go_sem] max2_int min2_int max_two min_two max_three min_three max_four min_four run_Add64 run_Sub64 fld25_1
set_option linter.unusedVariables false
set_option linter.unusedSimpArgs false
attribute [local go_sem high] eqA25
mutual
def impl_Unpack.j0 : Nat → Bool → Int → Int → Int → Int → Int → Int → Int → Bool → Option (Int × Bool × Int × Int × Int)
 | 0, _, _, _, _, _, _, _, _, _ => none
 | k + 1, x34, x258000, x258001, x267000, x267001, x267002, x267003, x267004, x267005 => if x34 = true then (some (0, false, 0, 0, 0)) else ((impl_layout_fracBits.f x267000 x267001 x267002 x267003 x267004 x267005).bind fun t269 => ((impl_Word_low.f x258000 x258001 t269).bind fun bt270 => ((impl_Word_right.f x258000 x258001 t269).bind fun bt273 => ((impl_Word_low.f bt273.1 bt273.2 x267004).bind fun bt275 => ((impl_Word_right.f x258000 x258001 (wrap64 (x267003 - 1))).bind fun bt277 => (if x267005 = true then ((impl_Word_right.f bt270.1 bt270.2 (wrap64 (x267000 - 1))).bind fun bt280 => (if ((!(bt280.1 == 0) || (!(bt280.2 == 0))) != ((wrap64 (bt275.2)) != 0)) = true then (some (0, false, 0, 0, 0)) else ((impl_Word_low.f bt270.1 bt270.2 (wrap64 (x267000 - 1))).bind fun bt282 => (impl_Unpack.j1 k (wrap64 (bt275.2)) (!(bt277.1 == 0) || (!(bt277.2 == 0))) x267000 x267001 x267002 x267003 x267004 x267005 bt270.1 bt270.2 bt282.1 bt282.2)))) else (impl_Unpack.j1 k (wrap64 (bt275.2)) (!(bt277.1 == 0) || (!(bt277.2 == 0))) x267000 x267001 x267002 x267003 x267004 x267005 bt270.1 bt270.2 bt270.1 bt270.2)))))))
def impl_Unpack.j1 : Nat → Int → Bool → Int → Int → Int → Int → Int → Bool → Int → Int → Int → Int → Option (Int × Bool × Int × Int × Int)
 | 0, _, _, _, _, _, _, _, _, _, _, _, _ => none
 | k + 1, x9, x10, x267000, x267001, x267002, x267003, x267004, x267005, x273000, x273001, x280000, x280001 => (impl_layout_top.f x267000 x267001 x267002 x267003 x267004 x267005).bind fun t284 => (if x9 = t284 then (impl_Unpack.j2 k x9 x10 (x280000 == 0 && (x280001 == 0)) x267000 x267001 x267002 x267003 x267004 x267005 x273000 x273001) else (impl_Unpack.j2 k x9 x10 false x267000 x267001 x267002 x267003 x267004 x267005 x273000 x273001))
def impl_Unpack.j2 : Nat → Int → Bool → Bool → Int → Int → Int → Int → Int → Bool → Int → Int → Option (Int × Bool × Int × Int × Int)
 | 0, _, _, _, _, _, _, _, _, _, _, _ => none
 | k + 1, x9, x10, x81, x267000, x267001, x267002, x267003, x267004, x267005, x273000, x273001 => if x81 = true then (some (4, x10, 0, 0, 0)) else ((impl_layout_top.f x267000 x267001 x267002 x267003 x267004 x267005).bind fun t285 => (if x9 = t285 then (some (5, false, 0, 0, 0)) else (if x9 = 0 then (impl_Unpack.j3 k x9 x10 (x273000 == 0 && (x273001 == 0)) x267000 x267001 x267002 x267003 x267004 x267005 x273000 x273001) else (impl_Unpack.j3 k x9 x10 false x267000 x267001 x267002 x267003 x267004 x267005 x273000 x273001))))
def impl_Unpack.j3 : Nat → Int → Bool → Bool → Int → Int → Int → Int → Int → Bool → Int → Int → Option (Int × Bool × Int × Int × Int)
 | 0, _, _, _, _, _, _, _, _, _, _, _ => none
 | k + 1, x9, x10, x99, x267000, x267001, x267002, x267003, x267004, x267005, x273000, x273001 => if x99 = true then (some (1, x10, 0, 0, 0)) else (if x9 = 0 then ((impl_layout_qMin.f x267000 x267001 x267002 x267003 x267004 x267005).bind fun t286 => (some (2, x10, x273000, x273001, t286))) else ((impl_one.f (wrap64 (x267000 - 1))).bind fun bt287 => ((impl_Word_or.f x273000 x273001 bt287.1 bt287.2).bind fun bt289 => (some (3, x10, bt289.1, bt289.2, wrap64 ((wrap64 ((wrap64 (x9 - x267002)) - x267000)) + 1))))))
end
def impl_Unpack.f (k : Nat) (a0 : Int) (a1_0 : Int) (a1_1 : Int) : Option (Int × Bool × Int × Int × Int) := (impl_layoutOf.f a0).bind fun bt259 => (if bt259.2.2.2.2.2.2 = true then (if bt259.2.2.2.1 < 128 then ((impl_Word_right.f a1_0 a1_1 bt259.2.2.2.1).bind fun bt267 => (impl_Unpack.j0 k (!(bt267.1 == 0) || (!(bt267.2 == 0))) a1_0 a1_1 bt259.1 bt259.2.1 bt259.2.2.1 bt259.2.2.2.1 bt259.2.2.2.2.1 bt259.2.2.2.2.2.1)) else (impl_Unpack.j0 k false a1_0 a1_1 bt259.1 bt259.2.1 bt259.2.2.1 bt259.2.2.2.1 bt259.2.2.2.2.1 bt259.2.2.2.2.2.1)) else (impl_Unpack.j0 k true a1_0 a1_1 bt259.1 bt259.2.1 bt259.2.2.1 bt259.2.2.2.1 bt259.2.2.2.2.1 bt259.2.2.2.2.2.1))
def impl_Unpack.T6 : Bool × List (List Nat × List Nat) := (true, [([], []), ([], []), ([0, 1], [0, 1]), ([], []), ([3], [3]), ([4], [4]), ([2, 5, 2], [2, 5]), ([6], [6]), ([7], [7]), ([8, 6, 0, 1, 2, 3, 4, 5, 6, 7, 8], [8])])
def impl_Unpack.B6 : List Nat := [0, 0, 3, 0, 8, 24, 63, 127, 255, 511]
theorem impl_Unpack.tab6 : rtab .any (opsOf Tryd.f17 6) = impl_Unpack.T6 := by kernel_rfl
theorem impl_Unpack.bits6 : waitsOk impl_Unpack.T6.2 impl_Unpack.B6 = true := by kernel_rfl
def impl_Unpack.T22 : Bool × List (List Nat × List Nat) := (true, [([], []), ([], []), ([], []), ([2], [2]), ([3], [3]), ([4], [4]), ([5], [5]), ([1, 6, 6], [1, 6]), ([], []), ([], []), ([9], [9]), ([10], [10]), ([8, 11], [8, 11]), ([], []), ([13], [13]), ([14], [14]), ([12, 15], [12, 15]), ([16], [16]), ([0, 7, 17], [0, 7, 17]), ([18, 7, 0, 1, 2, 3, 4, 5, 6, 7, 8, 9, 10, 11, 12, 13, 14, 15, 16, 17, 18], [18])])
def impl_Unpack.B22 : List Nat := [0, 0, 0, 4, 12, 28, 60, 126, 0, 0, 512, 1536, 3840, 0, 8192, 24576, 65280, 130816, 262143, 524287]
theorem impl_Unpack.tab22 : rtab .any (opsOf Tryd.f17 22) = impl_Unpack.T22 := by kernel_rfl
theorem impl_Unpack.bits22 : waitsOk impl_Unpack.T22.2 impl_Unpack.B22 = true := by kernel_rfl
set_option maxHeartbeats 8000000 in
set_option maxRecDepth 100000 in
theorem impl_Unpack.calls (k : Nat) (a0 : Int) (a1_0 : Int) (a1_1 : Int) (r1 : Int) (r2 : Bool) (r3 : Int) (r4 : Int) (r5 : Int) (w : World) (hT : Tabled w) (h : impl_Unpack.f k a0 a1_0 a1_1 = some (r1, r2, r3, r4, r5)) :
  Calls Tryd.prog 17 #[.int .i64 a0, .agg #[.int .u64 a1_0, .int .u64 a1_1]] w fun e w' => e = .returned (.agg #[.int .i64 r1, .bool r2, .int .u64 r3, .int .u64 r4, .int .i64 r5]) ∧ Below w.heap.size w w' := by
 have hu25 := Tryd.underlying25
 have hu27 := Tryd.underlying27
 have hu91 := Tryd.underlying91
 have HTb_ := Aside0.mk hT
 clear hT
 have HB := Aside0.mk (Below.refl w.heap.size w)
 have H : ((impl_layoutOf.f a0).bind fun bt259 => (if bt259.2.2.2.2.2.2 = true then (if bt259.2.2.2.1 < 128 then ((impl_Word_right.f a1_0 a1_1 bt259.2.2.2.1).bind fun bt267 => (impl_Unpack.j0 k (!(bt267.1 == 0) || (!(bt267.2 == 0))) a1_0 a1_1 bt259.1 bt259.2.1 bt259.2.2.1 bt259.2.2.2.1 bt259.2.2.2.2.1 bt259.2.2.2.2.2.1)) else (impl_Unpack.j0 k false a1_0 a1_1 bt259.1 bt259.2.1 bt259.2.2.1 bt259.2.2.2.1 bt259.2.2.2.2.1 bt259.2.2.2.2.2.1)) else (impl_Unpack.j0 k true a1_0 a1_1 bt259.1 bt259.2.1 bt259.2.2.1 bt259.2.2.2.1 bt259.2.2.2.2.1 bt259.2.2.2.2.2.1))) = some (r1, r2, r3, r4, r5) := h
 clear h
 replace H := Option.bind_eq_some_iff.mp H
 obtain ⟨⟨t259, t260, t261, t262, t263, t264, t265⟩, A30, H⟩ := H
 replace H : (if t265 = true then (if t262 < 128 then ((impl_Word_right.f a1_0 a1_1 t262).bind fun bt267 => (impl_Unpack.j0 k (!(bt267.1 == 0) || (!(bt267.2 == 0))) a1_0 a1_1 t259 t260 t261 t262 t263 t264)) else (impl_Unpack.j0 k false a1_0 a1_1 t259 t260 t261 t262 t263 t264)) else (impl_Unpack.j0 k true a1_0 a1_1 t259 t260 t261 t262 t263 t264)) = some (r1, r2, r3, r4, r5) := H
 have A3 := Aside0.mk A30
 clear A30
 have HC4 := Aside0.mk H
 clear H
 go_enter Tryd.func17, Tryd.ntmps17
 go_upto_region 2 with (first | ((with_reducible refine gate_dst (N := 3) rfl ?_); refine box_event ?hg (N := 3) ?hd (cs := #[.int .u64 a1_0, .int .u64 a1_1]) (t := 25) ?hr ?_; (case hd => rfl); (case hg => rfl); (case hr => first | (go_simp; done) | (go_simp; rfl)); intro gb257 hg w5 hbox hb; have n0_ := Aside0.mk (below_step (by repeat (first | (with_reducible first | exact HB.out | apply below_alloc | apply pw_below_drewN | apply below_drew1) | exact HB.out)) hb); have n1_ := Aside0.mk (hbox); have n2_ := Aside0.mk ((by rw [hg]; exact (below_size (by repeat (first | (with_reducible first | exact HB.out | apply below_alloc | apply pw_below_drewN | apply below_drew1) | exact HB.out))) : w.heap.size ≤ gb257)); have n3_ := Aside0.mk ((by rw [hg]; exact (below_size (by repeat (first | (with_reducible first | exact HB.out | apply below_alloc | apply pw_below_drewN | apply below_drew1) | exact HB.out))) : w.heap.size ≤ gb257)); clear HB; have HB := n0_; have BK257 := n1_; have GW257 := n2_; have GE257 := n3_; clear n0_ n1_ n2_ n3_; clear hb hbox hg) | ((with_reducible refine gate_dst (N := 4) rfl ?_); refine box_event ?hg (N := 4) ?hd (cs := #[.int .i64 0, .bool false, .int .u64 0, .int .u64 0, .int .i64 0]) (t := 27) ?hr ?_; (case hd => rfl); (case hg => rfl); (case hr => first | (go_simp; done) | (go_simp; rfl)); intro gb258 hg w6 hbox hb; have n0_ := Aside0.mk (blk_below (g := gb257) (o := .cells #[.int .u64 a1_0, .int .u64 a1_1] 25 (0, 0)) (by (with_reducible repeat (first | refine blk_drewN ?_ _ | refine blk_drew ?_ | refine blk_alloc ?_ _)); exact BK257.out) hb); have n1_ := Aside0.mk (below_step (by repeat (first | (with_reducible first | exact HB.out | apply below_alloc | apply pw_below_drewN | apply below_drew1 | refine below_set ?_ GE257.out) | exact HB.out)) hb); have n2_ := Aside0.mk (hbox); have n3_ := Aside0.mk ((by rw [hg]; exact (below_size (by repeat (first | (with_reducible first | exact HB.out | apply below_alloc | apply pw_below_drewN | apply below_drew1 | refine below_set ?_ GE257.out) | exact HB.out))) : w.heap.size ≤ gb258)); have n4_ := Aside0.mk ((by rw [hg]; exact (below_size (by repeat (first | (with_reducible first | exact HB.out | apply below_alloc | apply pw_below_drewN | apply below_drew1 | refine below_set ?_ GE257.out) | exact HB.out))) : w.heap.size ≤ gb258)); have n5_ := Aside0.mk ((by rw [hg]; exact Nat.ne_of_lt (blk_lt (g := gb257) (o := .cells #[.int .u64 a1_0, .int .u64 a1_1] 25 (0, 0)) (by (with_reducible repeat (first | refine blk_drewN ?_ _ | refine blk_drew ?_ | refine blk_alloc ?_ _)); exact BK257.out)) : gb257 ≠ gb258)); have n6_ := Aside0.mk ((by rw [hg]; exact Nat.ne_of_gt (blk_lt (g := gb257) (o := .cells #[.int .u64 a1_0, .int .u64 a1_1] 25 (0, 0)) (by (with_reducible repeat (first | refine blk_drewN ?_ _ | refine blk_drew ?_ | refine blk_alloc ?_ _)); exact BK257.out)) : gb258 ≠ gb257)); clear BK257; clear HB; have BK257 := n0_; have HB := n1_; have BK258 := n2_; have GW258 := n3_; have GE258 := n4_; have NB257_258 := n5_; have NB258_257 := n6_; clear n0_ n1_ n2_ n3_ n4_ n5_ n6_; clear hb hbox hg) | ((with_reducible refine gate_callee (f := 65) rfl ?_); refine goesL_ (some 15) rfl rfl Tryd.func65 (by kernel_rfl) rfl #[.int .i64 a0] rfl (by (try simp only [List.map_toArray, List.map_cons, List.map_nil]); first | done | rfl | (simp only [List.length_drop, List.length_take]; rfl)) ?_; (with_reducible refine (impl_layoutOf.calls a0 t259 t260 t261 t262 t263 t264 t265 _ ?side1 A3.out).mono ?_); (case side1 => exact tabled_below HTb_.out (by repeat (first | (with_reducible first | exact HB.out | apply below_alloc | apply pw_below_drewN | apply below_drew1 | refine below_set ?_ GE257.out | refine below_set ?_ GE258.out) | exact HB.out))); rintro e w7 ⟨rfl, hb⟩; refine ⟨_, rfl, ?_⟩; have n0_ := Aside0.mk (blk_below (g := gb257) (o := .cells #[.int .u64 a1_0, .int .u64 a1_1] 25 (0, 0)) (by (with_reducible repeat (first | refine blk_drewN ?_ _ | refine blk_drew ?_ | refine blk_alloc ?_ _)); exact BK257.out) hb); have n1_ := Aside0.mk (blk_below (g := gb258) (o := .cells #[.int .i64 0, .bool false, .int .u64 0, .int .u64 0, .int .i64 0] 27 (0, 0)) (by (with_reducible repeat (first | refine blk_drewN ?_ _ | refine blk_drew ?_ | refine blk_alloc ?_ _)); exact BK258.out) hb); have n2_ := Aside0.mk (below_step (by repeat (first | (with_reducible first | exact HB.out | apply below_alloc | apply pw_below_drewN | apply below_drew1 | refine below_set ?_ GE257.out | refine below_set ?_ GE258.out) | exact HB.out)) hb); clear BK257; clear BK258; clear HB; have BK257 := n0_; have BK258 := n1_; have HB := n2_; clear n0_ n1_ n2_; (try clear hb); (try clear hb2); (try clear hk); (try clear hi)) | ((with_reducible refine gate_dst (N := 5) rfl ?_); refine box_event ?hg (N := 5) ?hd (cs := #[.int .i64 0, .int .i64 0, .int .i64 0, .int .i64 0, .int .i64 0, .bool false]) (t := 91) ?hr ?_; (case hd => rfl); (case hg => rfl); (case hr => first | (go_simp; done) | (go_simp; rfl)); intro gb266 hg w8 hbox hb; have n0_ := Aside0.mk (blk_below (g := gb257) (o := .cells #[.int .u64 a1_0, .int .u64 a1_1] 25 (0, 0)) (by (with_reducible repeat (first | refine blk_drewN ?_ _ | refine blk_drew ?_ | refine blk_alloc ?_ _)); exact BK257.out) hb); have n1_ := Aside0.mk (blk_below (g := gb258) (o := .cells #[.int .i64 0, .bool false, .int .u64 0, .int .u64 0, .int .i64 0] 27 (0, 0)) (by (with_reducible repeat (first | refine blk_drewN ?_ _ | refine blk_drew ?_ | refine blk_alloc ?_ _)); exact BK258.out) hb); have n2_ := Aside0.mk (below_step (by repeat (first | (with_reducible first | exact HB.out | apply below_alloc | apply pw_below_drewN | apply below_drew1 | refine below_set ?_ GE257.out | refine below_set ?_ GE258.out) | exact HB.out)) hb); have n3_ := Aside0.mk (hbox); have n4_ := Aside0.mk ((by rw [hg]; exact (below_size (by repeat (first | (with_reducible first | exact HB.out | apply below_alloc | apply pw_below_drewN | apply below_drew1 | refine below_set ?_ GE257.out | refine below_set ?_ GE258.out) | exact HB.out))) : w.heap.size ≤ gb266)); have n5_ := Aside0.mk ((by rw [hg]; exact (below_size (by repeat (first | (with_reducible first | exact HB.out | apply below_alloc | apply pw_below_drewN | apply below_drew1 | refine below_set ?_ GE257.out | refine below_set ?_ GE258.out) | exact HB.out))) : w.heap.size ≤ gb266)); have n6_ := Aside0.mk ((by rw [hg]; exact Nat.ne_of_lt (blk_lt (g := gb257) (o := .cells #[.int .u64 a1_0, .int .u64 a1_1] 25 (0, 0)) (by (with_reducible repeat (first | refine blk_drewN ?_ _ | refine blk_drew ?_ | refine blk_alloc ?_ _)); exact BK257.out)) : gb257 ≠ gb266)); have n7_ := Aside0.mk ((by rw [hg]; exact Nat.ne_of_gt (blk_lt (g := gb257) (o := .cells #[.int .u64 a1_0, .int .u64 a1_1] 25 (0, 0)) (by (with_reducible repeat (first | refine blk_drewN ?_ _ | refine blk_drew ?_ | refine blk_alloc ?_ _)); exact BK257.out)) : gb266 ≠ gb257)); have n8_ := Aside0.mk ((by rw [hg]; exact Nat.ne_of_lt (blk_lt (g := gb258) (o := .cells #[.int .i64 0, .bool false, .int .u64 0, .int .u64 0, .int .i64 0] 27 (0, 0)) (by (with_reducible repeat (first | refine blk_drewN ?_ _ | refine blk_drew ?_ | refine blk_alloc ?_ _)); exact BK258.out)) : gb258 ≠ gb266)); have n9_ := Aside0.mk ((by rw [hg]; exact Nat.ne_of_gt (blk_lt (g := gb258) (o := .cells #[.int .i64 0, .bool false, .int .u64 0, .int .u64 0, .int .i64 0] 27 (0, 0)) (by (with_reducible repeat (first | refine blk_drewN ?_ _ | refine blk_drew ?_ | refine blk_alloc ?_ _)); exact BK258.out)) : gb266 ≠ gb258)); clear BK257; clear BK258; clear HB; have BK257 := n0_; have BK258 := n1_; have HB := n2_; have BK266 := n3_; have GW266 := n4_; have GE266 := n5_; have NB257_266 := n6_; have NB266_257 := n7_; have NB258_266 := n8_; have NB266_258 := n9_; clear n0_ n1_ n2_ n3_ n4_ n5_ n6_ n7_ n8_ n9_; clear hb hbox hg; have hnb9 := NB266_257.out; have hnc9 := NB257_266.out; have hnb10 := NB266_258.out; have hnc10 := NB258_266.out; have hcz11_0 : w8.cell? ⟨gb266, 0, none⟩ = some (.int .i64 0) := (blk_cell BK266.out 0).trans rfl; have hcz11_1 : w8.cell? ⟨gb266, 1, none⟩ = some (.int .i64 0) := (blk_cell BK266.out 1).trans rfl; have hcz11_2 : w8.cell? ⟨gb266, 2, none⟩ = some (.int .i64 0) := (blk_cell BK266.out 2).trans rfl; have hcz11_3 : w8.cell? ⟨gb266, 3, none⟩ = some (.int .i64 0) := (blk_cell BK266.out 3).trans rfl; have hcz11_4 : w8.cell? ⟨gb266, 4, none⟩ = some (.int .i64 0) := (blk_cell BK266.out 4).trans rfl; have hcz11_5 : w8.cell? ⟨gb266, 5, none⟩ = some (.bool false) := (blk_cell BK266.out 5).trans rfl; have hfz11_0 := blk_frozen BK266.out 0; have hfz11_1 := blk_frozen BK266.out 1; have hfz11_2 := blk_frozen BK266.out 2; have hfz11_3 := blk_frozen BK266.out 3; have hfz11_4 := blk_frozen BK266.out 4; have hfz11_5 := blk_frozen BK266.out 5))
 (try simp only [Act.put, List.setIfInBounds_toArray, List.set_cons_zero, List.set_cons_succ])
 go_cut [34] (fun v34 wc => ∃ (kq : Nat) (x34_3 : Bool), v34 = .bool x34_3 ∧ Aside0 (impl_Unpack.j0 kq x34_3 a1_0 a1_1 t259 t260 t261 t262 t263 t264 = some (r1, r2, r3, r4, r5)) ∧ Aside0 (kq ≤ k) ∧ Aside0 (wc.heap[gb257]? = some (.cells #[.int .u64 a1_0, .int .u64 a1_1] 25 (0, 0))) ∧ Aside0 (wc.heap[gb258]? = some (.cells #[.int .i64 0, .bool false, .int .u64 0, .int .u64 0, .int .i64 0] 27 (0, 0))) ∧ Aside0 (wc.heap[gb266]? = some (.cells #[.int .i64 t259, .int .i64 t260, .int .i64 t261, .int .i64 t262, .int .i64 t263, .bool t264] 91 (0, 0))) ∧ Aside0 (Below w.heap.size w wc))
 case first =>
  have H := HC4.out
  clear HC4
  by_cases c12 : t265 = true
  ·subst c12
   have H1 : (if t262 < 128 then ((impl_Word_right.f a1_0 a1_1 t262).bind fun bt267 => (impl_Unpack.j0 k (!(bt267.1 == 0) || (!(bt267.2 == 0))) a1_0 a1_1 t259 t260 t261 t262 t263 t264)) else (impl_Unpack.j0 k false a1_0 a1_1 t259 t260 t261 t262 t263 t264)) = some (r1, r2, r3, r4, r5) := by rw [if_pos rfl] at H; exact H
   clear H
   have H := H1
   clear H1
   by_cases c13 : t262 < 128
   ·rw [if_pos c13] at H
    have c13b0 : decide (t262 < 128) = true := decide_eq_true c13
    clear c13
    (first | rw [c13b0] | (simp only [i64_w, i32_w]; rw [c13b0]) | rw [c13b1] | (simp only [c13b1]) | skip)
    replace H := Option.bind_eq_some_iff.mp H
    obtain ⟨⟨t267, t268⟩, A140, H⟩ := H
    replace H : (impl_Unpack.j0 k (!(t267 == 0) || (!(t268 == 0))) a1_0 a1_1 t259 t260 t261 t262 t263 t264) = some (r1, r2, r3, r4, r5) := H
    have A14 := Aside0.mk A140
    clear A140
    have H' := Aside0.mk H
    clear H
    have hnb15 := NB266_257.out
    have hnc15 := NB257_266.out
    have hnb16 := NB266_258.out
    have hnc16 := NB258_266.out
    have hcz17_0 : w8.cell? ⟨gb266, 0, none⟩ = some (.int .i64 0) := (blk_cell BK266.out 0).trans rfl
    have hcz17_1 : w8.cell? ⟨gb266, 1, none⟩ = some (.int .i64 0) := (blk_cell BK266.out 1).trans rfl
    have hcz17_2 : w8.cell? ⟨gb266, 2, none⟩ = some (.int .i64 0) := (blk_cell BK266.out 2).trans rfl
    have hcz17_3 : w8.cell? ⟨gb266, 3, none⟩ = some (.int .i64 0) := (blk_cell BK266.out 3).trans rfl
    have hcz17_4 : w8.cell? ⟨gb266, 4, none⟩ = some (.int .i64 0) := (blk_cell BK266.out 4).trans rfl
    have hcz17_5 : w8.cell? ⟨gb266, 5, none⟩ = some (.bool false) := (blk_cell BK266.out 5).trans rfl
    have hfz17_0 := blk_frozen BK266.out 0
    have hfz17_1 := blk_frozen BK266.out 1
    have hfz17_2 := blk_frozen BK266.out 2
    have hfz17_3 := blk_frozen BK266.out 3
    have hfz17_4 := blk_frozen BK266.out 4
    have hfz17_5 := blk_frozen BK266.out 5
    have hnb18 := NB257_258.out
    have hnc18 := NB258_257.out
    have hcz19_0 : w8.cell? ⟨gb257, 0, none⟩ = some (.int .u64 a1_0) := (blk_cell BK257.out 0).trans rfl
    have hcz19_1 : w8.cell? ⟨gb257, 1, none⟩ = some (.int .u64 a1_1) := (blk_cell BK257.out 1).trans rfl
    have hfz19_0 := blk_frozen BK257.out 0
    have hfz19_1 := blk_frozen BK257.out 1
    go_wp2_with (first | (go_at_call 66; (with_reducible refine (impl_Word_right.calls a1_0 a1_1 t262 t267 t268 _ A14.out).mono ?_); rintro e w20 ⟨rfl, hb⟩; have n0_ := Aside0.mk (blk_below (g := gb257) (o := .cells #[.int .u64 a1_0, .int .u64 a1_1] 25 (0, 0)) (by (with_reducible repeat (first | refine blk_drewN ?_ _ | refine blk_drew ?_ | refine blk_alloc ?_ _)); refine blk_far ?_ NB257_266.out _; (with_reducible repeat (first | refine blk_drewN ?_ _ | refine blk_drew ?_ | refine blk_alloc ?_ _)); refine blk_far ?_ NB257_266.out _; (with_reducible repeat (first | refine blk_drewN ?_ _ | refine blk_drew ?_ | refine blk_alloc ?_ _)); refine blk_far ?_ NB257_266.out _; (with_reducible repeat (first | refine blk_drewN ?_ _ | refine blk_drew ?_ | refine blk_alloc ?_ _)); refine blk_far ?_ NB257_266.out _; (with_reducible repeat (first | refine blk_drewN ?_ _ | refine blk_drew ?_ | refine blk_alloc ?_ _)); refine blk_far ?_ NB257_266.out _; (with_reducible repeat (first | refine blk_drewN ?_ _ | refine blk_drew ?_ | refine blk_alloc ?_ _)); refine blk_far ?_ NB257_266.out _; (with_reducible repeat (first | refine blk_drewN ?_ _ | refine blk_drew ?_ | refine blk_alloc ?_ _)); exact BK257.out) hb); have n1_ := Aside0.mk (blk_below (g := gb258) (o := .cells #[.int .i64 0, .bool false, .int .u64 0, .int .u64 0, .int .i64 0] 27 (0, 0)) (by (with_reducible repeat (first | refine blk_drewN ?_ _ | refine blk_drew ?_ | refine blk_alloc ?_ _)); refine blk_far ?_ NB258_266.out _; (with_reducible repeat (first | refine blk_drewN ?_ _ | refine blk_drew ?_ | refine blk_alloc ?_ _)); refine blk_far ?_ NB258_266.out _; (with_reducible repeat (first | refine blk_drewN ?_ _ | refine blk_drew ?_ | refine blk_alloc ?_ _)); refine blk_far ?_ NB258_266.out _; (with_reducible repeat (first | refine blk_drewN ?_ _ | refine blk_drew ?_ | refine blk_alloc ?_ _)); refine blk_far ?_ NB258_266.out _; (with_reducible repeat (first | refine blk_drewN ?_ _ | refine blk_drew ?_ | refine blk_alloc ?_ _)); refine blk_far ?_ NB258_266.out _; (with_reducible repeat (first | refine blk_drewN ?_ _ | refine blk_drew ?_ | refine blk_alloc ?_ _)); refine blk_far ?_ NB258_266.out _; (with_reducible repeat (first | refine blk_drewN ?_ _ | refine blk_drew ?_ | refine blk_alloc ?_ _)); exact BK258.out) hb); have n2_ := Aside0.mk (blk_below (g := gb266) (o := .cells #[.int .i64 t259, .int .i64 t260, .int .i64 t261, .int .i64 t262, .int .i64 t263, .bool t264] 91 (0, 0)) (by (with_reducible repeat (first | refine blk_drewN ?_ _ | refine blk_drew ?_ | refine blk_alloc ?_ _)); refine blk_put (cs := #[.int .i64 t259, .int .i64 t260, .int .i64 t261, .int .i64 t262, .int .i64 t263, .bool false]) ?_ 5 _ rfl; (with_reducible repeat (first | refine blk_drewN ?_ _ | refine blk_drew ?_ | refine blk_alloc ?_ _)); refine blk_put (cs := #[.int .i64 t259, .int .i64 t260, .int .i64 t261, .int .i64 t262, .int .i64 0, .bool false]) ?_ 4 _ rfl; (with_reducible repeat (first | refine blk_drewN ?_ _ | refine blk_drew ?_ | refine blk_alloc ?_ _)); refine blk_put (cs := #[.int .i64 t259, .int .i64 t260, .int .i64 t261, .int .i64 0, .int .i64 0, .bool false]) ?_ 3 _ rfl; (with_reducible repeat (first | refine blk_drewN ?_ _ | refine blk_drew ?_ | refine blk_alloc ?_ _)); refine blk_put (cs := #[.int .i64 t259, .int .i64 t260, .int .i64 0, .int .i64 0, .int .i64 0, .bool false]) ?_ 2 _ rfl; (with_reducible repeat (first | refine blk_drewN ?_ _ | refine blk_drew ?_ | refine blk_alloc ?_ _)); refine blk_put (cs := #[.int .i64 t259, .int .i64 0, .int .i64 0, .int .i64 0, .int .i64 0, .bool false]) ?_ 1 _ rfl; (with_reducible repeat (first | refine blk_drewN ?_ _ | refine blk_drew ?_ | refine blk_alloc ?_ _)); refine blk_put (cs := #[.int .i64 0, .int .i64 0, .int .i64 0, .int .i64 0, .int .i64 0, .bool false]) ?_ 0 _ rfl; (with_reducible repeat (first | refine blk_drewN ?_ _ | refine blk_drew ?_ | refine blk_alloc ?_ _)); exact BK266.out) hb); have n3_ := Aside0.mk (below_step (by repeat (first | (with_reducible first | exact HB.out | apply below_alloc | apply pw_below_drewN | apply below_drew1 | refine below_set ?_ GE257.out | refine below_set ?_ GE258.out | refine below_set ?_ GE266.out) | exact HB.out)) hb); clear BK257; clear BK258; clear BK266; clear HB; have BK257 := n0_; have BK258 := n1_; have BK266 := n2_; have HB := n3_; clear n0_ n1_ n2_ n3_; (try clear hb); (try clear hb2); (try clear hk); (try clear hi)))
    go_meet
    case rel => exact ⟨_, ((!(t267 == 0) || (!(t268 == 0)))), (by first | rfl | (simp; done) | (simp [*]; done)), H', ⟨by first | omega | exact Nat.le_refl _⟩, ⟨by (with_reducible repeat (first | refine blk_drewN ?_ _ | refine blk_drew ?_ | refine blk_alloc ?_ _)); exact BK257.out⟩, ⟨by (with_reducible repeat (first | refine blk_drewN ?_ _ | refine blk_drew ?_ | refine blk_alloc ?_ _)); exact BK258.out⟩, ⟨by (with_reducible repeat (first | refine blk_drewN ?_ _ | refine blk_drew ?_ | refine blk_alloc ?_ _)); exact BK266.out⟩, ⟨by repeat (first | (with_reducible first | exact HB.out | apply below_alloc | apply pw_below_drewN | apply below_drew1 | refine below_set ?_ GE257.out | refine below_set ?_ GE258.out | refine below_set ?_ GE266.out) | exact HB.out)⟩⟩
   ·rw [if_neg c13] at H
    have c13b0 : decide (t262 < 128) = false := decide_eq_false c13
    clear c13
    (first | rw [c13b0] | (simp only [i64_w, i32_w]; rw [c13b0]) | rw [c13b1] | (simp only [c13b1]) | skip)
    have H' := Aside0.mk H
    clear H
    have hnb21 := NB266_257.out
    have hnc21 := NB257_266.out
    have hnb22 := NB266_258.out
    have hnc22 := NB258_266.out
    have hcz23_0 : w8.cell? ⟨gb266, 0, none⟩ = some (.int .i64 0) := (blk_cell BK266.out 0).trans rfl
    have hcz23_1 : w8.cell? ⟨gb266, 1, none⟩ = some (.int .i64 0) := (blk_cell BK266.out 1).trans rfl
    have hcz23_2 : w8.cell? ⟨gb266, 2, none⟩ = some (.int .i64 0) := (blk_cell BK266.out 2).trans rfl
    have hcz23_3 : w8.cell? ⟨gb266, 3, none⟩ = some (.int .i64 0) := (blk_cell BK266.out 3).trans rfl
    have hcz23_4 : w8.cell? ⟨gb266, 4, none⟩ = some (.int .i64 0) := (blk_cell BK266.out 4).trans rfl
    have hcz23_5 : w8.cell? ⟨gb266, 5, none⟩ = some (.bool false) := (blk_cell BK266.out 5).trans rfl
    have hfz23_0 := blk_frozen BK266.out 0
    have hfz23_1 := blk_frozen BK266.out 1
    have hfz23_2 := blk_frozen BK266.out 2
    have hfz23_3 := blk_frozen BK266.out 3
    have hfz23_4 := blk_frozen BK266.out 4
    have hfz23_5 := blk_frozen BK266.out 5
    go_wp2
    go_meet
    case rel => exact ⟨_, (false), (by first | rfl | (simp; done) | (simp [*]; done)), H', ⟨by first | omega | exact Nat.le_refl _⟩, ⟨by (with_reducible repeat (first | refine blk_drewN ?_ _ | refine blk_drew ?_ | refine blk_alloc ?_ _)); refine blk_far ?_ NB257_266.out _; (with_reducible repeat (first | refine blk_drewN ?_ _ | refine blk_drew ?_ | refine blk_alloc ?_ _)); refine blk_far ?_ NB257_266.out _; (with_reducible repeat (first | refine blk_drewN ?_ _ | refine blk_drew ?_ | refine blk_alloc ?_ _)); refine blk_far ?_ NB257_266.out _; (with_reducible repeat (first | refine blk_drewN ?_ _ | refine blk_drew ?_ | refine blk_alloc ?_ _)); refine blk_far ?_ NB257_266.out _; (with_reducible repeat (first | refine blk_drewN ?_ _ | refine blk_drew ?_ | refine blk_alloc ?_ _)); refine blk_far ?_ NB257_266.out _; (with_reducible repeat (first | refine blk_drewN ?_ _ | refine blk_drew ?_ | refine blk_alloc ?_ _)); refine blk_far ?_ NB257_266.out _; (with_reducible repeat (first | refine blk_drewN ?_ _ | refine blk_drew ?_ | refine blk_alloc ?_ _)); exact BK257.out⟩, ⟨by (with_reducible repeat (first | refine blk_drewN ?_ _ | refine blk_drew ?_ | refine blk_alloc ?_ _)); refine blk_far ?_ NB258_266.out _; (with_reducible repeat (first | refine blk_drewN ?_ _ | refine blk_drew ?_ | refine blk_alloc ?_ _)); refine blk_far ?_ NB258_266.out _; (with_reducible repeat (first | refine blk_drewN ?_ _ | refine blk_drew ?_ | refine blk_alloc ?_ _)); refine blk_far ?_ NB258_266.out _; (with_reducible repeat (first | refine blk_drewN ?_ _ | refine blk_drew ?_ | refine blk_alloc ?_ _)); refine blk_far ?_ NB258_266.out _; (with_reducible repeat (first | refine blk_drewN ?_ _ | refine blk_drew ?_ | refine blk_alloc ?_ _)); refine blk_far ?_ NB258_266.out _; (with_reducible repeat (first | refine blk_drewN ?_ _ | refine blk_drew ?_ | refine blk_alloc ?_ _)); refine blk_far ?_ NB258_266.out _; (with_reducible repeat (first | refine blk_drewN ?_ _ | refine blk_drew ?_ | refine blk_alloc ?_ _)); exact BK258.out⟩, ⟨by (with_reducible repeat (first | refine blk_drewN ?_ _ | refine blk_drew ?_ | refine blk_alloc ?_ _)); refine blk_put (cs := #[.int .i64 t259, .int .i64 t260, .int .i64 t261, .int .i64 t262, .int .i64 t263, .bool false]) ?_ 5 _ rfl; (with_reducible repeat (first | refine blk_drewN ?_ _ | refine blk_drew ?_ | refine blk_alloc ?_ _)); refine blk_put (cs := #[.int .i64 t259, .int .i64 t260, .int .i64 t261, .int .i64 t262, .int .i64 0, .bool false]) ?_ 4 _ rfl; (with_reducible repeat (first | refine blk_drewN ?_ _ | refine blk_drew ?_ | refine blk_alloc ?_ _)); refine blk_put (cs := #[.int .i64 t259, .int .i64 t260, .int .i64 t261, .int .i64 0, .int .i64 0, .bool false]) ?_ 3 _ rfl; (with_reducible repeat (first | refine blk_drewN ?_ _ | refine blk_drew ?_ | refine blk_alloc ?_ _)); refine blk_put (cs := #[.int .i64 t259, .int .i64 t260, .int .i64 0, .int .i64 0, .int .i64 0, .bool false]) ?_ 2 _ rfl; (with_reducible repeat (first | refine blk_drewN ?_ _ | refine blk_drew ?_ | refine blk_alloc ?_ _)); refine blk_put (cs := #[.int .i64 t259, .int .i64 0, .int .i64 0, .int .i64 0, .int .i64 0, .bool false]) ?_ 1 _ rfl; (with_reducible repeat (first | refine blk_drewN ?_ _ | refine blk_drew ?_ | refine blk_alloc ?_ _)); refine blk_put (cs := #[.int .i64 0, .int .i64 0, .int .i64 0, .int .i64 0, .int .i64 0, .bool false]) ?_ 0 _ rfl; (with_reducible repeat (first | refine blk_drewN ?_ _ | refine blk_drew ?_ | refine blk_alloc ?_ _)); exact BK266.out⟩, ⟨by repeat (first | (with_reducible first | exact HB.out | apply below_alloc | apply pw_below_drewN | apply below_drew1 | refine below_set ?_ GE257.out | refine below_set ?_ GE258.out | refine below_set ?_ GE266.out) | exact HB.out)⟩⟩
  ·replace c12 := Bool.eq_false_iff.mpr c12
   subst c12
   have H1 : (impl_Unpack.j0 k true a1_0 a1_1 t259 t260 t261 t262 t263 t264) = some (r1, r2, r3, r4, r5) := by rw [if_neg (show ¬ (false = true) by decide)] at H; exact H
   clear H
   have H := H1
   clear H1
   have H' := Aside0.mk H
   clear H
   go_wp2
   go_meet
   case rel => exact ⟨_, (true), (by first | rfl | (simp; done) | (simp [*]; done)), H', ⟨by first | omega | exact Nat.le_refl _⟩, ⟨by (with_reducible repeat (first | refine blk_drewN ?_ _ | refine blk_drew ?_ | refine blk_alloc ?_ _)); refine blk_far ?_ NB257_266.out _; (with_reducible repeat (first | refine blk_drewN ?_ _ | refine blk_drew ?_ | refine blk_alloc ?_ _)); refine blk_far ?_ NB257_266.out _; (with_reducible repeat (first | refine blk_drewN ?_ _ | refine blk_drew ?_ | refine blk_alloc ?_ _)); refine blk_far ?_ NB257_266.out _; (with_reducible repeat (first | refine blk_drewN ?_ _ | refine blk_drew ?_ | refine blk_alloc ?_ _)); refine blk_far ?_ NB257_266.out _; (with_reducible repeat (first | refine blk_drewN ?_ _ | refine blk_drew ?_ | refine blk_alloc ?_ _)); refine blk_far ?_ NB257_266.out _; (with_reducible repeat (first | refine blk_drewN ?_ _ | refine blk_drew ?_ | refine blk_alloc ?_ _)); refine blk_far ?_ NB257_266.out _; (with_reducible repeat (first | refine blk_drewN ?_ _ | refine blk_drew ?_ | refine blk_alloc ?_ _)); exact BK257.out⟩, ⟨by (with_reducible repeat (first | refine blk_drewN ?_ _ | refine blk_drew ?_ | refine blk_alloc ?_ _)); refine blk_far ?_ NB258_266.out _; (with_reducible repeat (first | refine blk_drewN ?_ _ | refine blk_drew ?_ | refine blk_alloc ?_ _)); refine blk_far ?_ NB258_266.out _; (with_reducible repeat (first | refine blk_drewN ?_ _ | refine blk_drew ?_ | refine blk_alloc ?_ _)); refine blk_far ?_ NB258_266.out _; (with_reducible repeat (first | refine blk_drewN ?_ _ | refine blk_drew ?_ | refine blk_alloc ?_ _)); refine blk_far ?_ NB258_266.out _; (with_reducible repeat (first | refine blk_drewN ?_ _ | refine blk_drew ?_ | refine blk_alloc ?_ _)); refine blk_far ?_ NB258_266.out _; (with_reducible repeat (first | refine blk_drewN ?_ _ | refine blk_drew ?_ | refine blk_alloc ?_ _)); refine blk_far ?_ NB258_266.out _; (with_reducible repeat (first | refine blk_drewN ?_ _ | refine blk_drew ?_ | refine blk_alloc ?_ _)); exact BK258.out⟩, ⟨by (with_reducible repeat (first | refine blk_drewN ?_ _ | refine blk_drew ?_ | refine blk_alloc ?_ _)); refine blk_put (cs := #[.int .i64 t259, .int .i64 t260, .int .i64 t261, .int .i64 t262, .int .i64 t263, .bool false]) ?_ 5 _ rfl; (with_reducible repeat (first | refine blk_drewN ?_ _ | refine blk_drew ?_ | refine blk_alloc ?_ _)); refine blk_put (cs := #[.int .i64 t259, .int .i64 t260, .int .i64 t261, .int .i64 t262, .int .i64 0, .bool false]) ?_ 4 _ rfl; (with_reducible repeat (first | refine blk_drewN ?_ _ | refine blk_drew ?_ | refine blk_alloc ?_ _)); refine blk_put (cs := #[.int .i64 t259, .int .i64 t260, .int .i64 t261, .int .i64 0, .int .i64 0, .bool false]) ?_ 3 _ rfl; (with_reducible repeat (first | refine blk_drewN ?_ _ | refine blk_drew ?_ | refine blk_alloc ?_ _)); refine blk_put (cs := #[.int .i64 t259, .int .i64 t260, .int .i64 0, .int .i64 0, .int .i64 0, .bool false]) ?_ 2 _ rfl; (with_reducible repeat (first | refine blk_drewN ?_ _ | refine blk_drew ?_ | refine blk_alloc ?_ _)); refine blk_put (cs := #[.int .i64 t259, .int .i64 0, .int .i64 0, .int .i64 0, .int .i64 0, .bool false]) ?_ 1 _ rfl; (with_reducible repeat (first | refine blk_drewN ?_ _ | refine blk_drew ?_ | refine blk_alloc ?_ _)); refine blk_put (cs := #[.int .i64 0, .int .i64 0, .int .i64 0, .int .i64 0, .int .i64 0, .bool false]) ?_ 0 _ rfl; (with_reducible repeat (first | refine blk_drewN ?_ _ | refine blk_drew ?_ | refine blk_alloc ?_ _)); exact BK266.out⟩, ⟨by repeat (first | (with_reducible first | exact HB.out | apply below_alloc | apply pw_below_drewN | apply below_drew1 | refine below_set ?_ GE257.out | refine below_set ?_ GE258.out | refine below_set ?_ GE266.out) | exact HB.out)⟩⟩
 case rest =>
  clear HC4
  try clear c1; try clear c2; try clear p2; try clear c6; try clear c9; try clear c10; try clear c12; try clear c13; try clear c13b0; try clear c13b1; try clear c15; try clear c16; try clear c17; try clear c18; try clear c21; try clear c22; try clear hcz11_0; try clear hcz11_1; try clear hcz11_2; try clear hcz11_3; try clear hcz11_4; try clear hcz11_5; try clear hcz17_0; try clear hcz17_1; try clear hcz17_2; try clear hcz17_3; try clear hcz17_4; try clear hcz17_5; try clear hcz19_0; try clear hcz19_1; try clear hcz23_0; try clear hcz23_1; try clear hcz23_2; try clear hcz23_3; try clear hcz23_4; try clear hcz23_5; try clear hfz11_0; try clear hfz11_1; try clear hfz11_2; try clear hfz11_3; try clear hfz11_4; try clear hfz11_5; try clear hfz17_0; try clear hfz17_1; try clear hfz17_2; try clear hfz17_3; try clear hfz17_4; try clear hfz17_5; try clear hfz19_0; try clear hfz19_1; try clear hfz23_0; try clear hfz23_1; try clear hfz23_2; try clear hfz23_3; try clear hfz23_4; try clear hfz23_5
  obtain ⟨kq, x34_3, rfl, HA, HJ3, BK257, BK258, BK266, HB⟩ := hcut
  cases kq with
  | zero => exact absurd HA.out (by simp [impl_Unpack.j0])
  | succ kj3 =>
   have H := HA.out
   clear HA
   simp only [impl_Unpack.j0] at H
   by_cases c24 : x34_3 = true
   ·subst c24
    have H1 : (some (0, false, 0, 0, 0)) = some (r1, r2, r3, r4, r5) := by rw [if_pos rfl] at H; exact H
    clear H
    have H := H1
    clear H1
    simp only [Option.some.injEq, Prod.mk.injEq] at H
    obtain ⟨rfl, rfl, rfl, rfl, rfl⟩ := H
    have hnb25 := NB258_257.out
    have hnc25 := NB257_258.out
    have hnb26 := NB258_266.out
    have hnc26 := NB266_258.out
    have hcz27_0 : wc.cell? ⟨gb258, 0, none⟩ = some (.int .i64 0) := (blk_cell BK258.out 0).trans rfl
    have hcz27_1 : wc.cell? ⟨gb258, 1, none⟩ = some (.bool false) := (blk_cell BK258.out 1).trans rfl
    have hcz27_2 : wc.cell? ⟨gb258, 2, none⟩ = some (.int .u64 0) := (blk_cell BK258.out 2).trans rfl
    have hcz27_3 : wc.cell? ⟨gb258, 3, none⟩ = some (.int .u64 0) := (blk_cell BK258.out 3).trans rfl
    have hcz27_4 : wc.cell? ⟨gb258, 4, none⟩ = some (.int .i64 0) := (blk_cell BK258.out 4).trans rfl
    have hfz27_0 := blk_frozen BK258.out 0
    have hfz27_1 := blk_frozen BK258.out 1
    have hfz27_2 := blk_frozen BK258.out 2
    have hfz27_3 := blk_frozen BK258.out 3
    have hfz27_4 := blk_frozen BK258.out 4
    go_wp2
    refine bodyPost_ret (results_cell_row rfl _ _ gb258 27 #[.int .i64 0, .bool false, .int .u64 0, .int .u64 0, .int .i64 0] (0, 0) _ rfl (by (with_reducible repeat (first | refine blk_drewN ?_ _ | refine blk_drew ?_ | refine blk_alloc ?_ _)); refine blk_put (cs := #[.int .i64 0, .bool false, .int .u64 0, .int .u64 0, .int .i64 0]) ?_ 4 _ rfl; (with_reducible repeat (first | refine blk_drewN ?_ _ | refine blk_drew ?_ | refine blk_alloc ?_ _)); refine blk_put (cs := #[.int .i64 0, .bool false, .int .u64 0, .int .u64 0, .int .i64 0]) ?_ 3 _ rfl; (with_reducible repeat (first | refine blk_drewN ?_ _ | refine blk_drew ?_ | refine blk_alloc ?_ _)); refine blk_put (cs := #[.int .i64 0, .bool false, .int .u64 0, .int .u64 0, .int .i64 0]) ?_ 2 _ rfl; (with_reducible repeat (first | refine blk_drewN ?_ _ | refine blk_drew ?_ | refine blk_alloc ?_ _)); refine blk_put (cs := #[.int .i64 0, .bool false, .int .u64 0, .int .u64 0, .int .i64 0]) ?_ 1 _ rfl; (with_reducible repeat (first | refine blk_drewN ?_ _ | refine blk_drew ?_ | refine blk_alloc ?_ _)); refine blk_put (cs := #[.int .i64 0, .bool false, .int .u64 0, .int .u64 0, .int .i64 0]) ?_ 0 _ rfl; (with_reducible repeat (first | refine blk_drewN ?_ _ | refine blk_drew ?_ | refine blk_alloc ?_ _)); exact BK258.out) Tryd.underlying27 rfl (by kernel_rfl)) rfl ?_
    exact ⟨by first | rfl | (simp [errW_none, errW_some] <;> rfl) | (simp [*, errW_none, errW_some] <;> rfl), by repeat (first | (with_reducible first | exact HB.out | apply below_alloc | apply pw_below_drewN | apply below_drew1 | refine below_set ?_ GE257.out | refine below_set ?_ GE258.out | refine below_set ?_ GE266.out) | exact HB.out)⟩
   ·replace c24 := Bool.eq_false_iff.mpr c24
    subst c24
    have H1 : ((impl_layout_fracBits.f t259 t260 t261 t262 t263 t264).bind fun t269 => ((impl_Word_low.f a1_0 a1_1 t269).bind fun bt270 => ((impl_Word_right.f a1_0 a1_1 t269).bind fun bt273 => ((impl_Word_low.f bt273.1 bt273.2 t263).bind fun bt275 => ((impl_Word_right.f a1_0 a1_1 (wrap64 (t262 - 1))).bind fun bt277 => (if t264 = true then ((impl_Word_right.f bt270.1 bt270.2 (wrap64 (t259 - 1))).bind fun bt280 => (if ((!(bt280.1 == 0) || (!(bt280.2 == 0))) != ((wrap64 (bt275.2)) != 0)) = true then (some (0, false, 0, 0, 0)) else ((impl_Word_low.f bt270.1 bt270.2 (wrap64 (t259 - 1))).bind fun bt282 => (impl_Unpack.j1 kj3 (wrap64 (bt275.2)) (!(bt277.1 == 0) || (!(bt277.2 == 0))) t259 t260 t261 t262 t263 t264 bt270.1 bt270.2 bt282.1 bt282.2)))) else (impl_Unpack.j1 kj3 (wrap64 (bt275.2)) (!(bt277.1 == 0) || (!(bt277.2 == 0))) t259 t260 t261 t262 t263 t264 bt270.1 bt270.2 bt270.1 bt270.2))))))) = some (r1, r2, r3, r4, r5) := by rw [if_neg (show ¬ (false = true) by decide)] at H; exact H
    clear H
    have H := H1
    clear H1
    replace H := Option.bind_eq_some_iff.mp H
    obtain ⟨t269, A280, H⟩ := H
    replace H : ((impl_Word_low.f a1_0 a1_1 t269).bind fun bt270 => ((impl_Word_right.f a1_0 a1_1 t269).bind fun bt273 => ((impl_Word_low.f bt273.1 bt273.2 t263).bind fun bt275 => ((impl_Word_right.f a1_0 a1_1 (wrap64 (t262 - 1))).bind fun bt277 => (if t264 = true then ((impl_Word_right.f bt270.1 bt270.2 (wrap64 (t259 - 1))).bind fun bt280 => (if ((!(bt280.1 == 0) || (!(bt280.2 == 0))) != ((wrap64 (bt275.2)) != 0)) = true then (some (0, false, 0, 0, 0)) else ((impl_Word_low.f bt270.1 bt270.2 (wrap64 (t259 - 1))).bind fun bt282 => (impl_Unpack.j1 kj3 (wrap64 (bt275.2)) (!(bt277.1 == 0) || (!(bt277.2 == 0))) t259 t260 t261 t262 t263 t264 bt270.1 bt270.2 bt282.1 bt282.2)))) else (impl_Unpack.j1 kj3 (wrap64 (bt275.2)) (!(bt277.1 == 0) || (!(bt277.2 == 0))) t259 t260 t261 t262 t263 t264 bt270.1 bt270.2 bt270.1 bt270.2)))))) = some (r1, r2, r3, r4, r5) := H
    have A28 := Aside0.mk A280
    clear A280
    replace H := Option.bind_eq_some_iff.mp H
    obtain ⟨⟨t270, t271⟩, A290, H⟩ := H
    replace H : ((impl_Word_right.f a1_0 a1_1 t269).bind fun bt273 => ((impl_Word_low.f bt273.1 bt273.2 t263).bind fun bt275 => ((impl_Word_right.f a1_0 a1_1 (wrap64 (t262 - 1))).bind fun bt277 => (if t264 = true then ((impl_Word_right.f t270 t271 (wrap64 (t259 - 1))).bind fun bt280 => (if ((!(bt280.1 == 0) || (!(bt280.2 == 0))) != ((wrap64 (bt275.2)) != 0)) = true then (some (0, false, 0, 0, 0)) else ((impl_Word_low.f t270 t271 (wrap64 (t259 - 1))).bind fun bt282 => (impl_Unpack.j1 kj3 (wrap64 (bt275.2)) (!(bt277.1 == 0) || (!(bt277.2 == 0))) t259 t260 t261 t262 t263 t264 t270 t271 bt282.1 bt282.2)))) else (impl_Unpack.j1 kj3 (wrap64 (bt275.2)) (!(bt277.1 == 0) || (!(bt277.2 == 0))) t259 t260 t261 t262 t263 t264 t270 t271 t270 t271))))) = some (r1, r2, r3, r4, r5) := H
    have A29 := Aside0.mk A290
    clear A290
    replace H := Option.bind_eq_some_iff.mp H
    obtain ⟨⟨t273, t274⟩, A300, H⟩ := H
    replace H : ((impl_Word_low.f t273 t274 t263).bind fun bt275 => ((impl_Word_right.f a1_0 a1_1 (wrap64 (t262 - 1))).bind fun bt277 => (if t264 = true then ((impl_Word_right.f t270 t271 (wrap64 (t259 - 1))).bind fun bt280 => (if ((!(bt280.1 == 0) || (!(bt280.2 == 0))) != ((wrap64 (bt275.2)) != 0)) = true then (some (0, false, 0, 0, 0)) else ((impl_Word_low.f t270 t271 (wrap64 (t259 - 1))).bind fun bt282 => (impl_Unpack.j1 kj3 (wrap64 (bt275.2)) (!(bt277.1 == 0) || (!(bt277.2 == 0))) t259 t260 t261 t262 t263 t264 t270 t271 bt282.1 bt282.2)))) else (impl_Unpack.j1 kj3 (wrap64 (bt275.2)) (!(bt277.1 == 0) || (!(bt277.2 == 0))) t259 t260 t261 t262 t263 t264 t270 t271 t270 t271)))) = some (r1, r2, r3, r4, r5) := H
    have A30 := Aside0.mk A300
    clear A300
    replace H := Option.bind_eq_some_iff.mp H
    obtain ⟨⟨t275, t276⟩, A310, H⟩ := H
    replace H : ((impl_Word_right.f a1_0 a1_1 (wrap64 (t262 - 1))).bind fun bt277 => (if t264 = true then ((impl_Word_right.f t270 t271 (wrap64 (t259 - 1))).bind fun bt280 => (if ((!(bt280.1 == 0) || (!(bt280.2 == 0))) != ((wrap64 (t276)) != 0)) = true then (some (0, false, 0, 0, 0)) else ((impl_Word_low.f t270 t271 (wrap64 (t259 - 1))).bind fun bt282 => (impl_Unpack.j1 kj3 (wrap64 (t276)) (!(bt277.1 == 0) || (!(bt277.2 == 0))) t259 t260 t261 t262 t263 t264 t270 t271 bt282.1 bt282.2)))) else (impl_Unpack.j1 kj3 (wrap64 (t276)) (!(bt277.1 == 0) || (!(bt277.2 == 0))) t259 t260 t261 t262 t263 t264 t270 t271 t270 t271))) = some (r1, r2, r3, r4, r5) := H
    have A31 := Aside0.mk A310
    clear A310
    replace H := Option.bind_eq_some_iff.mp H
    obtain ⟨⟨t277, t278⟩, A320, H⟩ := H
    replace H : (if t264 = true then ((impl_Word_right.f t270 t271 (wrap64 (t259 - 1))).bind fun bt280 => (if ((!(bt280.1 == 0) || (!(bt280.2 == 0))) != ((wrap64 (t276)) != 0)) = true then (some (0, false, 0, 0, 0)) else ((impl_Word_low.f t270 t271 (wrap64 (t259 - 1))).bind fun bt282 => (impl_Unpack.j1 kj3 (wrap64 (t276)) (!(t277 == 0) || (!(t278 == 0))) t259 t260 t261 t262 t263 t264 t270 t271 bt282.1 bt282.2)))) else (impl_Unpack.j1 kj3 (wrap64 (t276)) (!(t277 == 0) || (!(t278 == 0))) t259 t260 t261 t262 t263 t264 t270 t271 t270 t271)) = some (r1, r2, r3, r4, r5) := H
    have A32 := Aside0.mk A320
    clear A320
    have HC33 := Aside0.mk H
    clear H
    have hnb34 := NB266_257.out
    have hnc34 := NB257_266.out
    have hnb35 := NB266_258.out
    have hnc35 := NB258_266.out
    have hcz36_0 : wc.cell? ⟨gb266, 0, none⟩ = some (.int .i64 t259) := (blk_cell BK266.out 0).trans rfl
    have hcz36_1 : wc.cell? ⟨gb266, 1, none⟩ = some (.int .i64 t260) := (blk_cell BK266.out 1).trans rfl
    have hcz36_2 : wc.cell? ⟨gb266, 2, none⟩ = some (.int .i64 t261) := (blk_cell BK266.out 2).trans rfl
    have hcz36_3 : wc.cell? ⟨gb266, 3, none⟩ = some (.int .i64 t262) := (blk_cell BK266.out 3).trans rfl
    have hcz36_4 : wc.cell? ⟨gb266, 4, none⟩ = some (.int .i64 t263) := (blk_cell BK266.out 4).trans rfl
    have hcz36_5 : wc.cell? ⟨gb266, 5, none⟩ = some (.bool t264) := (blk_cell BK266.out 5).trans rfl
    have hfz36_0 := blk_frozen BK266.out 0
    have hfz36_1 := blk_frozen BK266.out 1
    have hfz36_2 := blk_frozen BK266.out 2
    have hfz36_3 := blk_frozen BK266.out 3
    have hfz36_4 := blk_frozen BK266.out 4
    have hfz36_5 := blk_frozen BK266.out 5
    try go_wp2_with (first | ((with_reducible refine gate_callee (f := 67) rfl ?_); refine goesL_ (some 37) rfl rfl Tryd.func67 (by kernel_rfl) rfl #[.agg #[.int .i64 t259, .int .i64 t260, .int .i64 t261, .int .i64 t262, .int .i64 t263, .bool t264]] rfl (by (try simp only [List.map_toArray, List.map_cons, List.map_nil]); first | done | rfl | (simp only [List.length_drop, List.length_take]; rfl)) ?_; (with_reducible refine (impl_layout_fracBits.calls t259 t260 t261 t262 t263 t264 t269 _ A28.out).mono ?_); rintro e w37 ⟨rfl, hb⟩; refine ⟨_, rfl, ?_⟩; have n0_ := Aside0.mk (blk_below (g := gb257) (o := .cells #[.int .u64 a1_0, .int .u64 a1_1] 25 (0, 0)) (by (with_reducible repeat (first | refine blk_drewN ?_ _ | refine blk_drew ?_ | refine blk_alloc ?_ _)); exact BK257.out) hb); have n1_ := Aside0.mk (blk_below (g := gb258) (o := .cells #[.int .i64 0, .bool false, .int .u64 0, .int .u64 0, .int .i64 0] 27 (0, 0)) (by (with_reducible repeat (first | refine blk_drewN ?_ _ | refine blk_drew ?_ | refine blk_alloc ?_ _)); exact BK258.out) hb); have n2_ := Aside0.mk (blk_below (g := gb266) (o := .cells #[.int .i64 t259, .int .i64 t260, .int .i64 t261, .int .i64 t262, .int .i64 t263, .bool t264] 91 (0, 0)) (by (with_reducible repeat (first | refine blk_drewN ?_ _ | refine blk_drew ?_ | refine blk_alloc ?_ _)); exact BK266.out) hb); have n3_ := Aside0.mk (below_step (by repeat (first | (with_reducible first | exact HB.out | apply below_alloc | apply pw_below_drewN | apply below_drew1 | refine below_set ?_ GE257.out | refine below_set ?_ GE258.out | refine below_set ?_ GE266.out) | exact HB.out)) hb); clear BK257; clear BK258; clear BK266; clear HB; have BK257 := n0_; have BK258 := n1_; have BK266 := n2_; have HB := n3_; clear n0_ n1_ n2_ n3_; (try clear hb); (try clear hb2); (try clear hk); (try clear hi); have hnb38 := NB257_258.out; have hnc38 := NB258_257.out; have hcz39_0 : w37.cell? ⟨gb257, 0, none⟩ = some (.int .u64 a1_0) := (blk_cell BK257.out 0).trans rfl; have hcz39_1 : w37.cell? ⟨gb257, 1, none⟩ = some (.int .u64 a1_1) := (blk_cell BK257.out 1).trans rfl; have hfz39_0 := blk_frozen BK257.out 0; have hfz39_1 := blk_frozen BK257.out 1) | ((with_reducible refine gate_callee (f := 68) rfl ?_); refine goesL_ (some 40) rfl rfl Tryd.func68 (by kernel_rfl) rfl #[.agg #[.int .u64 a1_0, .int .u64 a1_1], .int .i64 t269] rfl (by (try simp only [List.map_toArray, List.map_cons, List.map_nil]); first | done | rfl | (simp only [List.length_drop, List.length_take]; rfl)) ?_; (with_reducible refine (impl_Word_low.calls a1_0 a1_1 t269 t270 t271 _ A29.out).mono ?_); rintro e w40 ⟨rfl, hb⟩; refine ⟨_, rfl, ?_⟩; have n0_ := Aside0.mk (blk_below (g := gb257) (o := .cells #[.int .u64 a1_0, .int .u64 a1_1] 25 (0, 0)) (by (with_reducible repeat (first | refine blk_drewN ?_ _ | refine blk_drew ?_ | refine blk_alloc ?_ _)); exact BK257.out) hb); have n1_ := Aside0.mk (blk_below (g := gb258) (o := .cells #[.int .i64 0, .bool false, .int .u64 0, .int .u64 0, .int .i64 0] 27 (0, 0)) (by (with_reducible repeat (first | refine blk_drewN ?_ _ | refine blk_drew ?_ | refine blk_alloc ?_ _)); exact BK258.out) hb); have n2_ := Aside0.mk (blk_below (g := gb266) (o := .cells #[.int .i64 t259, .int .i64 t260, .int .i64 t261, .int .i64 t262, .int .i64 t263, .bool t264] 91 (0, 0)) (by (with_reducible repeat (first | refine blk_drewN ?_ _ | refine blk_drew ?_ | refine blk_alloc ?_ _)); exact BK266.out) hb); have n3_ := Aside0.mk (below_step (by repeat (first | (with_reducible first | exact HB.out | apply below_alloc | apply pw_below_drewN | apply below_drew1 | refine below_set ?_ GE257.out | refine below_set ?_ GE258.out | refine below_set ?_ GE266.out) | exact HB.out)) hb); clear BK257; clear BK258; clear BK266; clear HB; have BK257 := n0_; have BK258 := n1_; have BK266 := n2_; have HB := n3_; clear n0_ n1_ n2_ n3_; (try clear hb); (try clear hb2); (try clear hk); (try clear hi)) | ((with_reducible refine gate_dst (N := 8) rfl ?_); refine box_event ?hg (N := 8) ?hd (cs := #[.int .u64 0, .int .u64 0]) (t := 25) ?hr ?_; (case hd => rfl); (case hg => rfl); (case hr => first | (go_simp; done) | (go_simp; rfl)); intro gb272 hg w41 hbox hb; have n0_ := Aside0.mk (blk_below (g := gb257) (o := .cells #[.int .u64 a1_0, .int .u64 a1_1] 25 (0, 0)) (by (with_reducible repeat (first | refine blk_drewN ?_ _ | refine blk_drew ?_ | refine blk_alloc ?_ _)); exact BK257.out) hb); have n1_ := Aside0.mk (blk_below (g := gb258) (o := .cells #[.int .i64 0, .bool false, .int .u64 0, .int .u64 0, .int .i64 0] 27 (0, 0)) (by (with_reducible repeat (first | refine blk_drewN ?_ _ | refine blk_drew ?_ | refine blk_alloc ?_ _)); exact BK258.out) hb); have n2_ := Aside0.mk (blk_below (g := gb266) (o := .cells #[.int .i64 t259, .int .i64 t260, .int .i64 t261, .int .i64 t262, .int .i64 t263, .bool t264] 91 (0, 0)) (by (with_reducible repeat (first | refine blk_drewN ?_ _ | refine blk_drew ?_ | refine blk_alloc ?_ _)); exact BK266.out) hb); have n3_ := Aside0.mk (below_step (by repeat (first | (with_reducible first | exact HB.out | apply below_alloc | apply pw_below_drewN | apply below_drew1 | refine below_set ?_ GE257.out | refine below_set ?_ GE258.out | refine below_set ?_ GE266.out) | exact HB.out)) hb); have n4_ := Aside0.mk (hbox); have n5_ := Aside0.mk ((by rw [hg]; exact (below_size (by repeat (first | (with_reducible first | exact HB.out | apply below_alloc | apply pw_below_drewN | apply below_drew1 | refine below_set ?_ GE257.out | refine below_set ?_ GE258.out | refine below_set ?_ GE266.out) | exact HB.out))) : w.heap.size ≤ gb272)); have n6_ := Aside0.mk ((by rw [hg]; exact (below_size (by repeat (first | (with_reducible first | exact HB.out | apply below_alloc | apply pw_below_drewN | apply below_drew1 | refine below_set ?_ GE257.out | refine below_set ?_ GE258.out | refine below_set ?_ GE266.out) | exact HB.out))) : w.heap.size ≤ gb272)); have n7_ := Aside0.mk ((by rw [hg]; exact Nat.ne_of_lt (blk_lt (g := gb257) (o := .cells #[.int .u64 a1_0, .int .u64 a1_1] 25 (0, 0)) (by (with_reducible repeat (first | refine blk_drewN ?_ _ | refine blk_drew ?_ | refine blk_alloc ?_ _)); exact BK257.out)) : gb257 ≠ gb272)); have n8_ := Aside0.mk ((by rw [hg]; exact Nat.ne_of_gt (blk_lt (g := gb257) (o := .cells #[.int .u64 a1_0, .int .u64 a1_1] 25 (0, 0)) (by (with_reducible repeat (first | refine blk_drewN ?_ _ | refine blk_drew ?_ | refine blk_alloc ?_ _)); exact BK257.out)) : gb272 ≠ gb257)); have n9_ := Aside0.mk ((by rw [hg]; exact Nat.ne_of_lt (blk_lt (g := gb258) (o := .cells #[.int .i64 0, .bool false, .int .u64 0, .int .u64 0, .int .i64 0] 27 (0, 0)) (by (with_reducible repeat (first | refine blk_drewN ?_ _ | refine blk_drew ?_ | refine blk_alloc ?_ _)); exact BK258.out)) : gb258 ≠ gb272)); have n10_ := Aside0.mk ((by rw [hg]; exact Nat.ne_of_gt (blk_lt (g := gb258) (o := .cells #[.int .i64 0, .bool false, .int .u64 0, .int .u64 0, .int .i64 0] 27 (0, 0)) (by (with_reducible repeat (first | refine blk_drewN ?_ _ | refine blk_drew ?_ | refine blk_alloc ?_ _)); exact BK258.out)) : gb272 ≠ gb258)); have n11_ := Aside0.mk ((by rw [hg]; exact Nat.ne_of_lt (blk_lt (g := gb266) (o := .cells #[.int .i64 t259, .int .i64 t260, .int .i64 t261, .int .i64 t262, .int .i64 t263, .bool t264] 91 (0, 0)) (by (with_reducible repeat (first | refine blk_drewN ?_ _ | refine blk_drew ?_ | refine blk_alloc ?_ _)); exact BK266.out)) : gb266 ≠ gb272)); have n12_ := Aside0.mk ((by rw [hg]; exact Nat.ne_of_gt (blk_lt (g := gb266) (o := .cells #[.int .i64 t259, .int .i64 t260, .int .i64 t261, .int .i64 t262, .int .i64 t263, .bool t264] 91 (0, 0)) (by (with_reducible repeat (first | refine blk_drewN ?_ _ | refine blk_drew ?_ | refine blk_alloc ?_ _)); exact BK266.out)) : gb272 ≠ gb266)); clear BK257; clear BK258; clear BK266; clear HB; have BK257 := n0_; have BK258 := n1_; have BK266 := n2_; have HB := n3_; have BK272 := n4_; have GW272 := n5_; have GE272 := n6_; have NB257_272 := n7_; have NB272_257 := n8_; have NB258_272 := n9_; have NB272_258 := n10_; have NB266_272 := n11_; have NB272_266 := n12_; clear n0_ n1_ n2_ n3_ n4_ n5_ n6_ n7_ n8_ n9_ n10_ n11_ n12_; clear hb hbox hg; have hnb42 := NB272_257.out; have hnc42 := NB257_272.out; have hnb43 := NB272_258.out; have hnc43 := NB258_272.out; have hnb44 := NB272_266.out; have hnc44 := NB266_272.out; have hcz45_0 : w41.cell? ⟨gb272, 0, none⟩ = some (.int .u64 0) := (blk_cell BK272.out 0).trans rfl; have hcz45_1 : w41.cell? ⟨gb272, 1, none⟩ = some (.int .u64 0) := (blk_cell BK272.out 1).trans rfl; have hfz45_0 := blk_frozen BK272.out 0; have hfz45_1 := blk_frozen BK272.out 1))
    have n0_ : Aside0 (((w41.setCell ⟨gb272, 0, none⟩ (.int .u64 t270)).setCell ⟨gb272, 1, none⟩ (.int .u64 t271)).heap[gb257]? = some (.cells #[.int .u64 a1_0, .int .u64 a1_1] 25 (0, 0))) := ⟨by (with_reducible repeat (first | refine blk_drewN ?_ _ | refine blk_drew ?_ | refine blk_alloc ?_ _)); refine blk_far ?_ NB257_272.out _; (with_reducible repeat (first | refine blk_drewN ?_ _ | refine blk_drew ?_ | refine blk_alloc ?_ _)); refine blk_far ?_ NB257_272.out _; (with_reducible repeat (first | refine blk_drewN ?_ _ | refine blk_drew ?_ | refine blk_alloc ?_ _)); exact BK257.out⟩
    have n1_ : Aside0 (((w41.setCell ⟨gb272, 0, none⟩ (.int .u64 t270)).setCell ⟨gb272, 1, none⟩ (.int .u64 t271)).heap[gb258]? = some (.cells #[.int .i64 0, .bool false, .int .u64 0, .int .u64 0, .int .i64 0] 27 (0, 0))) := ⟨by (with_reducible repeat (first | refine blk_drewN ?_ _ | refine blk_drew ?_ | refine blk_alloc ?_ _)); refine blk_far ?_ NB258_272.out _; (with_reducible repeat (first | refine blk_drewN ?_ _ | refine blk_drew ?_ | refine blk_alloc ?_ _)); refine blk_far ?_ NB258_272.out _; (with_reducible repeat (first | refine blk_drewN ?_ _ | refine blk_drew ?_ | refine blk_alloc ?_ _)); exact BK258.out⟩
    have n2_ : Aside0 (((w41.setCell ⟨gb272, 0, none⟩ (.int .u64 t270)).setCell ⟨gb272, 1, none⟩ (.int .u64 t271)).heap[gb266]? = some (.cells #[.int .i64 t259, .int .i64 t260, .int .i64 t261, .int .i64 t262, .int .i64 t263, .bool t264] 91 (0, 0))) := ⟨by (with_reducible repeat (first | refine blk_drewN ?_ _ | refine blk_drew ?_ | refine blk_alloc ?_ _)); refine blk_far ?_ NB266_272.out _; (with_reducible repeat (first | refine blk_drewN ?_ _ | refine blk_drew ?_ | refine blk_alloc ?_ _)); refine blk_far ?_ NB266_272.out _; (with_reducible repeat (first | refine blk_drewN ?_ _ | refine blk_drew ?_ | refine blk_alloc ?_ _)); exact BK266.out⟩
    have n3_ : Aside0 (((w41.setCell ⟨gb272, 0, none⟩ (.int .u64 t270)).setCell ⟨gb272, 1, none⟩ (.int .u64 t271)).heap[gb272]? = some (.cells #[.int .u64 t270, .int .u64 t271] 25 (0, 0))) := ⟨by (with_reducible repeat (first | refine blk_drewN ?_ _ | refine blk_drew ?_ | refine blk_alloc ?_ _)); refine blk_put (cs := #[.int .u64 t270, .int .u64 0]) ?_ 1 _ rfl; (with_reducible repeat (first | refine blk_drewN ?_ _ | refine blk_drew ?_ | refine blk_alloc ?_ _)); refine blk_put (cs := #[.int .u64 0, .int .u64 0]) ?_ 0 _ rfl; (with_reducible repeat (first | refine blk_drewN ?_ _ | refine blk_drew ?_ | refine blk_alloc ?_ _)); exact BK272.out⟩
    have n4_ : Aside0 (Below w.heap.size w ((w41.setCell ⟨gb272, 0, none⟩ (.int .u64 t270)).setCell ⟨gb272, 1, none⟩ (.int .u64 t271))) := ⟨by repeat (first | (with_reducible first | exact HB.out | apply below_alloc | apply pw_below_drewN | apply below_drew1 | refine below_set ?_ GE257.out | refine below_set ?_ GE258.out | refine below_set ?_ GE266.out | refine below_set ?_ GE272.out) | exact HB.out)⟩
    (try clear BK257)
    (try clear BK258)
    (try clear BK266)
    (try clear BK272)
    (try clear HB)
    generalize ((w41.setCell ⟨gb272, 0, none⟩ (.int .u64 t270)).setCell ⟨gb272, 1, none⟩ (.int .u64 t271)) = w46 at n0_ n1_ n2_ n3_ n4_ ⊢
    have BK257 := n0_
    have BK258 := n1_
    have BK266 := n2_
    have BK272 := n3_
    have HB := n4_
    clear n0_ n1_ n2_ n3_ n4_
    have n0_ := Aside0.mk (blk_drew BK257.out)
    have n1_ := Aside0.mk (blk_drew BK258.out)
    have n2_ := Aside0.mk (blk_drew BK266.out)
    have n3_ := Aside0.mk (blk_drew BK272.out)
    have n4_ := Aside0.mk (below_drew1 HB.out)
    clear BK257
    clear BK258
    clear BK266
    clear BK272
    clear HB
    have BK257 := n0_
    have BK258 := n1_
    have BK266 := n2_
    have BK272 := n3_
    have HB := n4_
    clear n0_ n1_ n2_ n3_ n4_
    refine start_ (n := 10) (S := fun w' => w'.cell? ⟨gb257, 0, none⟩ = some (.int .u64 a1_0) ∧ w'.cell? ⟨gb257, 1, none⟩ = some (.int .u64 a1_1) ∧ w'.cell? ⟨gb266, 0, none⟩ = some (.int .i64 t259) ∧ w'.cell? ⟨gb266, 1, none⟩ = some (.int .i64 t260) ∧ w'.cell? ⟨gb266, 2, none⟩ = some (.int .i64 t261) ∧ w'.cell? ⟨gb266, 3, none⟩ = some (.int .i64 t262) ∧ w'.cell? ⟨gb266, 4, none⟩ = some (.int .i64 t263) ∧ w'.cell? ⟨gb266, 5, none⟩ = some (.bool t264)) (ds := []) #[false, false, false, false, false, false, false, false, false, false] (by kernel_rfl) rfl rfl ⟨(blk_cell BK257.out 0).trans rfl, (blk_cell BK257.out 1).trans rfl, (blk_cell BK266.out 0).trans rfl, (blk_cell BK266.out 1).trans rfl, (blk_cell BK266.out 2).trans rfl, (blk_cell BK266.out 3).trans rfl, (blk_cell BK266.out 4).trans rfl, (blk_cell BK266.out 5).trans rfl⟩ (fun hHeld => ?_); refine with_tabW impl_Unpack.tab6 impl_Unpack.bits6 (fun HT_ HW_ => ?_)
    generalize w46.drew = w47 at BK257 BK258 BK266 BK272 HB hHeld ⊢
    refine pure_ (i := 1) (N := some 42) (v := ?_) (a' := ?_) #[false, true, false, false, false, false, false, false, false, false] rfl rfl (any_of HT_.out (by kernel_rfl)) (fun _ _ _ h => h) (Or.inl ⟨by rfl, ?_⟩) ?_ ?_
    rotate_left
    ·intro w'
     go_simp
     with_reducible rfl
    rotate_left
    ·simp only [Act.put, List.setIfInBounds_toArray, List.set_cons_zero, List.set_cons_succ, i64_w, i32_w]
     rfl
    refine pure_ (i := 3) (N := some 44) (v := ?_) (a' := ?_) #[false, true, false, true, false, false, false, false, false, false] rfl rfl (any_of HT_.out (by kernel_rfl)) (fun _ _ _ h => h) (Or.inl ⟨by rfl, ?_⟩) ?_ ?_
    rotate_left
    ·intro w'
     go_simp
     with_reducible rfl
    rotate_left
    ·simp only [Act.put, List.setIfInBounds_toArray, List.set_cons_zero, List.set_cons_succ, i64_w, i32_w]
     rfl
    refine pure_ (i := 4) (N := some 45) (v := ?_) (a' := ?_) #[false, true, false, true, true, false, false, false, false, false] rfl rfl (any_of HT_.out (by kernel_rfl)) (fun _ _ _ h => h) (Or.inl ⟨by rfl, ?_⟩) ?_ ?_
    rotate_left
    ·intro w'
     go_simp
     with_reducible rfl
    rotate_left
    ·simp only [Act.put, List.setIfInBounds_toArray, List.set_cons_zero, List.set_cons_succ, i64_w, i32_w]
     rfl
    refine take_ (i := 0) (N := some 41) (v := ?_) (a' := ?_) #[true, true, false, true, true, false, false, false, false, false] rfl rfl (take_ofW HT_.out HW_.out (by kernel_rfl)) (fun _ _ _ h => h) (Or.inl ⟨by rfl, ?_⟩) hHeld ?_ ?_
    rotate_left
    ·rintro w' ⟨s0, s1, s2, s3, s4, s5, s6, s7⟩
     go_simp
     with_reducible rfl
    rotate_left
    ·simp only [Act.put, List.setIfInBounds_toArray, List.set_cons_zero, List.set_cons_succ, i64_w, i32_w]
     rfl
    refine take_ (i := 5) (N := some 46) (v := ?_) (a' := ?_) #[true, true, false, true, true, true, false, false, false, false] rfl rfl (take_ofW HT_.out HW_.out (by kernel_rfl)) (fun _ _ _ h => h) (Or.inl ⟨by rfl, ?_⟩) hHeld ?_ ?_
    rotate_left
    ·rintro w' ⟨s0, s1, s2, s3, s4, s5, s6, s7⟩
     go_simp
     with_reducible rfl
    rotate_left
    ·simp only [Act.put, List.setIfInBounds_toArray, List.set_cons_zero, List.set_cons_succ, i64_w, i32_w]
     rfl
    refine one_ (i := 2) (N := some 43) #[true, true, true, true, true, true, false, false, false, false] rfl rfl (one_of HT_.out (by kernel_rfl)) (by decide) (fun K hK => ?_)
    refine goes_ Tryd.func66 (by kernel_rfl) rfl #[.agg #[.int .u64 a1_0, .int .u64 a1_1], .int .i64 t269] (by rfl) rfl rfl (by (try simp only [List.map_toArray, List.map_cons, List.map_nil]); first | done | rfl | (simp only [List.length_drop, List.length_take]; rfl)) ?_
    with_reducible refine (impl_Word_right.calls a1_0 a1_1 t269 t273 t274 _ A30.out).mono ?_
    rintro e w48 ⟨rfl, hb⟩
    refine ⟨_, rfl, ?_⟩
    have n0_ := Aside0.mk (blk_below (g := gb257) (o := .cells #[.int .u64 a1_0, .int .u64 a1_1] 25 (0, 0)) (by (with_reducible repeat (first | refine blk_drewN ?_ _ | refine blk_drew ?_ | refine blk_alloc ?_ _)); exact BK257.out) hb)
    have n1_ := Aside0.mk (blk_below (g := gb258) (o := .cells #[.int .i64 0, .bool false, .int .u64 0, .int .u64 0, .int .i64 0] 27 (0, 0)) (by (with_reducible repeat (first | refine blk_drewN ?_ _ | refine blk_drew ?_ | refine blk_alloc ?_ _)); exact BK258.out) hb)
    have n2_ := Aside0.mk (blk_below (g := gb266) (o := .cells #[.int .i64 t259, .int .i64 t260, .int .i64 t261, .int .i64 t262, .int .i64 t263, .bool t264] 91 (0, 0)) (by (with_reducible repeat (first | refine blk_drewN ?_ _ | refine blk_drew ?_ | refine blk_alloc ?_ _)); exact BK266.out) hb)
    have n3_ := Aside0.mk (blk_below (g := gb272) (o := .cells #[.int .u64 t270, .int .u64 t271] 25 (0, 0)) (by (with_reducible repeat (first | refine blk_drewN ?_ _ | refine blk_drew ?_ | refine blk_alloc ?_ _)); exact BK272.out) hb)
    have n4_ := Aside0.mk (below_step (by repeat (first | (with_reducible first | exact HB.out | apply below_alloc | apply pw_below_drewN | apply below_drew1 | refine below_set ?_ GE257.out | refine below_set ?_ GE258.out | refine below_set ?_ GE266.out | refine below_set ?_ GE272.out) | exact HB.out)) hb)
    clear BK257
    clear BK258
    clear BK266
    clear BK272
    clear HB
    have BK257 := n0_
    have BK258 := n1_
    have BK266 := n2_
    have BK272 := n3_
    have HB := n4_
    clear n0_ n1_ n2_ n3_ n4_
    (try clear hb)
    (try clear hb2)
    (try clear hk)
    (try clear hi)
    refine hK.out _ _ ⟨(blk_cell BK257.out 0).trans rfl, (blk_cell BK257.out 1).trans rfl, (blk_cell BK266.out 0).trans rfl, (blk_cell BK266.out 1).trans rfl, (blk_cell BK266.out 2).trans rfl, (blk_cell BK266.out 3).trans rfl, (blk_cell BK266.out 4).trans rfl, (blk_cell BK266.out 5).trans rfl⟩ (fun hHeld => ?_)
    clear hK K
    refine norm_ (a' := ?_) ?_ ?_
    rotate_left
    ·show Act.put _ (some 43) _ = _
     simp only [Act.put, List.setIfInBounds_toArray, List.set_cons_zero, List.set_cons_succ, i64_w, i32_w]
     rfl
    refine one_ (i := 6) (N := some 47) #[true, true, true, true, true, true, true, false, false, false] rfl rfl (one_of HT_.out (by kernel_rfl)) (by decide) (fun K hK => ?_)
    refine goes_ Tryd.func68 (by kernel_rfl) rfl #[.agg #[.int .u64 t273, .int .u64 t274], .int .i64 t263] (by rfl) rfl rfl (by (try simp only [List.map_toArray, List.map_cons, List.map_nil]); first | done | rfl | (simp only [List.length_drop, List.length_take]; rfl)) ?_
    with_reducible refine (impl_Word_low.calls t273 t274 t263 t275 t276 _ A31.out).mono ?_
    rintro e w49 ⟨rfl, hb⟩
    refine ⟨_, rfl, ?_⟩
    have n0_ := Aside0.mk (blk_below (g := gb257) (o := .cells #[.int .u64 a1_0, .int .u64 a1_1] 25 (0, 0)) (by (with_reducible repeat (first | refine blk_drewN ?_ _ | refine blk_drew ?_ | refine blk_alloc ?_ _)); exact BK257.out) hb)
    have n1_ := Aside0.mk (blk_below (g := gb258) (o := .cells #[.int .i64 0, .bool false, .int .u64 0, .int .u64 0, .int .i64 0] 27 (0, 0)) (by (with_reducible repeat (first | refine blk_drewN ?_ _ | refine blk_drew ?_ | refine blk_alloc ?_ _)); exact BK258.out) hb)
    have n2_ := Aside0.mk (blk_below (g := gb266) (o := .cells #[.int .i64 t259, .int .i64 t260, .int .i64 t261, .int .i64 t262, .int .i64 t263, .bool t264] 91 (0, 0)) (by (with_reducible repeat (first | refine blk_drewN ?_ _ | refine blk_drew ?_ | refine blk_alloc ?_ _)); exact BK266.out) hb)
    have n3_ := Aside0.mk (blk_below (g := gb272) (o := .cells #[.int .u64 t270, .int .u64 t271] 25 (0, 0)) (by (with_reducible repeat (first | refine blk_drewN ?_ _ | refine blk_drew ?_ | refine blk_alloc ?_ _)); exact BK272.out) hb)
    have n4_ := Aside0.mk (below_step (by repeat (first | (with_reducible first | exact HB.out | apply below_alloc | apply pw_below_drewN | apply below_drew1 | refine below_set ?_ GE257.out | refine below_set ?_ GE258.out | refine below_set ?_ GE266.out | refine below_set ?_ GE272.out) | exact HB.out)) hb)
    clear BK257
    clear BK258
    clear BK266
    clear BK272
    clear HB
    have BK257 := n0_
    have BK258 := n1_
    have BK266 := n2_
    have BK272 := n3_
    have HB := n4_
    clear n0_ n1_ n2_ n3_ n4_
    (try clear hb)
    (try clear hb2)
    (try clear hk)
    (try clear hi)
    refine hK.out _ _ ⟨(blk_cell BK257.out 0).trans rfl, (blk_cell BK257.out 1).trans rfl, (blk_cell BK266.out 0).trans rfl, (blk_cell BK266.out 1).trans rfl, (blk_cell BK266.out 2).trans rfl, (blk_cell BK266.out 3).trans rfl, (blk_cell BK266.out 4).trans rfl, (blk_cell BK266.out 5).trans rfl⟩ (fun hHeld => ?_)
    clear hK K
    refine norm_ (a' := ?_) ?_ ?_
    rotate_left
    ·show Act.put _ (some 47) _ = _
     simp only [Act.put, List.setIfInBounds_toArray, List.set_cons_zero, List.set_cons_succ, i64_w, i32_w]
     rfl
    refine pure_ (i := 7) (N := some 48) (v := ?_) (a' := ?_) #[true, true, true, true, true, true, true, true, false, false] rfl rfl (any_of HT_.out (by kernel_rfl)) (fun _ _ _ h => h) (Or.inl ⟨by rfl, ?_⟩) ?_ ?_
    rotate_left
    ·intro w'
     go_simp
     with_reducible rfl
    rotate_left
    ·simp only [Act.put, List.setIfInBounds_toArray, List.set_cons_zero, List.set_cons_succ, i64_w, i32_w]
     rfl
    refine pure_ (i := 8) (N := some 49) (v := ?_) (a' := ?_) #[true, true, true, true, true, true, true, true, true, false] rfl rfl (any_of HT_.out (by kernel_rfl)) (fun _ _ _ h => h) (Or.inl ⟨by rfl, ?_⟩) ?_ ?_
    rotate_left
    ·intro w'
     go_simp
     with_reducible rfl
    rotate_left
    ·simp only [Act.put, List.setIfInBounds_toArray, List.set_cons_zero, List.set_cons_succ, i64_w, i32_w]
     rfl
    refine pure_ (i := 9) (N := some 9) (v := ?_) (a' := ?_) #[true, true, true, true, true, true, true, true, true, true] rfl rfl (any_of HT_.out (by kernel_rfl)) (fun _ _ _ h => h) (Or.inl ⟨by rfl, ?_⟩) ?_ ?_
    rotate_left
    ·intro w'
     go_simp
     with_reducible rfl
    rotate_left
    ·simp only [Act.put, List.setIfInBounds_toArray, List.set_cons_zero, List.set_cons_succ, i64_w, i32_w]
     rfl
    refine done_ (done_of HT_.out (by kernel_rfl)) ?_
    have hcz50_0 : w49.cell? ⟨gb257, 0, none⟩ = some (.int .u64 a1_0) := (blk_cell BK257.out 0).trans rfl
    have hcz50_1 : w49.cell? ⟨gb257, 1, none⟩ = some (.int .u64 a1_1) := (blk_cell BK257.out 1).trans rfl
    have hfz50_0 := blk_frozen BK257.out 0
    have hfz50_1 := blk_frozen BK257.out 1
    have hcz51_0 : w49.cell? ⟨gb266, 0, none⟩ = some (.int .i64 t259) := (blk_cell BK266.out 0).trans rfl
    have hcz51_1 : w49.cell? ⟨gb266, 1, none⟩ = some (.int .i64 t260) := (blk_cell BK266.out 1).trans rfl
    have hcz51_2 : w49.cell? ⟨gb266, 2, none⟩ = some (.int .i64 t261) := (blk_cell BK266.out 2).trans rfl
    have hcz51_3 : w49.cell? ⟨gb266, 3, none⟩ = some (.int .i64 t262) := (blk_cell BK266.out 3).trans rfl
    have hcz51_4 : w49.cell? ⟨gb266, 4, none⟩ = some (.int .i64 t263) := (blk_cell BK266.out 4).trans rfl
    have hcz51_5 : w49.cell? ⟨gb266, 5, none⟩ = some (.bool t264) := (blk_cell BK266.out 5).trans rfl
    have hfz51_0 := blk_frozen BK266.out 0
    have hfz51_1 := blk_frozen BK266.out 1
    have hfz51_2 := blk_frozen BK266.out 2
    have hfz51_3 := blk_frozen BK266.out 3
    have hfz51_4 := blk_frozen BK266.out 4
    have hfz51_5 := blk_frozen BK266.out 5
    go_upto_if 61 with (first | ((with_reducible refine gate_callee (f := 66) rfl ?_); refine goesL_ (some 55) rfl rfl Tryd.func66 (by kernel_rfl) rfl #[.agg #[.int .u64 a1_0, .int .u64 a1_1], .int .i64 (wrap64 (t262 - 1))] rfl (by (try simp only [List.map_toArray, List.map_cons, List.map_nil]); first | done | rfl | (simp only [List.length_drop, List.length_take]; rfl)) ?_; (with_reducible refine (impl_Word_right.calls a1_0 a1_1 (wrap64 (t262 - 1)) t277 t278 _ A32.out).mono ?_); rintro e w52 ⟨rfl, hb⟩; refine ⟨_, rfl, ?_⟩; have n0_ := Aside0.mk (blk_below (g := gb257) (o := .cells #[.int .u64 a1_0, .int .u64 a1_1] 25 (0, 0)) (by (with_reducible repeat (first | refine blk_drewN ?_ _ | refine blk_drew ?_ | refine blk_alloc ?_ _)); exact BK257.out) hb); have n1_ := Aside0.mk (blk_below (g := gb258) (o := .cells #[.int .i64 0, .bool false, .int .u64 0, .int .u64 0, .int .i64 0] 27 (0, 0)) (by (with_reducible repeat (first | refine blk_drewN ?_ _ | refine blk_drew ?_ | refine blk_alloc ?_ _)); exact BK258.out) hb); have n2_ := Aside0.mk (blk_below (g := gb266) (o := .cells #[.int .i64 t259, .int .i64 t260, .int .i64 t261, .int .i64 t262, .int .i64 t263, .bool t264] 91 (0, 0)) (by (with_reducible repeat (first | refine blk_drewN ?_ _ | refine blk_drew ?_ | refine blk_alloc ?_ _)); exact BK266.out) hb); have n3_ := Aside0.mk (blk_below (g := gb272) (o := .cells #[.int .u64 t270, .int .u64 t271] 25 (0, 0)) (by (with_reducible repeat (first | refine blk_drewN ?_ _ | refine blk_drew ?_ | refine blk_alloc ?_ _)); exact BK272.out) hb); have n4_ := Aside0.mk (below_step (by repeat (first | (with_reducible first | exact HB.out | apply below_alloc | apply pw_below_drewN | apply below_drew1 | refine below_set ?_ GE257.out | refine below_set ?_ GE258.out | refine below_set ?_ GE266.out | refine below_set ?_ GE272.out) | exact HB.out)) hb); clear BK257; clear BK258; clear BK266; clear BK272; clear HB; have BK257 := n0_; have BK258 := n1_; have BK266 := n2_; have BK272 := n3_; have HB := n4_; clear n0_ n1_ n2_ n3_ n4_; (try clear hb); (try clear hb2); (try clear hk); (try clear hi); have hcz53_0 : w52.cell? ⟨gb272, 0, none⟩ = some (.int .u64 t270) := (blk_cell BK272.out 0).trans rfl; have hcz53_1 : w52.cell? ⟨gb272, 1, none⟩ = some (.int .u64 t271) := (blk_cell BK272.out 1).trans rfl; have hfz53_0 := blk_frozen BK272.out 0; have hfz53_1 := blk_frozen BK272.out 1) | ((with_reducible refine gate_dst (N := 11) rfl ?_); refine box_event ?hg (N := 11) ?hd (cs := #[.int .u64 0, .int .u64 0]) (t := 25) ?hr ?_; (case hd => rfl); (case hg => rfl); (case hr => first | (go_simp; done) | (go_simp; rfl)); intro gb279 hg w54 hbox hb; have n0_ := Aside0.mk (blk_below (g := gb257) (o := .cells #[.int .u64 a1_0, .int .u64 a1_1] 25 (0, 0)) (by (with_reducible repeat (first | refine blk_drewN ?_ _ | refine blk_drew ?_ | refine blk_alloc ?_ _)); exact BK257.out) hb); have n1_ := Aside0.mk (blk_below (g := gb258) (o := .cells #[.int .i64 0, .bool false, .int .u64 0, .int .u64 0, .int .i64 0] 27 (0, 0)) (by (with_reducible repeat (first | refine blk_drewN ?_ _ | refine blk_drew ?_ | refine blk_alloc ?_ _)); exact BK258.out) hb); have n2_ := Aside0.mk (blk_below (g := gb266) (o := .cells #[.int .i64 t259, .int .i64 t260, .int .i64 t261, .int .i64 t262, .int .i64 t263, .bool t264] 91 (0, 0)) (by (with_reducible repeat (first | refine blk_drewN ?_ _ | refine blk_drew ?_ | refine blk_alloc ?_ _)); exact BK266.out) hb); have n3_ := Aside0.mk (blk_below (g := gb272) (o := .cells #[.int .u64 t270, .int .u64 t271] 25 (0, 0)) (by (with_reducible repeat (first | refine blk_drewN ?_ _ | refine blk_drew ?_ | refine blk_alloc ?_ _)); exact BK272.out) hb); have n4_ := Aside0.mk (below_step (by repeat (first | (with_reducible first | exact HB.out | apply below_alloc | apply pw_below_drewN | apply below_drew1 | refine below_set ?_ GE257.out | refine below_set ?_ GE258.out | refine below_set ?_ GE266.out | refine below_set ?_ GE272.out) | exact HB.out)) hb); have n5_ := Aside0.mk (hbox); have n6_ := Aside0.mk ((by rw [hg]; exact (below_size (by repeat (first | (with_reducible first | exact HB.out | apply below_alloc | apply pw_below_drewN | apply below_drew1 | refine below_set ?_ GE257.out | refine below_set ?_ GE258.out | refine below_set ?_ GE266.out | refine below_set ?_ GE272.out) | exact HB.out))) : w.heap.size ≤ gb279)); have n7_ := Aside0.mk ((by rw [hg]; exact (below_size (by repeat (first | (with_reducible first | exact HB.out | apply below_alloc | apply pw_below_drewN | apply below_drew1 | refine below_set ?_ GE257.out | refine below_set ?_ GE258.out | refine below_set ?_ GE266.out | refine below_set ?_ GE272.out) | exact HB.out))) : w.heap.size ≤ gb279)); have n8_ := Aside0.mk ((by rw [hg]; exact Nat.ne_of_lt (blk_lt (g := gb257) (o := .cells #[.int .u64 a1_0, .int .u64 a1_1] 25 (0, 0)) (by (with_reducible repeat (first | refine blk_drewN ?_ _ | refine blk_drew ?_ | refine blk_alloc ?_ _)); exact BK257.out)) : gb257 ≠ gb279)); have n9_ := Aside0.mk ((by rw [hg]; exact Nat.ne_of_gt (blk_lt (g := gb257) (o := .cells #[.int .u64 a1_0, .int .u64 a1_1] 25 (0, 0)) (by (with_reducible repeat (first | refine blk_drewN ?_ _ | refine blk_drew ?_ | refine blk_alloc ?_ _)); exact BK257.out)) : gb279 ≠ gb257)); have n10_ := Aside0.mk ((by rw [hg]; exact Nat.ne_of_lt (blk_lt (g := gb258) (o := .cells #[.int .i64 0, .bool false, .int .u64 0, .int .u64 0, .int .i64 0] 27 (0, 0)) (by (with_reducible repeat (first | refine blk_drewN ?_ _ | refine blk_drew ?_ | refine blk_alloc ?_ _)); exact BK258.out)) : gb258 ≠ gb279)); have n11_ := Aside0.mk ((by rw [hg]; exact Nat.ne_of_gt (blk_lt (g := gb258) (o := .cells #[.int .i64 0, .bool false, .int .u64 0, .int .u64 0, .int .i64 0] 27 (0, 0)) (by (with_reducible repeat (first | refine blk_drewN ?_ _ | refine blk_drew ?_ | refine blk_alloc ?_ _)); exact BK258.out)) : gb279 ≠ gb258)); have n12_ := Aside0.mk ((by rw [hg]; exact Nat.ne_of_lt (blk_lt (g := gb266) (o := .cells #[.int .i64 t259, .int .i64 t260, .int .i64 t261, .int .i64 t262, .int .i64 t263, .bool t264] 91 (0, 0)) (by (with_reducible repeat (first | refine blk_drewN ?_ _ | refine blk_drew ?_ | refine blk_alloc ?_ _)); exact BK266.out)) : gb266 ≠ gb279)); have n13_ := Aside0.mk ((by rw [hg]; exact Nat.ne_of_gt (blk_lt (g := gb266) (o := .cells #[.int .i64 t259, .int .i64 t260, .int .i64 t261, .int .i64 t262, .int .i64 t263, .bool t264] 91 (0, 0)) (by (with_reducible repeat (first | refine blk_drewN ?_ _ | refine blk_drew ?_ | refine blk_alloc ?_ _)); exact BK266.out)) : gb279 ≠ gb266)); have n14_ := Aside0.mk ((by rw [hg]; exact Nat.ne_of_lt (blk_lt (g := gb272) (o := .cells #[.int .u64 t270, .int .u64 t271] 25 (0, 0)) (by (with_reducible repeat (first | refine blk_drewN ?_ _ | refine blk_drew ?_ | refine blk_alloc ?_ _)); exact BK272.out)) : gb272 ≠ gb279)); have n15_ := Aside0.mk ((by rw [hg]; exact Nat.ne_of_gt (blk_lt (g := gb272) (o := .cells #[.int .u64 t270, .int .u64 t271] 25 (0, 0)) (by (with_reducible repeat (first | refine blk_drewN ?_ _ | refine blk_drew ?_ | refine blk_alloc ?_ _)); exact BK272.out)) : gb279 ≠ gb272)); clear BK257; clear BK258; clear BK266; clear BK272; clear HB; have BK257 := n0_; have BK258 := n1_; have BK266 := n2_; have BK272 := n3_; have HB := n4_; have BK279 := n5_; have GW279 := n6_; have GE279 := n7_; have NB257_279 := n8_; have NB279_257 := n9_; have NB258_279 := n10_; have NB279_258 := n11_; have NB266_279 := n12_; have NB279_266 := n13_; have NB272_279 := n14_; have NB279_272 := n15_; clear n0_ n1_ n2_ n3_ n4_ n5_ n6_ n7_ n8_ n9_ n10_ n11_ n12_ n13_ n14_ n15_; clear hb hbox hg; have hnb55 := NB279_257.out; have hnc55 := NB257_279.out; have hnb56 := NB279_258.out; have hnc56 := NB258_279.out; have hnb57 := NB279_266.out; have hnc57 := NB266_279.out; have hnb58 := NB279_272.out; have hnc58 := NB272_279.out; have hcz59_0 : w54.cell? ⟨gb279, 0, none⟩ = some (.int .u64 0) := (blk_cell BK279.out 0).trans rfl; have hcz59_1 : w54.cell? ⟨gb279, 1, none⟩ = some (.int .u64 0) := (blk_cell BK279.out 1).trans rfl; have hfz59_0 := blk_frozen BK279.out 0; have hfz59_1 := blk_frozen BK279.out 1; have hcz60_0 : w54.cell? ⟨gb266, 0, none⟩ = some (.int .i64 t259) := (blk_cell BK266.out 0).trans rfl; have hcz60_1 : w54.cell? ⟨gb266, 1, none⟩ = some (.int .i64 t260) := (blk_cell BK266.out 1).trans rfl; have hcz60_2 : w54.cell? ⟨gb266, 2, none⟩ = some (.int .i64 t261) := (blk_cell BK266.out 2).trans rfl; have hcz60_3 : w54.cell? ⟨gb266, 3, none⟩ = some (.int .i64 t262) := (blk_cell BK266.out 3).trans rfl; have hcz60_4 : w54.cell? ⟨gb266, 4, none⟩ = some (.int .i64 t263) := (blk_cell BK266.out 4).trans rfl; have hcz60_5 : w54.cell? ⟨gb266, 5, none⟩ = some (.bool t264) := (blk_cell BK266.out 5).trans rfl; have hfz60_0 := blk_frozen BK266.out 0; have hfz60_1 := blk_frozen BK266.out 1; have hfz60_2 := blk_frozen BK266.out 2; have hfz60_3 := blk_frozen BK266.out 3; have hfz60_4 := blk_frozen BK266.out 4; have hfz60_5 := blk_frozen BK266.out 5))
    (try simp only [Act.put, List.setIfInBounds_toArray, List.set_cons_zero, List.set_cons_succ])
    go_cut [] (fun wc => ∃ (kq : Nat) (x259000_32 : Int) (x259001_32 : Bool) (x259002_32 : Int) (x259003_32 : Int) (x259004_32 : Int) (x280000_32 : Int) (x280001_32 : Int), Aside0 (impl_Unpack.j1 kq (wrap64 (t276)) (!(t277 == 0) || (!(t278 == 0))) t259 t260 t261 t262 t263 t264 t270 t271 x280000_32 x280001_32 = some (r1, r2, r3, r4, r5)) ∧ Aside0 (kq ≤ kj3) ∧ Aside0 (wc.heap[gb257]? = some (.cells #[.int .u64 a1_0, .int .u64 a1_1] 25 (0, 0))) ∧ Aside0 (wc.heap[gb258]? = some (.cells #[.int .i64 x259000_32, .bool x259001_32, .int .u64 x259002_32, .int .u64 x259003_32, .int .i64 x259004_32] 27 (0, 0))) ∧ Aside0 (wc.heap[gb266]? = some (.cells #[.int .i64 t259, .int .i64 t260, .int .i64 t261, .int .i64 t262, .int .i64 t263, .bool t264] 91 (0, 0))) ∧ Aside0 (wc.heap[gb272]? = some (.cells #[.int .u64 t270, .int .u64 t271] 25 (0, 0))) ∧ Aside0 (wc.heap[gb279]? = some (.cells #[.int .u64 x280000_32, .int .u64 x280001_32] 25 (0, 0))) ∧ Aside0 (Below w.heap.size w wc))
    case first =>
     have H := HC33.out
     clear HC33
     by_cases c61 : t264 = true
     ·subst c61
      have H1 : ((impl_Word_right.f t270 t271 (wrap64 (t259 - 1))).bind fun bt280 => (if ((!(bt280.1 == 0) || (!(bt280.2 == 0))) != ((wrap64 (t276)) != 0)) = true then (some (0, false, 0, 0, 0)) else ((impl_Word_low.f t270 t271 (wrap64 (t259 - 1))).bind fun bt282 => (impl_Unpack.j1 kj3 (wrap64 (t276)) (!(t277 == 0) || (!(t278 == 0))) t259 t260 t261 t262 t263 true t270 t271 bt282.1 bt282.2)))) = some (r1, r2, r3, r4, r5) := by rw [if_pos rfl] at H; exact H
      clear H
      have H := H1
      clear H1
      replace H := Option.bind_eq_some_iff.mp H
      obtain ⟨⟨t280, t281⟩, A620, H⟩ := H
      replace H : (if ((!(t280 == 0) || (!(t281 == 0))) != ((wrap64 (t276)) != 0)) = true then (some (0, false, 0, 0, 0)) else ((impl_Word_low.f t270 t271 (wrap64 (t259 - 1))).bind fun bt282 => (impl_Unpack.j1 kj3 (wrap64 (t276)) (!(t277 == 0) || (!(t278 == 0))) t259 t260 t261 t262 t263 true t270 t271 bt282.1 bt282.2))) = some (r1, r2, r3, r4, r5) := H
      have A62 := Aside0.mk A620
      clear A620
      by_cases c63 : ((!(t280 == 0) || (!(t281 == 0))) != ((wrap64 (t276)) != 0)) = true
      ·rw [if_pos c63] at H
       have c63b0 : ((!(t280 == 0) || (!(t281 == 0))) != ((wrap64 (t276)) != 0)) = true := c63
       (try (have c63b1 : decide ((!(t280 == 0) || (!(t281 == 0))) = ((wrap64 (t276)) != 0)) = false := by simpa using c63))
       (try (have c63b2 : ((!(t280 == 0) || (!(t281 == 0))) == ((wrap64 (t276)) != 0)) = false := by simpa using c63))
       (try (have c63b3 : ¬ ((!(t280 == 0) || (!(t281 == 0))) = ((wrap64 (t276)) != 0)) := by simpa using c63))
       clear c63
       (first | rw [c63b0] | (simp only [i64_w, i32_w]; rw [c63b0]) | rw [c63b1] | (simp only [c63b1]) | skip)
       simp only [Option.some.injEq, Prod.mk.injEq] at H
       obtain ⟨rfl, rfl, rfl, rfl, rfl⟩ := H
       have hnb64 := NB272_257.out
       have hnc64 := NB257_272.out
       have hnb65 := NB272_258.out
       have hnc65 := NB258_272.out
       have hnb66 := NB272_266.out
       have hnc66 := NB266_272.out
       have hnb67 := NB272_279.out
       have hnc67 := NB279_272.out
       have hcz68_0 : w54.cell? ⟨gb272, 0, none⟩ = some (.int .u64 t270) := (blk_cell BK272.out 0).trans rfl
       have hcz68_1 : w54.cell? ⟨gb272, 1, none⟩ = some (.int .u64 t271) := (blk_cell BK272.out 1).trans rfl
       have hfz68_0 := blk_frozen BK272.out 0
       have hfz68_1 := blk_frozen BK272.out 1
       have hnb69 := NB266_257.out
       have hnc69 := NB257_266.out
       have hnb70 := NB266_258.out
       have hnc70 := NB258_266.out
       have hnb71 := NB266_279.out
       have hnc71 := NB279_266.out
       have hcz72_0 : w54.cell? ⟨gb266, 0, none⟩ = some (.int .i64 t259) := (blk_cell BK266.out 0).trans rfl
       have hcz72_1 : w54.cell? ⟨gb266, 1, none⟩ = some (.int .i64 t260) := (blk_cell BK266.out 1).trans rfl
       have hcz72_2 : w54.cell? ⟨gb266, 2, none⟩ = some (.int .i64 t261) := (blk_cell BK266.out 2).trans rfl
       have hcz72_3 : w54.cell? ⟨gb266, 3, none⟩ = some (.int .i64 t262) := (blk_cell BK266.out 3).trans rfl
       have hcz72_4 : w54.cell? ⟨gb266, 4, none⟩ = some (.int .i64 t263) := (blk_cell BK266.out 4).trans rfl
       have hcz72_5 : w54.cell? ⟨gb266, 5, none⟩ = some (.bool true) := (blk_cell BK266.out 5).trans rfl
       have hfz72_0 := blk_frozen BK266.out 0
       have hfz72_1 := blk_frozen BK266.out 1
       have hfz72_2 := blk_frozen BK266.out 2
       have hfz72_3 := blk_frozen BK266.out 3
       have hfz72_4 := blk_frozen BK266.out 4
       have hfz72_5 := blk_frozen BK266.out 5
       go_wp2_with (first | ((with_reducible refine gate_callee (f := 66) rfl ?_); refine goesL_ (some 67) rfl rfl Tryd.func66 (by kernel_rfl) rfl #[.agg #[.int .u64 t270, .int .u64 t271], .int .i64 (wrap64 (t259 - 1))] rfl (by (try simp only [List.map_toArray, List.map_cons, List.map_nil]); first | done | rfl | (simp only [List.length_drop, List.length_take]; rfl)) ?_; (with_reducible refine (impl_Word_right.calls t270 t271 (wrap64 (t259 - 1)) t280 t281 _ A62.out).mono ?_); rintro e w73 ⟨rfl, hb⟩; refine ⟨_, rfl, ?_⟩; have n0_ := Aside0.mk (blk_below (g := gb257) (o := .cells #[.int .u64 a1_0, .int .u64 a1_1] 25 (0, 0)) (by (with_reducible repeat (first | refine blk_drewN ?_ _ | refine blk_drew ?_ | refine blk_alloc ?_ _)); refine blk_far ?_ NB257_279.out _; (with_reducible repeat (first | refine blk_drewN ?_ _ | refine blk_drew ?_ | refine blk_alloc ?_ _)); refine blk_far ?_ NB257_279.out _; (with_reducible repeat (first | refine blk_drewN ?_ _ | refine blk_drew ?_ | refine blk_alloc ?_ _)); exact BK257.out) hb); have n1_ := Aside0.mk (blk_below (g := gb258) (o := .cells #[.int .i64 0, .bool false, .int .u64 0, .int .u64 0, .int .i64 0] 27 (0, 0)) (by (with_reducible repeat (first | refine blk_drewN ?_ _ | refine blk_drew ?_ | refine blk_alloc ?_ _)); refine blk_far ?_ NB258_279.out _; (with_reducible repeat (first | refine blk_drewN ?_ _ | refine blk_drew ?_ | refine blk_alloc ?_ _)); refine blk_far ?_ NB258_279.out _; (with_reducible repeat (first | refine blk_drewN ?_ _ | refine blk_drew ?_ | refine blk_alloc ?_ _)); exact BK258.out) hb); have n2_ := Aside0.mk (blk_below (g := gb266) (o := .cells #[.int .i64 t259, .int .i64 t260, .int .i64 t261, .int .i64 t262, .int .i64 t263, .bool true] 91 (0, 0)) (by (with_reducible repeat (first | refine blk_drewN ?_ _ | refine blk_drew ?_ | refine blk_alloc ?_ _)); refine blk_far ?_ NB266_279.out _; (with_reducible repeat (first | refine blk_drewN ?_ _ | refine blk_drew ?_ | refine blk_alloc ?_ _)); refine blk_far ?_ NB266_279.out _; (with_reducible repeat (first | refine blk_drewN ?_ _ | refine blk_drew ?_ | refine blk_alloc ?_ _)); exact BK266.out) hb); have n3_ := Aside0.mk (blk_below (g := gb272) (o := .cells #[.int .u64 t270, .int .u64 t271] 25 (0, 0)) (by (with_reducible repeat (first | refine blk_drewN ?_ _ | refine blk_drew ?_ | refine blk_alloc ?_ _)); refine blk_far ?_ NB272_279.out _; (with_reducible repeat (first | refine blk_drewN ?_ _ | refine blk_drew ?_ | refine blk_alloc ?_ _)); refine blk_far ?_ NB272_279.out _; (with_reducible repeat (first | refine blk_drewN ?_ _ | refine blk_drew ?_ | refine blk_alloc ?_ _)); exact BK272.out) hb); have n4_ := Aside0.mk (blk_below (g := gb279) (o := .cells #[.int .u64 t270, .int .u64 t271] 25 (0, 0)) (by (with_reducible repeat (first | refine blk_drewN ?_ _ | refine blk_drew ?_ | refine blk_alloc ?_ _)); refine blk_put (cs := #[.int .u64 t270, .int .u64 0]) ?_ 1 _ rfl; (with_reducible repeat (first | refine blk_drewN ?_ _ | refine blk_drew ?_ | refine blk_alloc ?_ _)); refine blk_put (cs := #[.int .u64 0, .int .u64 0]) ?_ 0 _ rfl; (with_reducible repeat (first | refine blk_drewN ?_ _ | refine blk_drew ?_ | refine blk_alloc ?_ _)); exact BK279.out) hb); have n5_ := Aside0.mk (below_step (by repeat (first | (with_reducible first | exact HB.out | apply below_alloc | apply pw_below_drewN | apply below_drew1 | refine below_set ?_ GE257.out | refine below_set ?_ GE258.out | refine below_set ?_ GE266.out | refine below_set ?_ GE272.out | refine below_set ?_ GE279.out) | exact HB.out)) hb); clear BK257; clear BK258; clear BK266; clear BK272; clear BK279; clear HB; have BK257 := n0_; have BK258 := n1_; have BK266 := n2_; have BK272 := n3_; have BK279 := n4_; have HB := n5_; clear n0_ n1_ n2_ n3_ n4_ n5_; (try clear hb); (try clear hb2); (try clear hk); (try clear hi); have hnb74 := NB258_257.out; have hnc74 := NB257_258.out; have hnb75 := NB258_279.out; have hnc75 := NB279_258.out; have hcz76_0 : w73.cell? ⟨gb258, 0, none⟩ = some (.int .i64 0) := (blk_cell BK258.out 0).trans rfl; have hcz76_1 : w73.cell? ⟨gb258, 1, none⟩ = some (.bool false) := (blk_cell BK258.out 1).trans rfl; have hcz76_2 : w73.cell? ⟨gb258, 2, none⟩ = some (.int .u64 0) := (blk_cell BK258.out 2).trans rfl; have hcz76_3 : w73.cell? ⟨gb258, 3, none⟩ = some (.int .u64 0) := (blk_cell BK258.out 3).trans rfl; have hcz76_4 : w73.cell? ⟨gb258, 4, none⟩ = some (.int .i64 0) := (blk_cell BK258.out 4).trans rfl; have hfz76_0 := blk_frozen BK258.out 0; have hfz76_1 := blk_frozen BK258.out 1; have hfz76_2 := blk_frozen BK258.out 2; have hfz76_3 := blk_frozen BK258.out 3; have hfz76_4 := blk_frozen BK258.out 4))
       refine bodyPost_ret (results_cell_row rfl _ _ gb258 27 #[.int .i64 0, .bool false, .int .u64 0, .int .u64 0, .int .i64 0] (0, 0) _ rfl (by (with_reducible repeat (first | refine blk_drewN ?_ _ | refine blk_drew ?_ | refine blk_alloc ?_ _)); refine blk_put (cs := #[.int .i64 0, .bool false, .int .u64 0, .int .u64 0, .int .i64 0]) ?_ 4 _ rfl; (with_reducible repeat (first | refine blk_drewN ?_ _ | refine blk_drew ?_ | refine blk_alloc ?_ _)); refine blk_put (cs := #[.int .i64 0, .bool false, .int .u64 0, .int .u64 0, .int .i64 0]) ?_ 3 _ rfl; (with_reducible repeat (first | refine blk_drewN ?_ _ | refine blk_drew ?_ | refine blk_alloc ?_ _)); refine blk_put (cs := #[.int .i64 0, .bool false, .int .u64 0, .int .u64 0, .int .i64 0]) ?_ 2 _ rfl; (with_reducible repeat (first | refine blk_drewN ?_ _ | refine blk_drew ?_ | refine blk_alloc ?_ _)); refine blk_put (cs := #[.int .i64 0, .bool false, .int .u64 0, .int .u64 0, .int .i64 0]) ?_ 1 _ rfl; (with_reducible repeat (first | refine blk_drewN ?_ _ | refine blk_drew ?_ | refine blk_alloc ?_ _)); refine blk_put (cs := #[.int .i64 0, .bool false, .int .u64 0, .int .u64 0, .int .i64 0]) ?_ 0 _ rfl; (with_reducible repeat (first | refine blk_drewN ?_ _ | refine blk_drew ?_ | refine blk_alloc ?_ _)); exact BK258.out) Tryd.underlying27 rfl (by kernel_rfl)) rfl ?_
       exact ⟨by first | rfl | (simp [errW_none, errW_some] <;> rfl) | (simp [*, errW_none, errW_some] <;> rfl), by repeat (first | (with_reducible first | exact HB.out | apply below_alloc | apply pw_below_drewN | apply below_drew1 | refine below_set ?_ GE257.out | refine below_set ?_ GE258.out | refine below_set ?_ GE266.out | refine below_set ?_ GE272.out | refine below_set ?_ GE279.out) | exact HB.out)⟩
      ·rw [if_neg c63] at H
       have c63b0 : ((!(t280 == 0) || (!(t281 == 0))) != ((wrap64 (t276)) != 0)) = false := by simpa using c63
       (try (have c63b1 : decide ((!(t280 == 0) || (!(t281 == 0))) = ((wrap64 (t276)) != 0)) = true := by simpa using c63))
       (try (have c63b2 : ((!(t280 == 0) || (!(t281 == 0))) == ((wrap64 (t276)) != 0)) = true := by simpa using c63))
       clear c63
       (first | rw [c63b0] | (simp only [i64_w, i32_w]; rw [c63b0]) | rw [c63b1] | (simp only [c63b1]) | skip)
       replace H := Option.bind_eq_some_iff.mp H
       obtain ⟨⟨t282, t283⟩, A770, H⟩ := H
       replace H : (impl_Unpack.j1 kj3 (wrap64 (t276)) (!(t277 == 0) || (!(t278 == 0))) t259 t260 t261 t262 t263 true t270 t271 t282 t283) = some (r1, r2, r3, r4, r5) := H
       have A77 := Aside0.mk A770
       clear A770
       have H' := Aside0.mk H
       clear H
       have hnb78 := NB272_257.out
       have hnc78 := NB257_272.out
       have hnb79 := NB272_258.out
       have hnc79 := NB258_272.out
       have hnb80 := NB272_266.out
       have hnc80 := NB266_272.out
       have hnb81 := NB272_279.out
       have hnc81 := NB279_272.out
       have hcz82_0 : w54.cell? ⟨gb272, 0, none⟩ = some (.int .u64 t270) := (blk_cell BK272.out 0).trans rfl
       have hcz82_1 : w54.cell? ⟨gb272, 1, none⟩ = some (.int .u64 t271) := (blk_cell BK272.out 1).trans rfl
       have hfz82_0 := blk_frozen BK272.out 0
       have hfz82_1 := blk_frozen BK272.out 1
       have hnb83 := NB266_257.out
       have hnc83 := NB257_266.out
       have hnb84 := NB266_258.out
       have hnc84 := NB258_266.out
       have hnb85 := NB266_279.out
       have hnc85 := NB279_266.out
       have hcz86_0 : w54.cell? ⟨gb266, 0, none⟩ = some (.int .i64 t259) := (blk_cell BK266.out 0).trans rfl
       have hcz86_1 : w54.cell? ⟨gb266, 1, none⟩ = some (.int .i64 t260) := (blk_cell BK266.out 1).trans rfl
       have hcz86_2 : w54.cell? ⟨gb266, 2, none⟩ = some (.int .i64 t261) := (blk_cell BK266.out 2).trans rfl
       have hcz86_3 : w54.cell? ⟨gb266, 3, none⟩ = some (.int .i64 t262) := (blk_cell BK266.out 3).trans rfl
       have hcz86_4 : w54.cell? ⟨gb266, 4, none⟩ = some (.int .i64 t263) := (blk_cell BK266.out 4).trans rfl
       have hcz86_5 : w54.cell? ⟨gb266, 5, none⟩ = some (.bool true) := (blk_cell BK266.out 5).trans rfl
       have hfz86_0 := blk_frozen BK266.out 0
       have hfz86_1 := blk_frozen BK266.out 1
       have hfz86_2 := blk_frozen BK266.out 2
       have hfz86_3 := blk_frozen BK266.out 3
       have hfz86_4 := blk_frozen BK266.out 4
       have hfz86_5 := blk_frozen BK266.out 5
       go_wp2_with (first | ((with_reducible refine gate_callee (f := 66) rfl ?_); refine goesL_ (some 67) rfl rfl Tryd.func66 (by kernel_rfl) rfl #[.agg #[.int .u64 t270, .int .u64 t271], .int .i64 (wrap64 (t259 - 1))] rfl (by (try simp only [List.map_toArray, List.map_cons, List.map_nil]); first | done | rfl | (simp only [List.length_drop, List.length_take]; rfl)) ?_; (with_reducible refine (impl_Word_right.calls t270 t271 (wrap64 (t259 - 1)) t280 t281 _ A62.out).mono ?_); rintro e w87 ⟨rfl, hb⟩; refine ⟨_, rfl, ?_⟩; have n0_ := Aside0.mk (blk_below (g := gb257) (o := .cells #[.int .u64 a1_0, .int .u64 a1_1] 25 (0, 0)) (by (with_reducible repeat (first | refine blk_drewN ?_ _ | refine blk_drew ?_ | refine blk_alloc ?_ _)); refine blk_far ?_ NB257_279.out _; (with_reducible repeat (first | refine blk_drewN ?_ _ | refine blk_drew ?_ | refine blk_alloc ?_ _)); refine blk_far ?_ NB257_279.out _; (with_reducible repeat (first | refine blk_drewN ?_ _ | refine blk_drew ?_ | refine blk_alloc ?_ _)); exact BK257.out) hb); have n1_ := Aside0.mk (blk_below (g := gb258) (o := .cells #[.int .i64 0, .bool false, .int .u64 0, .int .u64 0, .int .i64 0] 27 (0, 0)) (by (with_reducible repeat (first | refine blk_drewN ?_ _ | refine blk_drew ?_ | refine blk_alloc ?_ _)); refine blk_far ?_ NB258_279.out _; (with_reducible repeat (first | refine blk_drewN ?_ _ | refine blk_drew ?_ | refine blk_alloc ?_ _)); refine blk_far ?_ NB258_279.out _; (with_reducible repeat (first | refine blk_drewN ?_ _ | refine blk_drew ?_ | refine blk_alloc ?_ _)); exact BK258.out) hb); have n2_ := Aside0.mk (blk_below (g := gb266) (o := .cells #[.int .i64 t259, .int .i64 t260, .int .i64 t261, .int .i64 t262, .int .i64 t263, .bool true] 91 (0, 0)) (by (with_reducible repeat (first | refine blk_drewN ?_ _ | refine blk_drew ?_ | refine blk_alloc ?_ _)); refine blk_far ?_ NB266_279.out _; (with_reducible repeat (first | refine blk_drewN ?_ _ | refine blk_drew ?_ | refine blk_alloc ?_ _)); refine blk_far ?_ NB266_279.out _; (with_reducible repeat (first | refine blk_drewN ?_ _ | refine blk_drew ?_ | refine blk_alloc ?_ _)); exact BK266.out) hb); have n3_ := Aside0.mk (blk_below (g := gb272) (o := .cells #[.int .u64 t270, .int .u64 t271] 25 (0, 0)) (by (with_reducible repeat (first | refine blk_drewN ?_ _ | refine blk_drew ?_ | refine blk_alloc ?_ _)); refine blk_far ?_ NB272_279.out _; (with_reducible repeat (first | refine blk_drewN ?_ _ | refine blk_drew ?_ | refine blk_alloc ?_ _)); refine blk_far ?_ NB272_279.out _; (with_reducible repeat (first | refine blk_drewN ?_ _ | refine blk_drew ?_ | refine blk_alloc ?_ _)); exact BK272.out) hb); have n4_ := Aside0.mk (blk_below (g := gb279) (o := .cells #[.int .u64 t270, .int .u64 t271] 25 (0, 0)) (by (with_reducible repeat (first | refine blk_drewN ?_ _ | refine blk_drew ?_ | refine blk_alloc ?_ _)); refine blk_put (cs := #[.int .u64 t270, .int .u64 0]) ?_ 1 _ rfl; (with_reducible repeat (first | refine blk_drewN ?_ _ | refine blk_drew ?_ | refine blk_alloc ?_ _)); refine blk_put (cs := #[.int .u64 0, .int .u64 0]) ?_ 0 _ rfl; (with_reducible repeat (first | refine blk_drewN ?_ _ | refine blk_drew ?_ | refine blk_alloc ?_ _)); exact BK279.out) hb); have n5_ := Aside0.mk (below_step (by repeat (first | (with_reducible first | exact HB.out | apply below_alloc | apply pw_below_drewN | apply below_drew1 | refine below_set ?_ GE257.out | refine below_set ?_ GE258.out | refine below_set ?_ GE266.out | refine below_set ?_ GE272.out | refine below_set ?_ GE279.out) | exact HB.out)) hb); clear BK257; clear BK258; clear BK266; clear BK272; clear BK279; clear HB; have BK257 := n0_; have BK258 := n1_; have BK266 := n2_; have BK272 := n3_; have BK279 := n4_; have HB := n5_; clear n0_ n1_ n2_ n3_ n4_ n5_; (try clear hb); (try clear hb2); (try clear hk); (try clear hi); have hcz88_0 : w87.cell? ⟨gb272, 0, none⟩ = some (.int .u64 t270) := (blk_cell BK272.out 0).trans rfl; have hcz88_1 : w87.cell? ⟨gb272, 1, none⟩ = some (.int .u64 t271) := (blk_cell BK272.out 1).trans rfl; have hfz88_0 := blk_frozen BK272.out 0; have hfz88_1 := blk_frozen BK272.out 1; have hcz89_0 : w87.cell? ⟨gb266, 0, none⟩ = some (.int .i64 t259) := (blk_cell BK266.out 0).trans rfl; have hcz89_1 : w87.cell? ⟨gb266, 1, none⟩ = some (.int .i64 t260) := (blk_cell BK266.out 1).trans rfl; have hcz89_2 : w87.cell? ⟨gb266, 2, none⟩ = some (.int .i64 t261) := (blk_cell BK266.out 2).trans rfl; have hcz89_3 : w87.cell? ⟨gb266, 3, none⟩ = some (.int .i64 t262) := (blk_cell BK266.out 3).trans rfl; have hcz89_4 : w87.cell? ⟨gb266, 4, none⟩ = some (.int .i64 t263) := (blk_cell BK266.out 4).trans rfl; have hcz89_5 : w87.cell? ⟨gb266, 5, none⟩ = some (.bool true) := (blk_cell BK266.out 5).trans rfl; have hfz89_0 := blk_frozen BK266.out 0; have hfz89_1 := blk_frozen BK266.out 1; have hfz89_2 := blk_frozen BK266.out 2; have hfz89_3 := blk_frozen BK266.out 3; have hfz89_4 := blk_frozen BK266.out 4; have hfz89_5 := blk_frozen BK266.out 5) | ((with_reducible refine gate_callee (f := 68) rfl ?_); refine goesL_ (some 80) rfl rfl Tryd.func68 (by kernel_rfl) rfl #[.agg #[.int .u64 t270, .int .u64 t271], .int .i64 (wrap64 (t259 - 1))] rfl (by (try simp only [List.map_toArray, List.map_cons, List.map_nil]); first | done | rfl | (simp only [List.length_drop, List.length_take]; rfl)) ?_; (with_reducible refine (impl_Word_low.calls t270 t271 (wrap64 (t259 - 1)) t282 t283 _ A77.out).mono ?_); rintro e w90 ⟨rfl, hb⟩; refine ⟨_, rfl, ?_⟩; have n0_ := Aside0.mk (blk_below (g := gb257) (o := .cells #[.int .u64 a1_0, .int .u64 a1_1] 25 (0, 0)) (by (with_reducible repeat (first | refine blk_drewN ?_ _ | refine blk_drew ?_ | refine blk_alloc ?_ _)); exact BK257.out) hb); have n1_ := Aside0.mk (blk_below (g := gb258) (o := .cells #[.int .i64 0, .bool false, .int .u64 0, .int .u64 0, .int .i64 0] 27 (0, 0)) (by (with_reducible repeat (first | refine blk_drewN ?_ _ | refine blk_drew ?_ | refine blk_alloc ?_ _)); exact BK258.out) hb); have n2_ := Aside0.mk (blk_below (g := gb266) (o := .cells #[.int .i64 t259, .int .i64 t260, .int .i64 t261, .int .i64 t262, .int .i64 t263, .bool true] 91 (0, 0)) (by (with_reducible repeat (first | refine blk_drewN ?_ _ | refine blk_drew ?_ | refine blk_alloc ?_ _)); exact BK266.out) hb); have n3_ := Aside0.mk (blk_below (g := gb272) (o := .cells #[.int .u64 t270, .int .u64 t271] 25 (0, 0)) (by (with_reducible repeat (first | refine blk_drewN ?_ _ | refine blk_drew ?_ | refine blk_alloc ?_ _)); exact BK272.out) hb); have n4_ := Aside0.mk (blk_below (g := gb279) (o := .cells #[.int .u64 t270, .int .u64 t271] 25 (0, 0)) (by (with_reducible repeat (first | refine blk_drewN ?_ _ | refine blk_drew ?_ | refine blk_alloc ?_ _)); exact BK279.out) hb); have n5_ := Aside0.mk (below_step (by repeat (first | (with_reducible first | exact HB.out | apply below_alloc | apply pw_below_drewN | apply below_drew1 | refine below_set ?_ GE257.out | refine below_set ?_ GE258.out | refine below_set ?_ GE266.out | refine below_set ?_ GE272.out | refine below_set ?_ GE279.out) | exact HB.out)) hb); clear BK257; clear BK258; clear BK266; clear BK272; clear BK279; clear HB; have BK257 := n0_; have BK258 := n1_; have BK266 := n2_; have BK272 := n3_; have BK279 := n4_; have HB := n5_; clear n0_ n1_ n2_ n3_ n4_ n5_; (try clear hb); (try clear hb2); (try clear hk); (try clear hi); have hnb91 := NB279_257.out; have hnc91 := NB257_279.out; have hnb92 := NB279_258.out; have hnc92 := NB258_279.out; have hcz93_0 : w90.cell? ⟨gb279, 0, none⟩ = some (.int .u64 t270) := (blk_cell BK279.out 0).trans rfl; have hcz93_1 : w90.cell? ⟨gb279, 1, none⟩ = some (.int .u64 t271) := (blk_cell BK279.out 1).trans rfl; have hfz93_0 := blk_frozen BK279.out 0; have hfz93_1 := blk_frozen BK279.out 1))
       go_meet
       case rel => exact ⟨_, (0), (false), (0), (0), (0), (t282), (t283), H', ⟨by have := HJ3.out; first | omega | exact Nat.le_refl _⟩, ⟨by (with_reducible repeat (first | refine blk_drewN ?_ _ | refine blk_drew ?_ | refine blk_alloc ?_ _)); refine blk_far ?_ NB257_279.out _; (with_reducible repeat (first | refine blk_drewN ?_ _ | refine blk_drew ?_ | refine blk_alloc ?_ _)); refine blk_far ?_ NB257_279.out _; (with_reducible repeat (first | refine blk_drewN ?_ _ | refine blk_drew ?_ | refine blk_alloc ?_ _)); exact BK257.out⟩, ⟨by (with_reducible repeat (first | refine blk_drewN ?_ _ | refine blk_drew ?_ | refine blk_alloc ?_ _)); refine blk_far ?_ NB258_279.out _; (with_reducible repeat (first | refine blk_drewN ?_ _ | refine blk_drew ?_ | refine blk_alloc ?_ _)); refine blk_far ?_ NB258_279.out _; (with_reducible repeat (first | refine blk_drewN ?_ _ | refine blk_drew ?_ | refine blk_alloc ?_ _)); exact BK258.out⟩, ⟨by (with_reducible repeat (first | refine blk_drewN ?_ _ | refine blk_drew ?_ | refine blk_alloc ?_ _)); refine blk_far ?_ NB266_279.out _; (with_reducible repeat (first | refine blk_drewN ?_ _ | refine blk_drew ?_ | refine blk_alloc ?_ _)); refine blk_far ?_ NB266_279.out _; (with_reducible repeat (first | refine blk_drewN ?_ _ | refine blk_drew ?_ | refine blk_alloc ?_ _)); exact BK266.out⟩, ⟨by (with_reducible repeat (first | refine blk_drewN ?_ _ | refine blk_drew ?_ | refine blk_alloc ?_ _)); refine blk_far ?_ NB272_279.out _; (with_reducible repeat (first | refine blk_drewN ?_ _ | refine blk_drew ?_ | refine blk_alloc ?_ _)); refine blk_far ?_ NB272_279.out _; (with_reducible repeat (first | refine blk_drewN ?_ _ | refine blk_drew ?_ | refine blk_alloc ?_ _)); exact BK272.out⟩, ⟨by (with_reducible repeat (first | refine blk_drewN ?_ _ | refine blk_drew ?_ | refine blk_alloc ?_ _)); refine blk_put (cs := #[.int .u64 t282, .int .u64 t271]) ?_ 1 _ rfl; (with_reducible repeat (first | refine blk_drewN ?_ _ | refine blk_drew ?_ | refine blk_alloc ?_ _)); refine blk_put (cs := #[.int .u64 t270, .int .u64 t271]) ?_ 0 _ rfl; (with_reducible repeat (first | refine blk_drewN ?_ _ | refine blk_drew ?_ | refine blk_alloc ?_ _)); exact BK279.out⟩, ⟨by repeat (first | (with_reducible first | exact HB.out | apply below_alloc | apply pw_below_drewN | apply below_drew1 | refine below_set ?_ GE257.out | refine below_set ?_ GE258.out | refine below_set ?_ GE266.out | refine below_set ?_ GE272.out | refine below_set ?_ GE279.out) | exact HB.out)⟩⟩
     ·replace c61 := Bool.eq_false_iff.mpr c61
      subst c61
      have H1 : (impl_Unpack.j1 kj3 (wrap64 (t276)) (!(t277 == 0) || (!(t278 == 0))) t259 t260 t261 t262 t263 false t270 t271 t270 t271) = some (r1, r2, r3, r4, r5) := by rw [if_neg (show ¬ (false = true) by decide)] at H; exact H
      clear H
      have H := H1
      clear H1
      have H' := Aside0.mk H
      clear H
      go_wp2
      go_meet
      case rel => exact ⟨_, (0), (false), (0), (0), (0), (t270), (t271), H', ⟨by have := HJ3.out; first | omega | exact Nat.le_refl _⟩, ⟨by (with_reducible repeat (first | refine blk_drewN ?_ _ | refine blk_drew ?_ | refine blk_alloc ?_ _)); refine blk_far ?_ NB257_279.out _; (with_reducible repeat (first | refine blk_drewN ?_ _ | refine blk_drew ?_ | refine blk_alloc ?_ _)); refine blk_far ?_ NB257_279.out _; (with_reducible repeat (first | refine blk_drewN ?_ _ | refine blk_drew ?_ | refine blk_alloc ?_ _)); exact BK257.out⟩, ⟨by (with_reducible repeat (first | refine blk_drewN ?_ _ | refine blk_drew ?_ | refine blk_alloc ?_ _)); refine blk_far ?_ NB258_279.out _; (with_reducible repeat (first | refine blk_drewN ?_ _ | refine blk_drew ?_ | refine blk_alloc ?_ _)); refine blk_far ?_ NB258_279.out _; (with_reducible repeat (first | refine blk_drewN ?_ _ | refine blk_drew ?_ | refine blk_alloc ?_ _)); exact BK258.out⟩, ⟨by (with_reducible repeat (first | refine blk_drewN ?_ _ | refine blk_drew ?_ | refine blk_alloc ?_ _)); refine blk_far ?_ NB266_279.out _; (with_reducible repeat (first | refine blk_drewN ?_ _ | refine blk_drew ?_ | refine blk_alloc ?_ _)); refine blk_far ?_ NB266_279.out _; (with_reducible repeat (first | refine blk_drewN ?_ _ | refine blk_drew ?_ | refine blk_alloc ?_ _)); exact BK266.out⟩, ⟨by (with_reducible repeat (first | refine blk_drewN ?_ _ | refine blk_drew ?_ | refine blk_alloc ?_ _)); refine blk_far ?_ NB272_279.out _; (with_reducible repeat (first | refine blk_drewN ?_ _ | refine blk_drew ?_ | refine blk_alloc ?_ _)); refine blk_far ?_ NB272_279.out _; (with_reducible repeat (first | refine blk_drewN ?_ _ | refine blk_drew ?_ | refine blk_alloc ?_ _)); exact BK272.out⟩, ⟨by (with_reducible repeat (first | refine blk_drewN ?_ _ | refine blk_drew ?_ | refine blk_alloc ?_ _)); refine blk_put (cs := #[.int .u64 t270, .int .u64 0]) ?_ 1 _ rfl; (with_reducible repeat (first | refine blk_drewN ?_ _ | refine blk_drew ?_ | refine blk_alloc ?_ _)); refine blk_put (cs := #[.int .u64 0, .int .u64 0]) ?_ 0 _ rfl; (with_reducible repeat (first | refine blk_drewN ?_ _ | refine blk_drew ?_ | refine blk_alloc ?_ _)); exact BK279.out⟩, ⟨by repeat (first | (with_reducible first | exact HB.out | apply below_alloc | apply pw_below_drewN | apply below_drew1 | refine below_set ?_ GE257.out | refine below_set ?_ GE258.out | refine below_set ?_ GE266.out | refine below_set ?_ GE272.out | refine below_set ?_ GE279.out) | exact HB.out)⟩⟩
    case rest =>
     clear HC33
     try clear c1; try clear c2; try clear p2; try clear c3; try clear c4; try clear c5; try clear c6; try clear p6; try clear c7; try clear c8; try clear c9; try clear c10; try clear c12; try clear c13; try clear c13b0; try clear c13b1; try clear c15; try clear c16; try clear c17; try clear c18; try clear c21; try clear c22; try clear c24; try clear c25; try clear c26; try clear c34; try clear c35; try clear c38; try clear c42; try clear c43; try clear c44; try clear c55; try clear c56; try clear c57; try clear c58; try clear c61; try clear c63; try clear c63b0; try clear c63b1; try clear c63b2; try clear c64; try clear p64; try clear c65; try clear c66; try clear c67; try clear c68; try clear c69; try clear c70; try clear c71; try clear c74; try clear c75; try clear c78; try clear c79; try clear c80; try clear c81; try clear c83; try clear c84; try clear c85; try clear c91; try clear c92; try clear hcz11_0; try clear hcz11_1; try clear hcz11_2; try clear hcz11_3; try clear hcz11_4; try clear hcz11_5; try clear hcz17_0; try clear hcz17_1; try clear hcz17_2; try clear hcz17_3; try clear hcz17_4; try clear hcz17_5; try clear hcz19_0; try clear hcz19_1; try clear hcz23_0; try clear hcz23_1; try clear hcz23_2; try clear hcz23_3; try clear hcz23_4; try clear hcz23_5; try clear hcz27_0; try clear hcz27_1; try clear hcz27_2; try clear hcz27_3; try clear hcz27_4; try clear hcz36_0; try clear hcz36_1; try clear hcz36_2; try clear hcz36_3; try clear hcz36_4; try clear hcz36_5; try clear hcz39_0; try clear hcz39_1; try clear hcz45_0; try clear hcz45_1; try clear hcz50_0; try clear hcz50_1; try clear hcz51_0; try clear hcz51_1; try clear hcz51_2; try clear hcz51_3; try clear hcz51_4; try clear hcz51_5; try clear hcz53_0; try clear hcz53_1; try clear hcz59_0; try clear hcz59_1; try clear hcz60_0; try clear hcz60_1; try clear hcz60_2; try clear hcz60_3; try clear hcz60_4; try clear hcz60_5; try clear hcz68_0; try clear hcz68_1; try clear hcz72_0; try clear hcz72_1; try clear hcz72_2; try clear hcz72_3; try clear hcz72_4; try clear hcz72_5; try clear hcz76_0; try clear hcz76_1; try clear hcz76_2; try clear hcz76_3; try clear hcz76_4; try clear hcz82_0; try clear hcz82_1; try clear hcz86_0; try clear hcz86_1; try clear hcz86_2; try clear hcz86_3; try clear hcz86_4; try clear hcz86_5; try clear hcz88_0; try clear hcz88_1; try clear hcz89_0; try clear hcz89_1; try clear hcz89_2; try clear hcz89_3; try clear hcz89_4; try clear hcz89_5; try clear hcz93_0; try clear hcz93_1; try clear hfz11_0; try clear hfz11_1; try clear hfz11_2; try clear hfz11_3; try clear hfz11_4; try clear hfz11_5; try clear hfz17_0; try clear hfz17_1; try clear hfz17_2; try clear hfz17_3; try clear hfz17_4; try clear hfz17_5; try clear hfz19_0; try clear hfz19_1; try clear hfz23_0; try clear hfz23_1; try clear hfz23_2; try clear hfz23_3; try clear hfz23_4; try clear hfz23_5; try clear hfz27_0; try clear hfz27_1; try clear hfz27_2; try clear hfz27_3; try clear hfz27_4; try clear hfz36_0; try clear hfz36_1; try clear hfz36_2; try clear hfz36_3; try clear hfz36_4; try clear hfz36_5; try clear hfz39_0; try clear hfz39_1; try clear hfz45_0; try clear hfz45_1; try clear hfz50_0; try clear hfz50_1; try clear hfz51_0; try clear hfz51_1; try clear hfz51_2; try clear hfz51_3; try clear hfz51_4; try clear hfz51_5; try clear hfz53_0; try clear hfz53_1; try clear hfz59_0; try clear hfz59_1; try clear hfz60_0; try clear hfz60_1; try clear hfz60_2; try clear hfz60_3; try clear hfz60_4; try clear hfz60_5; try clear hfz68_0; try clear hfz68_1; try clear hfz72_0; try clear hfz72_1; try clear hfz72_2; try clear hfz72_3; try clear hfz72_4; try clear hfz72_5; try clear hfz76_0; try clear hfz76_1; try clear hfz76_2; try clear hfz76_3; try clear hfz76_4; try clear hfz82_0; try clear hfz82_1; try clear hfz86_0; try clear hfz86_1; try clear hfz86_2; try clear hfz86_3; try clear hfz86_4; try clear hfz86_5; try clear hfz88_0; try clear hfz88_1; try clear hfz89_0; try clear hfz89_1; try clear hfz89_2; try clear hfz89_3; try clear hfz89_4; try clear hfz89_5; try clear hfz93_0; try clear hfz93_1; try clear p2
     obtain ⟨kq, x259000_32, x259001_32, x259002_32, x259003_32, x259004_32, x280000_32, x280001_32, HA, HJ32, BK257, BK258, BK266, BK272, BK279, HB⟩ := hcut
     cases kq with
     | zero => exact absurd HA.out (by simp [impl_Unpack.j1])
     | succ kj32 =>
      have H := HA.out
      clear HA
      simp only [impl_Unpack.j1] at H
      have HC94 := Aside0.mk H
      clear H
      go_upto_region 14 with (fail)
      go_cut [81] (fun v81 wc => ∃ (kq : Nat) (x81_93 : Bool), v81 = .bool x81_93 ∧ Aside0 (impl_Unpack.j2 kq (wrap64 (t276)) (!(t277 == 0) || (!(t278 == 0))) x81_93 t259 t260 t261 t262 t263 t264 t270 t271 = some (r1, r2, r3, r4, r5)) ∧ Aside0 (kq ≤ kj32) ∧ Aside0 (wc.heap[gb257]? = some (.cells #[.int .u64 a1_0, .int .u64 a1_1] 25 (0, 0))) ∧ Aside0 (wc.heap[gb258]? = some (.cells #[.int .i64 x259000_32, .bool x259001_32, .int .u64 x259002_32, .int .u64 x259003_32, .int .i64 x259004_32] 27 (0, 0))) ∧ Aside0 (wc.heap[gb266]? = some (.cells #[.int .i64 t259, .int .i64 t260, .int .i64 t261, .int .i64 t262, .int .i64 t263, .bool t264] 91 (0, 0))) ∧ Aside0 (wc.heap[gb272]? = some (.cells #[.int .u64 t270, .int .u64 t271] 25 (0, 0))) ∧ Aside0 (wc.heap[gb279]? = some (.cells #[.int .u64 x280000_32, .int .u64 x280001_32] 25 (0, 0))) ∧ Aside0 (Below w.heap.size w wc))
      case first =>
       have H := HC94.out
       clear HC94
       replace H := Option.bind_eq_some_iff.mp H
       obtain ⟨t284, A950, H⟩ := H
       replace H : (if (wrap64 (t276)) = t284 then (impl_Unpack.j2 kj32 (wrap64 (t276)) (!(t277 == 0) || (!(t278 == 0))) (x280000_32 == 0 && (x280001_32 == 0)) t259 t260 t261 t262 t263 t264 t270 t271) else (impl_Unpack.j2 kj32 (wrap64 (t276)) (!(t277 == 0) || (!(t278 == 0))) false t259 t260 t261 t262 t263 t264 t270 t271)) = some (r1, r2, r3, r4, r5) := H
       have A95 := Aside0.mk A950
       clear A950
       by_cases c96 : (wrap64 (t276)) = t284
       ·rw [if_pos c96] at H
        have c96b0 : ((wrap64 (t276)) == t284) = true := beq_iff_eq.mpr c96
        have c96b1 : ((wrap64 (t276)) != t284) = false := bne_eq_false_iff_eq.mpr c96
        clear c96
        (first | rw [c96b0] | (simp only [i64_w, i32_w]; rw [c96b0]) | rw [c96b1] | (simp only [c96b1]) | skip)
        have H' := Aside0.mk H
        clear H
        have hnb97 := NB266_257.out
        have hnc97 := NB257_266.out
        have hnb98 := NB266_258.out
        have hnc98 := NB258_266.out
        have hnb99 := NB266_272.out
        have hnc99 := NB272_266.out
        have hnb100 := NB266_279.out
        have hnc100 := NB279_266.out
        have hcz101_0 : wc.cell? ⟨gb266, 0, none⟩ = some (.int .i64 t259) := (blk_cell BK266.out 0).trans rfl
        have hcz101_1 : wc.cell? ⟨gb266, 1, none⟩ = some (.int .i64 t260) := (blk_cell BK266.out 1).trans rfl
        have hcz101_2 : wc.cell? ⟨gb266, 2, none⟩ = some (.int .i64 t261) := (blk_cell BK266.out 2).trans rfl
        have hcz101_3 : wc.cell? ⟨gb266, 3, none⟩ = some (.int .i64 t262) := (blk_cell BK266.out 3).trans rfl
        have hcz101_4 : wc.cell? ⟨gb266, 4, none⟩ = some (.int .i64 t263) := (blk_cell BK266.out 4).trans rfl
        have hcz101_5 : wc.cell? ⟨gb266, 5, none⟩ = some (.bool t264) := (blk_cell BK266.out 5).trans rfl
        have hfz101_0 := blk_frozen BK266.out 0
        have hfz101_1 := blk_frozen BK266.out 1
        have hfz101_2 := blk_frozen BK266.out 2
        have hfz101_3 := blk_frozen BK266.out 3
        have hfz101_4 := blk_frozen BK266.out 4
        have hfz101_5 := blk_frozen BK266.out 5
        go_wp2_with (first | ((with_reducible refine gate_callee (f := 69) rfl ?_); refine goesL_ (some 84) rfl rfl Tryd.func69 (by kernel_rfl) rfl #[.agg #[.int .i64 t259, .int .i64 t260, .int .i64 t261, .int .i64 t262, .int .i64 t263, .bool t264]] rfl (by (try simp only [List.map_toArray, List.map_cons, List.map_nil]); first | done | rfl | (simp only [List.length_drop, List.length_take]; rfl)) ?_; (with_reducible refine (impl_layout_top.calls t259 t260 t261 t262 t263 t264 t284 _ A95.out).mono ?_); rintro e w102 ⟨rfl, hb⟩; refine ⟨_, rfl, ?_⟩; have n0_ := Aside0.mk (blk_below (g := gb257) (o := .cells #[.int .u64 a1_0, .int .u64 a1_1] 25 (0, 0)) (by (with_reducible repeat (first | refine blk_drewN ?_ _ | refine blk_drew ?_ | refine blk_alloc ?_ _)); exact BK257.out) hb); have n1_ := Aside0.mk (blk_below (g := gb258) (o := .cells #[.int .i64 x259000_32, .bool x259001_32, .int .u64 x259002_32, .int .u64 x259003_32, .int .i64 x259004_32] 27 (0, 0)) (by (with_reducible repeat (first | refine blk_drewN ?_ _ | refine blk_drew ?_ | refine blk_alloc ?_ _)); exact BK258.out) hb); have n2_ := Aside0.mk (blk_below (g := gb266) (o := .cells #[.int .i64 t259, .int .i64 t260, .int .i64 t261, .int .i64 t262, .int .i64 t263, .bool t264] 91 (0, 0)) (by (with_reducible repeat (first | refine blk_drewN ?_ _ | refine blk_drew ?_ | refine blk_alloc ?_ _)); exact BK266.out) hb); have n3_ := Aside0.mk (blk_below (g := gb272) (o := .cells #[.int .u64 t270, .int .u64 t271] 25 (0, 0)) (by (with_reducible repeat (first | refine blk_drewN ?_ _ | refine blk_drew ?_ | refine blk_alloc ?_ _)); exact BK272.out) hb); have n4_ := Aside0.mk (blk_below (g := gb279) (o := .cells #[.int .u64 x280000_32, .int .u64 x280001_32] 25 (0, 0)) (by (with_reducible repeat (first | refine blk_drewN ?_ _ | refine blk_drew ?_ | refine blk_alloc ?_ _)); exact BK279.out) hb); have n5_ := Aside0.mk (below_step (by repeat (first | (with_reducible first | exact HB.out | apply below_alloc | apply pw_below_drewN | apply below_drew1 | refine below_set ?_ GE257.out | refine below_set ?_ GE258.out | refine below_set ?_ GE266.out | refine below_set ?_ GE272.out | refine below_set ?_ GE279.out) | exact HB.out)) hb); clear BK257; clear BK258; clear BK266; clear BK272; clear BK279; clear HB; have BK257 := n0_; have BK258 := n1_; have BK266 := n2_; have BK272 := n3_; have BK279 := n4_; have HB := n5_; clear n0_ n1_ n2_ n3_ n4_ n5_; (try clear hb); (try clear hb2); (try clear hk); (try clear hi); have hnb103 := NB279_257.out; have hnc103 := NB257_279.out; have hnb104 := NB279_258.out; have hnc104 := NB258_279.out; have hnb105 := NB279_272.out; have hnc105 := NB272_279.out; have hcz106_0 : w102.cell? ⟨gb279, 0, none⟩ = some (.int .u64 x280000_32) := (blk_cell BK279.out 0).trans rfl; have hcz106_1 : w102.cell? ⟨gb279, 1, none⟩ = some (.int .u64 x280001_32) := (blk_cell BK279.out 1).trans rfl; have hfz106_0 := blk_frozen BK279.out 0; have hfz106_1 := blk_frozen BK279.out 1))
        go_meet
        case rel => exact ⟨_, ((x280000_32 == 0 && (x280001_32 == 0))), (by first | rfl | (simp; done) | (simp [*]; done)), H', ⟨by have := HJ3.out; have := HJ32.out; first | omega | exact Nat.le_refl _⟩, ⟨by (with_reducible repeat (first | refine blk_drewN ?_ _ | refine blk_drew ?_ | refine blk_alloc ?_ _)); exact BK257.out⟩, ⟨by (with_reducible repeat (first | refine blk_drewN ?_ _ | refine blk_drew ?_ | refine blk_alloc ?_ _)); exact BK258.out⟩, ⟨by (with_reducible repeat (first | refine blk_drewN ?_ _ | refine blk_drew ?_ | refine blk_alloc ?_ _)); exact BK266.out⟩, ⟨by (with_reducible repeat (first | refine blk_drewN ?_ _ | refine blk_drew ?_ | refine blk_alloc ?_ _)); exact BK272.out⟩, ⟨by (with_reducible repeat (first | refine blk_drewN ?_ _ | refine blk_drew ?_ | refine blk_alloc ?_ _)); exact BK279.out⟩, ⟨by repeat (first | (with_reducible first | exact HB.out | apply below_alloc | apply pw_below_drewN | apply below_drew1 | refine below_set ?_ GE257.out | refine below_set ?_ GE258.out | refine below_set ?_ GE266.out | refine below_set ?_ GE272.out | refine below_set ?_ GE279.out) | exact HB.out)⟩⟩
       ·rw [if_neg c96] at H
        have c96b0 : ((wrap64 (t276)) == t284) = false := beq_eq_false_iff_ne.mpr c96
        have c96b1 : ((wrap64 (t276)) != t284) = true := bne_iff_ne.mpr c96
        (first | rw [c96b0] | (simp only [i64_w, i32_w]; rw [c96b0]) | rw [c96b1] | (simp only [c96b1]) | skip)
        have H' := Aside0.mk H
        clear H
        have hnb107 := NB266_257.out
        have hnc107 := NB257_266.out
        have hnb108 := NB266_258.out
        have hnc108 := NB258_266.out
        have hnb109 := NB266_272.out
        have hnc109 := NB272_266.out
        have hnb110 := NB266_279.out
        have hnc110 := NB279_266.out
        have hcz111_0 : wc.cell? ⟨gb266, 0, none⟩ = some (.int .i64 t259) := (blk_cell BK266.out 0).trans rfl
        have hcz111_1 : wc.cell? ⟨gb266, 1, none⟩ = some (.int .i64 t260) := (blk_cell BK266.out 1).trans rfl
        have hcz111_2 : wc.cell? ⟨gb266, 2, none⟩ = some (.int .i64 t261) := (blk_cell BK266.out 2).trans rfl
        have hcz111_3 : wc.cell? ⟨gb266, 3, none⟩ = some (.int .i64 t262) := (blk_cell BK266.out 3).trans rfl
        have hcz111_4 : wc.cell? ⟨gb266, 4, none⟩ = some (.int .i64 t263) := (blk_cell BK266.out 4).trans rfl
        have hcz111_5 : wc.cell? ⟨gb266, 5, none⟩ = some (.bool t264) := (blk_cell BK266.out 5).trans rfl
        have hfz111_0 := blk_frozen BK266.out 0
        have hfz111_1 := blk_frozen BK266.out 1
        have hfz111_2 := blk_frozen BK266.out 2
        have hfz111_3 := blk_frozen BK266.out 3
        have hfz111_4 := blk_frozen BK266.out 4
        have hfz111_5 := blk_frozen BK266.out 5
        go_wp2_with (first | ((with_reducible refine gate_callee (f := 69) rfl ?_); refine goesL_ (some 84) rfl rfl Tryd.func69 (by kernel_rfl) rfl #[.agg #[.int .i64 t259, .int .i64 t260, .int .i64 t261, .int .i64 t262, .int .i64 t263, .bool t264]] rfl (by (try simp only [List.map_toArray, List.map_cons, List.map_nil]); first | done | rfl | (simp only [List.length_drop, List.length_take]; rfl)) ?_; (with_reducible refine (impl_layout_top.calls t259 t260 t261 t262 t263 t264 t284 _ A95.out).mono ?_); rintro e w112 ⟨rfl, hb⟩; refine ⟨_, rfl, ?_⟩; have n0_ := Aside0.mk (blk_below (g := gb257) (o := .cells #[.int .u64 a1_0, .int .u64 a1_1] 25 (0, 0)) (by (with_reducible repeat (first | refine blk_drewN ?_ _ | refine blk_drew ?_ | refine blk_alloc ?_ _)); exact BK257.out) hb); have n1_ := Aside0.mk (blk_below (g := gb258) (o := .cells #[.int .i64 x259000_32, .bool x259001_32, .int .u64 x259002_32, .int .u64 x259003_32, .int .i64 x259004_32] 27 (0, 0)) (by (with_reducible repeat (first | refine blk_drewN ?_ _ | refine blk_drew ?_ | refine blk_alloc ?_ _)); exact BK258.out) hb); have n2_ := Aside0.mk (blk_below (g := gb266) (o := .cells #[.int .i64 t259, .int .i64 t260, .int .i64 t261, .int .i64 t262, .int .i64 t263, .bool t264] 91 (0, 0)) (by (with_reducible repeat (first | refine blk_drewN ?_ _ | refine blk_drew ?_ | refine blk_alloc ?_ _)); exact BK266.out) hb); have n3_ := Aside0.mk (blk_below (g := gb272) (o := .cells #[.int .u64 t270, .int .u64 t271] 25 (0, 0)) (by (with_reducible repeat (first | refine blk_drewN ?_ _ | refine blk_drew ?_ | refine blk_alloc ?_ _)); exact BK272.out) hb); have n4_ := Aside0.mk (blk_below (g := gb279) (o := .cells #[.int .u64 x280000_32, .int .u64 x280001_32] 25 (0, 0)) (by (with_reducible repeat (first | refine blk_drewN ?_ _ | refine blk_drew ?_ | refine blk_alloc ?_ _)); exact BK279.out) hb); have n5_ := Aside0.mk (below_step (by repeat (first | (with_reducible first | exact HB.out | apply below_alloc | apply pw_below_drewN | apply below_drew1 | refine below_set ?_ GE257.out | refine below_set ?_ GE258.out | refine below_set ?_ GE266.out | refine below_set ?_ GE272.out | refine below_set ?_ GE279.out) | exact HB.out)) hb); clear BK257; clear BK258; clear BK266; clear BK272; clear BK279; clear HB; have BK257 := n0_; have BK258 := n1_; have BK266 := n2_; have BK272 := n3_; have BK279 := n4_; have HB := n5_; clear n0_ n1_ n2_ n3_ n4_ n5_; (try clear hb); (try clear hb2); (try clear hk); (try clear hi)))
        go_meet
        case rel => exact ⟨_, (false), (by first | rfl | (simp; done) | (simp [*]; done)), H', ⟨by have := HJ3.out; have := HJ32.out; first | omega | exact Nat.le_refl _⟩, ⟨by (with_reducible repeat (first | refine blk_drewN ?_ _ | refine blk_drew ?_ | refine blk_alloc ?_ _)); exact BK257.out⟩, ⟨by (with_reducible repeat (first | refine blk_drewN ?_ _ | refine blk_drew ?_ | refine blk_alloc ?_ _)); exact BK258.out⟩, ⟨by (with_reducible repeat (first | refine blk_drewN ?_ _ | refine blk_drew ?_ | refine blk_alloc ?_ _)); exact BK266.out⟩, ⟨by (with_reducible repeat (first | refine blk_drewN ?_ _ | refine blk_drew ?_ | refine blk_alloc ?_ _)); exact BK272.out⟩, ⟨by (with_reducible repeat (first | refine blk_drewN ?_ _ | refine blk_drew ?_ | refine blk_alloc ?_ _)); exact BK279.out⟩, ⟨by repeat (first | (with_reducible first | exact HB.out | apply below_alloc | apply pw_below_drewN | apply below_drew1 | refine below_set ?_ GE257.out | refine below_set ?_ GE258.out | refine below_set ?_ GE266.out | refine below_set ?_ GE272.out | refine below_set ?_ GE279.out) | exact HB.out)⟩⟩
      case rest =>
       clear HC94
       try clear c1; try clear c2; try clear p2; try clear c3; try clear c4; try clear c5; try clear c6; try clear p6; try clear c7; try clear c8; try clear c9; try clear c10; try clear c11; try clear c12; try clear c13; try clear c13b0; try clear c13b1; try clear c15; try clear c16; try clear c17; try clear c18; try clear c21; try clear c22; try clear c24; try clear c25; try clear c26; try clear c34; try clear c35; try clear c38; try clear c42; try clear c43; try clear c44; try clear c55; try clear c56; try clear c57; try clear c58; try clear c61; try clear c63; try clear c63b0; try clear c63b1; try clear c63b2; try clear c64; try clear p64; try clear c65; try clear c66; try clear c67; try clear c68; try clear c69; try clear c70; try clear c71; try clear c74; try clear c75; try clear c78; try clear c79; try clear c80; try clear c81; try clear c83; try clear c84; try clear c85; try clear c91; try clear c92; try clear c96; try clear c96b0; try clear c96b1; try clear c97; try clear c98; try clear c99; try clear c100; try clear c103; try clear c104; try clear c105; try clear c107; try clear c108; try clear c109; try clear c110; try clear hcz101_0; try clear hcz101_1; try clear hcz101_2; try clear hcz101_3; try clear hcz101_4; try clear hcz101_5; try clear hcz106_0; try clear hcz106_1; try clear hcz111_0; try clear hcz111_1; try clear hcz111_2; try clear hcz111_3; try clear hcz111_4; try clear hcz111_5; try clear hcz11_0; try clear hcz11_1; try clear hcz11_2; try clear hcz11_3; try clear hcz11_4; try clear hcz11_5; try clear hcz17_0; try clear hcz17_1; try clear hcz17_2; try clear hcz17_3; try clear hcz17_4; try clear hcz17_5; try clear hcz19_0; try clear hcz19_1; try clear hcz23_0; try clear hcz23_1; try clear hcz23_2; try clear hcz23_3; try clear hcz23_4; try clear hcz23_5; try clear hcz27_0; try clear hcz27_1; try clear hcz27_2; try clear hcz27_3; try clear hcz27_4; try clear hcz36_0; try clear hcz36_1; try clear hcz36_2; try clear hcz36_3; try clear hcz36_4; try clear hcz36_5; try clear hcz39_0; try clear hcz39_1; try clear hcz45_0; try clear hcz45_1; try clear hcz50_0; try clear hcz50_1; try clear hcz51_0; try clear hcz51_1; try clear hcz51_2; try clear hcz51_3; try clear hcz51_4; try clear hcz51_5; try clear hcz53_0; try clear hcz53_1; try clear hcz59_0; try clear hcz59_1; try clear hcz60_0; try clear hcz60_1; try clear hcz60_2; try clear hcz60_3; try clear hcz60_4; try clear hcz60_5; try clear hcz68_0; try clear hcz68_1; try clear hcz72_0; try clear hcz72_1; try clear hcz72_2; try clear hcz72_3; try clear hcz72_4; try clear hcz72_5; try clear hcz76_0; try clear hcz76_1; try clear hcz76_2; try clear hcz76_3; try clear hcz76_4; try clear hcz82_0; try clear hcz82_1; try clear hcz86_0; try clear hcz86_1; try clear hcz86_2; try clear hcz86_3; try clear hcz86_4; try clear hcz86_5; try clear hcz88_0; try clear hcz88_1; try clear hcz89_0; try clear hcz89_1; try clear hcz89_2; try clear hcz89_3; try clear hcz89_4; try clear hcz89_5; try clear hcz93_0; try clear hcz93_1; try clear hfz101_0; try clear hfz101_1; try clear hfz101_2; try clear hfz101_3; try clear hfz101_4; try clear hfz101_5; try clear hfz106_0; try clear hfz106_1; try clear hfz111_0; try clear hfz111_1; try clear hfz111_2; try clear hfz111_3; try clear hfz111_4; try clear hfz111_5; try clear hfz11_0; try clear hfz11_1; try clear hfz11_2; try clear hfz11_3; try clear hfz11_4; try clear hfz11_5; try clear hfz17_0; try clear hfz17_1; try clear hfz17_2; try clear hfz17_3; try clear hfz17_4; try clear hfz17_5; try clear hfz19_0; try clear hfz19_1; try clear hfz23_0; try clear hfz23_1; try clear hfz23_2; try clear hfz23_3; try clear hfz23_4; try clear hfz23_5; try clear hfz27_0; try clear hfz27_1; try clear hfz27_2; try clear hfz27_3; try clear hfz27_4; try clear hfz36_0; try clear hfz36_1; try clear hfz36_2; try clear hfz36_3; try clear hfz36_4; try clear hfz36_5; try clear hfz39_0; try clear hfz39_1; try clear hfz45_0; try clear hfz45_1; try clear hfz50_0; try clear hfz50_1; try clear hfz51_0; try clear hfz51_1; try clear hfz51_2; try clear hfz51_3; try clear hfz51_4; try clear hfz51_5; try clear hfz53_0; try clear hfz53_1; try clear hfz59_0; try clear hfz59_1; try clear hfz60_0; try clear hfz60_1; try clear hfz60_2; try clear hfz60_3; try clear hfz60_4; try clear hfz60_5; try clear hfz68_0; try clear hfz68_1; try clear hfz72_0; try clear hfz72_1; try clear hfz72_2; try clear hfz72_3; try clear hfz72_4; try clear hfz72_5; try clear hfz76_0; try clear hfz76_1; try clear hfz76_2; try clear hfz76_3; try clear hfz76_4; try clear hfz82_0; try clear hfz82_1; try clear hfz86_0; try clear hfz86_1; try clear hfz86_2; try clear hfz86_3; try clear hfz86_4; try clear hfz86_5; try clear hfz88_0; try clear hfz88_1; try clear hfz89_0; try clear hfz89_1; try clear hfz89_2; try clear hfz89_3; try clear hfz89_4; try clear hfz89_5; try clear hfz93_0; try clear hfz93_1; try clear p2; try clear p6; try clear p64
       obtain ⟨kq, x81_93, rfl, HA, HJ93, BK257, BK258, BK266, BK272, BK279, HB⟩ := hcut
       cases kq with
       | zero => exact absurd HA.out (by simp [impl_Unpack.j2])
       | succ kj93 =>
        have H := HA.out
        clear HA
        simp only [impl_Unpack.j2] at H
        by_cases c113 : x81_93 = true
        ·subst c113
         have H1 : (some (4, (!(t277 == 0) || (!(t278 == 0))), 0, 0, 0)) = some (r1, r2, r3, r4, r5) := by rw [if_pos rfl] at H; exact H
         clear H
         have H := H1
         clear H1
         simp only [Option.some.injEq, Prod.mk.injEq] at H
         obtain ⟨rfl, rfl, rfl, rfl, rfl⟩ := H
         have hnb114 := NB258_257.out
         have hnc114 := NB257_258.out
         have hnb115 := NB258_266.out
         have hnc115 := NB266_258.out
         have hnb116 := NB258_272.out
         have hnc116 := NB272_258.out
         have hnb117 := NB258_279.out
         have hnc117 := NB279_258.out
         have hcz118_0 : wc.cell? ⟨gb258, 0, none⟩ = some (.int .i64 x259000_32) := (blk_cell BK258.out 0).trans rfl
         have hcz118_1 : wc.cell? ⟨gb258, 1, none⟩ = some (.bool x259001_32) := (blk_cell BK258.out 1).trans rfl
         have hcz118_2 : wc.cell? ⟨gb258, 2, none⟩ = some (.int .u64 x259002_32) := (blk_cell BK258.out 2).trans rfl
         have hcz118_3 : wc.cell? ⟨gb258, 3, none⟩ = some (.int .u64 x259003_32) := (blk_cell BK258.out 3).trans rfl
         have hcz118_4 : wc.cell? ⟨gb258, 4, none⟩ = some (.int .i64 x259004_32) := (blk_cell BK258.out 4).trans rfl
         have hfz118_0 := blk_frozen BK258.out 0
         have hfz118_1 := blk_frozen BK258.out 1
         have hfz118_2 := blk_frozen BK258.out 2
         have hfz118_3 := blk_frozen BK258.out 3
         have hfz118_4 := blk_frozen BK258.out 4
         go_wp2
         refine bodyPost_ret (results_cell_row rfl _ _ gb258 27 #[.int .i64 4, .bool (!(t277 == 0) || (!(t278 == 0))), .int .u64 0, .int .u64 0, .int .i64 0] (0, 0) _ rfl (by (with_reducible repeat (first | refine blk_drewN ?_ _ | refine blk_drew ?_ | refine blk_alloc ?_ _)); refine blk_put (cs := #[.int .i64 4, .bool (!(t277 == 0) || (!(t278 == 0))), .int .u64 0, .int .u64 0, .int .i64 x259004_32]) ?_ 4 _ rfl; (with_reducible repeat (first | refine blk_drewN ?_ _ | refine blk_drew ?_ | refine blk_alloc ?_ _)); refine blk_put (cs := #[.int .i64 4, .bool (!(t277 == 0) || (!(t278 == 0))), .int .u64 0, .int .u64 x259003_32, .int .i64 x259004_32]) ?_ 3 _ rfl; (with_reducible repeat (first | refine blk_drewN ?_ _ | refine blk_drew ?_ | refine blk_alloc ?_ _)); refine blk_put (cs := #[.int .i64 4, .bool (!(t277 == 0) || (!(t278 == 0))), .int .u64 x259002_32, .int .u64 x259003_32, .int .i64 x259004_32]) ?_ 2 _ rfl; (with_reducible repeat (first | refine blk_drewN ?_ _ | refine blk_drew ?_ | refine blk_alloc ?_ _)); refine blk_put (cs := #[.int .i64 4, .bool x259001_32, .int .u64 x259002_32, .int .u64 x259003_32, .int .i64 x259004_32]) ?_ 1 _ rfl; (with_reducible repeat (first | refine blk_drewN ?_ _ | refine blk_drew ?_ | refine blk_alloc ?_ _)); refine blk_put (cs := #[.int .i64 x259000_32, .bool x259001_32, .int .u64 x259002_32, .int .u64 x259003_32, .int .i64 x259004_32]) ?_ 0 _ rfl; (with_reducible repeat (first | refine blk_drewN ?_ _ | refine blk_drew ?_ | refine blk_alloc ?_ _)); exact BK258.out) Tryd.underlying27 rfl (by kernel_rfl)) rfl ?_
         exact ⟨by first | rfl | (simp [errW_none, errW_some] <;> rfl) | (simp [*, errW_none, errW_some] <;> rfl), by repeat (first | (with_reducible first | exact HB.out | apply below_alloc | apply pw_below_drewN | apply below_drew1 | refine below_set ?_ GE257.out | refine below_set ?_ GE258.out | refine below_set ?_ GE266.out | refine below_set ?_ GE272.out | refine below_set ?_ GE279.out) | exact HB.out)⟩
        ·replace c113 := Bool.eq_false_iff.mpr c113
         subst c113
         have H1 : ((impl_layout_top.f t259 t260 t261 t262 t263 t264).bind fun t285 => (if (wrap64 (t276)) = t285 then (some (5, false, 0, 0, 0)) else (if (wrap64 (t276)) = 0 then (impl_Unpack.j3 kj93 (wrap64 (t276)) (!(t277 == 0) || (!(t278 == 0))) (t270 == 0 && (t271 == 0)) t259 t260 t261 t262 t263 t264 t270 t271) else (impl_Unpack.j3 kj93 (wrap64 (t276)) (!(t277 == 0) || (!(t278 == 0))) false t259 t260 t261 t262 t263 t264 t270 t271)))) = some (r1, r2, r3, r4, r5) := by rw [if_neg (show ¬ (false = true) by decide)] at H; exact H
         clear H
         have H := H1
         clear H1
         replace H := Option.bind_eq_some_iff.mp H
         obtain ⟨t285, A1190, H⟩ := H
         replace H : (if (wrap64 (t276)) = t285 then (some (5, false, 0, 0, 0)) else (if (wrap64 (t276)) = 0 then (impl_Unpack.j3 kj93 (wrap64 (t276)) (!(t277 == 0) || (!(t278 == 0))) (t270 == 0 && (t271 == 0)) t259 t260 t261 t262 t263 t264 t270 t271) else (impl_Unpack.j3 kj93 (wrap64 (t276)) (!(t277 == 0) || (!(t278 == 0))) false t259 t260 t261 t262 t263 t264 t270 t271))) = some (r1, r2, r3, r4, r5) := H
         have A119 := Aside0.mk A1190
         clear A1190
         by_cases c120 : (wrap64 (t276)) = t285
         ·rw [if_pos c120] at H
          have c120b0 : ((wrap64 (t276)) == t285) = true := beq_iff_eq.mpr c120
          have c120b1 : ((wrap64 (t276)) != t285) = false := bne_eq_false_iff_eq.mpr c120
          clear c120
          simp only [Option.some.injEq, Prod.mk.injEq] at H
          obtain ⟨rfl, rfl, rfl, rfl, rfl⟩ := H
          have hnb121 := NB266_257.out
          have hnc121 := NB257_266.out
          have hnb122 := NB266_258.out
          have hnc122 := NB258_266.out
          have hnb123 := NB266_272.out
          have hnc123 := NB272_266.out
          have hnb124 := NB266_279.out
          have hnc124 := NB279_266.out
          have hcz125_0 : wc.cell? ⟨gb266, 0, none⟩ = some (.int .i64 t259) := (blk_cell BK266.out 0).trans rfl
          have hcz125_1 : wc.cell? ⟨gb266, 1, none⟩ = some (.int .i64 t260) := (blk_cell BK266.out 1).trans rfl
          have hcz125_2 : wc.cell? ⟨gb266, 2, none⟩ = some (.int .i64 t261) := (blk_cell BK266.out 2).trans rfl
          have hcz125_3 : wc.cell? ⟨gb266, 3, none⟩ = some (.int .i64 t262) := (blk_cell BK266.out 3).trans rfl
          have hcz125_4 : wc.cell? ⟨gb266, 4, none⟩ = some (.int .i64 t263) := (blk_cell BK266.out 4).trans rfl
          have hcz125_5 : wc.cell? ⟨gb266, 5, none⟩ = some (.bool t264) := (blk_cell BK266.out 5).trans rfl
          have hfz125_0 := blk_frozen BK266.out 0
          have hfz125_1 := blk_frozen BK266.out 1
          have hfz125_2 := blk_frozen BK266.out 2
          have hfz125_3 := blk_frozen BK266.out 3
          have hfz125_4 := blk_frozen BK266.out 4
          have hfz125_5 := blk_frozen BK266.out 5
          go_wp2_with (first | ((with_reducible refine gate_callee (f := 69) rfl ?_); refine goesL_ (some 96) rfl rfl Tryd.func69 (by kernel_rfl) rfl #[.agg #[.int .i64 t259, .int .i64 t260, .int .i64 t261, .int .i64 t262, .int .i64 t263, .bool t264]] rfl (by (try simp only [List.map_toArray, List.map_cons, List.map_nil]); first | done | rfl | (simp only [List.length_drop, List.length_take]; rfl)) ?_; (with_reducible refine (impl_layout_top.calls t259 t260 t261 t262 t263 t264 t285 _ A119.out).mono ?_); rintro e w126 ⟨rfl, hb⟩; refine ⟨_, rfl, ?_⟩; have n0_ := Aside0.mk (blk_below (g := gb257) (o := .cells #[.int .u64 a1_0, .int .u64 a1_1] 25 (0, 0)) (by (with_reducible repeat (first | refine blk_drewN ?_ _ | refine blk_drew ?_ | refine blk_alloc ?_ _)); exact BK257.out) hb); have n1_ := Aside0.mk (blk_below (g := gb258) (o := .cells #[.int .i64 x259000_32, .bool x259001_32, .int .u64 x259002_32, .int .u64 x259003_32, .int .i64 x259004_32] 27 (0, 0)) (by (with_reducible repeat (first | refine blk_drewN ?_ _ | refine blk_drew ?_ | refine blk_alloc ?_ _)); exact BK258.out) hb); have n2_ := Aside0.mk (blk_below (g := gb266) (o := .cells #[.int .i64 t259, .int .i64 t260, .int .i64 t261, .int .i64 t262, .int .i64 t263, .bool t264] 91 (0, 0)) (by (with_reducible repeat (first | refine blk_drewN ?_ _ | refine blk_drew ?_ | refine blk_alloc ?_ _)); exact BK266.out) hb); have n3_ := Aside0.mk (blk_below (g := gb272) (o := .cells #[.int .u64 t270, .int .u64 t271] 25 (0, 0)) (by (with_reducible repeat (first | refine blk_drewN ?_ _ | refine blk_drew ?_ | refine blk_alloc ?_ _)); exact BK272.out) hb); have n4_ := Aside0.mk (blk_below (g := gb279) (o := .cells #[.int .u64 x280000_32, .int .u64 x280001_32] 25 (0, 0)) (by (with_reducible repeat (first | refine blk_drewN ?_ _ | refine blk_drew ?_ | refine blk_alloc ?_ _)); exact BK279.out) hb); have n5_ := Aside0.mk (below_step (by repeat (first | (with_reducible first | exact HB.out | apply below_alloc | apply pw_below_drewN | apply below_drew1 | refine below_set ?_ GE257.out | refine below_set ?_ GE258.out | refine below_set ?_ GE266.out | refine below_set ?_ GE272.out | refine below_set ?_ GE279.out) | exact HB.out)) hb); clear BK257; clear BK258; clear BK266; clear BK272; clear BK279; clear HB; have BK257 := n0_; have BK258 := n1_; have BK266 := n2_; have BK272 := n3_; have BK279 := n4_; have HB := n5_; clear n0_ n1_ n2_ n3_ n4_ n5_; (try clear hb); (try clear hb2); (try clear hk); (try clear hi); have hnb127 := NB258_257.out; have hnc127 := NB257_258.out; have hnb128 := NB258_272.out; have hnc128 := NB272_258.out; have hnb129 := NB258_279.out; have hnc129 := NB279_258.out; have hcz130_0 : w126.cell? ⟨gb258, 0, none⟩ = some (.int .i64 x259000_32) := (blk_cell BK258.out 0).trans rfl; have hcz130_1 : w126.cell? ⟨gb258, 1, none⟩ = some (.bool x259001_32) := (blk_cell BK258.out 1).trans rfl; have hcz130_2 : w126.cell? ⟨gb258, 2, none⟩ = some (.int .u64 x259002_32) := (blk_cell BK258.out 2).trans rfl; have hcz130_3 : w126.cell? ⟨gb258, 3, none⟩ = some (.int .u64 x259003_32) := (blk_cell BK258.out 3).trans rfl; have hcz130_4 : w126.cell? ⟨gb258, 4, none⟩ = some (.int .i64 x259004_32) := (blk_cell BK258.out 4).trans rfl; have hfz130_0 := blk_frozen BK258.out 0; have hfz130_1 := blk_frozen BK258.out 1; have hfz130_2 := blk_frozen BK258.out 2; have hfz130_3 := blk_frozen BK258.out 3; have hfz130_4 := blk_frozen BK258.out 4))
          refine bodyPost_ret (results_cell_row rfl _ _ gb258 27 #[.int .i64 5, .bool false, .int .u64 0, .int .u64 0, .int .i64 0] (0, 0) _ rfl (by (with_reducible repeat (first | refine blk_drewN ?_ _ | refine blk_drew ?_ | refine blk_alloc ?_ _)); refine blk_put (cs := #[.int .i64 5, .bool false, .int .u64 0, .int .u64 0, .int .i64 x259004_32]) ?_ 4 _ rfl; (with_reducible repeat (first | refine blk_drewN ?_ _ | refine blk_drew ?_ | refine blk_alloc ?_ _)); refine blk_put (cs := #[.int .i64 5, .bool false, .int .u64 0, .int .u64 x259003_32, .int .i64 x259004_32]) ?_ 3 _ rfl; (with_reducible repeat (first | refine blk_drewN ?_ _ | refine blk_drew ?_ | refine blk_alloc ?_ _)); refine blk_put (cs := #[.int .i64 5, .bool false, .int .u64 x259002_32, .int .u64 x259003_32, .int .i64 x259004_32]) ?_ 2 _ rfl; (with_reducible repeat (first | refine blk_drewN ?_ _ | refine blk_drew ?_ | refine blk_alloc ?_ _)); refine blk_put (cs := #[.int .i64 5, .bool x259001_32, .int .u64 x259002_32, .int .u64 x259003_32, .int .i64 x259004_32]) ?_ 1 _ rfl; (with_reducible repeat (first | refine blk_drewN ?_ _ | refine blk_drew ?_ | refine blk_alloc ?_ _)); refine blk_put (cs := #[.int .i64 x259000_32, .bool x259001_32, .int .u64 x259002_32, .int .u64 x259003_32, .int .i64 x259004_32]) ?_ 0 _ rfl; (with_reducible repeat (first | refine blk_drewN ?_ _ | refine blk_drew ?_ | refine blk_alloc ?_ _)); exact BK258.out) Tryd.underlying27 rfl (by kernel_rfl)) rfl ?_
          exact ⟨by first | rfl | (simp [errW_none, errW_some] <;> rfl) | (simp [*, errW_none, errW_some] <;> rfl), by repeat (first | (with_reducible first | exact HB.out | apply below_alloc | apply pw_below_drewN | apply below_drew1 | refine below_set ?_ GE257.out | refine below_set ?_ GE258.out | refine below_set ?_ GE266.out | refine below_set ?_ GE272.out | refine below_set ?_ GE279.out) | exact HB.out)⟩
         ·rw [if_neg c120] at H
          have c120b0 : ((wrap64 (t276)) == t285) = false := beq_eq_false_iff_ne.mpr c120
          have c120b1 : ((wrap64 (t276)) != t285) = true := bne_iff_ne.mpr c120
          have HC131 := Aside0.mk H
          clear H
          have hnb132 := NB266_257.out
          have hnc132 := NB257_266.out
          have hnb133 := NB266_258.out
          have hnc133 := NB258_266.out
          have hnb134 := NB266_272.out
          have hnc134 := NB272_266.out
          have hnb135 := NB266_279.out
          have hnc135 := NB279_266.out
          have hcz136_0 : wc.cell? ⟨gb266, 0, none⟩ = some (.int .i64 t259) := (blk_cell BK266.out 0).trans rfl
          have hcz136_1 : wc.cell? ⟨gb266, 1, none⟩ = some (.int .i64 t260) := (blk_cell BK266.out 1).trans rfl
          have hcz136_2 : wc.cell? ⟨gb266, 2, none⟩ = some (.int .i64 t261) := (blk_cell BK266.out 2).trans rfl
          have hcz136_3 : wc.cell? ⟨gb266, 3, none⟩ = some (.int .i64 t262) := (blk_cell BK266.out 3).trans rfl
          have hcz136_4 : wc.cell? ⟨gb266, 4, none⟩ = some (.int .i64 t263) := (blk_cell BK266.out 4).trans rfl
          have hcz136_5 : wc.cell? ⟨gb266, 5, none⟩ = some (.bool t264) := (blk_cell BK266.out 5).trans rfl
          have hfz136_0 := blk_frozen BK266.out 0
          have hfz136_1 := blk_frozen BK266.out 1
          have hfz136_2 := blk_frozen BK266.out 2
          have hfz136_3 := blk_frozen BK266.out 3
          have hfz136_4 := blk_frozen BK266.out 4
          have hfz136_5 := blk_frozen BK266.out 5
          go_upto_region 18 with (first | ((with_reducible refine gate_callee (f := 69) rfl ?_); refine goesL_ (some 96) rfl rfl Tryd.func69 (by kernel_rfl) rfl #[.agg #[.int .i64 t259, .int .i64 t260, .int .i64 t261, .int .i64 t262, .int .i64 t263, .bool t264]] rfl (by (try simp only [List.map_toArray, List.map_cons, List.map_nil]); first | done | rfl | (simp only [List.length_drop, List.length_take]; rfl)) ?_; (with_reducible refine (impl_layout_top.calls t259 t260 t261 t262 t263 t264 t285 _ A119.out).mono ?_); rintro e w137 ⟨rfl, hb⟩; refine ⟨_, rfl, ?_⟩; have n0_ := Aside0.mk (blk_below (g := gb257) (o := .cells #[.int .u64 a1_0, .int .u64 a1_1] 25 (0, 0)) (by (with_reducible repeat (first | refine blk_drewN ?_ _ | refine blk_drew ?_ | refine blk_alloc ?_ _)); exact BK257.out) hb); have n1_ := Aside0.mk (blk_below (g := gb258) (o := .cells #[.int .i64 x259000_32, .bool x259001_32, .int .u64 x259002_32, .int .u64 x259003_32, .int .i64 x259004_32] 27 (0, 0)) (by (with_reducible repeat (first | refine blk_drewN ?_ _ | refine blk_drew ?_ | refine blk_alloc ?_ _)); exact BK258.out) hb); have n2_ := Aside0.mk (blk_below (g := gb266) (o := .cells #[.int .i64 t259, .int .i64 t260, .int .i64 t261, .int .i64 t262, .int .i64 t263, .bool t264] 91 (0, 0)) (by (with_reducible repeat (first | refine blk_drewN ?_ _ | refine blk_drew ?_ | refine blk_alloc ?_ _)); exact BK266.out) hb); have n3_ := Aside0.mk (blk_below (g := gb272) (o := .cells #[.int .u64 t270, .int .u64 t271] 25 (0, 0)) (by (with_reducible repeat (first | refine blk_drewN ?_ _ | refine blk_drew ?_ | refine blk_alloc ?_ _)); exact BK272.out) hb); have n4_ := Aside0.mk (blk_below (g := gb279) (o := .cells #[.int .u64 x280000_32, .int .u64 x280001_32] 25 (0, 0)) (by (with_reducible repeat (first | refine blk_drewN ?_ _ | refine blk_drew ?_ | refine blk_alloc ?_ _)); exact BK279.out) hb); have n5_ := Aside0.mk (below_step (by repeat (first | (with_reducible first | exact HB.out | apply below_alloc | apply pw_below_drewN | apply below_drew1 | refine below_set ?_ GE257.out | refine below_set ?_ GE258.out | refine below_set ?_ GE266.out | refine below_set ?_ GE272.out | refine below_set ?_ GE279.out) | exact HB.out)) hb); clear BK257; clear BK258; clear BK266; clear BK272; clear BK279; clear HB; have BK257 := n0_; have BK258 := n1_; have BK266 := n2_; have BK272 := n3_; have BK279 := n4_; have HB := n5_; clear n0_ n1_ n2_ n3_ n4_ n5_; (try clear hb); (try clear hb2); (try clear hk); (try clear hi)))
          (try simp only [Act.put, List.setIfInBounds_toArray, List.set_cons_zero, List.set_cons_succ])
          go_cut [99] (fun v99 wc => ∃ (kq : Nat) (x99_130 : Bool), v99 = .bool x99_130 ∧ Aside0 (impl_Unpack.j3 kq (wrap64 (t276)) (!(t277 == 0) || (!(t278 == 0))) x99_130 t259 t260 t261 t262 t263 t264 t270 t271 = some (r1, r2, r3, r4, r5)) ∧ Aside0 (kq ≤ kj93) ∧ Aside0 (wc.heap[gb257]? = some (.cells #[.int .u64 a1_0, .int .u64 a1_1] 25 (0, 0))) ∧ Aside0 (wc.heap[gb258]? = some (.cells #[.int .i64 x259000_32, .bool x259001_32, .int .u64 x259002_32, .int .u64 x259003_32, .int .i64 x259004_32] 27 (0, 0))) ∧ Aside0 (wc.heap[gb266]? = some (.cells #[.int .i64 t259, .int .i64 t260, .int .i64 t261, .int .i64 t262, .int .i64 t263, .bool t264] 91 (0, 0))) ∧ Aside0 (wc.heap[gb272]? = some (.cells #[.int .u64 t270, .int .u64 t271] 25 (0, 0))) ∧ Aside0 (wc.heap[gb279]? = some (.cells #[.int .u64 x280000_32, .int .u64 x280001_32] 25 (0, 0))) ∧ Aside0 (Below w.heap.size w wc))
          case first =>
           have H := HC131.out
           clear HC131
           by_cases c138 : (wrap64 (t276)) = 0
           ·rw [if_pos c138] at H
            have c138b0 : ((wrap64 (t276)) == 0) = true := beq_iff_eq.mpr c138
            have c138b1 : ((wrap64 (t276)) != 0) = false := bne_eq_false_iff_eq.mpr c138
            clear c138
            (first | rw [c138b0] | (simp only [i64_w, i32_w]; rw [c138b0]) | rw [c138b1] | (simp only [c138b1]) | skip)
            have H' := Aside0.mk H
            clear H
            have hnb139 := NB272_257.out
            have hnc139 := NB257_272.out
            have hnb140 := NB272_258.out
            have hnc140 := NB258_272.out
            have hnb141 := NB272_266.out
            have hnc141 := NB266_272.out
            have hnb142 := NB272_279.out
            have hnc142 := NB279_272.out
            have hcz143_0 : w137.cell? ⟨gb272, 0, none⟩ = some (.int .u64 t270) := (blk_cell BK272.out 0).trans rfl
            have hcz143_1 : w137.cell? ⟨gb272, 1, none⟩ = some (.int .u64 t271) := (blk_cell BK272.out 1).trans rfl
            have hfz143_0 := blk_frozen BK272.out 0
            have hfz143_1 := blk_frozen BK272.out 1
            go_wp2
            go_meet
            case rel => exact ⟨_, ((t270 == 0 && (t271 == 0))), (by first | rfl | (simp; done) | (simp [*]; done)), H', ⟨by have := HJ3.out; have := HJ32.out; have := HJ93.out; first | omega | exact Nat.le_refl _⟩, ⟨by (with_reducible repeat (first | refine blk_drewN ?_ _ | refine blk_drew ?_ | refine blk_alloc ?_ _)); exact BK257.out⟩, ⟨by (with_reducible repeat (first | refine blk_drewN ?_ _ | refine blk_drew ?_ | refine blk_alloc ?_ _)); exact BK258.out⟩, ⟨by (with_reducible repeat (first | refine blk_drewN ?_ _ | refine blk_drew ?_ | refine blk_alloc ?_ _)); exact BK266.out⟩, ⟨by (with_reducible repeat (first | refine blk_drewN ?_ _ | refine blk_drew ?_ | refine blk_alloc ?_ _)); exact BK272.out⟩, ⟨by (with_reducible repeat (first | refine blk_drewN ?_ _ | refine blk_drew ?_ | refine blk_alloc ?_ _)); exact BK279.out⟩, ⟨by repeat (first | (with_reducible first | exact HB.out | apply below_alloc | apply pw_below_drewN | apply below_drew1 | refine below_set ?_ GE257.out | refine below_set ?_ GE258.out | refine below_set ?_ GE266.out | refine below_set ?_ GE272.out | refine below_set ?_ GE279.out) | exact HB.out)⟩⟩
           ·rw [if_neg c138] at H
            have c138b0 : ((wrap64 (t276)) == 0) = false := beq_eq_false_iff_ne.mpr c138
            have c138b1 : ((wrap64 (t276)) != 0) = true := bne_iff_ne.mpr c138
            (first | rw [c138b0] | (simp only [i64_w, i32_w]; rw [c138b0]) | rw [c138b1] | (simp only [c138b1]) | skip)
            have H' := Aside0.mk H
            clear H
            go_wp2
            go_meet
            case rel => exact ⟨_, (false), (by first | rfl | (simp; done) | (simp [*]; done)), H', ⟨by have := HJ3.out; have := HJ32.out; have := HJ93.out; first | omega | exact Nat.le_refl _⟩, ⟨by (with_reducible repeat (first | refine blk_drewN ?_ _ | refine blk_drew ?_ | refine blk_alloc ?_ _)); exact BK257.out⟩, ⟨by (with_reducible repeat (first | refine blk_drewN ?_ _ | refine blk_drew ?_ | refine blk_alloc ?_ _)); exact BK258.out⟩, ⟨by (with_reducible repeat (first | refine blk_drewN ?_ _ | refine blk_drew ?_ | refine blk_alloc ?_ _)); exact BK266.out⟩, ⟨by (with_reducible repeat (first | refine blk_drewN ?_ _ | refine blk_drew ?_ | refine blk_alloc ?_ _)); exact BK272.out⟩, ⟨by (with_reducible repeat (first | refine blk_drewN ?_ _ | refine blk_drew ?_ | refine blk_alloc ?_ _)); exact BK279.out⟩, ⟨by repeat (first | (with_reducible first | exact HB.out | apply below_alloc | apply pw_below_drewN | apply below_drew1 | refine below_set ?_ GE257.out | refine below_set ?_ GE258.out | refine below_set ?_ GE266.out | refine below_set ?_ GE272.out | refine below_set ?_ GE279.out) | exact HB.out)⟩⟩
          case rest =>
           clear HC131
           try clear c1; try clear c2; try clear p2; try clear c3; try clear c4; try clear c5; try clear c6; try clear p6; try clear c7; try clear c8; try clear c9; try clear c10; try clear c11; try clear c12; try clear c13; try clear c13b0; try clear c13b1; try clear c14; try clear c15; try clear c16; try clear c17; try clear c18; try clear c21; try clear c22; try clear c24; try clear c25; try clear c26; try clear c34; try clear c35; try clear c38; try clear c42; try clear c43; try clear c44; try clear c55; try clear c56; try clear c57; try clear c58; try clear c61; try clear c63; try clear c63b0; try clear c63b1; try clear c63b2; try clear c64; try clear p64; try clear c65; try clear c66; try clear c67; try clear c68; try clear c69; try clear c70; try clear c71; try clear c74; try clear c75; try clear c78; try clear c79; try clear c80; try clear c81; try clear c83; try clear c84; try clear c85; try clear c91; try clear c92; try clear c96; try clear c96b0; try clear c96b1; try clear c97; try clear c98; try clear c99; try clear c100; try clear c103; try clear c104; try clear c105; try clear c107; try clear c108; try clear c109; try clear c110; try clear c113; try clear c114; try clear c115; try clear c116; try clear c117; try clear c120; try clear c120b0; try clear c120b1; try clear c121; try clear c122; try clear c123; try clear c124; try clear c127; try clear c128; try clear c129; try clear c132; try clear c133; try clear c134; try clear c135; try clear c138; try clear c138b0; try clear c138b1; try clear c139; try clear c140; try clear c141; try clear c142; try clear hcz101_0; try clear hcz101_1; try clear hcz101_2; try clear hcz101_3; try clear hcz101_4; try clear hcz101_5; try clear hcz106_0; try clear hcz106_1; try clear hcz111_0; try clear hcz111_1; try clear hcz111_2; try clear hcz111_3; try clear hcz111_4; try clear hcz111_5; try clear hcz118_0; try clear hcz118_1; try clear hcz118_2; try clear hcz118_3; try clear hcz118_4; try clear hcz11_0; try clear hcz11_1; try clear hcz11_2; try clear hcz11_3; try clear hcz11_4; try clear hcz11_5; try clear hcz125_0; try clear hcz125_1; try clear hcz125_2; try clear hcz125_3; try clear hcz125_4; try clear hcz125_5; try clear hcz130_0; try clear hcz130_1; try clear hcz130_2; try clear hcz130_3; try clear hcz130_4; try clear hcz136_0; try clear hcz136_1; try clear hcz136_2; try clear hcz136_3; try clear hcz136_4; try clear hcz136_5; try clear hcz143_0; try clear hcz143_1; try clear hcz17_0; try clear hcz17_1; try clear hcz17_2; try clear hcz17_3; try clear hcz17_4; try clear hcz17_5; try clear hcz19_0; try clear hcz19_1; try clear hcz23_0; try clear hcz23_1; try clear hcz23_2; try clear hcz23_3; try clear hcz23_4; try clear hcz23_5; try clear hcz27_0; try clear hcz27_1; try clear hcz27_2; try clear hcz27_3; try clear hcz27_4; try clear hcz36_0; try clear hcz36_1; try clear hcz36_2; try clear hcz36_3; try clear hcz36_4; try clear hcz36_5; try clear hcz39_0; try clear hcz39_1; try clear hcz45_0; try clear hcz45_1; try clear hcz50_0; try clear hcz50_1; try clear hcz51_0; try clear hcz51_1; try clear hcz51_2; try clear hcz51_3; try clear hcz51_4; try clear hcz51_5; try clear hcz53_0; try clear hcz53_1; try clear hcz59_0; try clear hcz59_1; try clear hcz60_0; try clear hcz60_1; try clear hcz60_2; try clear hcz60_3; try clear hcz60_4; try clear hcz60_5; try clear hcz68_0; try clear hcz68_1; try clear hcz72_0; try clear hcz72_1; try clear hcz72_2; try clear hcz72_3; try clear hcz72_4; try clear hcz72_5; try clear hcz76_0; try clear hcz76_1; try clear hcz76_2; try clear hcz76_3; try clear hcz76_4; try clear hcz82_0; try clear hcz82_1; try clear hcz86_0; try clear hcz86_1; try clear hcz86_2; try clear hcz86_3; try clear hcz86_4; try clear hcz86_5; try clear hcz88_0; try clear hcz88_1; try clear hcz89_0; try clear hcz89_1; try clear hcz89_2; try clear hcz89_3; try clear hcz89_4; try clear hcz89_5; try clear hcz93_0; try clear hcz93_1; try clear hfz101_0; try clear hfz101_1; try clear hfz101_2; try clear hfz101_3; try clear hfz101_4; try clear hfz101_5; try clear hfz106_0; try clear hfz106_1; try clear hfz111_0; try clear hfz111_1; try clear hfz111_2; try clear hfz111_3; try clear hfz111_4; try clear hfz111_5; try clear hfz118_0; try clear hfz118_1; try clear hfz118_2; try clear hfz118_3; try clear hfz118_4; try clear hfz11_0; try clear hfz11_1; try clear hfz11_2; try clear hfz11_3; try clear hfz11_4; try clear hfz11_5; try clear hfz125_0; try clear hfz125_1; try clear hfz125_2; try clear hfz125_3; try clear hfz125_4; try clear hfz125_5; try clear hfz130_0; try clear hfz130_1; try clear hfz130_2; try clear hfz130_3; try clear hfz130_4; try clear hfz136_0; try clear hfz136_1; try clear hfz136_2; try clear hfz136_3; try clear hfz136_4; try clear hfz136_5; try clear hfz143_0; try clear hfz143_1; try clear hfz17_0; try clear hfz17_1; try clear hfz17_2; try clear hfz17_3; try clear hfz17_4; try clear hfz17_5; try clear hfz19_0; try clear hfz19_1; try clear hfz23_0; try clear hfz23_1; try clear hfz23_2; try clear hfz23_3; try clear hfz23_4; try clear hfz23_5; try clear hfz27_0; try clear hfz27_1; try clear hfz27_2; try clear hfz27_3; try clear hfz27_4; try clear hfz36_0; try clear hfz36_1; try clear hfz36_2; try clear hfz36_3; try clear hfz36_4; try clear hfz36_5; try clear hfz39_0; try clear hfz39_1; try clear hfz45_0; try clear hfz45_1; try clear hfz50_0; try clear hfz50_1; try clear hfz51_0; try clear hfz51_1; try clear hfz51_2; try clear hfz51_3; try clear hfz51_4; try clear hfz51_5; try clear hfz53_0; try clear hfz53_1; try clear hfz59_0; try clear hfz59_1; try clear hfz60_0; try clear hfz60_1; try clear hfz60_2; try clear hfz60_3; try clear hfz60_4; try clear hfz60_5; try clear hfz68_0; try clear hfz68_1; try clear hfz72_0; try clear hfz72_1; try clear hfz72_2; try clear hfz72_3; try clear hfz72_4; try clear hfz72_5; try clear hfz76_0; try clear hfz76_1; try clear hfz76_2; try clear hfz76_3; try clear hfz76_4; try clear hfz82_0; try clear hfz82_1; try clear hfz86_0; try clear hfz86_1; try clear hfz86_2; try clear hfz86_3; try clear hfz86_4; try clear hfz86_5; try clear hfz88_0; try clear hfz88_1; try clear hfz89_0; try clear hfz89_1; try clear hfz89_2; try clear hfz89_3; try clear hfz89_4; try clear hfz89_5; try clear hfz93_0; try clear hfz93_1; try clear p2; try clear p6; try clear p64
           obtain ⟨kq, x99_130, rfl, HA, HJ130, BK257, BK258, BK266, BK272, BK279, HB⟩ := hcut
           cases kq with
           | zero => exact absurd HA.out (by simp [impl_Unpack.j3])
           | succ kj130 =>
            have H := HA.out
            clear HA
            simp only [impl_Unpack.j3] at H
            by_cases c144 : x99_130 = true
            ·subst c144
             have H1 : (some (1, (!(t277 == 0) || (!(t278 == 0))), 0, 0, 0)) = some (r1, r2, r3, r4, r5) := by rw [if_pos rfl] at H; exact H
             clear H
             have H := H1
             clear H1
             simp only [Option.some.injEq, Prod.mk.injEq] at H
             obtain ⟨rfl, rfl, rfl, rfl, rfl⟩ := H
             have hnb145 := NB258_257.out
             have hnc145 := NB257_258.out
             have hnb146 := NB258_266.out
             have hnc146 := NB266_258.out
             have hnb147 := NB258_272.out
             have hnc147 := NB272_258.out
             have hnb148 := NB258_279.out
             have hnc148 := NB279_258.out
             have hcz149_0 : wc.cell? ⟨gb258, 0, none⟩ = some (.int .i64 x259000_32) := (blk_cell BK258.out 0).trans rfl
             have hcz149_1 : wc.cell? ⟨gb258, 1, none⟩ = some (.bool x259001_32) := (blk_cell BK258.out 1).trans rfl
             have hcz149_2 : wc.cell? ⟨gb258, 2, none⟩ = some (.int .u64 x259002_32) := (blk_cell BK258.out 2).trans rfl
             have hcz149_3 : wc.cell? ⟨gb258, 3, none⟩ = some (.int .u64 x259003_32) := (blk_cell BK258.out 3).trans rfl
             have hcz149_4 : wc.cell? ⟨gb258, 4, none⟩ = some (.int .i64 x259004_32) := (blk_cell BK258.out 4).trans rfl
             have hfz149_0 := blk_frozen BK258.out 0
             have hfz149_1 := blk_frozen BK258.out 1
             have hfz149_2 := blk_frozen BK258.out 2
             have hfz149_3 := blk_frozen BK258.out 3
             have hfz149_4 := blk_frozen BK258.out 4
             go_wp2
             refine bodyPost_ret (results_cell_row rfl _ _ gb258 27 #[.int .i64 1, .bool (!(t277 == 0) || (!(t278 == 0))), .int .u64 0, .int .u64 0, .int .i64 0] (0, 0) _ rfl (by (with_reducible repeat (first | refine blk_drewN ?_ _ | refine blk_drew ?_ | refine blk_alloc ?_ _)); refine blk_put (cs := #[.int .i64 1, .bool (!(t277 == 0) || (!(t278 == 0))), .int .u64 0, .int .u64 0, .int .i64 x259004_32]) ?_ 4 _ rfl; (with_reducible repeat (first | refine blk_drewN ?_ _ | refine blk_drew ?_ | refine blk_alloc ?_ _)); refine blk_put (cs := #[.int .i64 1, .bool (!(t277 == 0) || (!(t278 == 0))), .int .u64 0, .int .u64 x259003_32, .int .i64 x259004_32]) ?_ 3 _ rfl; (with_reducible repeat (first | refine blk_drewN ?_ _ | refine blk_drew ?_ | refine blk_alloc ?_ _)); refine blk_put (cs := #[.int .i64 1, .bool (!(t277 == 0) || (!(t278 == 0))), .int .u64 x259002_32, .int .u64 x259003_32, .int .i64 x259004_32]) ?_ 2 _ rfl; (with_reducible repeat (first | refine blk_drewN ?_ _ | refine blk_drew ?_ | refine blk_alloc ?_ _)); refine blk_put (cs := #[.int .i64 1, .bool x259001_32, .int .u64 x259002_32, .int .u64 x259003_32, .int .i64 x259004_32]) ?_ 1 _ rfl; (with_reducible repeat (first | refine blk_drewN ?_ _ | refine blk_drew ?_ | refine blk_alloc ?_ _)); refine blk_put (cs := #[.int .i64 x259000_32, .bool x259001_32, .int .u64 x259002_32, .int .u64 x259003_32, .int .i64 x259004_32]) ?_ 0 _ rfl; (with_reducible repeat (first | refine blk_drewN ?_ _ | refine blk_drew ?_ | refine blk_alloc ?_ _)); exact BK258.out) Tryd.underlying27 rfl (by kernel_rfl)) rfl ?_
             exact ⟨by first | rfl | (simp [errW_none, errW_some] <;> rfl) | (simp [*, errW_none, errW_some] <;> rfl), by repeat (first | (with_reducible first | exact HB.out | apply below_alloc | apply pw_below_drewN | apply below_drew1 | refine below_set ?_ GE257.out | refine below_set ?_ GE258.out | refine below_set ?_ GE266.out | refine below_set ?_ GE272.out | refine below_set ?_ GE279.out) | exact HB.out)⟩
            ·replace c144 := Bool.eq_false_iff.mpr c144
             subst c144
             have H1 : (if (wrap64 (t276)) = 0 then ((impl_layout_qMin.f t259 t260 t261 t262 t263 t264).bind fun t286 => (some (2, (!(t277 == 0) || (!(t278 == 0))), t270, t271, t286))) else ((impl_one.f (wrap64 (t259 - 1))).bind fun bt287 => ((impl_Word_or.f t270 t271 bt287.1 bt287.2).bind fun bt289 => (some (3, (!(t277 == 0) || (!(t278 == 0))), bt289.1, bt289.2, wrap64 ((wrap64 ((wrap64 ((wrap64 (t276)) - t261)) - t259)) + 1)))))) = some (r1, r2, r3, r4, r5) := by rw [if_neg (show ¬ (false = true) by decide)] at H; exact H
             clear H
             have H := H1
             clear H1
             by_cases c150 : (wrap64 (t276)) = 0
             ·rw [if_pos c150] at H
              have c150b0 : ((wrap64 (t276)) == 0) = true := beq_iff_eq.mpr c150
              have c150b1 : ((wrap64 (t276)) != 0) = false := bne_eq_false_iff_eq.mpr c150
              clear c150
              replace H := Option.bind_eq_some_iff.mp H
              obtain ⟨t286, A1510, H⟩ := H
              replace H : (some (2, (!(t277 == 0) || (!(t278 == 0))), t270, t271, t286)) = some (r1, r2, r3, r4, r5) := H
              have A151 := Aside0.mk A1510
              clear A1510
              simp only [Option.some.injEq, Prod.mk.injEq] at H
              obtain ⟨rfl, rfl, rfl, rfl, rfl⟩ := H
              try go_wp2
              have n0_ := Aside0.mk (blk_drew BK257.out)
              have n1_ := Aside0.mk (blk_drew BK258.out)
              have n2_ := Aside0.mk (blk_drew BK266.out)
              have n3_ := Aside0.mk (blk_drew BK272.out)
              have n4_ := Aside0.mk (blk_drew BK279.out)
              have n5_ := Aside0.mk (below_drew1 HB.out)
              clear BK257
              clear BK258
              clear BK266
              clear BK272
              clear BK279
              clear HB
              have BK257 := n0_
              have BK258 := n1_
              have BK266 := n2_
              have BK272 := n3_
              have BK279 := n4_
              have HB := n5_
              clear n0_ n1_ n2_ n3_ n4_ n5_
              refine start_ (n := 6) (S := fun w' => w'.cell? ⟨gb272, 0, none⟩ = some (.int .u64 t270) ∧ w'.cell? ⟨gb272, 1, none⟩ = some (.int .u64 t271) ∧ w'.cell? ⟨gb266, 0, none⟩ = some (.int .i64 t259) ∧ w'.cell? ⟨gb266, 1, none⟩ = some (.int .i64 t260) ∧ w'.cell? ⟨gb266, 2, none⟩ = some (.int .i64 t261) ∧ w'.cell? ⟨gb266, 3, none⟩ = some (.int .i64 t262) ∧ w'.cell? ⟨gb266, 4, none⟩ = some (.int .i64 t263) ∧ w'.cell? ⟨gb266, 5, none⟩ = some (.bool t264)) (ds := []) #[false, false, false, false, false, false] (by kernel_rfl) rfl rfl ⟨(blk_cell BK272.out 0).trans rfl, (blk_cell BK272.out 1).trans rfl, (blk_cell BK266.out 0).trans rfl, (blk_cell BK266.out 1).trans rfl, (blk_cell BK266.out 2).trans rfl, (blk_cell BK266.out 3).trans rfl, (blk_cell BK266.out 4).trans rfl, (blk_cell BK266.out 5).trans rfl⟩ (fun hHeld => ?_)
              generalize wc.drew = w152 at BK257 BK258 BK266 BK272 BK279 HB hHeld ⊢
              refine pure_ (i := 0) (N := some 112) (v := ?_) (a' := ?_) #[true, false, false, false, false, false] rfl rfl (by kernel_rfl) (fun _ _ _ h => h) (Or.inl ⟨by rfl, ?_⟩) ?_ ?_
              rotate_left
              ·intro w'
               go_simp
               with_reducible rfl
              rotate_left
              ·simp only [Act.put, List.setIfInBounds_toArray, List.set_cons_zero, List.set_cons_succ, i64_w, i32_w]
               rfl
              refine take_ (i := 1) (N := some 113) (v := ?_) (a' := ?_) #[true, true, false, false, false, false] rfl rfl (by kernel_rfl) (fun _ _ _ h => h) (Or.inl ⟨by rfl, ?_⟩) hHeld ?_ ?_
              rotate_left
              ·rintro w' ⟨s0, s1, s2, s3, s4, s5, s6, s7⟩
               go_simp
               with_reducible rfl
              rotate_left
              ·simp only [Act.put, List.setIfInBounds_toArray, List.set_cons_zero, List.set_cons_succ, i64_w, i32_w]
               rfl
              refine take_ (i := 2) (N := some 114) (v := ?_) (a' := ?_) #[true, true, true, false, false, false] rfl rfl (by kernel_rfl) (fun _ _ _ h => h) (Or.inl ⟨by rfl, ?_⟩) hHeld ?_ ?_
              rotate_left
              ·rintro w' ⟨s0, s1, s2, s3, s4, s5, s6, s7⟩
               go_simp
               with_reducible rfl
              rotate_left
              ·simp only [Act.put, List.setIfInBounds_toArray, List.set_cons_zero, List.set_cons_succ, i64_w, i32_w]
               rfl
              refine one_ (i := 3) (N := some 115) #[true, true, true, true, false, false] rfl rfl (by kernel_rfl) (by decide) (fun K hK => ?_)
              refine goes_ Tryd.func70 (by kernel_rfl) rfl #[.agg #[.int .i64 t259, .int .i64 t260, .int .i64 t261, .int .i64 t262, .int .i64 t263, .bool t264]] (by rfl) rfl rfl (by (try simp only [List.map_toArray, List.map_cons, List.map_nil]); first | done | rfl | (simp only [List.length_drop, List.length_take]; rfl)) ?_
              with_reducible refine (impl_layout_qMin.calls t259 t260 t261 t262 t263 t264 t286 _ A151.out).mono ?_
              rintro e w153 ⟨rfl, hb⟩
              refine ⟨_, rfl, ?_⟩
              have n0_ := Aside0.mk (blk_below (g := gb257) (o := .cells #[.int .u64 a1_0, .int .u64 a1_1] 25 (0, 0)) (by (with_reducible repeat (first | refine blk_drewN ?_ _ | refine blk_drew ?_ | refine blk_alloc ?_ _)); exact BK257.out) hb)
              have n1_ := Aside0.mk (blk_below (g := gb258) (o := .cells #[.int .i64 x259000_32, .bool x259001_32, .int .u64 x259002_32, .int .u64 x259003_32, .int .i64 x259004_32] 27 (0, 0)) (by (with_reducible repeat (first | refine blk_drewN ?_ _ | refine blk_drew ?_ | refine blk_alloc ?_ _)); exact BK258.out) hb)
              have n2_ := Aside0.mk (blk_below (g := gb266) (o := .cells #[.int .i64 t259, .int .i64 t260, .int .i64 t261, .int .i64 t262, .int .i64 t263, .bool t264] 91 (0, 0)) (by (with_reducible repeat (first | refine blk_drewN ?_ _ | refine blk_drew ?_ | refine blk_alloc ?_ _)); exact BK266.out) hb)
              have n3_ := Aside0.mk (blk_below (g := gb272) (o := .cells #[.int .u64 t270, .int .u64 t271] 25 (0, 0)) (by (with_reducible repeat (first | refine blk_drewN ?_ _ | refine blk_drew ?_ | refine blk_alloc ?_ _)); exact BK272.out) hb)
              have n4_ := Aside0.mk (blk_below (g := gb279) (o := .cells #[.int .u64 x280000_32, .int .u64 x280001_32] 25 (0, 0)) (by (with_reducible repeat (first | refine blk_drewN ?_ _ | refine blk_drew ?_ | refine blk_alloc ?_ _)); exact BK279.out) hb)
              have n5_ := Aside0.mk (below_step (by repeat (first | (with_reducible first | exact HB.out | apply below_alloc | apply pw_below_drewN | apply below_drew1 | refine below_set ?_ GE257.out | refine below_set ?_ GE258.out | refine below_set ?_ GE266.out | refine below_set ?_ GE272.out | refine below_set ?_ GE279.out) | exact HB.out)) hb)
              clear BK257
              clear BK258
              clear BK266
              clear BK272
              clear BK279
              clear HB
              have BK257 := n0_
              have BK258 := n1_
              have BK266 := n2_
              have BK272 := n3_
              have BK279 := n4_
              have HB := n5_
              clear n0_ n1_ n2_ n3_ n4_ n5_
              (try clear hb)
              (try clear hb2)
              (try clear hk)
              (try clear hi)
              refine hK.out _ _ ⟨(blk_cell BK272.out 0).trans rfl, (blk_cell BK272.out 1).trans rfl, (blk_cell BK266.out 0).trans rfl, (blk_cell BK266.out 1).trans rfl, (blk_cell BK266.out 2).trans rfl, (blk_cell BK266.out 3).trans rfl, (blk_cell BK266.out 4).trans rfl, (blk_cell BK266.out 5).trans rfl⟩ (fun hHeld => ?_)
              clear hK K
              refine norm_ (a' := ?_) ?_ ?_
              rotate_left
              ·show Act.put _ (some 115) _ = _
               simp only [Act.put, List.setIfInBounds_toArray, List.set_cons_zero, List.set_cons_succ, i64_w, i32_w]
               rfl
              refine pure_ (i := 4) (N := some 116) (v := ?_) (a' := ?_) #[true, true, true, true, true, false] rfl rfl (by kernel_rfl) (fun _ _ _ h => h) (Or.inl ⟨by rfl, ?_⟩) ?_ ?_
              rotate_left
              ·intro w'
               go_simp
               with_reducible rfl
              rotate_left
              ·simp only [Act.put, List.setIfInBounds_toArray, List.set_cons_zero, List.set_cons_succ, i64_w, i32_w]
               rfl
              refine one_ (i := 5) (N := none) #[true, true, true, true, true, true] rfl rfl (by kernel_rfl) (by decide) (fun K hK => ?_)
              have hs154 : w153.cell? ⟨gb258, 0, none⟩ = some (.int .i64 x259000_32) := (blk_cell BK258.out 0).trans rfl
              have hfs154 := blk_frozen BK258.out 0
              have hns154_0 := NB257_258.out
              have hns154_2 := NB266_258.out
              have hns154_3 := NB272_258.out
              have hns154_4 := NB279_258.out
              have hms154_0 := NB258_257.out
              have hms154_2 := NB258_266.out
              have hms154_3 := NB258_272.out
              have hms154_4 := NB258_279.out
              have hs155 : w153.cell? ⟨gb258, 1, none⟩ = some (.bool x259001_32) := (blk_cell BK258.out 1).trans rfl
              have hfs155 := blk_frozen BK258.out 1
              have hns155_0 := NB257_258.out
              have hns155_2 := NB266_258.out
              have hns155_3 := NB272_258.out
              have hns155_4 := NB279_258.out
              have hms155_0 := NB258_257.out
              have hms155_2 := NB258_266.out
              have hms155_3 := NB258_272.out
              have hms155_4 := NB258_279.out
              have hs156 : w153.cell? ⟨gb258, 2, none⟩ = some (.int .u64 x259002_32) := (blk_cell BK258.out 2).trans rfl
              have hfs156 := blk_frozen BK258.out 2
              have hns156_0 := NB257_258.out
              have hns156_2 := NB266_258.out
              have hns156_3 := NB272_258.out
              have hns156_4 := NB279_258.out
              have hms156_0 := NB258_257.out
              have hms156_2 := NB258_266.out
              have hms156_3 := NB258_272.out
              have hms156_4 := NB258_279.out
              have hs157 : w153.cell? ⟨gb258, 3, none⟩ = some (.int .u64 x259003_32) := (blk_cell BK258.out 3).trans rfl
              have hfs157 := blk_frozen BK258.out 3
              have hns157_0 := NB257_258.out
              have hns157_2 := NB266_258.out
              have hns157_3 := NB272_258.out
              have hns157_4 := NB279_258.out
              have hms157_0 := NB258_257.out
              have hms157_2 := NB258_266.out
              have hms157_3 := NB258_272.out
              have hms157_4 := NB258_279.out
              have hs158 : w153.cell? ⟨gb258, 4, none⟩ = some (.int .i64 x259004_32) := (blk_cell BK258.out 4).trans rfl
              have hfs158 := blk_frozen BK258.out 4
              have hns158_0 := NB257_258.out
              have hns158_2 := NB266_258.out
              have hns158_3 := NB272_258.out
              have hns158_4 := NB279_258.out
              have hms158_0 := NB258_257.out
              have hms158_2 := NB258_266.out
              have hms158_3 := NB258_272.out
              have hms158_4 := NB258_279.out
              refine skip_ (w1 := ?_) (by rfl) rfl ?_ ?_
              rotate_left
              ·go_simp
               rfl
              refine hK.out _ _ ⟨((cell_far (p := ⟨gb258, _, none⟩) NB272_258.out _).trans (((cell_far (p := ⟨gb258, _, none⟩) NB272_258.out _).trans (((cell_far (p := ⟨gb258, _, none⟩) NB272_258.out _).trans (((cell_far (p := ⟨gb258, _, none⟩) NB272_258.out _).trans (((cell_far (p := ⟨gb258, _, none⟩) NB272_258.out _).trans (hHeld.1)))))))))), ((cell_far (p := ⟨gb258, _, none⟩) NB272_258.out _).trans (((cell_far (p := ⟨gb258, _, none⟩) NB272_258.out _).trans (((cell_far (p := ⟨gb258, _, none⟩) NB272_258.out _).trans (((cell_far (p := ⟨gb258, _, none⟩) NB272_258.out _).trans (((cell_far (p := ⟨gb258, _, none⟩) NB272_258.out _).trans (hHeld.2.1)))))))))), ((cell_far (p := ⟨gb258, _, none⟩) NB266_258.out _).trans (((cell_far (p := ⟨gb258, _, none⟩) NB266_258.out _).trans (((cell_far (p := ⟨gb258, _, none⟩) NB266_258.out _).trans (((cell_far (p := ⟨gb258, _, none⟩) NB266_258.out _).trans (((cell_far (p := ⟨gb258, _, none⟩) NB266_258.out _).trans (hHeld.2.2.1)))))))))), ((cell_far (p := ⟨gb258, _, none⟩) NB266_258.out _).trans (((cell_far (p := ⟨gb258, _, none⟩) NB266_258.out _).trans (((cell_far (p := ⟨gb258, _, none⟩) NB266_258.out _).trans (((cell_far (p := ⟨gb258, _, none⟩) NB266_258.out _).trans (((cell_far (p := ⟨gb258, _, none⟩) NB266_258.out _).trans (hHeld.2.2.2.1)))))))))), ((cell_far (p := ⟨gb258, _, none⟩) NB266_258.out _).trans (((cell_far (p := ⟨gb258, _, none⟩) NB266_258.out _).trans (((cell_far (p := ⟨gb258, _, none⟩) NB266_258.out _).trans (((cell_far (p := ⟨gb258, _, none⟩) NB266_258.out _).trans (((cell_far (p := ⟨gb258, _, none⟩) NB266_258.out _).trans (hHeld.2.2.2.2.1)))))))))), ((cell_far (p := ⟨gb258, _, none⟩) NB266_258.out _).trans (((cell_far (p := ⟨gb258, _, none⟩) NB266_258.out _).trans (((cell_far (p := ⟨gb258, _, none⟩) NB266_258.out _).trans (((cell_far (p := ⟨gb258, _, none⟩) NB266_258.out _).trans (((cell_far (p := ⟨gb258, _, none⟩) NB266_258.out _).trans (hHeld.2.2.2.2.2.1)))))))))), ((cell_far (p := ⟨gb258, _, none⟩) NB266_258.out _).trans (((cell_far (p := ⟨gb258, _, none⟩) NB266_258.out _).trans (((cell_far (p := ⟨gb258, _, none⟩) NB266_258.out _).trans (((cell_far (p := ⟨gb258, _, none⟩) NB266_258.out _).trans (((cell_far (p := ⟨gb258, _, none⟩) NB266_258.out _).trans (hHeld.2.2.2.2.2.2.1)))))))))), ((cell_far (p := ⟨gb258, _, none⟩) NB266_258.out _).trans (((cell_far (p := ⟨gb258, _, none⟩) NB266_258.out _).trans (((cell_far (p := ⟨gb258, _, none⟩) NB266_258.out _).trans (((cell_far (p := ⟨gb258, _, none⟩) NB266_258.out _).trans (((cell_far (p := ⟨gb258, _, none⟩) NB266_258.out _).trans (hHeld.2.2.2.2.2.2.2))))))))))⟩ (fun hHeld => ?_)
              clear hK K
              refine done_ (by kernel_rfl) ?_
              try go_wp2
              refine bodyPost_ret (results_cell_row rfl _ _ gb258 27 #[.int .i64 2, .bool (!(t277 == 0) || (!(t278 == 0))), .int .u64 t270, .int .u64 t271, .int .i64 t286] (0, 0) _ rfl (by (with_reducible repeat (first | refine blk_drewN ?_ _ | refine blk_drew ?_ | refine blk_alloc ?_ _)); refine blk_put (cs := #[.int .i64 2, .bool (!(t277 == 0) || (!(t278 == 0))), .int .u64 t270, .int .u64 t271, .int .i64 x259004_32]) ?_ 4 _ rfl; (with_reducible repeat (first | refine blk_drewN ?_ _ | refine blk_drew ?_ | refine blk_alloc ?_ _)); refine blk_put (cs := #[.int .i64 2, .bool (!(t277 == 0) || (!(t278 == 0))), .int .u64 t270, .int .u64 x259003_32, .int .i64 x259004_32]) ?_ 3 _ rfl; (with_reducible repeat (first | refine blk_drewN ?_ _ | refine blk_drew ?_ | refine blk_alloc ?_ _)); refine blk_put (cs := #[.int .i64 2, .bool (!(t277 == 0) || (!(t278 == 0))), .int .u64 x259002_32, .int .u64 x259003_32, .int .i64 x259004_32]) ?_ 2 _ rfl; (with_reducible repeat (first | refine blk_drewN ?_ _ | refine blk_drew ?_ | refine blk_alloc ?_ _)); refine blk_put (cs := #[.int .i64 2, .bool x259001_32, .int .u64 x259002_32, .int .u64 x259003_32, .int .i64 x259004_32]) ?_ 1 _ rfl; (with_reducible repeat (first | refine blk_drewN ?_ _ | refine blk_drew ?_ | refine blk_alloc ?_ _)); refine blk_put (cs := #[.int .i64 x259000_32, .bool x259001_32, .int .u64 x259002_32, .int .u64 x259003_32, .int .i64 x259004_32]) ?_ 0 _ rfl; (with_reducible repeat (first | refine blk_drewN ?_ _ | refine blk_drew ?_ | refine blk_alloc ?_ _)); exact BK258.out) Tryd.underlying27 rfl (by kernel_rfl)) rfl ?_
              exact ⟨by first | rfl | (simp [errW_none, errW_some] <;> rfl) | (simp [*, errW_none, errW_some] <;> rfl), by repeat (first | (with_reducible first | exact HB.out | apply below_alloc | apply pw_below_drewN | apply below_drew1 | refine below_set ?_ GE257.out | refine below_set ?_ GE258.out | refine below_set ?_ GE266.out | refine below_set ?_ GE272.out | refine below_set ?_ GE279.out) | exact HB.out)⟩
             ·rw [if_neg c150] at H
              have c150b0 : ((wrap64 (t276)) == 0) = false := beq_eq_false_iff_ne.mpr c150
              have c150b1 : ((wrap64 (t276)) != 0) = true := bne_iff_ne.mpr c150
              replace H := Option.bind_eq_some_iff.mp H
              obtain ⟨⟨t287, t288⟩, A1590, H⟩ := H
              replace H : ((impl_Word_or.f t270 t271 t287 t288).bind fun bt289 => (some (3, (!(t277 == 0) || (!(t278 == 0))), bt289.1, bt289.2, wrap64 ((wrap64 ((wrap64 ((wrap64 (t276)) - t261)) - t259)) + 1)))) = some (r1, r2, r3, r4, r5) := H
              have A159 := Aside0.mk A1590
              clear A1590
              replace H := Option.bind_eq_some_iff.mp H
              obtain ⟨⟨t289, t290⟩, A1600, H⟩ := H
              replace H : (some (3, (!(t277 == 0) || (!(t278 == 0))), t289, t290, wrap64 ((wrap64 ((wrap64 ((wrap64 (t276)) - t261)) - t259)) + 1))) = some (r1, r2, r3, r4, r5) := H
              have A160 := Aside0.mk A1600
              clear A1600
              simp only [Option.some.injEq, Prod.mk.injEq] at H
              obtain ⟨rfl, rfl, rfl, rfl, rfl⟩ := H
              try go_wp2
              have n0_ := Aside0.mk (blk_drew BK257.out)
              have n1_ := Aside0.mk (blk_drew BK258.out)
              have n2_ := Aside0.mk (blk_drew BK266.out)
              have n3_ := Aside0.mk (blk_drew BK272.out)
              have n4_ := Aside0.mk (blk_drew BK279.out)
              have n5_ := Aside0.mk (below_drew1 HB.out)
              clear BK257
              clear BK258
              clear BK266
              clear BK272
              clear BK279
              clear HB
              have BK257 := n0_
              have BK258 := n1_
              have BK266 := n2_
              have BK272 := n3_
              have BK279 := n4_
              have HB := n5_
              clear n0_ n1_ n2_ n3_ n4_ n5_
              refine start_ (n := 20) (S := fun w' => w'.cell? ⟨gb272, 0, none⟩ = some (.int .u64 t270) ∧ w'.cell? ⟨gb272, 1, none⟩ = some (.int .u64 t271) ∧ w'.cell? ⟨gb266, 0, none⟩ = some (.int .i64 t259) ∧ w'.cell? ⟨gb266, 1, none⟩ = some (.int .i64 t260) ∧ w'.cell? ⟨gb266, 2, none⟩ = some (.int .i64 t261) ∧ w'.cell? ⟨gb266, 3, none⟩ = some (.int .i64 t262) ∧ w'.cell? ⟨gb266, 4, none⟩ = some (.int .i64 t263) ∧ w'.cell? ⟨gb266, 5, none⟩ = some (.bool t264)) (ds := []) #[false, false, false, false, false, false, false, false, false, false, false, false, false, false, false, false, false, false, false, false] (by kernel_rfl) rfl rfl ⟨(blk_cell BK272.out 0).trans rfl, (blk_cell BK272.out 1).trans rfl, (blk_cell BK266.out 0).trans rfl, (blk_cell BK266.out 1).trans rfl, (blk_cell BK266.out 2).trans rfl, (blk_cell BK266.out 3).trans rfl, (blk_cell BK266.out 4).trans rfl, (blk_cell BK266.out 5).trans rfl⟩ (fun hHeld => ?_); refine with_tabW impl_Unpack.tab22 impl_Unpack.bits22 (fun HT_ HW_ => ?_)
              generalize wc.drew = w161 at BK257 BK258 BK266 BK272 BK279 HB hHeld ⊢
              refine pure_ (i := 0) (N := some 117) (v := ?_) (a' := ?_) #[true, false, false, false, false, false, false, false, false, false, false, false, false, false, false, false, false, false, false, false] rfl rfl (any_of HT_.out (by kernel_rfl)) (fun _ _ _ h => h) (Or.inl ⟨by rfl, ?_⟩) ?_ ?_
              rotate_left
              ·intro w'
               go_simp
               with_reducible rfl
              rotate_left
              ·simp only [Act.put, List.setIfInBounds_toArray, List.set_cons_zero, List.set_cons_succ, i64_w, i32_w]
               rfl
              refine pure_ (i := 2) (N := some 119) (v := ?_) (a' := ?_) #[true, false, true, false, false, false, false, false, false, false, false, false, false, false, false, false, false, false, false, false] rfl rfl (any_of HT_.out (by kernel_rfl)) (fun _ _ _ h => h) (Or.inl ⟨by rfl, ?_⟩) ?_ ?_
              rotate_left
              ·intro w'
               go_simp
               with_reducible rfl
              rotate_left
              ·simp only [Act.put, List.setIfInBounds_toArray, List.set_cons_zero, List.set_cons_succ, i64_w, i32_w]
               rfl
              refine pure_ (i := 3) (N := some 120) (v := ?_) (a' := ?_) #[true, false, true, true, false, false, false, false, false, false, false, false, false, false, false, false, false, false, false, false] rfl rfl (any_of HT_.out (by kernel_rfl)) (fun _ _ _ h => h) (Or.inl ⟨by rfl, ?_⟩) ?_ ?_
              rotate_left
              ·intro w'
               go_simp
               with_reducible rfl
              rotate_left
              ·simp only [Act.put, List.setIfInBounds_toArray, List.set_cons_zero, List.set_cons_succ, i64_w, i32_w]
               rfl
              refine pure_ (i := 8) (N := some 125) (v := ?_) (a' := ?_) #[true, false, true, true, false, false, false, false, true, false, false, false, false, false, false, false, false, false, false, false] rfl rfl (any_of HT_.out (by kernel_rfl)) (fun _ _ _ h => h) (Or.inl ⟨by rfl, ?_⟩) ?_ ?_
              rotate_left
              ·intro w'
               go_simp
               with_reducible rfl
              rotate_left
              ·simp only [Act.put, List.setIfInBounds_toArray, List.set_cons_zero, List.set_cons_succ, i64_w, i32_w]
               rfl
              refine pure_ (i := 9) (N := some 126) (v := ?_) (a' := ?_) #[true, false, true, true, false, false, false, false, true, true, false, false, false, false, false, false, false, false, false, false] rfl rfl (any_of HT_.out (by kernel_rfl)) (fun _ _ _ h => h) (Or.inl ⟨by rfl, ?_⟩) ?_ ?_
              rotate_left
              ·intro w'
               go_simp
               with_reducible rfl
              rotate_left
              ·simp only [Act.put, List.setIfInBounds_toArray, List.set_cons_zero, List.set_cons_succ, i64_w, i32_w]
               rfl
              refine pure_ (i := 10) (N := some 127) (v := ?_) (a' := ?_) #[true, false, true, true, false, false, false, false, true, true, true, false, false, false, false, false, false, false, false, false] rfl rfl (any_of HT_.out (by kernel_rfl)) (fun _ _ _ h => h) (Or.inl ⟨by rfl, ?_⟩) ?_ ?_
              rotate_left
              ·intro w'
               go_simp
               with_reducible rfl
              rotate_left
              ·simp only [Act.put, List.setIfInBounds_toArray, List.set_cons_zero, List.set_cons_succ, i64_w, i32_w]
               rfl
              refine pure_ (i := 13) (N := some 130) (v := ?_) (a' := ?_) #[true, false, true, true, false, false, false, false, true, true, true, false, false, true, false, false, false, false, false, false] rfl rfl (any_of HT_.out (by kernel_rfl)) (fun _ _ _ h => h) (Or.inl ⟨by rfl, ?_⟩) ?_ ?_
              rotate_left
              ·intro w'
               go_simp
               with_reducible rfl
              rotate_left
              ·simp only [Act.put, List.setIfInBounds_toArray, List.set_cons_zero, List.set_cons_succ, i64_w, i32_w]
               rfl
              refine pure_ (i := 14) (N := some 131) (v := ?_) (a' := ?_) #[true, false, true, true, false, false, false, false, true, true, true, false, false, true, true, false, false, false, false, false] rfl rfl (any_of HT_.out (by kernel_rfl)) (fun _ _ _ h => h) (Or.inl ⟨by rfl, ?_⟩) ?_ ?_
              rotate_left
              ·intro w'
               go_simp
               with_reducible rfl
              rotate_left
              ·simp only [Act.put, List.setIfInBounds_toArray, List.set_cons_zero, List.set_cons_succ, i64_w, i32_w]
               rfl
              refine take_ (i := 1) (N := some 118) (v := ?_) (a' := ?_) #[true, true, true, true, false, false, false, false, true, true, true, false, false, true, true, false, false, false, false, false] rfl rfl (take_ofW HT_.out HW_.out (by kernel_rfl)) (fun _ _ _ h => h) (Or.inl ⟨by rfl, ?_⟩) hHeld ?_ ?_
              rotate_left
              ·rintro w' ⟨s0, s1, s2, s3, s4, s5, s6, s7⟩
               go_simp
               with_reducible rfl
              rotate_left
              ·simp only [Act.put, List.setIfInBounds_toArray, List.set_cons_zero, List.set_cons_succ, i64_w, i32_w]
               rfl
              refine take_ (i := 4) (N := some 121) (v := ?_) (a' := ?_) #[true, true, true, true, true, false, false, false, true, true, true, false, false, true, true, false, false, false, false, false] rfl rfl (take_ofW HT_.out HW_.out (by kernel_rfl)) (fun _ _ _ h => h) (Or.inl ⟨by rfl, ?_⟩) hHeld ?_ ?_
              rotate_left
              ·rintro w' ⟨s0, s1, s2, s3, s4, s5, s6, s7⟩
               go_simp
               with_reducible rfl
              rotate_left
              ·simp only [Act.put, List.setIfInBounds_toArray, List.set_cons_zero, List.set_cons_succ, i64_w, i32_w]
               rfl
              refine pure_ (i := 5) (N := some 122) (v := ?_) (a' := ?_) #[true, true, true, true, true, true, false, false, true, true, true, false, false, true, true, false, false, false, false, false] rfl rfl (any_of HT_.out (by kernel_rfl)) (fun _ _ _ h => h) (Or.inl ⟨by rfl, ?_⟩) ?_ ?_
              rotate_left
              ·intro w'
               go_simp
               with_reducible rfl
              rotate_left
              ·simp only [Act.put, List.setIfInBounds_toArray, List.set_cons_zero, List.set_cons_succ, i64_w, i32_w]
               rfl
              refine take_ (i := 11) (N := some 128) (v := ?_) (a' := ?_) #[true, true, true, true, true, true, false, false, true, true, true, true, false, true, true, false, false, false, false, false] rfl rfl (take_ofW HT_.out HW_.out (by kernel_rfl)) (fun _ _ _ h => h) (Or.inl ⟨by rfl, ?_⟩) hHeld ?_ ?_
              rotate_left
              ·rintro w' ⟨s0, s1, s2, s3, s4, s5, s6, s7⟩
               go_simp
               with_reducible rfl
              rotate_left
              ·simp only [Act.put, List.setIfInBounds_toArray, List.set_cons_zero, List.set_cons_succ, i64_w, i32_w]
               rfl
              refine pure_ (i := 12) (N := some 129) (v := ?_) (a' := ?_) #[true, true, true, true, true, true, false, false, true, true, true, true, true, true, true, false, false, false, false, false] rfl rfl (any_of HT_.out (by kernel_rfl)) (fun _ _ _ h => h) (Or.inl ⟨by rfl, ?_⟩) ?_ ?_
              rotate_left
              ·intro w'
               go_simp
               with_reducible rfl
              rotate_left
              ·simp only [Act.put, List.setIfInBounds_toArray, List.set_cons_zero, List.set_cons_succ, i64_w, i32_w]
               rfl
              refine take_ (i := 15) (N := some 132) (v := ?_) (a' := ?_) #[true, true, true, true, true, true, false, false, true, true, true, true, true, true, true, true, false, false, false, false] rfl rfl (take_ofW HT_.out HW_.out (by kernel_rfl)) (fun _ _ _ h => h) (Or.inl ⟨by rfl, ?_⟩) hHeld ?_ ?_
              rotate_left
              ·rintro w' ⟨s0, s1, s2, s3, s4, s5, s6, s7⟩
               go_simp
               with_reducible rfl
              rotate_left
              ·simp only [Act.put, List.setIfInBounds_toArray, List.set_cons_zero, List.set_cons_succ, i64_w, i32_w]
               rfl
              refine pure_ (i := 16) (N := some 133) (v := ?_) (a' := ?_) #[true, true, true, true, true, true, false, false, true, true, true, true, true, true, true, true, true, false, false, false] rfl rfl (any_of HT_.out (by kernel_rfl)) (fun _ _ _ h => h) (Or.inl ⟨by rfl, ?_⟩) ?_ ?_
              rotate_left
              ·intro w'
               go_simp
               with_reducible rfl
              rotate_left
              ·simp only [Act.put, List.setIfInBounds_toArray, List.set_cons_zero, List.set_cons_succ, i64_w, i32_w]
               rfl
              refine pure_ (i := 17) (N := some 134) (v := ?_) (a' := ?_) #[true, true, true, true, true, true, false, false, true, true, true, true, true, true, true, true, true, true, false, false] rfl rfl (any_of HT_.out (by kernel_rfl)) (fun _ _ _ h => h) (Or.inl ⟨by rfl, ?_⟩) ?_ ?_
              rotate_left
              ·intro w'
               go_simp
               with_reducible rfl
              rotate_left
              ·simp only [Act.put, List.setIfInBounds_toArray, List.set_cons_zero, List.set_cons_succ, i64_w, i32_w]
               rfl
              refine one_ (i := 6) (N := some 123) #[true, true, true, true, true, true, true, false, true, true, true, true, true, true, true, true, true, true, false, false] rfl rfl (one_of HT_.out (by kernel_rfl)) (by decide) (fun K hK => ?_)
              refine goes_ Tryd.func72 (by kernel_rfl) rfl #[.int .i64 (wrap64 (t259 - 1))] (by rfl) rfl rfl (by (try simp only [List.map_toArray, List.map_cons, List.map_nil]); first | done | rfl | (simp only [List.length_drop, List.length_take]; rfl)) ?_
              with_reducible refine (impl_one.calls (wrap64 (t259 - 1)) t287 t288 _ A159.out).mono ?_
              rintro e w162 ⟨rfl, hb⟩
              refine ⟨_, rfl, ?_⟩
              have n0_ := Aside0.mk (blk_below (g := gb257) (o := .cells #[.int .u64 a1_0, .int .u64 a1_1] 25 (0, 0)) (by (with_reducible repeat (first | refine blk_drewN ?_ _ | refine blk_drew ?_ | refine blk_alloc ?_ _)); exact BK257.out) hb)
              have n1_ := Aside0.mk (blk_below (g := gb258) (o := .cells #[.int .i64 x259000_32, .bool x259001_32, .int .u64 x259002_32, .int .u64 x259003_32, .int .i64 x259004_32] 27 (0, 0)) (by (with_reducible repeat (first | refine blk_drewN ?_ _ | refine blk_drew ?_ | refine blk_alloc ?_ _)); exact BK258.out) hb)
              have n2_ := Aside0.mk (blk_below (g := gb266) (o := .cells #[.int .i64 t259, .int .i64 t260, .int .i64 t261, .int .i64 t262, .int .i64 t263, .bool t264] 91 (0, 0)) (by (with_reducible repeat (first | refine blk_drewN ?_ _ | refine blk_drew ?_ | refine blk_alloc ?_ _)); exact BK266.out) hb)
              have n3_ := Aside0.mk (blk_below (g := gb272) (o := .cells #[.int .u64 t270, .int .u64 t271] 25 (0, 0)) (by (with_reducible repeat (first | refine blk_drewN ?_ _ | refine blk_drew ?_ | refine blk_alloc ?_ _)); exact BK272.out) hb)
              have n4_ := Aside0.mk (blk_below (g := gb279) (o := .cells #[.int .u64 x280000_32, .int .u64 x280001_32] 25 (0, 0)) (by (with_reducible repeat (first | refine blk_drewN ?_ _ | refine blk_drew ?_ | refine blk_alloc ?_ _)); exact BK279.out) hb)
              have n5_ := Aside0.mk (below_step (by repeat (first | (with_reducible first | exact HB.out | apply below_alloc | apply pw_below_drewN | apply below_drew1 | refine below_set ?_ GE257.out | refine below_set ?_ GE258.out | refine below_set ?_ GE266.out | refine below_set ?_ GE272.out | refine below_set ?_ GE279.out) | exact HB.out)) hb)
              clear BK257
              clear BK258
              clear BK266
              clear BK272
              clear BK279
              clear HB
              have BK257 := n0_
              have BK258 := n1_
              have BK266 := n2_
              have BK272 := n3_
              have BK279 := n4_
              have HB := n5_
              clear n0_ n1_ n2_ n3_ n4_ n5_
              (try clear hb)
              (try clear hb2)
              (try clear hk)
              (try clear hi)
              refine hK.out _ _ ⟨(blk_cell BK272.out 0).trans rfl, (blk_cell BK272.out 1).trans rfl, (blk_cell BK266.out 0).trans rfl, (blk_cell BK266.out 1).trans rfl, (blk_cell BK266.out 2).trans rfl, (blk_cell BK266.out 3).trans rfl, (blk_cell BK266.out 4).trans rfl, (blk_cell BK266.out 5).trans rfl⟩ (fun hHeld => ?_)
              clear hK K
              refine norm_ (a' := ?_) ?_ ?_
              rotate_left
              ·show Act.put _ (some 123) _ = _
               simp only [Act.put, List.setIfInBounds_toArray, List.set_cons_zero, List.set_cons_succ, i64_w, i32_w]
               rfl
              refine one_ (i := 7) (N := some 124) #[true, true, true, true, true, true, true, true, true, true, true, true, true, true, true, true, true, true, false, false] rfl rfl (one_of HT_.out (by kernel_rfl)) (by decide) (fun K hK => ?_)
              refine goes_ Tryd.func71 (by kernel_rfl) rfl #[.agg #[.int .u64 t270, .int .u64 t271], .agg #[.int .u64 t287, .int .u64 t288]] (by rfl) rfl rfl (by (try simp only [List.map_toArray, List.map_cons, List.map_nil]); first | done | rfl | (simp only [List.length_drop, List.length_take]; rfl)) ?_
              with_reducible refine (impl_Word_or.calls t270 t271 t287 t288 t289 t290 _ A160.out).mono ?_
              rintro e w163 ⟨rfl, hb⟩
              refine ⟨_, rfl, ?_⟩
              have n0_ := Aside0.mk (blk_below (g := gb257) (o := .cells #[.int .u64 a1_0, .int .u64 a1_1] 25 (0, 0)) (by (with_reducible repeat (first | refine blk_drewN ?_ _ | refine blk_drew ?_ | refine blk_alloc ?_ _)); exact BK257.out) hb)
              have n1_ := Aside0.mk (blk_below (g := gb258) (o := .cells #[.int .i64 x259000_32, .bool x259001_32, .int .u64 x259002_32, .int .u64 x259003_32, .int .i64 x259004_32] 27 (0, 0)) (by (with_reducible repeat (first | refine blk_drewN ?_ _ | refine blk_drew ?_ | refine blk_alloc ?_ _)); exact BK258.out) hb)
              have n2_ := Aside0.mk (blk_below (g := gb266) (o := .cells #[.int .i64 t259, .int .i64 t260, .int .i64 t261, .int .i64 t262, .int .i64 t263, .bool t264] 91 (0, 0)) (by (with_reducible repeat (first | refine blk_drewN ?_ _ | refine blk_drew ?_ | refine blk_alloc ?_ _)); exact BK266.out) hb)
              have n3_ := Aside0.mk (blk_below (g := gb272) (o := .cells #[.int .u64 t270, .int .u64 t271] 25 (0, 0)) (by (with_reducible repeat (first | refine blk_drewN ?_ _ | refine blk_drew ?_ | refine blk_alloc ?_ _)); exact BK272.out) hb)
              have n4_ := Aside0.mk (blk_below (g := gb279) (o := .cells #[.int .u64 x280000_32, .int .u64 x280001_32] 25 (0, 0)) (by (with_reducible repeat (first | refine blk_drewN ?_ _ | refine blk_drew ?_ | refine blk_alloc ?_ _)); exact BK279.out) hb)
              have n5_ := Aside0.mk (below_step (by repeat (first | (with_reducible first | exact HB.out | apply below_alloc | apply pw_below_drewN | apply below_drew1 | refine below_set ?_ GE257.out | refine below_set ?_ GE258.out | refine below_set ?_ GE266.out | refine below_set ?_ GE272.out | refine below_set ?_ GE279.out) | exact HB.out)) hb)
              clear BK257
              clear BK258
              clear BK266
              clear BK272
              clear BK279
              clear HB
              have BK257 := n0_
              have BK258 := n1_
              have BK266 := n2_
              have BK272 := n3_
              have BK279 := n4_
              have HB := n5_
              clear n0_ n1_ n2_ n3_ n4_ n5_
              (try clear hb)
              (try clear hb2)
              (try clear hk)
              (try clear hi)
              refine hK.out _ _ ⟨(blk_cell BK272.out 0).trans rfl, (blk_cell BK272.out 1).trans rfl, (blk_cell BK266.out 0).trans rfl, (blk_cell BK266.out 1).trans rfl, (blk_cell BK266.out 2).trans rfl, (blk_cell BK266.out 3).trans rfl, (blk_cell BK266.out 4).trans rfl, (blk_cell BK266.out 5).trans rfl⟩ (fun hHeld => ?_)
              clear hK K
              refine norm_ (a' := ?_) ?_ ?_
              rotate_left
              ·show Act.put _ (some 124) _ = _
               simp only [Act.put, List.setIfInBounds_toArray, List.set_cons_zero, List.set_cons_succ, i64_w, i32_w]
               rfl
              refine pure_ (i := 18) (N := some 135) (v := ?_) (a' := ?_) #[true, true, true, true, true, true, true, true, true, true, true, true, true, true, true, true, true, true, true, false] rfl rfl (any_of HT_.out (by kernel_rfl)) (fun _ _ _ h => h) (Or.inl ⟨by rfl, ?_⟩) ?_ ?_
              rotate_left
              ·intro w'
               go_simp
               with_reducible rfl
              rotate_left
              ·simp only [Act.put, List.setIfInBounds_toArray, List.set_cons_zero, List.set_cons_succ, i64_w, i32_w]
               rfl
              refine one_ (i := 19) (N := none) #[true, true, true, true, true, true, true, true, true, true, true, true, true, true, true, true, true, true, true, true] rfl rfl (one_of HT_.out (by kernel_rfl)) (by decide) (fun K hK => ?_)
              have hs164 : w163.cell? ⟨gb258, 0, none⟩ = some (.int .i64 x259000_32) := (blk_cell BK258.out 0).trans rfl
              have hfs164 := blk_frozen BK258.out 0
              have hns164_0 := NB257_258.out
              have hns164_2 := NB266_258.out
              have hns164_3 := NB272_258.out
              have hns164_4 := NB279_258.out
              have hms164_0 := NB258_257.out
              have hms164_2 := NB258_266.out
              have hms164_3 := NB258_272.out
              have hms164_4 := NB258_279.out
              have hs165 : w163.cell? ⟨gb258, 1, none⟩ = some (.bool x259001_32) := (blk_cell BK258.out 1).trans rfl
              have hfs165 := blk_frozen BK258.out 1
              have hns165_0 := NB257_258.out
              have hns165_2 := NB266_258.out
              have hns165_3 := NB272_258.out
              have hns165_4 := NB279_258.out
              have hms165_0 := NB258_257.out
              have hms165_2 := NB258_266.out
              have hms165_3 := NB258_272.out
              have hms165_4 := NB258_279.out
              have hs166 : w163.cell? ⟨gb258, 2, none⟩ = some (.int .u64 x259002_32) := (blk_cell BK258.out 2).trans rfl
              have hfs166 := blk_frozen BK258.out 2
              have hns166_0 := NB257_258.out
              have hns166_2 := NB266_258.out
              have hns166_3 := NB272_258.out
              have hns166_4 := NB279_258.out
              have hms166_0 := NB258_257.out
              have hms166_2 := NB258_266.out
              have hms166_3 := NB258_272.out
              have hms166_4 := NB258_279.out
              have hs167 : w163.cell? ⟨gb258, 3, none⟩ = some (.int .u64 x259003_32) := (blk_cell BK258.out 3).trans rfl
              have hfs167 := blk_frozen BK258.out 3
              have hns167_0 := NB257_258.out
              have hns167_2 := NB266_258.out
              have hns167_3 := NB272_258.out
              have hns167_4 := NB279_258.out
              have hms167_0 := NB258_257.out
              have hms167_2 := NB258_266.out
              have hms167_3 := NB258_272.out
              have hms167_4 := NB258_279.out
              have hs168 : w163.cell? ⟨gb258, 4, none⟩ = some (.int .i64 x259004_32) := (blk_cell BK258.out 4).trans rfl
              have hfs168 := blk_frozen BK258.out 4
              have hns168_0 := NB257_258.out
              have hns168_2 := NB266_258.out
              have hns168_3 := NB272_258.out
              have hns168_4 := NB279_258.out
              have hms168_0 := NB258_257.out
              have hms168_2 := NB258_266.out
              have hms168_3 := NB258_272.out
              have hms168_4 := NB258_279.out
              refine skip_ (w1 := ?_) (by rfl) rfl ?_ ?_
              rotate_left
              ·go_simp
               rfl
              refine hK.out _ _ ⟨((cell_far (p := ⟨gb258, _, none⟩) NB272_258.out _).trans (((cell_far (p := ⟨gb258, _, none⟩) NB272_258.out _).trans (((cell_far (p := ⟨gb258, _, none⟩) NB272_258.out _).trans (((cell_far (p := ⟨gb258, _, none⟩) NB272_258.out _).trans (((cell_far (p := ⟨gb258, _, none⟩) NB272_258.out _).trans (hHeld.1)))))))))), ((cell_far (p := ⟨gb258, _, none⟩) NB272_258.out _).trans (((cell_far (p := ⟨gb258, _, none⟩) NB272_258.out _).trans (((cell_far (p := ⟨gb258, _, none⟩) NB272_258.out _).trans (((cell_far (p := ⟨gb258, _, none⟩) NB272_258.out _).trans (((cell_far (p := ⟨gb258, _, none⟩) NB272_258.out _).trans (hHeld.2.1)))))))))), ((cell_far (p := ⟨gb258, _, none⟩) NB266_258.out _).trans (((cell_far (p := ⟨gb258, _, none⟩) NB266_258.out _).trans (((cell_far (p := ⟨gb258, _, none⟩) NB266_258.out _).trans (((cell_far (p := ⟨gb258, _, none⟩) NB266_258.out _).trans (((cell_far (p := ⟨gb258, _, none⟩) NB266_258.out _).trans (hHeld.2.2.1)))))))))), ((cell_far (p := ⟨gb258, _, none⟩) NB266_258.out _).trans (((cell_far (p := ⟨gb258, _, none⟩) NB266_258.out _).trans (((cell_far (p := ⟨gb258, _, none⟩) NB266_258.out _).trans (((cell_far (p := ⟨gb258, _, none⟩) NB266_258.out _).trans (((cell_far (p := ⟨gb258, _, none⟩) NB266_258.out _).trans (hHeld.2.2.2.1)))))))))), ((cell_far (p := ⟨gb258, _, none⟩) NB266_258.out _).trans (((cell_far (p := ⟨gb258, _, none⟩) NB266_258.out _).trans (((cell_far (p := ⟨gb258, _, none⟩) NB266_258.out _).trans (((cell_far (p := ⟨gb258, _, none⟩) NB266_258.out _).trans (((cell_far (p := ⟨gb258, _, none⟩) NB266_258.out _).trans (hHeld.2.2.2.2.1)))))))))), ((cell_far (p := ⟨gb258, _, none⟩) NB266_258.out _).trans (((cell_far (p := ⟨gb258, _, none⟩) NB266_258.out _).trans (((cell_far (p := ⟨gb258, _, none⟩) NB266_258.out _).trans (((cell_far (p := ⟨gb258, _, none⟩) NB266_258.out _).trans (((cell_far (p := ⟨gb258, _, none⟩) NB266_258.out _).trans (hHeld.2.2.2.2.2.1)))))))))), ((cell_far (p := ⟨gb258, _, none⟩) NB266_258.out _).trans (((cell_far (p := ⟨gb258, _, none⟩) NB266_258.out _).trans (((cell_far (p := ⟨gb258, _, none⟩) NB266_258.out _).trans (((cell_far (p := ⟨gb258, _, none⟩) NB266_258.out _).trans (((cell_far (p := ⟨gb258, _, none⟩) NB266_258.out _).trans (hHeld.2.2.2.2.2.2.1)))))))))), ((cell_far (p := ⟨gb258, _, none⟩) NB266_258.out _).trans (((cell_far (p := ⟨gb258, _, none⟩) NB266_258.out _).trans (((cell_far (p := ⟨gb258, _, none⟩) NB266_258.out _).trans (((cell_far (p := ⟨gb258, _, none⟩) NB266_258.out _).trans (((cell_far (p := ⟨gb258, _, none⟩) NB266_258.out _).trans (hHeld.2.2.2.2.2.2.2))))))))))⟩ (fun hHeld => ?_)
              clear hK K
              refine done_ (done_of HT_.out (by kernel_rfl)) ?_
              try go_wp2
              refine bodyPost_ret (results_cell_row rfl _ _ gb258 27 #[.int .i64 3, .bool (!(t277 == 0) || (!(t278 == 0))), .int .u64 t289, .int .u64 t290, .int .i64 (wrap64 ((wrap64 ((wrap64 ((wrap64 (t276)) - t261)) - t259)) + 1))] (0, 0) _ rfl (by (with_reducible repeat (first | refine blk_drewN ?_ _ | refine blk_drew ?_ | refine blk_alloc ?_ _)); refine blk_put (cs := #[.int .i64 3, .bool (!(t277 == 0) || (!(t278 == 0))), .int .u64 t289, .int .u64 t290, .int .i64 x259004_32]) ?_ 4 _ rfl; (with_reducible repeat (first | refine blk_drewN ?_ _ | refine blk_drew ?_ | refine blk_alloc ?_ _)); refine blk_put (cs := #[.int .i64 3, .bool (!(t277 == 0) || (!(t278 == 0))), .int .u64 t289, .int .u64 x259003_32, .int .i64 x259004_32]) ?_ 3 _ rfl; (with_reducible repeat (first | refine blk_drewN ?_ _ | refine blk_drew ?_ | refine blk_alloc ?_ _)); refine blk_put (cs := #[.int .i64 3, .bool (!(t277 == 0) || (!(t278 == 0))), .int .u64 x259002_32, .int .u64 x259003_32, .int .i64 x259004_32]) ?_ 2 _ rfl; (with_reducible repeat (first | refine blk_drewN ?_ _ | refine blk_drew ?_ | refine blk_alloc ?_ _)); refine blk_put (cs := #[.int .i64 3, .bool x259001_32, .int .u64 x259002_32, .int .u64 x259003_32, .int .i64 x259004_32]) ?_ 1 _ rfl; (with_reducible repeat (first | refine blk_drewN ?_ _ | refine blk_drew ?_ | refine blk_alloc ?_ _)); refine blk_put (cs := #[.int .i64 x259000_32, .bool x259001_32, .int .u64 x259002_32, .int .u64 x259003_32, .int .i64 x259004_32]) ?_ 0 _ rfl; (with_reducible repeat (first | refine blk_drewN ?_ _ | refine blk_drew ?_ | refine blk_alloc ?_ _)); exact BK258.out) Tryd.underlying27 rfl (by kernel_rfl)) rfl ?_
              exact ⟨by first | rfl | (simp [errW_none, errW_some] <;> rfl) | (simp [*, errW_none, errW_some] <;> rfl), by repeat (first | (with_reducible first | exact HB.out | apply below_alloc | apply pw_below_drewN | apply below_drew1 | refine below_set ?_ GE257.out | refine below_set ?_ GE258.out | refine below_set ?_ GE266.out | refine below_set ?_ GE272.out | refine below_set ?_ GE279.out) | exact HB.out)⟩
end Go.Proofs.YtdbnmdchecacdaaDoor.PU
end
section
namespace Go.Proofs.YtdbnmdchecacdaaDoor.M
open Go.RowKit Go.Proofs.YtdbnmdchecacdaaDoor.G Go.Proofs.YtdbnmdchecacdaaDoorV.PrintWords Go.Proofs.YtdbnmdchecacdaaDoorV.PrintLast Go.Proofs.YtdbnmdchecacdaaDoorV.PrintMore Go.Proofs.YtdbnmdchecacdaaDoor.PU
set_option linter.unusedVariables false
set_option linter.unusedSimpArgs false
theorem word_ne (x : Nat) : (!(hiI x == 0) || (!(loI x == 0))) = decide (x ≠ 0) := by
  unfold hiI loI
  by_cases h : x = 0
  · subst h; rfl
  · rw [decide_eq_true h]
    by_cases h1 : x / 18446744073709551616 = 0
    · have h2 : x % 18446744073709551616 ≠ 0 := by omega
      have : (((x % 18446744073709551616 : Nat) : Int) == 0) = false := by rw [beq_eq_false_iff_ne]; omega
      rw [this]; simp
    · have : (((x / 18446744073709551616 : Nat) : Int) == 0) = false := by rw [beq_eq_false_iff_ne]; omega
      rw [this]; rfl
theorem word_eq0 (x : Nat) : (hiI x == 0 && (loI x == 0)) = decide (x = 0) := by
  have h := word_ne x
  have h2 : (hiI x == 0 && (loI x == 0)) = !(!(hiI x == 0) || (!(loI x == 0))) := by cases (hiI x == 0) <;> cases (loI x == 0) <;> rfl
  rw [h2, h]
  by_cases h0 : x = 0
  · rw [decide_eq_true h0, decide_eq_false (by simpa using h0)]; rfl
  · rw [decide_eq_false h0, decide_eq_true h0]; rfl
section
variable {P : Nat} {emin emax : Int} {W E : Nat} {ex : Bool}
theorem top_eq (h : Fmt P emin emax W E ex) : impl_layout_top.f (P : Int) emin emax (W : Int) (E : Int) ex = some ((2 ^ E - 1 : Nat) : Int) := by
  have hE := h.plt
  have he1 := h.e1
  have hp : 0 < 2 ^ E := Nat.pow_pos (by decide)
  unfold impl_layout_top.f
  have hs : shl .i64 1 (E : Int) = ((2 ^ E : Nat) : Int) := by
    unfold shl
    rw [Int.toNat_natCast, show IntKind.i64.bits = 64 from rfl, Nat.min_eq_left (by omega), show ((1 : Int) * 2 ^ E) = ((2 ^ E : Nat) : Int) by simp]
    have : IntKind.i64.wrap ((2 ^ E : Nat) : Int) = wrap64 ((2 ^ E : Nat) : Int) := (i64_w _)
    rw [this]
    exact wsm _ (by omega)
  rw [if_pos (Int.natCast_nonneg _), hs, wsm _ (by omega)]
  congr 1
  omega
theorem frac_eq (h : Fmt P emin emax W E ex) : impl_layout_fracBits.f (P : Int) emin emax (W : Int) (E : Int) ex = some (fracN P ex : Int) := by
  have hp0 := h.p0
  have hp1 := h.p1
  unfold impl_layout_fracBits.f fracN
  cases ex with
  | true => rfl
  | false =>
    rw [if_neg (by decide), if_neg (by decide), wsm _ (by omega)]
    congr 1
    omega
theorem qmin_eq (h : Fmt P emin emax W E ex) : impl_layout_qMin.f (P : Int) emin emax (W : Int) (E : Int) ex = some (emin - P + 1) := by
  have hp1 := h.p1
  have m0 := h.m0
  unfold impl_layout_qMin.f
  rw [wsm (emin - (P : Int)) (by omega), wsm _ (by omega)]
theorem small2 (q : Nat) (h : q < 2) : q ≠ 0 ↔ q % 2 = 1 := by omega
theorem dne_f {p q : Prop} [Decidable p] [Decidable q] (h : p ↔ q) : (decide p != decide q) = false := by by_cases hp : p <;> by_cases hq : q <;> simp_all
theorem dne_t {p q : Prop} [Decidable p] [Decidable q] (h : ¬ (p ↔ q)) : (decide p != decide q) = true := by by_cases hp : p <;> by_cases hq : q <;> simp_all
theorem im_j1 (h : Fmt P emin emax W E ex) (e : Nat) (he : e < 2 ^ E) (neg : Bool) (rest : Nat) (hr : rest < 2 ^ (P - 1)) (b : Bool) (hb : e = 0 → b = false) (hb2 : ex = false → b = false) :
    Ev (fun k => impl_Unpack.j1 k (e : Int) neg (P : Int) emin emax (W : Int) (E : Int) ex (hiI (if b = true then rest + 2 ^ (P - 1) else rest)) (loI (if b = true then rest + 2 ^ (P - 1) else rest)) (hiI rest) (loI rest)) (partsOf P emin emax E e neg rest) := by
  have hp0 := h.p0
  have hp1 := h.p1
  have hE := h.plt
  have m1 := h.m1
  have ht := top_eq h
  have hq := qmin_eq h
  have hz := word_eq0 rest
  have hfz : e = 0 → (if b = true then rest + 2 ^ (P - 1) else rest) = rest := fun h0 => by rw [hb h0]; rfl
  have hor := or_eq rest (P - 1) (by omega) hr b
  obtain ⟨fr, hfr⟩ : ∃ fr, fr = (if b = true then rest + 2 ^ (P - 1) else rest) := ⟨_, rfl⟩
  rw [← hfr] at hor hfz ⊢
  have hone := one_eq (P - 1) (by omega)
  have wp : wrap64 ((P : Int) - 1) = ((P - 1 : Nat) : Int) := by rw [wsm _ (by omega)]; omega
  have wq : wrap64 (wrap64 (wrap64 ((e : Int) - emax) - (P : Int)) + 1) = (e : Int) - emax - (P : Int) + 1 := by
    clear wp
    rw [wsm ((e : Int) - emax) (by omega), wsm ((e : Int) - emax - (P : Int)) (by omega), wsm _ (by omega)]
  have j3 : e ≠ 2 ^ E - 1 → ∀ z : Bool, z = decide (e = 0 ∧ rest = 0) → Ev (fun k => impl_Unpack.j3 k (e : Int) neg z (P : Int) emin emax (W : Int) (E : Int) ex (hiI fr) (loI fr)) (partsOf P emin emax E e neg rest) := by
    intro hne z hzz
    unfold partsOf
    rw [if_neg hne]
    by_cases h0 : e = 0
    · have c0 : (e : Int) = 0 := by clear wp wq; omega
      rw [if_pos h0]
      by_cases h1 : rest = 0
      · rw [if_pos h1]
        refine Ev.step (f := fun _ => some (1, neg, 0, 0, 0)) (fun k => ?_) (Ev.now _)
        simp only [impl_Unpack.j3]
        rw [hzz, decide_eq_true ⟨h0, h1⟩, if_pos rfl]
      · rw [if_neg h1]
        refine Ev.step (f := fun _ => some (2, neg, hiI rest, loI rest, emin - P + 1)) (fun k => ?_) (Ev.now _)
        simp only [impl_Unpack.j3]
        rw [hzz, decide_eq_false (fun a => h1 a.2), if_neg (by decide), if_pos c0, hq, Option.bind_some, hfz h0]
    · have c0 : ¬ (e : Int) = 0 := by clear wp wq; omega
      rw [if_neg h0]
      refine Ev.step (f := fun _ => some (3, neg, hiI (rest + 2 ^ (P - 1)), loI (rest + 2 ^ (P - 1)), (e : Int) - emax - P + 1)) (fun k => ?_) (Ev.now _)
      simp only [impl_Unpack.j3]
      rw [hzz, decide_eq_false (fun a => h0 a.1), if_neg (by decide), if_neg c0, wp, hone, Option.bind_some]
      dsimp only
      rw [hor, Option.bind_some, wq]
  by_cases hte : e = 2 ^ E - 1
  · have c1 : (e : Int) = ((2 ^ E - 1 : Nat) : Int) := by rw [hte]
    unfold partsOf
    rw [if_pos hte]
    by_cases h1 : rest = 0
    · rw [if_pos h1]
      refine Ev.step (f := fun k => impl_Unpack.j2 k (e : Int) neg true (P : Int) emin emax (W : Int) (E : Int) ex (hiI fr) (loI fr)) (fun k => ?_) (Ev.step (f := fun _ => some (4, neg, 0, 0, 0)) (fun k => ?_) (Ev.now _))
      · simp only [impl_Unpack.j1]
        rw [ht, Option.bind_some, if_pos c1, hz, decide_eq_true h1]
      · simp only [impl_Unpack.j2]
        rw [if_pos trivial]
    · rw [if_neg h1]
      refine Ev.step (f := fun k => impl_Unpack.j2 k (e : Int) neg false (P : Int) emin emax (W : Int) (E : Int) ex (hiI fr) (loI fr)) (fun k => ?_) (Ev.step (f := fun _ => some (5, false, 0, 0, 0)) (fun k => ?_) (Ev.now _))
      · simp only [impl_Unpack.j1]
        rw [ht, Option.bind_some, if_pos c1, hz, decide_eq_false h1]
      · simp only [impl_Unpack.j2]
        rw [if_neg (by decide), ht, Option.bind_some, if_pos c1]
  · have c1 : ¬ (e : Int) = ((2 ^ E - 1 : Nat) : Int) := by clear wp wq; omega
    refine Ev.step (f := fun k => impl_Unpack.j2 k (e : Int) neg false (P : Int) emin emax (W : Int) (E : Int) ex (hiI fr) (loI fr)) (fun k => ?_) (Ev.step (f := fun k => impl_Unpack.j3 k (e : Int) neg (decide (e = 0 ∧ rest = 0)) (P : Int) emin emax (W : Int) (E : Int) ex (hiI fr) (loI fr)) (fun k => ?_) (j3 hte _ rfl))
    · simp only [impl_Unpack.j1]
      rw [ht, Option.bind_some, if_neg c1]
    · simp only [impl_Unpack.j2]
      rw [if_neg (by decide), ht, Option.bind_some, if_neg c1]
      by_cases h0 : e = 0
      · have c0 : (e : Int) = 0 := by clear wp wq; omega
        rw [if_pos c0, hfz h0, hz]
        congr 1
        rw [decide_eq_decide]
        exact ⟨fun a => ⟨h0, a⟩, fun a => a.2⟩
      · have c0 : ¬ (e : Int) = 0 := by clear wp wq; omega
        rw [if_neg c0, decide_eq_false (fun a => h0 a.1)]
theorem frac_split (x p : Nat) (hx : x < 2 ^ (p + 1)) : x = (if decide (2 ^ p ≤ x) = true then x % 2 ^ p + 2 ^ p else x % 2 ^ p) := by
  have hp : 0 < 2 ^ p := Nat.pow_pos (by decide)
  rw [Nat.pow_succ] at hx
  by_cases h : 2 ^ p ≤ x
  · rw [decide_eq_true h, if_pos rfl, Nat.mod_eq_sub_mod h, Nat.mod_eq_of_lt (by omega)]
    omega
  · rw [decide_eq_false h, if_neg (by decide), Nat.mod_eq_of_lt (by omega)]
theorem unpI_ev (h : Fmt P emin emax W E ex) (f : Int) (hf : impl_layoutOf.f f = some ((P : Int), emin, emax, (W : Int), (E : Int), ex, true)) (w : Nat) (hw : w < B128) : Ev (fun k => impl_Unpack.f k f (hiI w) (loI w)) (unpN P emin emax W E ex w) := by
  have hp0 := h.p0
  have hp1 := h.p1
  have hw1 := h.w1
  have hw2 := h.w2
  have he0 := h.e0
  have he1 := h.e1
  have hE := h.plt
  have hfn : fracN P ex = if ex = true then P else P - 1 := rfl
  have hfr : fracN P ex ≤ 113 := by rw [hfn]; split <;> omega
  -- behind the first check
  have core : w < 2 ^ W → Ev (fun k => impl_Unpack.j0 k false (hiI w) (loI w) (P : Int) emin emax (W : Int) (E : Int) ex) (unpN P emin emax W E ex w) := by
    intro hlt
    have l1 := low_eq w (fracN P ex) hw (by omega)
    have r1 := right_eq w (fracN P ex) hw (by omega)
    have hq : w / 2 ^ fracN P ex < B128 := Nat.lt_of_le_of_lt (Nat.div_le_self _ _) hw
    have l2 := low_eq (w / 2 ^ fracN P ex) E hq (by omega)
    have r2 := right_eq w (W - 1) hw (by omega)
    have hne := word_ne (w / 2 ^ (W - 1))
    have helt : w / 2 ^ fracN P ex % 2 ^ E < 2 ^ E := Nat.mod_lt _ (Nat.pow_pos (by decide))
    have hneg : decide (w / 2 ^ (W - 1) ≠ 0) = decide (w / 2 ^ (W - 1) % 2 = 1) := by
      have h2 : w / 2 ^ (W - 1) < 2 := by
        rw [Nat.div_lt_iff_lt_mul (Nat.pow_pos (by decide)), Nat.mul_comm, ← Nat.pow_succ, show (W - 1).succ = W by omega]
        exact hlt
      rw [decide_eq_decide]
      exact small2 _ h2
    rw [hneg] at hne
    have hflt : w % 2 ^ fracN P ex < 2 ^ fracN P ex := Nat.mod_lt _ (Nat.pow_pos (by decide))
    have wW : wrap64 ((W : Int) - 1) = ((W - 1 : Nat) : Int) := by rw [wsm _ (by omega)]; omega
    have wP : wrap64 ((P : Int) - 1) = ((P - 1 : Nat) : Int) := by rw [wsm _ (by clear wW; omega)]; clear wW; omega
    have heI : loI (w / 2 ^ fracN P ex % 2 ^ E) = ((w / 2 ^ fracN P ex % 2 ^ E : Nat) : Int) := by
      clear wW wP
      unfold loI
      rw [Nat.mod_eq_of_lt (show w / 2 ^ fracN P ex % 2 ^ E < 18446744073709551616 by omega)]
    have wE : wrap64 ((w / 2 ^ fracN P ex % 2 ^ E : Nat) : Int) = ((w / 2 ^ fracN P ex % 2 ^ E : Nat) : Int) := wsm _ (by clear wW wP; omega)
    have hfE := frac_eq h
    have hj : ∀ R : Prt, (if ex = true then (if (2 ^ (P - 1) ≤ w % 2 ^ fracN P ex ↔ w / 2 ^ fracN P ex % 2 ^ E ≠ 0) then Ev (fun k => impl_Unpack.j1 k ((w / 2 ^ fracN P ex % 2 ^ E : Nat) : Int) (decide (w / 2 ^ (W - 1) % 2 = 1)) (P : Int) emin emax (W : Int) (E : Int) ex (hiI (w % 2 ^ fracN P ex)) (loI (w % 2 ^ fracN P ex)) (hiI (w % 2 ^ fracN P ex % 2 ^ (P - 1))) (loI (w % 2 ^ fracN P ex % 2 ^ (P - 1)))) R else R = badP) else Ev (fun k => impl_Unpack.j1 k ((w / 2 ^ fracN P ex % 2 ^ E : Nat) : Int) (decide (w / 2 ^ (W - 1) % 2 = 1)) (P : Int) emin emax (W : Int) (E : Int) ex (hiI (w % 2 ^ fracN P ex)) (loI (w % 2 ^ fracN P ex)) (hiI (w % 2 ^ fracN P ex)) (loI (w % 2 ^ fracN P ex))) R) →
        Ev (fun k => impl_Unpack.j0 k false (hiI w) (loI w) (P : Int) emin emax (W : Int) (E : Int) ex) R := by
      intro R hR
      have hfB : w % 2 ^ fracN P ex < B128 := Nat.lt_of_le_of_lt (Nat.mod_le _ _) hw
      cases ex with
      | false =>
        rw [if_neg (by decide)] at hR
        refine Ev.step (fun k => ?_) hR
        simp only [impl_Unpack.j0]
        rw [if_neg (by decide), hfE, Option.bind_some, l1, Option.bind_some, r1, Option.bind_some]
        dsimp only
        rw [l2, Option.bind_some, wW, r2, Option.bind_some]
        dsimp only
        rw [if_neg (by decide), heI, wE, hne]
      | true =>
        rw [if_pos rfl] at hR
        have r3 := right_eq (w % 2 ^ fracN P true) (P - 1) hfB (by clear wW wP wE; omega)
        have l3 := low_eq (w % 2 ^ fracN P true) (P - 1) hfB (by clear wW wP wE; omega)
        have hn3 := word_ne (w % 2 ^ fracN P true / 2 ^ (P - 1))
        have hbit : decide (w % 2 ^ fracN P true / 2 ^ (P - 1) ≠ 0) = decide (2 ^ (P - 1) ≤ w % 2 ^ fracN P true) := by
          rw [decide_eq_decide, Nat.div_ne_zero_iff]
          exact ⟨fun a => a.2, fun a => ⟨Nat.ne_of_gt (Nat.pow_pos (by decide)), a⟩⟩
        rw [hbit] at hn3
        have he0' : (((w / 2 ^ fracN P true % 2 ^ E : Nat) : Int) != 0) = decide (w / 2 ^ fracN P true % 2 ^ E ≠ 0) := by
          clear wW wP wE
          by_cases hz : w / 2 ^ fracN P true % 2 ^ E = 0
          · rw [hz]; rfl
          · rw [decide_eq_true hz, bne_iff_ne]
            omega
        by_cases hc : (2 ^ (P - 1) ≤ w % 2 ^ fracN P true ↔ w / 2 ^ fracN P true % 2 ^ E ≠ 0)
        · rw [if_pos hc] at hR
          have hcd : (decide (2 ^ (P - 1) ≤ w % 2 ^ fracN P true) != decide (w / 2 ^ fracN P true % 2 ^ E ≠ 0)) = false := dne_f hc
          refine Ev.step (fun k => ?_) hR
          simp only [impl_Unpack.j0]
          rw [if_neg (by decide), hfE, Option.bind_some, l1, Option.bind_some, r1, Option.bind_some]
          dsimp only
          rw [l2, Option.bind_some, wW, r2, Option.bind_some]
          dsimp only
          rw [if_pos trivial, wP, r3, Option.bind_some, heI, wE, he0', hn3, hcd, if_neg (by decide), l3, Option.bind_some, hne]
        · rw [if_neg hc] at hR
          have hcd : (decide (2 ^ (P - 1) ≤ w % 2 ^ fracN P true) != decide (w / 2 ^ fracN P true % 2 ^ E ≠ 0)) = true := dne_t hc
          refine Ev.step (f := fun _ => some R) (fun k => ?_) (Ev.now _)
          simp only [impl_Unpack.j0]
          rw [if_neg (by decide), hfE, Option.bind_some, l1, Option.bind_some, r1, Option.bind_some]
          dsimp only
          rw [l2, Option.bind_some, wW, r2, Option.bind_some]
          dsimp only
          rw [if_pos trivial, wP, r3, Option.bind_some, heI, wE, he0', hn3, hcd, if_pos rfl, hR]
          rfl
    apply hj
    unfold unpN
    rw [if_neg (Nat.not_le.2 hlt)]
    clear wW wP wE hj
    cases ex with
    | false =>
      rw [if_neg (by decide), if_neg (by decide)]
      rw [hfn, if_neg (by decide)] at hflt helt ⊢
      have hj1 := im_j1 h (w / 2 ^ (P - 1) % 2 ^ E) helt (decide (w / 2 ^ (W - 1) % 2 = 1)) (w % 2 ^ (P - 1)) hflt false (fun _ => rfl) (fun _ => rfl)
      rw [if_neg (by decide)] at hj1
      exact hj1
    | true =>
      rw [if_pos rfl, if_pos rfl]
      rw [hfn, if_pos rfl] at hflt helt ⊢
      by_cases hc : (2 ^ (P - 1) ≤ w % 2 ^ P ↔ w / 2 ^ P % 2 ^ E ≠ 0)
      · rw [if_pos hc, if_pos hc]
        have hs := frac_split (w % 2 ^ P) (P - 1) (by rw [show P - 1 + 1 = P by omega]; exact hflt)
        have hj1 := im_j1 h (w / 2 ^ P % 2 ^ E) helt (decide (w / 2 ^ (W - 1) % 2 = 1)) (w % 2 ^ P % 2 ^ (P - 1)) (Nat.mod_lt _ (Nat.pow_pos (by decide))) (decide (2 ^ (P - 1) ≤ w % 2 ^ P)) (fun h0 => decide_eq_false (fun a => (hc.1 a) h0)) (fun a => by cases a)
        rw [← hs] at hj1
        exact hj1
      · rw [if_neg hc, if_neg hc]
  unfold impl_Unpack.f
  by_cases h128 : W < 128
  · have c1 : (W : Int) < 128 := by omega
    have r0 := right_eq w W hw (by omega)
    have n0 := word_ne (w / 2 ^ W)
    by_cases hge : 2 ^ W ≤ w
    · have hz : decide (w / 2 ^ W ≠ 0) = true := by
        rw [decide_eq_true_iff, Nat.div_ne_zero_iff]
        exact ⟨Nat.ne_of_gt (Nat.pow_pos (by decide)), hge⟩
      have hu : unpN P emin emax W E ex w = badP := by unfold unpN; rw [if_pos hge]
      rw [hu]
      refine Ev.congr (f := fun k => impl_Unpack.j0 k true (hiI w) (loI w) (P : Int) emin emax (W : Int) (E : Int) ex) (fun k => ?_) (Ev.step (f := fun _ => some badP) (fun k => ?_) (Ev.now _))
      · rw [hf, Option.bind_some]
        dsimp only
        rw [if_pos rfl, if_pos c1, r0, Option.bind_some]
        dsimp only
        rw [n0, hz]
      · simp only [impl_Unpack.j0]
        rw [if_pos trivial]
        rfl
    · have hz : decide (w / 2 ^ W ≠ 0) = false := by
        rw [decide_eq_false_iff_not, Nat.div_ne_zero_iff]
        exact fun a => hge a.2
      refine Ev.congr (fun k => ?_) (core (Nat.lt_of_not_le hge))
      rw [hf, Option.bind_some]
      dsimp only
      rw [if_pos rfl, if_pos c1, r0, Option.bind_some]
      dsimp only
      rw [n0, hz]
  · have c1 : ¬ (W : Int) < 128 := by omega
    have hWe : W = 128 := by omega
    refine Ev.congr (fun k => ?_) (core (by rw [hWe]; exact hw))
    rw [hf, Option.bind_some]
    dsimp only
    rw [if_pos rfl, if_neg c1]
end
end Go.Proofs.YtdbnmdchecacdaaDoor.M
end
