import Derived.Test.YtdbnmdchecacdaaDoorQFnExactStepm
section
namespace Go.Proofs.YtdbnmdchecacdaaDoor.M
open Go.RowKit Go.Proofs.YtdbnmdchecacdaaDoor.G Go.Proofs.YtdbnmdchecacdaaDoorV.PrintWords Go.Proofs.YtdbnmdchecacdaaDoorV.PrintLast Go.Proofs.YtdbnmdchecacdaaDoorV.PrintMore Go.Proofs.YtdbnmdchecacdaaDoor.PL Go.Proofs.YtdbnmdchecacdaaDoor.X
set_option linter.unusedVariables false
set_option linter.unusedSimpArgs false
theorem ct_impl_rounding_nearer {P : Nat} {emin emax : Int} {W E : Nat} {ex : Bool} (h : Fmt2 P emin emax W E ex) (hx1 : 1 ≤ emax) (f : Int) (hf : impl_layoutOf.f f = some ((P : Int), emin, emax, (W : Int), (E : Int), ex, true)) (neg neg' : Bool) (c : Int) (S : Nat) (q : Int) (hv : VP P emin emax c S q) (up : Bool) (hn : c ≠ 1) (hg : (up != neg) = false) :
  CtV Tryd.prog 94 [rndV P emin emax W E ex f neg, .agg #[.int .i64 c, .bool neg', .int .u64 (hiI S), .int .u64 (loI S), .int .i64 q]] [Tabled] (.agg #[.int .u64 (hiI (stepN P emin emax W E ex c neg S q up).1), .int .u64 (loI (stepN P emin emax W E ex c neg S q up).1)]) := by
 have p1 := h.p1
 have p3 := h.p3
 have m0 := h.m0
 have m1 := h.m1
 have b128 : 2 ^ P < B128 := Nat.pow_lt_pow_right (a := 2) (n := 128) (by decide) (by omega)
 have sP : Sm (2 ^ P) := sm128 (Nat.lt_of_lt_of_le b128 (by decide))
 refine ct_of Tryd.func94 rfl (by kernel_rfl) (fun B w0 => ?_)
 have t2 := two_P h.toFmt
 have hF := h.toFmt
 have zq : Zn (emin - P + 1) (emin - P + 1) := ⟨rfl, by omega, by omega⟩
 have z0 : Zn 0 0 := ⟨rfl, by decide, by decide⟩
 have hgn : ¬ (up != neg) = true := by rw [hg]; decide
 rcases hv with ⟨rfl, rfl, rfl⟩ | ⟨rfl, rfl, rfl⟩ | hv
 ·exact absurd rfl hn
 ·rw [stepN, if_neg (by decide), if_pos rfl, if_neg hgn]
  refine xg ?_
  refine xb 2 [.int .i64 (P : Int), .int .i64 emin, .int .i64 emax, .int .i64 (W : Int), .int .i64 (E : Int), .bool ex, .int .i64 f, .bool neg] 114 (fun g0 => ?_)
  refine xb 3 [.int .i64 4, .bool neg', .int .u64 0, .int .u64 0, .int .i64 0] 27 (fun g1 => ?_)
  refine xb 4 [.int .u64 0, .int .u64 0] 25 (fun g2 => ?_)
  refine xz [] [] ?_
  refine SW_seq ?_
  refine xr [(1, [1])] [(8, .bool true)] ?_
  refine xs1 ?_
  refine xg ?_
  refine xn 1 [(0, [0])] [(9, .agg #[.int .i64 (P : Int), .int .i64 emin, .int .i64 emax, .int .i64 (W : Int), .int .i64 (E : Int), .bool ex, .int .i64 f, .bool neg])] ?_
  refine xcv 10 (ct_impl_rounding_greatest h (f) hf (neg)) (zsS zi0 zs0) ?_
  refine xy [(2, [2])] [] [(2, [.int .u64 (hiI (Prod.fst (packR P emin emax W E ex 3 neg (2 ^ P - 1) (emax - (P : Int) + 1)))), .int .u64 (loI (Prod.fst (packR P emin emax W E ex 3 neg (2 ^ P - 1) (emax - (P : Int) + 1))))])] ?_
  refine SW_ret ?_
  refine xe () (.agg #[.int .u64 (hiI (Prod.fst (packR P emin emax W E ex 3 neg (2 ^ P - 1) (emax - (P : Int) + 1)))), .int .u64 (loI (Prod.fst (packR P emin emax W E ex 3 neg (2 ^ P - 1) (emax - (P : Int) + 1))))]) [2] ?_ trivial
  rfl
 ·have hc : c = 2 ∨ c = 3 := by
   rcases hv with ⟨rfl, _⟩ | ⟨rfl, _⟩
   ·exact .inl rfl
   ·exact .inr rfl
  have c4 : (c == 4) = false := by rw [beq_eq_false_iff_ne]; omega
  have hb : (0 < S ∧ S < 2 ^ P) ∧ emin - P + 1 ≤ q ∧ q ≤ emax - P + 1 ∧ (S < 2 ^ (P - 1) → q = emin - P + 1) ∧ (c = 2 → S < 2 ^ (P - 1)) := by
   have hx2 := h.mn
   rcases hv with ⟨_, h1, h2, rfl⟩ | ⟨_, h1, h2, h3, h4⟩
   ·omega
   ·omega
  obtain ⟨⟨bS0, bS1⟩, bq0, bq1, bq2, bq3⟩ := hb
  have bS : S < B128 := by omega
  have sS : Sm S := sP.mono (by omega)
  have s1 : Sm 1 := sP.mono (by omega)
  rw [stepN, if_neg (by omega), if_neg (by omega), if_neg hgn]
  obtain ⟨m2, hm2⟩ := bits_ex (S - 1)
  have e2 := bits_lt (k := P - 1) hm2
  have sS2 : Sm (S - 1) := sP.mono (by omega)
  have sS3 : Sm ((S - 1) * 2 ^ 1) := sm128 (Nat.lt_trans (show (S - 1) * 2 ^ 1 < 2 ^ 114 by have : (2 : Nat) ^ P ≤ 2 ^ 113 := Nat.pow_le_pow_right (by decide) p1; omega) (by decide))
  have sS4 : Sm ((S - 1) * 2 ^ 1 + 1) := sm128 (Nat.lt_trans (show (S - 1) * 2 ^ 1 + 1 < 2 ^ 114 by have : (2 : Nat) ^ P ≤ 2 ^ 113 := Nat.pow_le_pow_right (by decide) p1; omega) (by decide))
  have hP4 : 4 ≤ 2 ^ (P - 1) := (show 2 ^ 2 ≤ 2 ^ (P - 1) from Nat.pow_le_pow_right (by decide) (by omega))
  have b1 : (S - 1) * 2 ^ 1 + 1 < B128 := Nat.lt_trans (show (S - 1) * 2 ^ 1 + 1 < 2 ^ 114 by have : (2 : Nat) ^ P ≤ 2 ^ 113 := Nat.pow_le_pow_right (by decide) p1; omega) (by decide)
  have b2 : S - 1 < B128 := by omega
  obtain ⟨m3, hm3⟩ := bits_ex ((S - 1) * 2 ^ 1 + 1)
  have e3 := bits_lt (k := P - 1) hm3
  have zq1 : Zn (IntKind.i64.wrap (q - 1)) (q - 1) := Zn.wrap rfl (by omega)
  have zq2 : Zn q q := ⟨rfl, by omega, by omega⟩
  have hz : ((((ofN B64 (S - 1)).length : Nat) : Int) == 0) = decide (S - 1 = 0) := by
   have y := ofN_zero B64_2 (S - 1)
   rw [Bool.eq_iff_iff, beq_iff_eq, decide_eq_true_iff, ← y]
   omega
  have hz2 : ((((ofN B64 ((S - 1) * 2 ^ 1 + 1)).length : Nat) : Int) == 0) = false := by
   have y := ofN_zero B64_2 ((S - 1) * 2 ^ 1 + 1)
   rw [beq_eq_false_iff_ne]
   omega
  by_cases hpq : S - 1 < 2 ^ (P - 1) ∧ emin - P + 1 < q
  ·have c3 : (c == 3) = true := by rw [beq_iff_eq]; omega
   have z1 : decide ((m2 : Int) < (P : Int)) = true := decide_eq_true (by omega)
   have z2 : decide (q > emin - P + 1) = true := decide_eq_true (by omega)
   rw [nearS, if_pos hpq, putN]
   dsimp only
   rw [show 2 * (S - 1) + 1 = (S - 1) * 2 ^ 1 + 1 by omega]
   have hS3 : 2 ^ (P - 1) ≤ S := Nat.le_of_not_lt (fun z => by have := bq2 z; omega)
   have z3 : decide ((m3 : Int) < (P : Int)) = false := decide_eq_false (by omega)
   rw [show clsN P emax ((S - 1) * 2 ^ 1 + 1) (q - 1) = 3 by rw [clsN, if_neg (by omega), if_neg (by omega), if_neg (by omega)], if_neg (by decide)]
   refine xg ?_
   refine xb 2 [.int .i64 (P : Int), .int .i64 emin, .int .i64 emax, .int .i64 (W : Int), .int .i64 (E : Int), .bool ex, .int .i64 f, .bool neg] 114 (fun g0 => ?_)
   refine xb 3 [.int .i64 c, .bool neg', .int .u64 (hiI S), .int .u64 (loI S), .int .i64 q] 27 (fun g1 => ?_)
   refine xb 4 [.int .u64 0, .int .u64 0] 25 (fun g2 => ?_)
   refine xz [] [] ?_
   refine SW_seq ?_
   refine xr [(1, [1])] [(8, .bool (c == 4))] ?_
   refine xsf c4 ?_
   refine SW_skip ?_
   refine xg ?_
   refine xn 2 [(1, [1])] [(12, .agg #[.int .u64 (hiI S), .int .u64 (loI S)])] ?_
   refine xcr 13 (ct_impl_Word_nat (S) bS) zs0 (fun A0 k0 => ?_)
   refine xcr 14 (ct_impl_word (1) (1) ⟨rfl⟩ (by omega)) zs0 (fun A1 k1 => ?_)
   refine xcr 15 (ct_impl_nat_sub (S) (1) (A0) (A1) (k0) (k1) sS (by omega)) (zsS (ziS zi0) (zsS zi0 zs0)) (fun A2 k2 => ?_)
   refine xz [] [(5, .slice A2 (List.length (ofN B64 (S - 1))) k2)] ?_
   refine SW_seq ?_
   refine xd (fun hB => ?_)
   refine xdk [(0, []), (1, [1]), (2, []), (3, [])] [(19, .bool (c == 3))] hB ?_
   refine xdnt 19 c3 ?_
   refine xdk [(4, []), (6, []), (7, []), (8, []), (9, [0])] [(25, .int .i64 (P : Int)), (20, .slice A2 (List.length (ofN B64 (S - 1))) k2)] hB ?_
   refine xdv 5 21 (ct_impl_nat_bits (S - 1) (A2) (k2) sS2 (m2) hm2) (zsS zi0 zs0) ?_
   refine xdk [(10, []), (11, []), (12, [])] [(28, .bool (decide ((m2 : Int) < (P : Int))))] hB ?_
   refine xdnt 28 z1 ?_
   refine xdk [(13, []), (14, [1]), (15, []), (16, [0])] [(32, .agg #[.int .i64 (P : Int), .int .i64 emin, .int .i64 emax, .int .i64 (W : Int), .int .i64 (E : Int), .bool ex]), (30, .int .i64 q)] hB ?_
   refine xdv 17 33 (ct_impl_layout_qMin hF) zs0 ?_
   refine xdk [(18, []), (19, [])] [(35, .bool (decide (q > emin - (P : Int) + 1)))] hB ?_
   refine xdz ?_
   refine xst z2 ?_
   refine xg ?_
   refine xn 1 [] [(36, .slice A2 (List.length (ofN B64 (S - 1))) k2)] ?_
   refine xcr 37 (ct_impl_nat_left (S - 1) (A2) (k2) (1) (1) ⟨rfl⟩ (by omega) sS2) (zsS zi0 zs0) (fun A3 k3 => ?_)
   refine xcr 38 (ct_impl_word (1) (1) ⟨rfl⟩ (by omega)) zs0 (fun A4 k4 => ?_)
   refine xcr 39 (ct_impl_nat_add ((S - 1) * 2 ^ 1) (1) (A3) (A4) (k3) (k4) sS3 s1) (zsS (ziS zi0) (zsS zi0 zs0)) (fun A5 k5 => ?_)
   refine xz [] [(5, .slice A5 (List.length (ofN B64 ((S - 1) * 2 ^ 1 + 1))) k5)] ?_
   refine xql [(1, [1]), (4, [1])] [] [(1, [.int .i64 c, .bool neg', .int .u64 (hiI S), .int .u64 (loI S), .int .i64 (IntKind.wrap IntKind.i64 (q - 1))])] ?_
   refine SW_seq ?_
   refine SW_block ?_
   refine xr [] [(44, .bool ((((List.length (ofN B64 ((S - 1) * 2 ^ 1 + 1))) : Nat) : Int) == 0))] ?_
   refine xsf hz2 ?_
   refine xd (fun hB => ?_)
   refine xdk [(0, []), (2, []), (3, []), (4, []), (5, [0])] [(56, .int .i64 (P : Int)), (51, .slice A5 (List.length (ofN B64 ((S - 1) * 2 ^ 1 + 1))) k5)] hB ?_
   refine xdv 1 52 (ct_impl_nat_bits ((S - 1) * 2 ^ 1 + 1) (A5) (k5) sS4 (m3) hm3) (zsS zi0 zs0) ?_
   refine xdk [(6, []), (7, [])] [(50, .bool (decide ((m3 : Int) < (P : Int))))] hB ?_
   refine xdz ?_
   refine xsf z3 ?_
   refine SW_skip ?_
   refine xg ?_
   refine xn 4 [(0, [0]), (3, [1])] [(66, .int .i64 (IntKind.wrap IntKind.i64 (q - 1))), (64, .slice A5 (List.length (ofN B64 ((S - 1) * 2 ^ 1 + 1))) k5), (63, .agg #[.int .i64 (P : Int), .int .i64 emin, .int .i64 emax, .int .i64 (W : Int), .int .i64 (E : Int), .bool ex, .int .i64 f, .bool neg])] ?_
   refine xcv 67 (ct_impl_rounding_packed h (f) hf (neg) (3) ((S - 1) * 2 ^ 1 + 1) (A5) (k5) b1 (IntKind.wrap IntKind.i64 (q - 1)) (q - 1) zq1) (zsS (ziS (ziS (ziS (ziS (ziS (ziS zi0)))))) (zsS zi0 zs0)) ?_
   refine xy [(5, [2])] [] [(2, [.int .u64 (hiI (Prod.fst (packR P emin emax W E ex 3 neg ((S - 1) * 2 ^ 1 + 1) (q - 1)))), .int .u64 (loI (Prod.fst (packR P emin emax W E ex 3 neg ((S - 1) * 2 ^ 1 + 1) (q - 1))))])] ?_
   refine SW_ret ?_
   refine xe () (.agg #[.int .u64 (hiI (Prod.fst (packR P emin emax W E ex 3 neg ((S - 1) * 2 ^ 1 + 1) (q - 1)))), .int .u64 (loI (Prod.fst (packR P emin emax W E ex 3 neg ((S - 1) * 2 ^ 1 + 1) (q - 1))))]) [2] ?_ trivial
   rfl
  ·rw [nearS, if_neg hpq, putN]
   dsimp only
   by_cases hc3 : c = 3
   ·have c3 : (c == 3) = true := by rw [beq_iff_eq]; exact hc3
    by_cases hp : S - 1 < 2 ^ (P - 1)
    ·have hS3 : S = 2 ^ (P - 1) := by
      rcases hv with ⟨rfl, _⟩ | ⟨_, h1, _⟩
      ·omega
      ·omega
     have z1 : decide ((m2 : Int) < (P : Int)) = true := decide_eq_true (by omega)
     have z2 : decide (q > emin - P + 1) = false := decide_eq_false (fun z => hpq ⟨hp, z⟩)
     have z4 := hz.trans (decide_eq_false (show ¬ S - 1 = 0 by omega))
     rw [show clsN P emax (S - 1) q = 2 by rw [clsN, if_neg (by omega), if_neg (by omega), if_pos hp], if_neg (by decide)]
     refine xg ?_
     refine xb 2 [.int .i64 (P : Int), .int .i64 emin, .int .i64 emax, .int .i64 (W : Int), .int .i64 (E : Int), .bool ex, .int .i64 f, .bool neg] 114 (fun g0 => ?_)
     refine xb 3 [.int .i64 c, .bool neg', .int .u64 (hiI S), .int .u64 (loI S), .int .i64 q] 27 (fun g1 => ?_)
     refine xb 4 [.int .u64 0, .int .u64 0] 25 (fun g2 => ?_)
     refine xz [] [] ?_
     refine SW_seq ?_
     refine xr [(1, [1])] [(8, .bool (c == 4))] ?_
     refine xsf c4 ?_
     refine SW_skip ?_
     refine xg ?_
     refine xn 2 [(1, [1])] [(12, .agg #[.int .u64 (hiI S), .int .u64 (loI S)])] ?_
     refine xcr 13 (ct_impl_Word_nat (S) bS) zs0 (fun A0 k0 => ?_)
     refine xcr 14 (ct_impl_word (1) (1) ⟨rfl⟩ (by omega)) zs0 (fun A1 k1 => ?_)
     refine xcr 15 (ct_impl_nat_sub (S) (1) (A0) (A1) (k0) (k1) sS (by omega)) (zsS (ziS zi0) (zsS zi0 zs0)) (fun A2 k2 => ?_)
     refine xz [] [(5, .slice A2 (List.length (ofN B64 (S - 1))) k2)] ?_
     refine SW_seq ?_
     refine xd (fun hB => ?_)
     refine xdk [(0, []), (1, [1]), (2, []), (3, [])] [(19, .bool (c == 3))] hB ?_
     refine xdnt 19 c3 ?_
     refine xdk [(4, []), (6, []), (7, []), (8, []), (9, [0])] [(25, .int .i64 (P : Int)), (20, .slice A2 (List.length (ofN B64 (S - 1))) k2)] hB ?_
     refine xdv 5 21 (ct_impl_nat_bits (S - 1) (A2) (k2) sS2 (m2) hm2) (zsS zi0 zs0) ?_
     refine xdk [(10, []), (11, []), (12, [])] [(28, .bool (decide ((m2 : Int) < (P : Int))))] hB ?_
     refine xdnt 28 z1 ?_
     refine xdk [(13, []), (14, [1]), (15, []), (16, [0])] [(32, .agg #[.int .i64 (P : Int), .int .i64 emin, .int .i64 emax, .int .i64 (W : Int), .int .i64 (E : Int), .bool ex]), (30, .int .i64 q)] hB ?_
     refine xdv 17 33 (ct_impl_layout_qMin hF) zs0 ?_
     refine xdk [(18, []), (19, [])] [(35, .bool (decide (q > emin - (P : Int) + 1)))] hB ?_
     refine xdz ?_
     refine xsf z2 ?_
     refine SW_skip ?_
     refine SW_seq ?_
     refine SW_block ?_
     refine xr [] [(44, .bool ((((List.length (ofN B64 (S - 1))) : Nat) : Int) == 0))] ?_
     refine xsf z4 ?_
     refine xd (fun hB => ?_)
     refine xdk [(0, []), (2, []), (3, []), (4, []), (5, [0])] [(56, .int .i64 (P : Int)), (51, .slice A2 (List.length (ofN B64 (S - 1))) k2)] hB ?_
     refine xdv 1 52 (ct_impl_nat_bits (S - 1) (A2) (k2) sS2 (m2) hm2) (zsS zi0 zs0) ?_
     refine xdk [(6, []), (7, [])] [(50, .bool (decide ((m2 : Int) < (P : Int))))] hB ?_
     refine xdz ?_
     refine xst z1 ?_
     refine xg ?_
     refine xn 4 [(0, [0]), (3, [1])] [(61, .int .i64 q), (59, .slice A2 (List.length (ofN B64 (S - 1))) k2), (58, .agg #[.int .i64 (P : Int), .int .i64 emin, .int .i64 emax, .int .i64 (W : Int), .int .i64 (E : Int), .bool ex, .int .i64 f, .bool neg])] ?_
     refine xcv 62 (ct_impl_rounding_packed h (f) hf (neg) (2) (S - 1) (A2) (k2) b2 (q) (q) zq2) (zsS (ziS (ziS (ziS zi0))) (zsS zi0 zs0)) ?_
     refine xy [(5, [2])] [] [(2, [.int .u64 (hiI (Prod.fst (packR P emin emax W E ex 2 neg (S - 1) q))), .int .u64 (loI (Prod.fst (packR P emin emax W E ex 2 neg (S - 1) q)))])] ?_
     refine SW_ret ?_
     refine xe () (.agg #[.int .u64 (hiI (Prod.fst (packR P emin emax W E ex 2 neg (S - 1) q))), .int .u64 (loI (Prod.fst (packR P emin emax W E ex 2 neg (S - 1) q)))]) [2] ?_ trivial
     rfl
    ·have z1 : decide ((m2 : Int) < (P : Int)) = false := decide_eq_false (by omega)
     have z4 := hz.trans (decide_eq_false (show ¬ S - 1 = 0 by omega))
     rw [show clsN P emax (S - 1) q = 3 by rw [clsN, if_neg (by omega), if_neg (by omega), if_neg hp], if_neg (by decide)]
     refine xg ?_
     refine xb 2 [.int .i64 (P : Int), .int .i64 emin, .int .i64 emax, .int .i64 (W : Int), .int .i64 (E : Int), .bool ex, .int .i64 f, .bool neg] 114 (fun g0 => ?_)
     refine xb 3 [.int .i64 c, .bool neg', .int .u64 (hiI S), .int .u64 (loI S), .int .i64 q] 27 (fun g1 => ?_)
     refine xb 4 [.int .u64 0, .int .u64 0] 25 (fun g2 => ?_)
     refine xz [] [] ?_
     refine SW_seq ?_
     refine xr [(1, [1])] [(8, .bool (c == 4))] ?_
     refine xsf c4 ?_
     refine SW_skip ?_
     refine xg ?_
     refine xn 2 [(1, [1])] [(12, .agg #[.int .u64 (hiI S), .int .u64 (loI S)])] ?_
     refine xcr 13 (ct_impl_Word_nat (S) bS) zs0 (fun A0 k0 => ?_)
     refine xcr 14 (ct_impl_word (1) (1) ⟨rfl⟩ (by omega)) zs0 (fun A1 k1 => ?_)
     refine xcr 15 (ct_impl_nat_sub (S) (1) (A0) (A1) (k0) (k1) sS (by omega)) (zsS (ziS zi0) (zsS zi0 zs0)) (fun A2 k2 => ?_)
     refine xz [] [(5, .slice A2 (List.length (ofN B64 (S - 1))) k2)] ?_
     refine SW_seq ?_
     refine xd (fun hB => ?_)
     refine xdk [(0, []), (1, [1]), (2, []), (3, [])] [(19, .bool (c == 3))] hB ?_
     refine xdnt 19 c3 ?_
     refine xdk [(4, []), (6, []), (7, []), (8, []), (9, [0])] [(25, .int .i64 (P : Int)), (20, .slice A2 (List.length (ofN B64 (S - 1))) k2)] hB ?_
     refine xdv 5 21 (ct_impl_nat_bits (S - 1) (A2) (k2) sS2 (m2) hm2) (zsS zi0 zs0) ?_
     refine xdk [(10, []), (11, []), (12, [])] [(28, .bool (decide ((m2 : Int) < (P : Int))))] hB ?_
     refine xdnf 28 z1 ?_
     refine xdk [(13, []), (14, []), (15, []), (16, []), (17, []), (18, []), (19, [])] [(35, .bool false)] hB ?_
     refine xdz ?_
     refine xs0 ?_
     refine SW_skip ?_
     refine SW_seq ?_
     refine SW_block ?_
     refine xr [] [(44, .bool ((((List.length (ofN B64 (S - 1))) : Nat) : Int) == 0))] ?_
     refine xsf z4 ?_
     refine xd (fun hB => ?_)
     refine xdk [(0, []), (2, []), (3, []), (4, []), (5, [0])] [(56, .int .i64 (P : Int)), (51, .slice A2 (List.length (ofN B64 (S - 1))) k2)] hB ?_
     refine xdv 1 52 (ct_impl_nat_bits (S - 1) (A2) (k2) sS2 (m2) hm2) (zsS zi0 zs0) ?_
     refine xdk [(6, []), (7, [])] [(50, .bool (decide ((m2 : Int) < (P : Int))))] hB ?_
     refine xdz ?_
     refine xsf z1 ?_
     refine SW_skip ?_
     refine xg ?_
     refine xn 4 [(0, [0]), (3, [1])] [(66, .int .i64 q), (64, .slice A2 (List.length (ofN B64 (S - 1))) k2), (63, .agg #[.int .i64 (P : Int), .int .i64 emin, .int .i64 emax, .int .i64 (W : Int), .int .i64 (E : Int), .bool ex, .int .i64 f, .bool neg])] ?_
     refine xcv 67 (ct_impl_rounding_packed h (f) hf (neg) (3) (S - 1) (A2) (k2) b2 (q) (q) zq2) (zsS (ziS (ziS (ziS zi0))) (zsS zi0 zs0)) ?_
     refine xy [(5, [2])] [] [(2, [.int .u64 (hiI (Prod.fst (packR P emin emax W E ex 3 neg (S - 1) q))), .int .u64 (loI (Prod.fst (packR P emin emax W E ex 3 neg (S - 1) q)))])] ?_
     refine SW_ret ?_
     refine xe () (.agg #[.int .u64 (hiI (Prod.fst (packR P emin emax W E ex 3 neg (S - 1) q))), .int .u64 (loI (Prod.fst (packR P emin emax W E ex 3 neg (S - 1) q)))]) [2] ?_ trivial
     rfl
   ·have c3 : (c == 3) = false := by rw [beq_eq_false_iff_ne]; exact hc3
    have hS2 := bq3 (by omega)
    by_cases k1 : S - 1 = 0
    ·have z4 := hz.trans (decide_eq_true k1)
     rw [show clsN P emax (S - 1) q = 1 by rw [clsN, if_pos k1], if_pos (.inl rfl)]
     refine xg ?_
     refine xb 2 [.int .i64 (P : Int), .int .i64 emin, .int .i64 emax, .int .i64 (W : Int), .int .i64 (E : Int), .bool ex, .int .i64 f, .bool neg] 114 (fun g0 => ?_)
     refine xb 3 [.int .i64 c, .bool neg', .int .u64 (hiI S), .int .u64 (loI S), .int .i64 q] 27 (fun g1 => ?_)
     refine xb 4 [.int .u64 0, .int .u64 0] 25 (fun g2 => ?_)
     refine xz [] [] ?_
     refine SW_seq ?_
     refine xr [(1, [1])] [(8, .bool (c == 4))] ?_
     refine xsf c4 ?_
     refine SW_skip ?_
     refine xg ?_
     refine xn 2 [(1, [1])] [(12, .agg #[.int .u64 (hiI S), .int .u64 (loI S)])] ?_
     refine xcr 13 (ct_impl_Word_nat (S) bS) zs0 (fun A2 k2 => ?_)
     refine xcr 14 (ct_impl_word (1) (1) ⟨rfl⟩ (by omega)) zs0 (fun A3 k3 => ?_)
     refine xcr 15 (ct_impl_nat_sub (S) (1) (A2) (A3) (k2) (k3) sS (by omega)) (zsS (ziS zi0) (zsS zi0 zs0)) (fun A4 k4 => ?_)
     refine xz [] [(5, .slice A4 (List.length (ofN B64 (S - 1))) k4)] ?_
     refine SW_seq ?_
     refine xd (fun hB => ?_)
     refine xdk [(0, []), (1, [1]), (2, []), (3, [])] [(19, .bool (c == 3))] hB ?_
     refine xdnf 19 c3 ?_
     refine xdk [(4, []), (5, []), (6, []), (7, []), (8, []), (9, []), (10, []), (11, []), (12, []), (13, []), (14, []), (15, []), (16, []), (17, []), (18, []), (19, [])] [(35, .bool false)] hB ?_
     refine xdz ?_
     refine xs0 ?_
     refine SW_skip ?_
     refine SW_seq ?_
     refine SW_block ?_
     refine xr [] [(44, .bool ((((List.length (ofN B64 (S - 1))) : Nat) : Int) == 0))] ?_
     refine xst z4 ?_
     refine xg ?_
     refine xn 1 [(0, [0])] [(48, .agg #[.int .i64 (P : Int), .int .i64 emin, .int .i64 emax, .int .i64 (W : Int), .int .i64 (E : Int), .bool ex, .int .i64 f, .bool neg])] ?_
     refine xcv 49 (ct_impl_rounding_packed' h (f) hf (neg) (1) (0) (0) z0) (zsS (ziS (ziS (ziS zi0))) zs0) ?_
     refine xy [(2, [2])] [] [(2, [.int .u64 (hiI (Prod.fst (packR P emin emax W E ex 1 neg 0 0))), .int .u64 (loI (Prod.fst (packR P emin emax W E ex 1 neg 0 0)))])] ?_
     refine SW_ret ?_
     refine xe () (.agg #[.int .u64 (hiI (Prod.fst (packR P emin emax W E ex 1 neg 0 0))), .int .u64 (loI (Prod.fst (packR P emin emax W E ex 1 neg 0 0)))]) [2] ?_ trivial
     rfl
    ·have z4 := hz.trans (decide_eq_false k1)
     have z1 : decide ((m2 : Int) < (P : Int)) = true := decide_eq_true (by omega)
     rw [show clsN P emax (S - 1) q = 2 by rw [clsN, if_neg k1, if_neg (by omega), if_pos (by omega)], if_neg (by decide)]
     refine xg ?_
     refine xb 2 [.int .i64 (P : Int), .int .i64 emin, .int .i64 emax, .int .i64 (W : Int), .int .i64 (E : Int), .bool ex, .int .i64 f, .bool neg] 114 (fun g0 => ?_)
     refine xb 3 [.int .i64 c, .bool neg', .int .u64 (hiI S), .int .u64 (loI S), .int .i64 q] 27 (fun g1 => ?_)
     refine xb 4 [.int .u64 0, .int .u64 0] 25 (fun g2 => ?_)
     refine xz [] [] ?_
     refine SW_seq ?_
     refine xr [(1, [1])] [(8, .bool (c == 4))] ?_
     refine xsf c4 ?_
     refine SW_skip ?_
     refine xg ?_
     refine xn 2 [(1, [1])] [(12, .agg #[.int .u64 (hiI S), .int .u64 (loI S)])] ?_
     refine xcr 13 (ct_impl_Word_nat (S) bS) zs0 (fun A2 k2 => ?_)
     refine xcr 14 (ct_impl_word (1) (1) ⟨rfl⟩ (by omega)) zs0 (fun A3 k3 => ?_)
     refine xcr 15 (ct_impl_nat_sub (S) (1) (A2) (A3) (k2) (k3) sS (by omega)) (zsS (ziS zi0) (zsS zi0 zs0)) (fun A4 k4 => ?_)
     refine xz [] [(5, .slice A4 (List.length (ofN B64 (S - 1))) k4)] ?_
     refine SW_seq ?_
     refine xd (fun hB => ?_)
     refine xdk [(0, []), (1, [1]), (2, []), (3, [])] [(19, .bool (c == 3))] hB ?_
     refine xdnf 19 c3 ?_
     refine xdk [(4, []), (5, []), (6, []), (7, []), (8, []), (9, []), (10, []), (11, []), (12, []), (13, []), (14, []), (15, []), (16, []), (17, []), (18, []), (19, [])] [(35, .bool false)] hB ?_
     refine xdz ?_
     refine xs0 ?_
     refine SW_skip ?_
     refine SW_seq ?_
     refine SW_block ?_
     refine xr [] [(44, .bool ((((List.length (ofN B64 (S - 1))) : Nat) : Int) == 0))] ?_
     refine xsf z4 ?_
     refine xd (fun hB => ?_)
     refine xdk [(0, []), (2, []), (3, []), (4, []), (5, [0])] [(56, .int .i64 (P : Int)), (51, .slice A4 (List.length (ofN B64 (S - 1))) k4)] hB ?_
     refine xdv 1 52 (ct_impl_nat_bits (S - 1) (A4) (k4) sS2 (m2) hm2) (zsS zi0 zs0) ?_
     refine xdk [(6, []), (7, [])] [(50, .bool (decide ((m2 : Int) < (P : Int))))] hB ?_
     refine xdz ?_
     refine xst z1 ?_
     refine xg ?_
     refine xn 4 [(0, [0]), (3, [1])] [(61, .int .i64 q), (59, .slice A4 (List.length (ofN B64 (S - 1))) k4), (58, .agg #[.int .i64 (P : Int), .int .i64 emin, .int .i64 emax, .int .i64 (W : Int), .int .i64 (E : Int), .bool ex, .int .i64 f, .bool neg])] ?_
     refine xcv 62 (ct_impl_rounding_packed h (f) hf (neg) (2) (S - 1) (A4) (k4) b2 (q) (q) zq2) (zsS (ziS (ziS (ziS zi0))) (zsS zi0 zs0)) ?_
     refine xy [(5, [2])] [] [(2, [.int .u64 (hiI (Prod.fst (packR P emin emax W E ex 2 neg (S - 1) q))), .int .u64 (loI (Prod.fst (packR P emin emax W E ex 2 neg (S - 1) q)))])] ?_
     refine SW_ret ?_
     refine xe () (.agg #[.int .u64 (hiI (Prod.fst (packR P emin emax W E ex 2 neg (S - 1) q))), .int .u64 (loI (Prod.fst (packR P emin emax W E ex 2 neg (S - 1) q)))]) [2] ?_ trivial
     rfl
end Go.Proofs.YtdbnmdchecacdaaDoor.M
end
section
namespace Go.Proofs.YtdbnmdchecacdaaDoor.M
open Go.RowKit Go.Proofs.YtdbnmdchecacdaaDoor.G Go.Proofs.YtdbnmdchecacdaaDoorV.PrintWords Go.Proofs.YtdbnmdchecacdaaDoorV.PrintLast Go.Proofs.YtdbnmdchecacdaaDoorV.PrintMore Go.Proofs.YtdbnmdchecacdaaDoor.PL Go.Proofs.YtdbnmdchecacdaaDoor.X
set_option linter.unusedVariables false
set_option linter.unusedSimpArgs false
theorem ct_spec_Describe' (f : Int) (hf : spec_Describe.f f = some (0, 0, 0, 0, 0, false)) : CtV Tryd.prog 57 [.int .i64 f] [] (.agg #[.int .i64 0, .int .i64 0, .int .i64 0, .int .i64 0, .int .i64 0, .bool false]) :=
 ctV0 (fun w => spec_Describe.calls _ _ _ _ _ _ _ w hf)
theorem ct_impl_layoutOf' (f : Int) (hf : impl_layoutOf.f f = some (0, 0, 0, 0, 0, false, false)) : CtV Tryd.prog 65 [.int .i64 f] [Tabled] (.tuple #[.agg #[.int .i64 0, .int .i64 0, .int .i64 0, .int .i64 0, .int .i64 0, .bool false], .bool false]) :=
 ctV1 (fun w h1 => impl_layoutOf.calls _ _ _ _ _ _ _ _ w h1 hf)
theorem ct_laws_eqWord (h l : Int) : CtV Tryd.prog 24 [.agg #[.int .u64 h, .int .u64 l], .agg #[.int .u64 h, .int .u64 l]] [] (.bool true) :=
 ctV0 (fun w => laws_eqWord.calls _ _ _ _ _ w (by unfold laws_eqWord.f; rw [if_pos rfl]; simp))
end Go.Proofs.YtdbnmdchecacdaaDoor.M
end
section
namespace Go.Proofs.YtdbnmdchecacdaaDoor.M
open Go.RowKit Go.Proofs.YtdbnmdchecacdaaDoor.G Go.Proofs.YtdbnmdchecacdaaDoorV.PrintWords Go.Proofs.YtdbnmdchecacdaaDoorV.PrintLast Go.Proofs.YtdbnmdchecacdaaDoorV.PrintMore Go.Proofs.YtdbnmdchecacdaaDoor.PL Go.Proofs.YtdbnmdchecacdaaDoor.X
set_option linter.unusedVariables false
set_option linter.unusedSimpArgs false
structure FD (f : Int) (P : Nat) (emin emax : Int) (W E : Nat) (ex : Bool) : Prop where
 h : Fmt2 P emin emax W E ex
 x1 : 1 ≤ emax
 sf : spec_Describe.f f = some ((P : Int), emin, emax, (W : Int), (E : Int), ex)
 lf : impl_layoutOf.f f = some ((P : Int), emin, emax, (W : Int), (E : Int), ex, true)
theorem fd_or (f : Int) : (∃ P emin emax W E ex, FD f P emin emax W E ex) ∨ (spec_Describe.f f = some (0, 0, 0, 0, 0, false) ∧ impl_layoutOf.f f = some (0, 0, 0, 0, 0, false, false)) := by
 by_cases h0 : f = 0
 ·subst h0; exact .inl ⟨_, _, _, _, _, _, fmt2_0, by decide, rfl, rfl⟩
 by_cases h1 : f = 1
 ·subst h1; exact .inl ⟨_, _, _, _, _, _, fmt2_1, by decide, rfl, rfl⟩
 by_cases h2 : f = 2
 ·subst h2; exact .inl ⟨_, _, _, _, _, _, fmt2_2, by decide, rfl, rfl⟩
 by_cases h3 : f = 3
 ·subst h3; exact .inl ⟨_, _, _, _, _, _, fmt2_3, by decide, rfl, rfl⟩
 refine .inr ⟨?_, ?_⟩
 ·unfold spec_Describe.f
  rw [if_neg h0, if_neg h1, if_neg h2, if_neg h3]
 ·unfold impl_layoutOf.f
  rw [if_neg h0, if_neg h1, if_neg h2, if_neg h3]
theorem ct_impl_Unpack' (f : Int) (hf : impl_layoutOf.f f = some (0, 0, 0, 0, 0, false, false)) (h l : Int) :
  CtV Tryd.prog 17 [.int .i64 f, .agg #[.int .u64 h, .int .u64 l]] [Tabled] (.agg #[.int .i64 0, .bool false, .int .u64 0, .int .u64 0, .int .i64 0]) := by
 refine ct_of Tryd.func17 rfl (by kernel_rfl) (fun B w0 => ?_)
 refine xg ?_
 refine xb 3 [.int .u64 h, .int .u64 l] 25 (fun g0 => ?_)
 refine xb 4 [.int .i64 0, .bool false, .int .u64 0, .int .u64 0, .int .i64 0] 27 (fun g1 => ?_)
 refine xz [] [] ?_
 refine xg ?_
 refine xn 1 [] [(14, .int .i64 f)] ?_
 refine xcv 15 (ct_impl_layoutOf' (f) hf) (zsS zi0 zs0) ?_
 refine xn 5 [] [(17, .bool false), (16, .agg #[.int .i64 0, .int .i64 0, .int .i64 0, .int .i64 0, .int .i64 0, .bool false])] ?_
 refine xb 5 [.int .i64 0, .int .i64 0, .int .i64 0, .int .i64 0, .int .i64 0, .bool false] 91 (fun g2 => ?_)
 refine xy [(6, [2])] [(6, .bool false)] [] ?_
 refine SW_seq ?_
 refine xr [(8, [0])] [(34, .bool true)] ?_
 refine xs1 ?_
 refine xq [(1, [1])] [] [] ?_
 refine SW_ret ?_
 refine xe () (.agg #[.int .i64 0, .bool false, .int .u64 0, .int .u64 0, .int .i64 0]) [1] ?_ trivial
 rfl
theorem ct_spec_Unpack' (f : Int) (hf : spec_Describe.f f = some (0, 0, 0, 0, 0, false)) (h l : Int) :
  CtV Tryd.prog 15 [.int .i64 f, .agg #[.int .u64 h, .int .u64 l]] [] (.agg #[.int .i64 0, .bool false, .int .u64 0, .int .u64 0, .int .i64 0]) := by
 refine ct_of Tryd.func15 rfl (by kernel_rfl) (fun B w0 => ?_)
 refine xg ?_
 refine xb 3 [.int .u64 h, .int .u64 l] 25 (fun g0 => ?_)
 refine xb 4 [.int .i64 0, .bool false, .int .u64 0, .int .u64 0, .int .i64 0] 27 (fun g1 => ?_)
 refine xz [] [] ?_
 refine xg ?_
 refine xn 1 [] [(16, .int .i64 f)] ?_
 refine xcv 17 (ct_spec_Describe' (f) hf) zs0 ?_
 refine xb 5 [.int .i64 0, .int .i64 0, .int .i64 0, .int .i64 0, .int .i64 0, .bool false] 83 (fun g2 => ?_)
 refine xy [(3, [2])] [] [] ?_
 refine SW_seq ?_
 refine xr [(1, [2])] [(20, .bool true)] ?_
 refine xs1 ?_
 refine xq [(1, [1])] [] [] ?_
 refine SW_ret ?_
 refine xe () (.agg #[.int .i64 0, .bool false, .int .u64 0, .int .u64 0, .int .i64 0]) [1] ?_ trivial
 rfl
theorem ct_impl_Step0 (f : Int) (hf : impl_layoutOf.f f = some (0, 0, 0, 0, 0, false, false)) (h l : Int) (up : Bool) :
  CtV Tryd.prog 31 [.int .i64 f, .agg #[.int .u64 h, .int .u64 l], .bool up] [Tabled] (.tuple #[.agg #[.int .u64 0, .int .u64 0], .bool false]) := by
 refine ct_of Tryd.func31 rfl (by kernel_rfl) (fun B w0 => ?_)
 refine xg ?_
 refine xb 4 [.int .u64 h, .int .u64 l] 25 (fun g0 => ?_)
 refine xb 6 [.int .u64 0, .int .u64 0] 25 (fun g1 => ?_)
 refine xz [] [(7, .bool false)] ?_
 refine xg ?_
 refine xn 1 [] [(13, .int .i64 f)] ?_
 refine xcv 14 (ct_impl_layoutOf' (f) hf) (zsS zi0 zs0) ?_
 refine xn 5 [] [(16, .bool false), (15, .agg #[.int .i64 0, .int .i64 0, .int .i64 0, .int .i64 0, .int .i64 0, .bool false])] ?_
 refine xb 8 [.int .i64 0, .int .i64 0, .int .i64 0, .int .i64 0, .int .i64 0, .bool false] 91 (fun g2 => ?_)
 refine xy [(6, [2])] [(9, .bool false)] [] ?_
 refine xg ?_
 refine xn 2 [(1, [0])] [(18, .agg #[.int .u64 h, .int .u64 l]), (17, .int .i64 f)] ?_
 refine xcv 19 (ct_impl_Unpack' (f) hf (h) (l)) (zsS zi0 zs0) ?_
 refine xb 10 [.int .i64 0, .bool false, .int .u64 0, .int .u64 0, .int .i64 0] 27 (fun g3 => ?_)
 refine xy [(4, [3])] [] [] ?_
 refine SW_seq ?_
 refine xr [] [(31, .bool true)] ?_
 refine xs1 ?_
 refine xq [(1, [1])] [(7, .bool false)] [] ?_
 refine SW_ret ?_
 refine xe () (.tuple #[.agg #[.int .u64 0, .int .u64 0], .bool false]) [1] ?_ trivial
 rfl
theorem ct_spec_Step0 (f : Int) (hf : spec_Describe.f f = some (0, 0, 0, 0, 0, false)) (h l : Int) (up : Bool) :
  CtV Tryd.prog 30 [.int .i64 f, .agg #[.int .u64 h, .int .u64 l], .bool up] [] (.tuple #[.agg #[.int .u64 0, .int .u64 0], .bool false]) := by
 refine ct_of Tryd.func30 rfl (by kernel_rfl) (fun B w0 => ?_)
 refine xg ?_
 refine xb 4 [.int .u64 h, .int .u64 l] 25 (fun g0 => ?_)
 refine xb 6 [.int .u64 0, .int .u64 0] 25 (fun g1 => ?_)
 refine xz [] [(7, .bool false)] ?_
 refine xg ?_
 refine xn 2 [(1, [0])] [(17, .agg #[.int .u64 h, .int .u64 l]), (16, .int .i64 f)] ?_
 refine xcv 18 (ct_spec_Unpack' (f) hf (h) (l)) zs0 ?_
 refine xb 8 [.int .i64 0, .bool false, .int .u64 0, .int .u64 0, .int .i64 0] 27 (fun g2 => ?_)
 refine xy [(4, [2])] [] [] ?_
 refine xg ?_
 refine xn 1 [] [(19, .int .i64 f)] ?_
 refine xcv 20 (ct_spec_Describe' (f) hf) zs0 ?_
 refine xb 9 [.int .i64 0, .int .i64 0, .int .i64 0, .int .i64 0, .int .i64 0, .bool false] 83 (fun g3 => ?_)
 refine xy [(3, [3])] [] [] ?_
 refine SW_seq ?_
 refine xr [(1, [2])] [(28, .bool true)] ?_
 refine xs1 ?_
 refine xq [(1, [1])] [(7, .bool false)] [] ?_
 refine SW_ret ?_
 refine xe () (.tuple #[.agg #[.int .u64 0, .int .u64 0], .bool false]) [1] ?_ trivial
 rfl
theorem ct_impl_Step {P : Nat} {emin emax : Int} {W E : Nat} {ex : Bool} {f : Int} (d : FD f P emin emax W E ex) (x : Nat) (hx : x < B128) (up : Bool) (R : Nat × Bool)
  (hb : unpN P emin emax W E ex x = badP ∨ unpN P emin emax W E ex x = (5, false, 0, 0, 0) → R = (0, false)) (hS : ∀ c neg S q, unpN P emin emax W E ex x = (c, neg, hiI S, loI S, q) → VP P emin emax c S q → R = stepN P emin emax W E ex c neg S q up) :
  CtV Tryd.prog 31 [.int .i64 f, .agg #[.int .u64 (hiI x), .int .u64 (loI x)], .bool up] [Tabled] (.tuple #[.agg #[.int .u64 (hiI R.1), .int .u64 (loI R.1)], .bool R.2]) := by
 have h := d.h
 have hx1 := d.x1
 have hf := d.lf
 have hF := h.toFmt
 have cu := ct_impl_Unpack h.toFmt f hf x hx
 refine ct_of Tryd.func31 rfl (by kernel_rfl) (fun B w0 => ?_)
 rcases unp_form h x with hu | hu | ⟨c, neg, S, q, hu, hl, hv⟩
 ·rw [hb (.inl hu)]
  rw [hu, badP, prtV] at cu
  dsimp only at cu
  refine xg ?_
  refine xb 4 [.int .u64 (hiI x), .int .u64 (loI x)] 25 (fun g0 => ?_)
  refine xb 6 [.int .u64 0, .int .u64 0] 25 (fun g1 => ?_)
  refine xz [] [(7, .bool false)] ?_
  refine xg ?_
  refine xn 1 [] [(13, .int .i64 f)] ?_
  refine xcv 14 (ct_impl_layoutOf (f) hf) (zsS zi0 zs0) ?_
  refine xn 5 [] [(16, .bool true), (15, .agg #[.int .i64 (P : Int), .int .i64 emin, .int .i64 emax, .int .i64 (W : Int), .int .i64 (E : Int), .bool ex])] ?_
  refine xb 8 [.int .i64 0, .int .i64 0, .int .i64 0, .int .i64 0, .int .i64 0, .bool false] 91 (fun g2 => ?_)
  refine xy [(6, [2])] [(9, .bool true)] [(2, [.int .i64 (P : Int), .int .i64 emin, .int .i64 emax, .int .i64 (W : Int), .int .i64 (E : Int), .bool ex])] ?_
  refine xg ?_
  refine xn 2 [(1, [0])] [(18, .agg #[.int .u64 (hiI x), .int .u64 (loI x)]), (17, .int .i64 f)] ?_
  refine xcv 19 cu (zsS zi0 zs0) ?_
  refine xb 10 [.int .i64 0, .bool false, .int .u64 0, .int .u64 0, .int .i64 0] 27 (fun g3 => ?_)
  refine xy [(4, [3])] [] [] ?_
  refine SW_seq ?_
  refine xr [(4, [3])] [(31, .bool true)] ?_
  refine xs1 ?_
  refine xq [(1, [1])] [(7, .bool false)] [] ?_
  refine SW_ret ?_
  refine xe () (.tuple #[.agg #[.int .u64 0, .int .u64 0], .bool false]) [1] ?_ trivial
  rfl
 ·rw [hb (.inr hu)]
  rw [hu, prtV] at cu
  dsimp only at cu
  refine xg ?_
  refine xb 4 [.int .u64 (hiI x), .int .u64 (loI x)] 25 (fun g0 => ?_)
  refine xb 6 [.int .u64 0, .int .u64 0] 25 (fun g1 => ?_)
  refine xz [] [(7, .bool false)] ?_
  refine xg ?_
  refine xn 1 [] [(13, .int .i64 f)] ?_
  refine xcv 14 (ct_impl_layoutOf (f) hf) (zsS zi0 zs0) ?_
  refine xn 5 [] [(16, .bool true), (15, .agg #[.int .i64 (P : Int), .int .i64 emin, .int .i64 emax, .int .i64 (W : Int), .int .i64 (E : Int), .bool ex])] ?_
  refine xb 8 [.int .i64 0, .int .i64 0, .int .i64 0, .int .i64 0, .int .i64 0, .bool false] 91 (fun g2 => ?_)
  refine xy [(6, [2])] [(9, .bool true)] [(2, [.int .i64 (P : Int), .int .i64 emin, .int .i64 emax, .int .i64 (W : Int), .int .i64 (E : Int), .bool ex])] ?_
  refine xg ?_
  refine xn 2 [(1, [0])] [(18, .agg #[.int .u64 (hiI x), .int .u64 (loI x)]), (17, .int .i64 f)] ?_
  refine xcv 19 cu (zsS zi0 zs0) ?_
  refine xb 10 [.int .i64 0, .bool false, .int .u64 0, .int .u64 0, .int .i64 0] 27 (fun g3 => ?_)
  refine xy [(4, [3])] [] [(3, [.int .i64 5, .bool false, .int .u64 0, .int .u64 0, .int .i64 0])] ?_
  refine SW_seq ?_
  refine xr [(4, [3]), (9, [3])] [(31, .bool true)] ?_
  refine xs1 ?_
  refine xq [(1, [1])] [(7, .bool false)] [] ?_
  refine SW_ret ?_
  refine xe () (.tuple #[.agg #[.int .u64 0, .int .u64 0], .bool false]) [1] ?_ trivial
  rfl
 ·rw [hS c neg S q hu hv]
  rw [hu, prtV] at cu
  dsimp only at cu
  have h0c : (c == 0) = false := by rw [beq_eq_false_iff_ne]; rcases hv with ⟨rfl, _⟩ | ⟨rfl, _⟩ | ⟨rfl, _⟩ | ⟨rfl, _⟩ <;> decide
  have h5c : (c == 5) = false := by rw [beq_eq_false_iff_ne]; rcases hv with ⟨rfl, _⟩ | ⟨rfl, _⟩ | ⟨rfl, _⟩ | ⟨rfl, _⟩ <;> decide
  by_cases h1 : c = 1
  ·have c1 : (c == 1) = true := by rw [beq_iff_eq]; exact h1
   have st : stepN P emin emax W E ex c (!up) S q up = stepN P emin emax W E ex c neg S q up := by unfold stepN; rw [if_pos h1, if_pos h1]
   have ok := step_ok h hx1 (neg := neg) hv up (fun z => by rw [h1] at z; exact absurd z.1 (by decide))
   have hn : c = 1 → (!up) = !up := fun _ => rfl
   have hg : c ≠ 1 → (up != !up) = true := fun z => absurd h1 z
   refine xg ?_
   refine xb 4 [.int .u64 (hiI x), .int .u64 (loI x)] 25 (fun g0 => ?_)
   refine xb 6 [.int .u64 0, .int .u64 0] 25 (fun g1 => ?_)
   refine xz [] [(7, .bool false)] ?_
   refine xg ?_
   refine xn 1 [] [(13, .int .i64 f)] ?_
   refine xcv 14 (ct_impl_layoutOf (f) hf) (zsS zi0 zs0) ?_
   refine xn 5 [] [(16, .bool true), (15, .agg #[.int .i64 (P : Int), .int .i64 emin, .int .i64 emax, .int .i64 (W : Int), .int .i64 (E : Int), .bool ex])] ?_
   refine xb 8 [.int .i64 0, .int .i64 0, .int .i64 0, .int .i64 0, .int .i64 0, .bool false] 91 (fun g2 => ?_)
   refine xy [(6, [2])] [(9, .bool true)] [(2, [.int .i64 (P : Int), .int .i64 emin, .int .i64 emax, .int .i64 (W : Int), .int .i64 (E : Int), .bool ex])] ?_
   refine xg ?_
   refine xn 2 [(1, [0])] [(18, .agg #[.int .u64 (hiI x), .int .u64 (loI x)]), (17, .int .i64 f)] ?_
   refine xcv 19 cu (zsS zi0 zs0) ?_
   refine xb 10 [.int .i64 0, .bool false, .int .u64 0, .int .u64 0, .int .i64 0] 27 (fun g3 => ?_)
   refine xy [(4, [3])] [] [(3, [.int .i64 c, .bool neg, .int .u64 (hiI S), .int .u64 (loI S), .int .i64 q])] ?_
   refine SW_seq ?_
   refine xg ?_
   refine xn 8 [(4, [3])] [(27, .bool (c == 0))] ?_
   refine xkf 27 h0c ?_
   refine xz [(9, [3])] [(31, .bool (c == 5))] ?_
   refine xsf h5c ?_
   refine SW_skip ?_
   refine SW_seq ?_
   refine xr [(1, [3])] [(35, .bool (c == 1))] ?_
   refine xst c1 ?_
   refine xql [(3, [3])] [] [(3, [.int .i64 c, .bool !up, .int .u64 (hiI S), .int .u64 (loI S), .int .i64 q])] ?_
   refine xg ?_
   refine xn 5 [(0, [2]), (3, [3])] [(43, .agg #[.int .i64 (P : Int), .int .i64 emin, .int .i64 emax, .int .i64 (W : Int), .int .i64 (E : Int), .bool ex, .int .i64 f, .bool !up])] ?_
   refine xb 11 [.int .i64 0, .int .i64 0, .int .i64 0, .int .i64 0, .int .i64 0, .bool false, .int .i64 0, .bool false] 114 (fun g4 => ?_)
   refine xy [(6, [4])] [] [(4, [.int .i64 (P : Int), .int .i64 emin, .int .i64 emax, .int .i64 (W : Int), .int .i64 (E : Int), .bool ex, .int .i64 f, .bool !up])] ?_
   refine SW_seq ?_
   refine xg ?_
   refine xn 4 [(1, [3])] [(47, .bool (c == 1))] ?_
   refine xkt 47 c1 ?_
   refine xz [] [(52, .bool true)] ?_
   refine xs1 ?_
   refine xg ?_
   refine xn 2 [(0, [4]), (1, [3])] [(54, .agg #[.int .i64 c, .bool !up, .int .u64 (hiI S), .int .u64 (loI S), .int .i64 q]), (53, .agg #[.int .i64 (P : Int), .int .i64 emin, .int .i64 emax, .int .i64 (W : Int), .int .i64 (E : Int), .bool ex, .int .i64 f, .bool !up])] ?_
   refine xcv 55 (ct_impl_rounding_away h hx1 (f) hf (!up) (!up) (c) (S) (q) hv (up) hn hg) (zsS zi0 zs0) ?_
   refine xy [(5, [1])] [(7, .bool (c != 4))] [(1, [.int .u64 (hiI (Prod.fst (stepN P emin emax W E ex c (!up) S q up))), .int .u64 (loI (Prod.fst (stepN P emin emax W E ex c (!up) S q up)))])] ?_
   refine SW_ret ?_
   refine xe () (.tuple #[.agg #[.int .u64 (hiI (Prod.fst (stepN P emin emax W E ex c (!up) S q up))), .int .u64 (loI (Prod.fst (stepN P emin emax W E ex c (!up) S q up)))], .bool (c != 4)]) [1] ?_ trivial
   rw [st, ok]
   have : (c != 4) = true := by rw [h1]; rfl
   rw [this]
  ·have c1 : (c == 1) = false := by rw [beq_eq_false_iff_ne]; exact h1
   have hn : c = 1 → neg = !up := fun z => absurd z h1
   by_cases hg : (up != neg) = true
   ·have z1 : (!(up == neg)) = true := hg
    have hg' : c ≠ 1 → (up != neg) = true := fun _ => hg
    refine xg ?_
    refine xb 4 [.int .u64 (hiI x), .int .u64 (loI x)] 25 (fun g0 => ?_)
    refine xb 6 [.int .u64 0, .int .u64 0] 25 (fun g1 => ?_)
    refine xz [] [(7, .bool false)] ?_
    refine xg ?_
    refine xn 1 [] [(13, .int .i64 f)] ?_
    refine xcv 14 (ct_impl_layoutOf (f) hf) (zsS zi0 zs0) ?_
    refine xn 5 [] [(16, .bool true), (15, .agg #[.int .i64 (P : Int), .int .i64 emin, .int .i64 emax, .int .i64 (W : Int), .int .i64 (E : Int), .bool ex])] ?_
    refine xb 8 [.int .i64 0, .int .i64 0, .int .i64 0, .int .i64 0, .int .i64 0, .bool false] 91 (fun g2 => ?_)
    refine xy [(6, [2])] [(9, .bool true)] [(2, [.int .i64 (P : Int), .int .i64 emin, .int .i64 emax, .int .i64 (W : Int), .int .i64 (E : Int), .bool ex])] ?_
    refine xg ?_
    refine xn 2 [(1, [0])] [(18, .agg #[.int .u64 (hiI x), .int .u64 (loI x)]), (17, .int .i64 f)] ?_
    refine xcv 19 cu (zsS zi0 zs0) ?_
    refine xb 10 [.int .i64 0, .bool false, .int .u64 0, .int .u64 0, .int .i64 0] 27 (fun g3 => ?_)
    refine xy [(4, [3])] [] [(3, [.int .i64 c, .bool neg, .int .u64 (hiI S), .int .u64 (loI S), .int .i64 q])] ?_
    refine SW_seq ?_
    refine xg ?_
    refine xn 8 [(4, [3])] [(27, .bool (c == 0))] ?_
    refine xkf 27 h0c ?_
    refine xz [(9, [3])] [(31, .bool (c == 5))] ?_
    refine xsf h5c ?_
    refine SW_skip ?_
    refine SW_seq ?_
    refine xr [(1, [3])] [(35, .bool (c == 1))] ?_
    refine xsf c1 ?_
    refine SW_skip ?_
    refine xg ?_
    refine xn 5 [(0, [2]), (3, [3])] [(43, .agg #[.int .i64 (P : Int), .int .i64 emin, .int .i64 emax, .int .i64 (W : Int), .int .i64 (E : Int), .bool ex, .int .i64 f, .bool neg])] ?_
    refine xb 11 [.int .i64 0, .int .i64 0, .int .i64 0, .int .i64 0, .int .i64 0, .bool false, .int .i64 0, .bool false] 114 (fun g4 => ?_)
    refine xy [(6, [4])] [] [(4, [.int .i64 (P : Int), .int .i64 emin, .int .i64 emax, .int .i64 (W : Int), .int .i64 (E : Int), .bool ex, .int .i64 f, .bool neg])] ?_
    refine SW_seq ?_
    refine xg ?_
    refine xn 4 [(1, [3])] [(47, .bool (c == 1))] ?_
    refine xkf 47 c1 ?_
    refine xz [(6, [3])] [(52, .bool !up == neg)] ?_
    refine xst z1 ?_
    refine xg ?_
    refine xn 2 [(0, [4]), (1, [3])] [(54, .agg #[.int .i64 c, .bool neg, .int .u64 (hiI S), .int .u64 (loI S), .int .i64 q]), (53, .agg #[.int .i64 (P : Int), .int .i64 emin, .int .i64 emax, .int .i64 (W : Int), .int .i64 (E : Int), .bool ex, .int .i64 f, .bool neg])] ?_
    refine xcv 55 (ct_impl_rounding_away h hx1 (f) hf (neg) (neg) (c) (S) (q) hv (up) hn hg') (zsS zi0 zs0) ?_
    refine xy [(5, [1])] [(7, .bool (c != 4))] [(1, [.int .u64 (hiI (Prod.fst (stepN P emin emax W E ex c neg S q up))), .int .u64 (loI (Prod.fst (stepN P emin emax W E ex c neg S q up)))])] ?_
    refine SW_ret ?_
    refine xe () (.tuple #[.agg #[.int .u64 (hiI (Prod.fst (stepN P emin emax W E ex c neg S q up))), .int .u64 (loI (Prod.fst (stepN P emin emax W E ex c neg S q up)))], .bool (c != 4)]) [1] ?_ trivial
    by_cases h4 : c = 4
    ·have : (c != 4) = false := by rw [h4]; rfl
     rw [this, stepN, if_neg h1, if_pos h4, if_pos hg]
    ·have : (c != 4) = true := by rw [bne_iff_ne]; exact h4
     rw [this, step_ok h hx1 hv up (fun z => h4 z.1)]
   ·have z1 : (!(up == neg)) = false := by simpa using hg
    have hg' : (up != neg) = false := by simpa using hg
    have ok := step_ok h hx1 hv up (fun z => hg z.2)
    refine xg ?_
    refine xb 4 [.int .u64 (hiI x), .int .u64 (loI x)] 25 (fun g0 => ?_)
    refine xb 6 [.int .u64 0, .int .u64 0] 25 (fun g1 => ?_)
    refine xz [] [(7, .bool false)] ?_
    refine xg ?_
    refine xn 1 [] [(13, .int .i64 f)] ?_
    refine xcv 14 (ct_impl_layoutOf (f) hf) (zsS zi0 zs0) ?_
    refine xn 5 [] [(16, .bool true), (15, .agg #[.int .i64 (P : Int), .int .i64 emin, .int .i64 emax, .int .i64 (W : Int), .int .i64 (E : Int), .bool ex])] ?_
    refine xb 8 [.int .i64 0, .int .i64 0, .int .i64 0, .int .i64 0, .int .i64 0, .bool false] 91 (fun g2 => ?_)
    refine xy [(6, [2])] [(9, .bool true)] [(2, [.int .i64 (P : Int), .int .i64 emin, .int .i64 emax, .int .i64 (W : Int), .int .i64 (E : Int), .bool ex])] ?_
    refine xg ?_
    refine xn 2 [(1, [0])] [(18, .agg #[.int .u64 (hiI x), .int .u64 (loI x)]), (17, .int .i64 f)] ?_
    refine xcv 19 cu (zsS zi0 zs0) ?_
    refine xb 10 [.int .i64 0, .bool false, .int .u64 0, .int .u64 0, .int .i64 0] 27 (fun g3 => ?_)
    refine xy [(4, [3])] [] [(3, [.int .i64 c, .bool neg, .int .u64 (hiI S), .int .u64 (loI S), .int .i64 q])] ?_
    refine SW_seq ?_
    refine xg ?_
    refine xn 8 [(4, [3])] [(27, .bool (c == 0))] ?_
    refine xkf 27 h0c ?_
    refine xz [(9, [3])] [(31, .bool (c == 5))] ?_
    refine xsf h5c ?_
    refine SW_skip ?_
    refine SW_seq ?_
    refine xr [(1, [3])] [(35, .bool (c == 1))] ?_
    refine xsf c1 ?_
    refine SW_skip ?_
    refine xg ?_
    refine xn 5 [(0, [2]), (3, [3])] [(43, .agg #[.int .i64 (P : Int), .int .i64 emin, .int .i64 emax, .int .i64 (W : Int), .int .i64 (E : Int), .bool ex, .int .i64 f, .bool neg])] ?_
    refine xb 11 [.int .i64 0, .int .i64 0, .int .i64 0, .int .i64 0, .int .i64 0, .bool false, .int .i64 0, .bool false] 114 (fun g4 => ?_)
    refine xy [(6, [4])] [] [(4, [.int .i64 (P : Int), .int .i64 emin, .int .i64 emax, .int .i64 (W : Int), .int .i64 (E : Int), .bool ex, .int .i64 f, .bool neg])] ?_
    refine SW_seq ?_
    refine xg ?_
    refine xn 4 [(1, [3])] [(47, .bool (c == 1))] ?_
    refine xkf 47 c1 ?_
    refine xz [(6, [3])] [(52, .bool !up == neg)] ?_
    refine xsf z1 ?_
    refine SW_skip ?_
    refine xg ?_
    refine xn 2 [(0, [4]), (1, [3])] [(59, .agg #[.int .i64 c, .bool neg, .int .u64 (hiI S), .int .u64 (loI S), .int .i64 q]), (58, .agg #[.int .i64 (P : Int), .int .i64 emin, .int .i64 emax, .int .i64 (W : Int), .int .i64 (E : Int), .bool ex, .int .i64 f, .bool neg])] ?_
    refine xcv 60 (ct_impl_rounding_nearer h hx1 (f) hf (neg) (neg) (c) (S) (q) hv (up) h1 hg') (zsS zi0 zs0) ?_
    refine xy [(3, [1])] [(7, .bool true)] [(1, [.int .u64 (hiI (Prod.fst (stepN P emin emax W E ex c neg S q up))), .int .u64 (loI (Prod.fst (stepN P emin emax W E ex c neg S q up)))])] ?_
    refine SW_ret ?_
    refine xe () (.tuple #[.agg #[.int .u64 (hiI (Prod.fst (stepN P emin emax W E ex c neg S q up))), .int .u64 (loI (Prod.fst (stepN P emin emax W E ex c neg S q up)))], .bool true]) [1] ?_ trivial
    rw [ok]
theorem step_both (f : Int) (x : Nat) (hx : x < B128) (up : Bool) : ∃ R : Nat × Bool,
  CtV Tryd.prog 30 [.int .i64 f, .agg #[.int .u64 (hiI x), .int .u64 (loI x)], .bool up] [] (.tuple #[.agg #[.int .u64 (hiI R.1), .int .u64 (loI R.1)], .bool R.2]) ∧
  CtV Tryd.prog 31 [.int .i64 f, .agg #[.int .u64 (hiI x), .int .u64 (loI x)], .bool up] [Tabled] (.tuple #[.agg #[.int .u64 (hiI R.1), .int .u64 (loI R.1)], .bool R.2]) := by
 rcases fd_or f with ⟨P, emin, emax, W, E, ex, d⟩ | ⟨hs, hl⟩
 ·have key : ∃ R : Nat × Bool, (unpN P emin emax W E ex x = badP ∨ unpN P emin emax W E ex x = (5, false, 0, 0, 0) → R = (0, false)) ∧ (∀ c neg S q, unpN P emin emax W E ex x = (c, neg, hiI S, loI S, q) → VP P emin emax c S q → R = stepN P emin emax W E ex c neg S q up) := by
   rcases unp_form d.h x with hu | hu | ⟨c, neg, S, q, hu, hl, hv⟩
   ·refine ⟨(0, false), fun _ => rfl, fun c neg S q h2 hv => ?_⟩
    rw [hu, badP] at h2
    injection h2 with h2 _
    rcases hv with ⟨rfl, _⟩ | ⟨rfl, _⟩ | ⟨rfl, _⟩ | ⟨rfl, _⟩ <;> cases h2
   ·refine ⟨(0, false), fun _ => rfl, fun c neg S q h2 hv => ?_⟩
    rw [hu] at h2
    injection h2 with h2 _
    rcases hv with ⟨rfl, _⟩ | ⟨rfl, _⟩ | ⟨rfl, _⟩ | ⟨rfl, _⟩ <;> cases h2
   ·refine ⟨stepN P emin emax W E ex c neg S q up, fun h2 => ?_, fun c' neg' S' q' h2 hv' => ?_⟩
    ·have : c = 0 ∨ c = 5 := by
      rcases h2 with h2 | h2
      ·rw [hu, badP] at h2; injection h2 with h2 _; exact .inl h2
      ·rw [hu] at h2; injection h2 with h2 _; exact .inr h2
     rcases hv with ⟨rfl, _⟩ | ⟨rfl, _⟩ | ⟨rfl, _⟩ | ⟨rfl, _⟩ <;> omega
    ·rw [hu] at h2
     injection h2 with e1 h2
     injection h2 with e2 h2
     injection h2 with e3 h2
     injection h2 with e4 e5
     rw [e1, e2, e5, hilo_inj e3 e4]
  obtain ⟨R, k1, k2⟩ := key
  exact ⟨R, ct_spec_Step d.h d.x1 f d.sf x hx up R k1 k2, ct_impl_Step d x hx up R k1 k2⟩
 ·exact ⟨(0, false), ct_spec_Step0 f hs _ _ up, ct_impl_Step0 f hl _ _ up⟩
theorem ct_laws_toWord (h l : Int) : CtV Tryd.prog 16 [.agg #[.int .u64 h, .int .u64 l]] [] (.agg #[.int .u64 h, .int .u64 l]) :=
 ctV0 (fun w => laws_toWord.calls _ _ _ _ w rfl)
theorem ct_laws_FnExactStep (f : Int) (x : Nat) (hx : x < B128) (up : Bool) :
  CtV Tryd.prog 7 [.int .i64 f, .agg #[.int .u64 (hiI x), .int .u64 (loI x)], .bool up] [Tabled] (.bool true) := by
 obtain ⟨⟨r, b⟩, hs, hi⟩ := step_both f x hx up
 refine ct_of Tryd.func7 rfl (by kernel_rfl) (fun B w0 => ?_)
 refine xg ?_
 refine xb 4 [.int .u64 (hiI x), .int .u64 (loI x)] 24 (fun g0 => ?_)
 refine xz [] [(6, .bool false)] ?_
 refine xg ?_
 refine xn 2 [(1, [0])] [(13, .agg #[.int .u64 (hiI x), .int .u64 (loI x)]), (12, .int .i64 f)] ?_
 refine xcv 14 (ct_laws_toWord (hiI x) (loI x)) zs0 ?_
 refine xn 4 [] [(15, .bool up)] ?_
 refine xcv 16 hs zs0 ?_
 refine xn 8 [] [(18, .bool (Prod.snd (r, b))), (17, .agg #[.int .u64 (hiI (Prod.fst (r, b))), .int .u64 (loI (Prod.fst (r, b)))])] ?_
 refine xb 7 [.int .u64 0, .int .u64 0] 25 (fun g1 => ?_)
 refine xy [(9, [1])] [(8, .bool (Prod.snd (r, b)))] [(1, [.int .u64 (hiI (Prod.fst (r, b))), .int .u64 (loI (Prod.fst (r, b)))])] ?_
 refine xg ?_
 refine xn 2 [(1, [0])] [(21, .agg #[.int .u64 (hiI x), .int .u64 (loI x)]), (20, .int .i64 f)] ?_
 refine xcv 22 (ct_laws_toWord (hiI x) (loI x)) zs0 ?_
 refine xn 4 [] [(23, .bool up)] ?_
 refine xcv 24 hi (zsS zi0 zs0) ?_
 refine xn 8 [] [(26, .bool (Prod.snd (r, b))), (25, .agg #[.int .u64 (hiI (Prod.fst (r, b))), .int .u64 (loI (Prod.fst (r, b)))])] ?_
 refine xb 9 [.int .u64 0, .int .u64 0] 25 (fun g2 => ?_)
 refine xy [(9, [2])] [(10, .bool (Prod.snd (r, b)))] [(2, [.int .u64 (hiI (Prod.fst (r, b))), .int .u64 (loI (Prod.fst (r, b)))])] ?_
 refine SW_seq ?_
 refine xg ?_
 refine xn 2 [(0, [2]), (1, [1])] [(28, .agg #[.int .u64 (hiI (Prod.fst (r, b))), .int .u64 (loI (Prod.fst (r, b)))]), (27, .agg #[.int .u64 (hiI (Prod.fst (r, b))), .int .u64 (loI (Prod.fst (r, b)))])] ?_
 refine xcv 29 (ct_laws_eqWord (hiI (Prod.fst (r, b))) (loI (Prod.fst (r, b)))) zs0 ?_
 refine xz [] [(35, .bool !Prod.snd (r, b) == Prod.snd (r, b))] ?_
 refine xs (!Prod.snd (r, b) == Prod.snd (r, b)) (fun q0 => ?_) (fun q0 => ?_)
 ·exfalso
  cases b <;> simp at q0
 ·refine SW_skip ?_
  refine xr [] [(6, .bool true)] ?_
  refine SW_ret ?_
  refine xe () (.bool true) [] ?_ trivial
  rfl
end Go.Proofs.YtdbnmdchecacdaaDoor.M
end
