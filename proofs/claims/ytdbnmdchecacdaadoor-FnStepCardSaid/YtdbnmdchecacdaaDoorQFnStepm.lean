import Derived.Test.YtdbnmdchecacdaaDoorQFnStepl
section
namespace Go.Proofs.YtdbnmdchecacdaaDoor.M
open Go.RowKit Go.Proofs.YtdbnmdchecacdaaDoor.G Go.Proofs.YtdbnmdchecacdaaDoorV.PrintWords Go.Proofs.YtdbnmdchecacdaaDoorV.PrintLast Go.Proofs.YtdbnmdchecacdaaDoor.X
set_option linter.unusedVariables false
set_option linter.unusedSimpArgs false
theorem packR_lt {P : Nat} {emin emax : Int} {W E : Nat} {ex : Bool} (h : Fmt2 P emin emax W E ex) {c : Int} {neg : Bool} {S : Nat} {q : Int} : (packR P emin emax W E ex c neg S q).1 < B128 := by
 have p3 := h.p3
 have w2 := h.w2
 have e0 : 0 < 2 ^ E := Nat.pow_pos (by decide)
 have z0 : 0 < 2 ^ (P - 1) := Nat.pow_pos (by decide)
 have key : ∀ w, packN P emax W E ex c neg S q = some w → w < B128 := by
  intro w hw
  have fin : ∀ neg lead e r, e < 2 ^ E → r < 2 ^ (P - 1) → makeN P W ex neg lead e r < B128 := fun neg lead e r he hr => Nat.lt_of_lt_of_le (makeN_lt h.toFmt neg lead e r he hr) (show 2 ^ W ≤ 2 ^ 128 from Nat.pow_le_pow_right (by decide) w2)
  unfold packN at hw
  split at hw
  ·cases hw
   exact fin _ _ _ _ e0 z0
  ·split at hw
   ·cases hw
    exact fin _ _ _ _ (by omega) z0
   ·split at hw
    ·cases hw
     exact fin _ _ _ _ (by omega) (Nat.pow_lt_pow_right (by decide) (by omega))
    ·split at hw
     ·split at hw
      ·rename_i hS
       cases hw
       exact fin _ _ _ _ e0 hS
      ·cases hw
     ·split at hw
      ·split at hw
       ·rename_i hS
        cases hw
        exact fin _ _ _ _ (by omega) (Nat.mod_lt _ z0)
       ·cases hw
      ·cases hw
 unfold packR
 split
 ·decide
 ·rename_i w hw
  split
  ·exact key w hw
  ·decide
theorem wrap_rng (z : Int) : -9223372036854775808 ≤ IntKind.i64.wrap z ∧ IntKind.i64.wrap z ≤ 9223372036854775807 := by
 simp [IntKind.wrap, IntKind.bits, IntKind.signed]
 omega
theorem hi_mk (x y : Nat) (hx : x < 18446744073709551616) (hy : y < 18446744073709551616) : hiI (y + x * 18446744073709551616) = (x : Int) := by
 unfold hiI
 omega
theorem lo_mk (x y : Nat) (hy : y < 18446744073709551616) : loI (y + x * 18446744073709551616) = (y : Int) := by
 unfold loI
 omega
theorem two_val' (x y : Nat) (hx : x < 18446744073709551616) (hy : y < 18446744073709551616) : Dig B64 [(x : Int), (y : Int)] ∧ val B64 [(x : Int), (y : Int)] = x + y * 18446744073709551616 := by
 refine ⟨Dig.cons (by unfold B64; omega) (Dig.cons (by unfold B64; omega) (Dig.nil _)), ?_⟩
 rw [val_cons, val_one]
 unfold B64
 rw [Int.toNat_natCast, Int.toNat_natCast]
 omega
theorem ct_spec_l1In' (g x y : Nat) (hx : x < 18446744073709551616) (hy : y < 18446744073709551616) : CtM Tryd.prog 98 [.slice (some ⟨g, 0, none⟩) 2 2] [⟨g, [.int .u64 (x : Int), .int .u64 (y : Int)], 22⟩] [] (γ := Option Addr × Nat) (fun p => .slice p.1 (ofN B32 (x + y * 18446744073709551616)).length p.2) (fun _ => []) (fun p => [Row .u64 p.1 p.2 (ofN B32 (x + y * 18446744073709551616))]) := by
 obtain ⟨d, v⟩ := two_val' x y hx hy
 obtain ⟨d2, n2, v2⟩ := ofN_spec B32_2 (x + y * 18446744073709551616)
 exact ctM_row (xs := [(x : Int), (y : Int)]) rfl (by simp) (by simp) (ct_spec_l1In_rows [(x : Int), (y : Int)] _ 2 d (by simp) _ d2 n2 (by rw [v2, v]))
theorem ct_spec_l1Reader_word (f : Int) (g : Nat) (A : Option Addr) (c : Nat) (bt : List Int) (a : Int) (i : Nat) (ha : Nn a i) (hi : i ≤ bt.length) (hx : bt.length ≤ 1048576) (dx : Dig 256 bt) :
  CtM Tryd.prog 96 [.pointer (some ⟨g, 0, none⟩), .int .i64 f] [⟨g, [.slice A bt.length c, .int .i64 a], 119⟩] [Row .u8 A c bt] (γ := {p : Nat × Nat // p.1 ≤ bt.length ∧ p.2 < B128}) (fun p => .agg #[.int .u64 (hiI p.1.2), .int .u64 (loI p.1.2)]) (fun p => [⟨g, [.slice A bt.length c, .int .i64 (p.1.1 : Int)], 119⟩]) (fun _ => []) := by
 obtain ⟨rfl⟩ := ha
 refine cm_of Tryd.func96 rfl (by kernel_rfl) (fun B w0 => ?_)
 -- the format that is drawn in
 obtain ⟨f', P, emin, emax, W, E, ex, r1, r2, r3, r4, r5, r6, d, hr, hf'⟩ : ∃ f' P emin emax W E ex r1 r2 r3 r4 r5 r6, FD f' P emin emax W E ex ∧ spec_Describe.f f = some (r1, r2, r3, r4, r5, r6) ∧ ((f = f' ∧ (P : Int) = r1 ∧ emin = r2 ∧ emax = r3 ∧ (W : Int) = r4 ∧ (E : Int) = r5 ∧ ex = r6) ∨ (f' = 1 ∧ r1 = 0)) := by
  rcases fd_or f with ⟨_, P, emin, emax, W, E, ex, d⟩ | ⟨_, hs, hl⟩
  ·exact ⟨f, P, emin, emax, W, E, ex, _, _, _, _, _, _, d, d.sf, .inl ⟨rfl, rfl, rfl, rfl, rfl, rfl, rfl⟩⟩
  ·exact ⟨1, 53, -1022, 1023, 64, 11, false, _, _, _, _, _, _, ⟨fmt2_1, by decide, rfl, rfl⟩, hs, .inr ⟨rfl, rfl⟩⟩
 have cd := spec_Describe.calls f _ _ _ _ _ _ hr
 have h := d.h
 have hF := h.toFmt
 have hs := d.sf
 have p0 := h.p0
 have p1 := h.p1
 have p3 := h.p3
 have m0 := h.m0
 have m1 := h.m1
 have zP : ((P : Int) == 0) = false := by rw [beq_eq_false_iff_ne]; omega
 refine xg ?_
 refine xb 4 [.int .u64 0, .int .u64 0] 25 (fun g0 => ?_)
 refine xz [] [] ?_
 refine xg ?_
 refine xn 1 [] [(14, .int .i64 f)] ?_
 refine xcv 15 cd zs0 ?_
 refine xb 5 [.int .i64 0, .int .i64 0, .int .i64 0, .int .i64 0, .int .i64 0, .bool false] 83 (fun g1 => ?_)
 refine xy [(3, [2])] [] [(2, [.int .i64 r1, .int .i64 r2, .int .i64 r3, .int .i64 r4, .int .i64 r5, .bool r6])] ?_
 refine SW_cut (fun s' => Weak s' ⟨[(0, .pointer (some ⟨g, 0, none⟩)), (1, .int .i64 f'), (4, .pointer (some ⟨g0, 0, none⟩)), (5, .pointer (some ⟨g1, 0, none⟩))], [⟨g, [.slice A bt.length c, .int .i64 (i : Int)], 119⟩, ⟨g0, [.int .u64 0, .int .u64 0], 25⟩, ⟨g1, [.int .i64 (P : Int), .int .i64 emin, .int .i64 emax, .int .i64 (W : Int), .int .i64 (E : Int), .bool ex], 83⟩], [Row .u8 A c bt]⟩) ?_ ?_
 ·rcases hf' with ⟨rfl, rfl, rfl, rfl, rfl, rfl, rfl⟩ | ⟨rfl, rfl⟩
  ·refine xr [(1, [2])] [(18, .bool ((P : Int) == 0))] ?_
   refine xsf zP ?_
   refine SW_skip ?_
   exact xw (zsS zi0 zs0)
  ·refine xr [(1, [2])] [(18, .bool true)] ?_
   refine xs1 ?_
   refine xg ?_
   refine xcv 19 (ct_spec_Describe (1) hs) zs0 ?_
   refine xy [(1, [2])] [] [(2, [.int .i64 (P : Int), .int .i64 emin, .int .i64 emax, .int .i64 (W : Int), .int .i64 (E : Int), .bool ex])] ?_
   refine xrl [] [(1, .int .i64 1)] ?_
   exact xw (zsS zi0 zs0)
 ·rintro s' hw
  refine SW_weak hw ?_
  clear hw
  have w1 : Ve (IntKind.i64.wrap (emin - (P : Int))) (emin - (P : Int)) := ⟨wrap_i64 (by omega)⟩
  have w2 : Ve (IntKind.i64.wrap (emin - (P : Int) + 1)) (emin - (P : Int) + 1) := ⟨wrap_i64 (by omega)⟩
  refine xg ?_
  refine xn 1 [] [(20, .pointer (some ⟨g, 0, none⟩))] ?_
  (refine xcm 21 [true] (ct_spec_l1Reader_next (g) (A) (c) (bt) ((i : Int)) (i) ⟨rfl⟩ hi hx dx) (zsS zi0 zs0) (fun zz => ?_); obtain ⟨⟨z4, z5⟩, p6⟩ := zz)
  refine xz [] [(6, .int .i64 (z5 : Int))] ?_
  refine xg ?_
  refine xn 1 [] [(22, .pointer (some ⟨g, 0, none⟩))] ?_
  (refine xcm 23 [true] (ct_spec_l1Reader_next (g) (A) (c) (bt) ((z4 : Int)) (z4) ⟨rfl⟩ (by omega) hx dx) (zsS zi0 zs0) (fun zz => ?_); obtain ⟨⟨z7, z8⟩, p9⟩ := zz)
  refine xz [] [(7, .bool (Int.tmod (z8 : Int) 3 == 1))] ?_
  refine xg ?_
  refine xn 2 [] [(27, .agg #[.int .i64 0, .bool (Int.tmod (z8 : Int) 3 == 1), .int .u64 0, .int .u64 0, .int .i64 0])] ?_
  refine xb 8 [.int .i64 0, .bool false, .int .u64 0, .int .u64 0, .int .i64 0] 27 (fun g2 => ?_)
  refine xy [(3, [3])] [] [(3, [.int .i64 0, .bool (Int.tmod (z8 : Int) 3 == 1), .int .u64 0, .int .u64 0, .int .i64 0])] ?_
  refine xg ?_
  refine xn 4 [(1, [2]), (3, [2])] [(31, .int .i64 (P : Int)), (29, .int .i64 emin)] ?_
  refine xve 32 IntKind.i64 (IntKind.wrap IntKind.i64 (emin - (P : Int))) (emin - (P : Int)) w1 ?_
  refine xve 33 IntKind.i64 (IntKind.wrap IntKind.i64 (emin - (P : Int) + 1)) (emin - (P : Int) + 1) w2 ?_
  refine xz [] [(9, .int .i64 (emin - (P : Int) + 1))] ?_
  generalize hnb : (Int.tmod (z8 : Int) 3 == 1) = nb
  have v12 : Ve (Int.tmod (z5 : Int) 12) ((z5 % 12 : Nat) : Int) := ⟨by rw [Int.tmod_eq_emod_of_nonneg (by omega)]; omega⟩
  have hq0 : -9223372036854775808 ≤ emin - (P : Int) + 1 ∧ emin - (P : Int) + 1 ≤ 9223372036854775807 := by omega
  have hb0 : 0 < B128 := by decide
  have hbv : ∀ x y : Nat, x < 18446744073709551616 → y < 18446744073709551616 → x + y * 18446744073709551616 < B128 := fun x y hx hy => by
   have : B128 = 340282366920938463463374607431768211456 := by decide
   omega
  have hsm : ∀ x y : Nat, x < 18446744073709551616 → y < 18446744073709551616 → Sm (x + y * 18446744073709551616) := fun x y hx hy => sm128 (Nat.lt_trans (hbv x y hx hy) (by decide))
  have hdv : ∀ x y n : Nat, x < 18446744073709551616 → y < 18446744073709551616 → (x + y * 18446744073709551616) / 2 ^ n < B128 := fun x y n hx hy => Nat.lt_of_le_of_lt (Nat.div_le_self _ _) (hbv x y hx hy)
  have hmv : ∀ x y n : Nat, x < 18446744073709551616 → y < 18446744073709551616 → (x + y * 18446744073709551616) % 2 ^ n < B128 := fun x y n hx hy => Nat.lt_of_le_of_lt (Nat.mod_le _ _) (hbv x y hx hy)
  have hw1 := h.w1
  have hW : W ≤ 128 := h.w2
  have hle : ∀ z : Nat, 129 - P + z % (P - 1) ≤ 100000000000 := fun z => by
   have := Nat.mod_lt z (show 0 < P - 1 by omega)
   omega
  have hN : ∀ z : Nat, Nn (IntKind.i64.wrap (((129 - P : Nat) : Int) + ((z % (P - 1) : Nat) : Int))) (129 - P + z % (P - 1)) := fun z => by
   have := Nat.mod_lt z (show 0 < P - 1 by omega)
   exact Nn.wrap (by omega) (by omega)
  have b128 : 2 ^ P < B128 := Nat.pow_lt_pow_right (a := 2) (n := 128) (by decide) (by omega)
  have v1 : Ve (IntKind.i64.wrap ((P : Int) - 1)) ((P - 1 : Nat) : Int) := ⟨by rw [wrap_i64 (by omega)]; omega⟩
  have v129 : Ve (IntKind.i64.wrap (129 - (P : Int))) ((129 - P : Nat) : Int) := ⟨by rw [wrap_i64 (by omega)]; omega⟩
  refine SW_cut (fun s' => ∃ (i' : Nat) (cc : Int) (n2 : Bool) (S : Nat) (q : Int), i' ≤ bt.length ∧ S < B128 ∧ (-9223372036854775808 ≤ q ∧ q ≤ 9223372036854775807) ∧ Weak2 s' ⟨[(0, .pointer (some ⟨g, 0, none⟩)), (1, .int .i64 f'), (4, .pointer (some ⟨g0, 0, none⟩)), (6, .int .i64 (z5 : Int)), (7, .bool nb), (8, .pointer (some ⟨g2, 0, none⟩)), (9, .int .i64 (emin - (P : Int) + 1))], [⟨g, [.slice A bt.length c, .int .i64 (i' : Int)], 119⟩, ⟨g0, [.int .u64 0, .int .u64 0], 25⟩, ⟨g2, [.int .i64 cc, .bool n2, .int .u64 (hiI S), .int .u64 (loI S), .int .i64 q], 27⟩], [Row .u8 A c bt]⟩) ?_ ?_
  ·refine xg ?_
   refine xn 1 [] [(34, .int .i64 (z5 : Int))] ?_
   refine xve 35 IntKind.i64 (Int.tmod (z5 : Int) 12) ((((z5 % 12) : Nat) : Int)) v12 ?_
   refine xz [] [] ?_
   refine SW_block ?_
   refine xr [] [(131, .bool ((((z5 % 12) : Nat) : Int) == 0))] ?_
   refine xs ((((z5 % 12) : Nat) : Int) == 0) (fun q0 => ?_) (fun q0 => ?_)
   ·refine xql [(1, [3])] [] [(3, [.int .i64 1, .bool nb, .int .u64 0, .int .u64 0, .int .i64 0])] ?_
    refine ⟨z7, 1, nb, 0, 0, p9.1, hb0, by decide, ?_⟩
    exact xw2 [true, true, false, true] (zsS zi0 zs0)
   ·refine xr [] [(134, .bool ((((z5 % 12) : Nat) : Int) == 1))] ?_
    refine xs ((((z5 % 12) : Nat) : Int) == 1) (fun q1 => ?_) (fun q1 => ?_)
    ·refine xql [(1, [3])] [] [(3, [.int .i64 4, .bool nb, .int .u64 0, .int .u64 0, .int .i64 0])] ?_
     refine ⟨z7, 4, nb, 0, 0, p9.1, hb0, by decide, ?_⟩
     exact xw2 [true, true, false, true] (zsS zi0 zs0)
    ·refine xr [] [(137, .bool ((((z5 % 12) : Nat) : Int) == 2))] ?_
     refine xs ((((z5 % 12) : Nat) : Int) == 2) (fun q2 => ?_) (fun q2 => ?_)
     ·refine xql [(1, [3])] [] [(3, [.int .i64 5, .bool false, .int .u64 0, .int .u64 0, .int .i64 0])] ?_
      refine ⟨z7, 5, false, 0, 0, p9.1, hb0, by decide, ?_⟩
      exact xw2 [true, true, false, true] (zsS zi0 zs0)
     ·refine xr [] [(140, .bool ((((z5 % 12) : Nat) : Int) == 3))] ?_
      refine xs ((((z5 % 12) : Nat) : Int) == 3) (fun q3 => ?_) (fun q3 => ?_)
      ·refine xq [(1, [3])] [] [(3, [.int .i64 2, .bool nb, .int .u64 0, .int .u64 0, .int .i64 0])] ?_
       refine xq [(2, [3])] [] [(3, [.int .i64 2, .bool nb, .int .u64 0, .int .u64 0, .int .i64 (emin - (P : Int) + 1)])] ?_
       refine xdml [false, true, true, true] (fun hB => ?_)
       refine xdk [(0, []), (2, []), (6, []), (7, [1]), (9, []), (11, []), (12, [1])] [(157, .int .i64 (P : Int)), (154, .pointer (some ⟨g, 0, none⟩)), (152, .int .i64 (P : Int)), (147, .pointer (some ⟨g, 0, none⟩)), (145, .pointer (some ⟨g, 0, none⟩))] hB ?_
       refine xdve 8 hB 153 IntKind.i64 (IntKind.wrap IntKind.i64 (129 - (P : Int))) ((((129 - P) : Nat) : Int)) v129 ?_
       refine xdve 13 hB 158 IntKind.i64 (IntKind.wrap IntKind.i64 ((P : Int) - 1)) ((((P - 1) : Nat) : Int)) v1 ?_
       (refine xdcm 1 146 [true] [false, true, true, true] (ct_spec_l1Reader_wide (g) (A) (c) (bt) ((z7 : Int)) (z7) ⟨rfl⟩ (by omega) hx dx) (zsS zi0 zs0) (zsS zi0 zs0) (fun zz => ?_); obtain ⟨⟨z10, z11⟩, p12⟩ := zz)
       (refine xdcm 3 148 [true] [false, true, true, true] (ct_spec_l1Reader_wide (g) (A) (c) (bt) ((z10 : Int)) (z10) ⟨rfl⟩ (by omega) hx dx) (zsS zi0 zs0) (zsS zi0 zs0) (fun zz => ?_); obtain ⟨⟨z13, z14⟩, p15⟩ := zz)
       refine xdbl 4 149 [.int .u64 (z11 : Int), .int .u64 (z14 : Int)] 22 2 (fun g3 => ?_)
       (refine xdcm 5 150 [false, false, false, false, true] [false, true, true, true, false] (ct_spec_l1In' (g3) (z11) (z14) (by omega) (by omega)) zs0 (zsS zi0 zs0) (fun zz => ?_); obtain ⟨z16, z17⟩ := zz)
       (refine xdcm 10 155 [true] [false, true, true, true] (ct_spec_l1Reader_next (g) (A) (c) (bt) ((z13 : Int)) (z13) ⟨rfl⟩ (by omega) hx dx) (zsS (ziS zi0) zs0) (zsS (ziS zi0) zs0) (fun zz => ?_); obtain ⟨⟨z18, z19⟩, p20⟩ := zz)
       refine xdqri 14 hB 159 ((z19 : Int)) ((((P - 1) : Nat) : Int)) ((z19)) ((P - 1)) ⟨rfl⟩ ⟨rfl⟩ (by omega) (by omega) ?_
       refine xdk [(15, [])] [(160, .int .i64 (IntKind.wrap IntKind.i64 ((((129 - P) : Nat) : Int) + (((z19 % (P - 1)) : Nat) : Int))))] hB ?_
       refine xdr 16 161 (ct_spec_l1Right (z11 + z14 * 18446744073709551616) (z16) (z17) (IntKind.wrap IntKind.i64 ((((129 - P) : Nat) : Int) + (((z19 % (P - 1)) : Nat) : Int))) (129 - P + z19 % (P - 1)) (hN _) (hle _) (hsm _ _ (by omega) (by omega))) (zsS zi0 zs0) (fun A0 k0 => ?_)
       refine xdv 17 162 (ct_spec_l2Word ((z11 + z14 * 18446744073709551616) / 2 ^ (129 - P + z19 % (P - 1))) (A0) (k0) (hdv _ _ _ (by omega) (by omega))) (zsS zi0 zs0) ?_
       refine xdk [(18, [])] [(163, .pointer (some ⟨g2, 2, none⟩))] hB ?_
       refine xds 19 [3] [(3, [.int .i64 2, .bool nb, .int .u64 (hiI ((z11 + z14 * 18446744073709551616) / 2 ^ (129 - P + z19 % (P - 1)))), .int .u64 (loI ((z11 + z14 * 18446744073709551616) / 2 ^ (129 - P + z19 % (P - 1)))), .int .i64 (emin - (P : Int) + 1)])] ?_
       refine xdz ?_
       refine ⟨z18, 2, nb, (z11 + z14 * 18446744073709551616) / 2 ^ (129 - P + z19 % (P - 1)), emin - (P : Int) + 1, p20.1, hdv _ _ _ p12.2 p15.2, hq0, ?_⟩
       exact xw2 [true, true, false, true] (zsS (ziS (ziS zi0)) zs0)
      ·refine xr [] [(164, .bool ((((z5 % 12) : Nat) : Int) == 4))] ?_
       refine xs ((((z5 % 12) : Nat) : Int) == 4) (fun q4 => ?_) (fun q4 => ?_)
       ·refine xg ?_
        refine xn 1 [] [(166, .pointer (some ⟨g, 0, none⟩))] ?_
        (refine xcm 167 [true] (ct_spec_l1Reader_wide (g) (A) (c) (bt) ((z7 : Int)) (z7) ⟨rfl⟩ (by omega) hx dx) (zsS zi0 zs0) (fun zz => ?_); obtain ⟨⟨z10, z11⟩, p12⟩ := zz)
        refine xn 3 [] [(168, .pointer (some ⟨g, 0, none⟩))] ?_
        (refine xcm 169 [true] (ct_spec_l1Reader_wide (g) (A) (c) (bt) ((z10 : Int)) (z10) ⟨rfl⟩ (by omega) hx dx) (zsS zi0 zs0) (fun zz => ?_); obtain ⟨⟨z13, z14⟩, p15⟩ := zz)
        refine xy [(5, [1])] [] [(1, [.int .u64 (z11 : Int), .int .u64 (z14 : Int)])] ?_
        refine SW_ret ?_
        refine xmeg (.agg #[.int .u64 (z11 : Int), .int .u64 (z14 : Int)]) [1] ?_
        exact ⟨⟨(z13, z14 + z11 * 18446744073709551616), p15.1, hbv z14 z11 p15.2 p12.2⟩, [true], by dsimp only; rw [hi_mk _ _ p12.2 p15.2, lo_mk _ _ p15.2], rfl, zs0⟩
       ·refine xr [] [(171, .bool ((((z5 % 12) : Nat) : Int) == 5))] ?_
        refine xs ((((z5 % 12) : Nat) : Int) == 5) (fun q5 => ?_) (fun q5 => ?_)
        ·refine xdm [false, true, true, true] (fun hB => ?_)
         refine xdk [(0, []), (2, []), (6, []), (7, [1])] [(180, .int .i64 (W : Int)), (175, .pointer (some ⟨g, 0, none⟩)), (173, .pointer (some ⟨g, 0, none⟩))] hB ?_
         (refine xdcm 1 174 [true] [false, true, true, true] (ct_spec_l1Reader_wide (g) (A) (c) (bt) ((z7 : Int)) (z7) ⟨rfl⟩ (by omega) hx dx) (zsS zi0 zs0) (zsS zi0 zs0) (fun zz => ?_); obtain ⟨⟨z10, z11⟩, p12⟩ := zz)
         (refine xdcm 3 176 [true] [false, true, true, true] (ct_spec_l1Reader_wide (g) (A) (c) (bt) ((z10 : Int)) (z10) ⟨rfl⟩ (by omega) hx dx) (zsS zi0 zs0) (zsS zi0 zs0) (fun zz => ?_); obtain ⟨⟨z13, z14⟩, p15⟩ := zz)
         refine xdbl 4 177 [.int .u64 (z11 : Int), .int .u64 (z14 : Int)] 22 2 (fun g3 => ?_)
         (refine xdcm 5 178 [false, false, false, false, true] [false, true, true, true, false] (ct_spec_l1In' (g3) (z11) (z14) (by omega) (by omega)) zs0 (zsS zi0 zs0) (fun zz => ?_); obtain ⟨z16, z17⟩ := zz)
         refine xdr 8 181 (ct_spec_l2Low (z11 + z14 * 18446744073709551616) (z16) (z17) ((W : Int)) (W) ⟨rfl⟩ (by omega) (hsm _ _ (by omega) (by omega))) (zsS zi0 zs0) (fun A0 k0 => ?_)
         refine xdv 9 182 (ct_spec_l2Word ((z11 + z14 * 18446744073709551616) % 2 ^ W) (A0) (k0) (hmv _ _ _ (by omega) (by omega))) (zsS zi0 zs0) ?_
         refine xds 10 [1] [(1, [.int .u64 (hiI ((z11 + z14 * 18446744073709551616) % 2 ^ W)), .int .u64 (loI ((z11 + z14 * 18446744073709551616) % 2 ^ W))])] ?_
         refine xdz ?_
         refine SW_ret ?_
         refine xmeg (.agg #[.int .u64 (hiI ((z11 + z14 * 18446744073709551616) % 2 ^ W)), .int .u64 (loI ((z11 + z14 * 18446744073709551616) % 2 ^ W))]) [1] ?_
         exact ⟨⟨(z13, (z11 + z14 * 18446744073709551616) % 2 ^ W), p15.1, hmv z11 z14 W p12.2 p15.2⟩, [true], rfl, rfl, zs0⟩
        ·refine xq [(1, [3])] [] [(3, [.int .i64 3, .bool nb, .int .u64 0, .int .u64 0, .int .i64 0])] ?_
         refine xg ?_
         refine xn 2 [(1, [2])] [(38, .int .i64 (P : Int))] ?_
         refine xve 39 IntKind.i64 (IntKind.wrap IntKind.i64 ((P : Int) - 1)) ((((P - 1) : Nat) : Int)) v1 ?_
         refine xcr 40 (ct_spec_l2Two ((((P - 1) : Nat) : Int)) (P - 1) ⟨rfl⟩ (by omega)) zs0 (fun A0 k0 => ?_)
         refine xz [] [(10, .slice A0 (List.length (ofN B32 (2 ^ (P - 1)))) k0)] ?_
         have sP : Sm (2 ^ P) := sm128 (Nat.lt_of_lt_of_le b128 (by decide))
         have sP1 : Sm (2 ^ (P - 1)) := sP.mono (Nat.pow_le_pow_right (by decide) (by omega))
         have hc3 : ∀ z : Nat, Nn (IntKind.u64.wrap (IntKind.i64.wrap (1 + Int.tmod (z : Int) 3))) (1 + z % 3) := fun z => by
          have e : Int.tmod (z : Int) 3 = ((z % 3 : Nat) : Int) := by rw [Int.tmod_eq_emod_of_nonneg (by omega)]; omega
          rw [e]
          exact Nn.u (Nn.wrap (by omega) (by omega)) (by omega)
         have hc4 : ∀ z : Nat, Nn (IntKind.u64.wrap (Int.tmod (z : Int) 4)) (z % 4) := fun z => by
          have e : Int.tmod (z : Int) 4 = ((z % 4 : Nat) : Int) := by rw [Int.tmod_eq_emod_of_nonneg (by omega)]; omega
          rw [e]
          exact Nn.u ⟨rfl⟩ (by omega)
         have hs3 : ∀ z : Nat, Sm (1 + z % 3) := fun z => sm128 (Nat.lt_trans (show 1 + z % 3 < 4 by omega) (by decide))
         have hs4 : ∀ z : Nat, Sm (z % 4) := fun z => sm128 (Nat.lt_trans (show z % 4 < 4 by omega) (by decide))
         have hsl : ∀ z : Nat, Sm (z % 2 ^ (P - 1)) := fun z => sP1.mono (Nat.le_of_lt (Nat.mod_lt _ (Nat.pow_pos (by decide))))
         have hl3 : ∀ z : Nat, 1 + z % 3 ≤ 2 ^ P := fun z => by
          have h1 : 1 + z % 3 ≤ 2 ^ 2 := by omega
          exact Nat.le_trans h1 (Nat.pow_le_pow_right (by decide) p0)
         have b128' := b128
         have t2 := two_P hF
         have hl4 : ∀ z : Nat, 2 ^ (P - 1) + z % 2 ^ (P - 1) < B128 := fun z => by
          have := Nat.mod_lt z (Nat.pow_pos (n := P - 1) (show 0 < 2 by decide))
          omega
         have hP1 : 2 ^ (P - 1) < B128 := Nat.lt_of_le_of_lt (Nat.pow_le_pow_right (by decide) (by omega)) b128
         have t2 := two_P hF
         have hP113 : 2 ^ P ≤ 2 ^ 113 := Nat.pow_le_pow_right (by decide) p1
         have pd : (2 : Nat) ^ 113 + 2 ^ 113 < B128 := by decide
         have hp4 : 4 ≤ 2 ^ (P - 1) := (show 2 ^ 2 ≤ 2 ^ (P - 1) from Nat.pow_le_pow_right (by decide) (by omega))
         refine SW_cut (fun s' => ∃ (i' : Nat) (Sg : Nat) (A1 : Option Addr) (c1 : Nat), i' ≤ bt.length ∧ Sg < B128 ∧ Weak2 s' ⟨[(0, .pointer (some ⟨g, 0, none⟩)), (1, .int .i64 f'), (4, .pointer (some ⟨g0, 0, none⟩)), (5, .pointer (some ⟨g1, 0, none⟩)), (6, .int .i64 (z5 : Int)), (7, .bool nb), (8, .pointer (some ⟨g2, 0, none⟩)), (9, .int .i64 (emin - (P : Int) + 1)), (10, .slice A1 (ofN B32 Sg).length c1)], [⟨g, [.slice A bt.length c, .int .i64 (i' : Int)], 119⟩, ⟨g0, [.int .u64 0, .int .u64 0], 25⟩, ⟨g1, [.int .i64 (P : Int), .int .i64 emin, .int .i64 emax, .int .i64 (W : Int), .int .i64 (E : Int), .bool ex], 83⟩, ⟨g2, [.int .i64 3, .bool nb, .int .u64 0, .int .u64 0, .int .i64 0], 27⟩], [Row .u8 A c bt, Row .u64 A1 c1 (ofN B32 Sg)]⟩) ?_ ?_
         ·refine xg ?_
          refine xn 1 [] [(41, .pointer (some ⟨g, 0, none⟩))] ?_
          (refine xcm 42 [true] (ct_spec_l1Reader_next (g) (A) (c) (bt) ((z7 : Int)) (z7) ⟨rfl⟩ (by omega) hx dx) (zsS (ziS zi0) zs0) (fun zz => ?_); obtain ⟨⟨z10, z11⟩, p12⟩ := zz)
          refine xz [] [(43, .int .i64 (Int.tmod (z11 : Int) 5))] ?_
          refine SW_block ?_
          refine xr [] [(56, .bool (Int.tmod (z11 : Int) 5 == 0))] ?_
          refine xs (Int.tmod (z11 : Int) 5 == 0) (fun q6 => ?_) (fun q6 => ?_)
          ·refine SW_skip ?_
           refine ⟨(z10), (2 ^ (P - 1)), (A0), (k0), ?_, ?_, xw2 [true, true, true, true] (zsS (ziS zi0) (zsS zi0 zs0))⟩
           ·omega
           ·exact hP1
          ·refine xr [] [(58, .bool (Int.tmod (z11 : Int) 5 == 1))] ?_
           refine xs (Int.tmod (z11 : Int) 5 == 1) (fun q7 => ?_) (fun q7 => ?_)
           ·refine SW_region ?_
            refine xn 2 [(1, [2])] [(61, .int .i64 (P : Int))] ?_
            refine xcr 62 (ct_spec_l2Two ((P : Int)) (P) ⟨rfl⟩ (by omega)) zs0 (fun A1 k1 => ?_)
            refine xn 4 [] [(63, .pointer (some ⟨g, 0, none⟩))] ?_
            (refine xcm 64 [true] (ct_spec_l1Reader_next (g) (A) (c) (bt) ((z10 : Int)) (z10) ⟨rfl⟩ (by omega) hx dx) (zsS (ziS (ziS zi0)) zs0) (fun zz => ?_); obtain ⟨⟨z13, z14⟩, p15⟩ := zz)
            refine xn 8 [] [(67, .int .u64 (IntKind.wrap IntKind.u64 (IntKind.wrap IntKind.i64 (1 + Int.tmod (z14 : Int) 3))))] ?_
            refine xcr 68 (ct_spec_l1Of (IntKind.wrap IntKind.u64 (IntKind.wrap IntKind.i64 (1 + Int.tmod (z14 : Int) 3))) (1 + z14 % 3) (hc3 _) (by omega)) zs0 (fun A2 k2 => ?_)
            refine xcr 69 (ct_spec_l1Sub (2 ^ P) (1 + z14 % 3) (A1) (A2) (k1) (k2) sP (hl3 _)) (zsS (ziS zi0) (zsS zi0 zs0)) (fun A3 k3 => ?_)
            refine xz [] [(10, .slice A3 (List.length (ofN B32 (2 ^ P - (1 + z14 % 3)))) k3)] ?_
            refine ⟨(z13), (2 ^ P - (1 + z14 % 3)), (A3), (k3), ?_, ?_, xw2 [true, true, true, true] (zsS (ziS (ziS (ziS (ziS zi0)))) (zsS zi0 zs0))⟩
            ·omega
            ·omega
           ·refine xr [] [(70, .bool (Int.tmod (z11 : Int) 5 == 2))] ?_
            refine xs (Int.tmod (z11 : Int) 5 == 2) (fun q8 => ?_) (fun q8 => ?_)
            ·refine SW_region ?_
             refine xn 2 [] [(73, .pointer (some ⟨g, 0, none⟩)), (72, .slice A0 (List.length (ofN B32 (2 ^ (P - 1)))) k0)] ?_
             (refine xcm 74 [true] (ct_spec_l1Reader_next (g) (A) (c) (bt) ((z10 : Int)) (z10) ⟨rfl⟩ (by omega) hx dx) (zsS (ziS zi0) zs0) (fun zz => ?_); obtain ⟨⟨z13, z14⟩, p15⟩ := zz)
             refine xn 5 [] [(76, .int .u64 (IntKind.wrap IntKind.u64 (Int.tmod (z14 : Int) 4)))] ?_
             refine xcr 77 (ct_spec_l1Of (IntKind.wrap IntKind.u64 (Int.tmod (z14 : Int) 4)) (z14 % 4) (hc4 _) (by omega)) zs0 (fun A1 k1 => ?_)
             refine xcr 78 (ct_spec_l1Add (2 ^ (P - 1)) (z14 % 4) (A0) (A1) (k0) (k1) sP1 (hs4 _)) (zsS (ziS zi0) (zsS zi0 zs0)) (fun A2 k2 => ?_)
             refine xz [] [(10, .slice A2 (List.length (ofN B32 (2 ^ (P - 1) + z14 % 4))) k2)] ?_
             refine ⟨(z13), (2 ^ (P - 1) + z14 % 4), (A2), (k2), ?_, ?_, xw2 [true, true, true, true] (zsS (ziS (ziS (ziS zi0))) (zsS zi0 zs0))⟩
             ·omega
             ·omega
            ·refine xdml [false, true, true, true] (fun hB => ?_)
             refine xdk [(0, []), (1, []), (3, []), (7, []), (8, [1])] [(52, .int .i64 (P : Int)), (47, .pointer (some ⟨g, 0, none⟩)), (45, .pointer (some ⟨g, 0, none⟩)), (44, .slice A0 (List.length (ofN B32 (2 ^ (P - 1)))) k0)] hB ?_
             refine xdve 9 hB 53 IntKind.i64 (IntKind.wrap IntKind.i64 ((P : Int) - 1)) ((((P - 1) : Nat) : Int)) v1 ?_
             (refine xdcm 2 46 [true] [false, true, true, true] (ct_spec_l1Reader_wide (g) (A) (c) (bt) ((z10 : Int)) (z10) ⟨rfl⟩ (by omega) hx dx) (zsS (ziS zi0) zs0) (zsS zi0 (zsS (ziS zi0) zs0)) (fun zz => ?_); obtain ⟨⟨z13, z14⟩, p15⟩ := zz)
             (refine xdcm 4 48 [true] [false, true, true, true] (ct_spec_l1Reader_wide (g) (A) (c) (bt) ((z13 : Int)) (z13) ⟨rfl⟩ (by omega) hx dx) (zsS (ziS zi0) zs0) (zsS zi0 (zsS (ziS zi0) zs0)) (fun zz => ?_); obtain ⟨⟨z16, z17⟩, p18⟩ := zz)
             refine xdbl 5 49 [.int .u64 (z14 : Int), .int .u64 (z17 : Int)] 22 2 (fun g3 => ?_)
             (refine xdcm 6 50 [false, false, false, false, true] [false, true, true, true, false] (ct_spec_l1In' (g3) (z14) (z17) (by omega) (by omega)) zs0 (zsS zi0 (zsS (ziS zi0) zs0)) (fun zz => ?_); obtain ⟨z19, z20⟩ := zz)
             refine xdr 10 54 (ct_spec_l2Low (z14 + z17 * 18446744073709551616) (z19) (z20) ((((P - 1) : Nat) : Int)) (P - 1) ⟨rfl⟩ (by omega) (hsm _ _ (by omega) (by omega))) (zsS zi0 zs0) (fun A1 k1 => ?_)
             refine xdr 11 55 (ct_spec_l1Add (2 ^ (P - 1)) ((z14 + z17 * 18446744073709551616) % 2 ^ (P - 1)) (A0) (A1) (k0) (k1) sP1 (hsl _)) (zsS (ziS (ziS zi0)) (zsS zi0 zs0)) (fun A2 k2 => ?_)
             refine xdk [(12, [])] [(10, .slice A2 (List.length (ofN B32 (2 ^ (P - 1) + (z14 + z17 * 18446744073709551616) % 2 ^ (P - 1)))) k2)] hB ?_
             refine xdz ?_
             refine ⟨(z16), (2 ^ (P - 1) + (z14 + z17 * 18446744073709551616) % 2 ^ (P - 1)), (A2), (k2), ?_, ?_, xw2 [true, true, true, true] (zsS (ziS (ziS (ziS (ziS zi0)))) (zsS zi0 zs0))⟩
             ·omega
             ·exact hl4 _
         ·rintro s' ⟨i', Sg, A1, c1, hi', hSg, hw⟩
          refine SW_weak2 hw ?_
          clear hw
          have sSg : Sm Sg := sm128 (Nat.lt_trans hSg (by decide))
          have vd : Nn (IntKind.i64.wrap (IntKind.i64.wrap (emax - emin) + 1)) (emax - emin + 1).toNat := Nn.wrap (by rw [wrap_i64 (by omega)]; have h1 := h.mn; have h2 := d.x1; omega) (by omega)
          have hd0 : 0 < (emax - emin + 1).toNat := by have := h.mn; have := d.x1; omega
          refine xg ?_
          refine xn 1 [] [(79, .slice A1 (List.length (ofN B32 Sg)) c1)] ?_
          refine xcv 80 (ct_spec_l2Word (Sg) (A1) (c1) hSg) (zsS (ziS zi0) zs0) ?_
          refine xy [(3, [3])] [] [(3, [.int .i64 3, .bool nb, .int .u64 (hiI Sg), .int .u64 (loI Sg), .int .i64 0])] ?_
          refine xg ?_
          refine xn 1 [] [(82, .pointer (some ⟨g, 0, none⟩))] ?_
          (refine xcm 83 [true] (ct_spec_l1Reader_next (g) (A) (c) (bt) (((i' : Nat) : Int)) (i') ⟨rfl⟩ hi' hx dx) (zsS zi0 zs0) (fun zz => ?_); obtain ⟨⟨z10, z11⟩, p12⟩ := zz)
          refine xn 4 [] [(85, .pointer (some ⟨g, 0, none⟩)), (84, .int .i64 (IntKind.wrap IntKind.i64 ((z11 : Int) * 256)))] ?_
          (refine xcm 86 [true] (ct_spec_l1Reader_next (g) (A) (c) (bt) ((z10 : Int)) (z10) ⟨rfl⟩ (by omega) hx dx) (zsS zi0 zs0) (fun zz => ?_); obtain ⟨⟨z13, z14⟩, p15⟩ := zz)
          refine xz [] [(11, .int .i64 (IntKind.wrap IntKind.i64 (IntKind.wrap IntKind.i64 ((z11 : Int) * 256) + (z14 : Int))))] ?_
          refine xg ?_
          refine xn 1 [] [(88, .pointer (some ⟨g, 0, none⟩))] ?_
          (refine xcm 89 [true] (ct_spec_l1Reader_next (g) (A) (c) (bt) ((z13 : Int)) (z13) ⟨rfl⟩ (by omega) hx dx) (zsS zi0 zs0) (fun zz => ?_); obtain ⟨⟨z16, z17⟩, p18⟩ := zz)
          refine xz [] [(90, .int .i64 (Int.tmod (z17 : Int) 4))] ?_
          refine SW_block ?_
          refine xr [] [(102, .bool (Int.tmod (z17 : Int) 4 == 0))] ?_
          refine xs (Int.tmod (z17 : Int) 4 == 0) (fun q6 => ?_) (fun q6 => ?_)
          ·refine xql [(4, [2]), (8, [3])] [] [(3, [.int .i64 3, .bool nb, .int .u64 (hiI Sg), .int .u64 (loI Sg), .int .i64 (IntKind.wrap IntKind.i64 (IntKind.wrap IntKind.i64 (IntKind.wrap IntKind.i64 (Int.tmod (IntKind.wrap IntKind.i64 (IntKind.wrap IntKind.i64 ((z11 : Int) * 256) + (z14 : Int))) 120 - 60) - (P : Int)) + 1))])] ?_
           refine ⟨(z16), (3 : Int), (nb), (Sg), (IntKind.wrap IntKind.i64 (IntKind.wrap IntKind.i64 (IntKind.wrap IntKind.i64 (Int.tmod (IntKind.wrap IntKind.i64 (IntKind.wrap IntKind.i64 ((z11 : Int) * 256) + (z14 : Int))) 120 - 60) - (P : Int)) + 1) : Int), ?_, ?_, ?_, xw2 [true, true, false, true] (zsS zi0 zs0)⟩
           ·omega
           ·exact hSg
           ·exact wrap_rng _
          ·refine xr [] [(112, .bool (Int.tmod (z17 : Int) 4 == 1))] ?_
           refine xs (Int.tmod (z17 : Int) 4 == 1) (fun q7 => ?_) (fun q7 => ?_)
           ·refine xql [(5, [3])] [] [(3, [.int .i64 3, .bool nb, .int .u64 (hiI Sg), .int .u64 (loI Sg), .int .i64 (IntKind.wrap IntKind.i64 (emin - (P : Int) + 1 + Int.tmod (IntKind.wrap IntKind.i64 (IntKind.wrap IntKind.i64 ((z11 : Int) * 256) + (z14 : Int))) 3))])] ?_
            refine ⟨(z16), (3 : Int), (nb), (Sg), (IntKind.wrap IntKind.i64 (emin - (P : Int) + 1 + Int.tmod (IntKind.wrap IntKind.i64 (IntKind.wrap IntKind.i64 ((z11 : Int) * 256) + (z14 : Int))) 3) : Int), ?_, ?_, ?_, xw2 [true, true, false, true] (zsS zi0 zs0)⟩
            ·omega
            ·exact hSg
            ·exact wrap_rng _
           ·refine xr [] [(119, .bool (Int.tmod (z17 : Int) 4 == 2))] ?_
            refine xs (Int.tmod (z17 : Int) 4 == 2) (fun q8 => ?_) (fun q8 => ?_)
            ·refine xql [(1, [2]), (3, [2]), (10, [3])] [] [(3, [.int .i64 3, .bool nb, .int .u64 (hiI Sg), .int .u64 (loI Sg), .int .i64 (IntKind.wrap IntKind.i64 (IntKind.wrap IntKind.i64 (IntKind.wrap IntKind.i64 (emax - (P : Int)) + 1) - Int.tmod (IntKind.wrap IntKind.i64 (IntKind.wrap IntKind.i64 ((z11 : Int) * 256) + (z14 : Int))) 3))])] ?_
             refine ⟨(z16), (3 : Int), (nb), (Sg), (IntKind.wrap IntKind.i64 (IntKind.wrap IntKind.i64 (IntKind.wrap IntKind.i64 (emax - (P : Int)) + 1) - Int.tmod (IntKind.wrap IntKind.i64 (IntKind.wrap IntKind.i64 ((z11 : Int) * 256) + (z14 : Int))) 3) : Int), ?_, ?_, ?_, xw2 [true, true, false, true] (zsS zi0 zs0)⟩
             ·omega
             ·exact hSg
             ·exact wrap_rng _
            ·refine SW_region ?_
             refine xn 8 [(3, [2]), (5, [2])] [(98, .int .i64 (IntKind.wrap IntKind.i64 (IntKind.wrap IntKind.i64 (emax - emin) + 1))), (92, .int .i64 (IntKind.wrap IntKind.i64 (IntKind.wrap IntKind.i64 ((z11 : Int) * 256) + (z14 : Int)))), (91, .int .i64 (emin - (P : Int) + 1))] ?_
             refine xqri 99 (IntKind.wrap IntKind.i64 (IntKind.wrap IntKind.i64 ((z11 : Int) * 256) + (z14 : Int))) (IntKind.wrap IntKind.i64 (IntKind.wrap IntKind.i64 (emax - emin) + 1)) ((((z11) * 256) + (z14))) ((Int.toNat (emax - emin + 1))) (Nn.w (Nn.add (Nn.w (Nn.mul ⟨rfl⟩ ⟨rfl⟩) (by omega)) ⟨rfl⟩) (by omega)) vd (by omega) (by omega) ?_
             refine xy [(11, [3])] [] [(3, [.int .i64 3, .bool nb, .int .u64 (hiI Sg), .int .u64 (loI Sg), .int .i64 (IntKind.wrap IntKind.i64 (emin - (P : Int) + 1 + ((((z11 * 256 + z14) % Int.toNat (emax - emin + 1)) : Nat) : Int)))])] ?_
             refine ⟨(z16), (3 : Int), (nb), (Sg), (IntKind.wrap IntKind.i64 (emin - (P : Int) + 1 + ((((z11 * 256 + z14) % Int.toNat (emax - emin + 1)) : Nat) : Int)) : Int), ?_, ?_, ?_, xw2 [true, true, false, true] (zsS zi0 zs0)⟩
             ·omega
             ·exact hSg
             ·exact wrap_rng _
  ·rintro s' ⟨i', cc, n2, S, q, hi', hS, hq, hw⟩
   refine SW_weak2 hw ?_
   clear hw
   have zq : Zn q q := ⟨rfl, hq.1, hq.2⟩
   obtain ⟨r, er⟩ : ∃ r, packR P emin emax W E ex cc n2 S q = r := ⟨_, rfl⟩
   have hr1 : r.1 < B128 := by rw [← er]; exact packR_lt h
   have cp := ct_spec_Pack' h f' hs cc n2 (hiI S) (loI S) S ⟨rfl, rfl⟩ hS q q zq
   rw [er] at cp
   have z7n : Nn (IntKind.u64.wrap (IntKind.i64.wrap (1 + Int.tmod (z5 : Int) 7))) (1 + z5 % 7) := by
    have e : Int.tmod (z5 : Int) 7 = ((z5 % 7 : Nat) : Int) := by rw [Int.tmod_eq_emod_of_nonneg (by omega)]; omega
    rw [e]
    exact Nn.u (Nn.wrap (by omega) (by omega)) (by omega)
   have w7 : Wd 0 (IntKind.u64.wrap (IntKind.i64.wrap (1 + Int.tmod (z5 : Int) 7))) (1 + z5 % 7) := by
    rw [z7n.out]
    exact ⟨by unfold hiI; omega, by unfold loI; omega⟩
   have b7 : 1 + z5 % 7 < B128 := Nat.lt_trans (show 1 + z5 % 7 < 8 by omega) (by decide)
   have zq0 : Zn (emin - (P : Int) + 1) (emin - (P : Int) + 1) := ⟨rfl, hq0.1, hq0.2⟩
   obtain ⟨r1, r2⟩ := r
   dsimp only at cp hr1
   cases r2 with
   | true =>
    refine xg ?_
    refine xn 2 [(1, [2])] [(185, .agg #[.int .i64 cc, .bool n2, .int .u64 (hiI S), .int .u64 (loI S), .int .i64 q]), (184, .int .i64 f')] ?_
    refine xcv 186 cp zs0 ?_
    refine xn 6 [] [(188, .bool true), (187, .agg #[.int .u64 (hiI r1), .int .u64 (loI r1)])] ?_
    refine xb 12 [.int .u64 0, .int .u64 0] 25 (fun g3 => ?_)
    refine xy [(7, [3])] [(13, .bool true)] [(3, [.int .u64 (hiI r1), .int .u64 (loI r1)])] ?_
    refine SW_seq ?_
    refine xr [] [(190, .bool false)] ?_
    refine xs0 ?_
    refine SW_skip ?_
    refine xq [(0, [3]), (1, [1])] [] [(1, [.int .u64 (hiI r1), .int .u64 (loI r1)])] ?_
    refine SW_ret ?_
    refine xmeg (.agg #[.int .u64 (hiI r1), .int .u64 (loI r1)]) [1] ?_
    exact ⟨⟨(i', r1), hi', hr1⟩, [true], rfl, rfl, zs0⟩
   | false =>
    refine xg ?_
    refine xn 2 [(1, [2])] [(185, .agg #[.int .i64 cc, .bool n2, .int .u64 (hiI S), .int .u64 (loI S), .int .i64 q]), (184, .int .i64 f')] ?_
    refine xcv 186 cp zs0 ?_
    refine xn 6 [] [(188, .bool false), (187, .agg #[.int .u64 (hiI r1), .int .u64 (loI r1)])] ?_
    refine xb 12 [.int .u64 0, .int .u64 0] 25 (fun g3 => ?_)
    refine xy [(7, [3])] [(13, .bool false)] [(3, [.int .u64 (hiI r1), .int .u64 (loI r1)])] ?_
    refine SW_seq ?_
    refine xr [] [(190, .bool true)] ?_
    refine xs1 ?_
    refine SW_region ?_
    refine xn 9 [] [(200, .agg #[.int .i64 2, .bool nb, .int .u64 0, .int .u64 (IntKind.wrap IntKind.u64 (IntKind.wrap IntKind.i64 (1 + Int.tmod (z5 : Int) 7))), .int .i64 (emin - (P : Int) + 1)]), (192, .int .i64 f')] ?_
    refine xcv 201 (ct_spec_Pack' h (f') hs (2) (nb) (0) (IntKind.wrap IntKind.u64 (IntKind.wrap IntKind.i64 (1 + Int.tmod (z5 : Int) 7))) (1 + z5 % 7) w7 b7 (emin - (P : Int) + 1) (emin - (P : Int) + 1) zq0) zs0 ?_
    refine xy [(13, [3])] [] [(3, [.int .u64 (hiI (Prod.fst (packR P emin emax W E ex 2 nb (1 + z5 % 7) (emin - (P : Int) + 1)))), .int .u64 (loI (Prod.fst (packR P emin emax W E ex 2 nb (1 + z5 % 7) (emin - (P : Int) + 1))))])] ?_
    refine xq [(0, [3]), (1, [1])] [] [(1, [.int .u64 (hiI (Prod.fst (packR P emin emax W E ex 2 nb (1 + z5 % 7) (emin - (P : Int) + 1)))), .int .u64 (loI (Prod.fst (packR P emin emax W E ex 2 nb (1 + z5 % 7) (emin - (P : Int) + 1))))])] ?_
    refine SW_ret ?_
    refine xmeg (.agg #[.int .u64 (hiI (Prod.fst (packR P emin emax W E ex 2 nb (1 + z5 % 7) (emin - (P : Int) + 1)))), .int .u64 (loI (Prod.fst (packR P emin emax W E ex 2 nb (1 + z5 % 7) (emin - (P : Int) + 1))))]) [1] ?_
    exact ⟨⟨(i', (packR P emin emax W E ex 2 nb (1 + z5 % 7) (emin - (P : Int) + 1)).1), hi', packR_lt h⟩, [true], rfl, rfl, zs0⟩
theorem ct_spec_DrawUnpack (A : Option Addr) (c : Nat) (bt : List Int) (hx : bt.length ≤ 1048576) (dx : Dig 256 bt) :
  Ct Tryd.prog 32 [.slice A bt.length c] [Row .u8 A c bt] (γ := {p : Int × Nat // (-1000 ≤ p.1 ∧ p.1 ≤ 1000) ∧ p.2 < B128}) (fun p => .tuple #[.int .i64 p.1.1, .agg #[.int .u64 (hiI p.1.2), .int .u64 (loI p.1.2)]]) (fun _ => []) := by
 have h0 : 0 ≤ bt.length := Nat.zero_le _
 refine ct_of Tryd.func32 rfl (by kernel_rfl) (fun B w0 => ?_)
 refine xg ?_
 refine xn 1 [] [(2, .int .i64 0)] ?_
 refine xb 3 [.int .u64 0, .int .u64 0] 25 (fun g0 => ?_)
 refine xz [] [] ?_
 refine xg ?_
 refine xn 2 [] [(7, .agg #[.slice A (List.length bt) c, .int .i64 0])] ?_
 refine xb 8 [.slice A (List.length bt) c, .int .i64 0] 119 (fun g1 => ?_)
 refine xz [] [(4, .pointer (some ⟨g1, 0, none⟩))] ?_
 refine xg ?_
 refine xn 1 [] [(9, .pointer (some ⟨g1, 0, none⟩))] ?_
 (refine xcm 10 [false, true] (ct_spec_l1Reader_format (g1) (A) (c) (bt) (0) (0) ⟨rfl⟩ h0 hx dx) (zsS zi0 zs0) (fun zz => ?_); obtain ⟨⟨z0, z1⟩, p2⟩ := zz)
 refine xz [] [(5, .int .i64 z1)] ?_
 refine xg ?_
 refine xn 3 [] [(13, .int .i64 z1), (12, .pointer (some ⟨g1, 0, none⟩)), (11, .int .i64 z1)] ?_
 (refine xcm 14 [false, true] (ct_spec_l1Reader_word (z1) (g1) (A) (c) (bt) ((z0 : Int)) (z0) ⟨rfl⟩ (by omega) hx dx) (zsS zi0 zs0) (fun zz => ?_); obtain ⟨⟨z3, z4⟩, p5⟩ := zz)
 refine xy [(5, [0])] [(2, .int .i64 z1)] [(0, [.int .u64 (hiI z4), .int .u64 (loI z4)])] ?_
 refine SW_ret ?_
 refine xe ?_ (.tuple #[.int .i64 z1, .agg #[.int .u64 (hiI z4), .int .u64 (loI z4)]]) [0] ?_ ?_
 ·exact ⟨(z1, z4), p2.2, p5.2⟩
 ·rfl
 ·exact zs0
end Go.Proofs.YtdbnmdchecacdaaDoor.M
end
section
namespace Go.Proofs.YtdbnmdchecacdaaDoor.M
open Go.RowKit Go.Proofs.YtdbnmdchecacdaaDoor.G Go.Proofs.YtdbnmdchecacdaaDoorV.PrintWords Go.Proofs.YtdbnmdchecacdaaDoorV.PrintLast Go.Proofs.YtdbnmdchecacdaaDoor.X
set_option linter.unusedVariables false
set_option linter.unusedSimpArgs false
theorem ct_impl_rounding_away {P : Nat} {emin emax : Int} {W E : Nat} {ex : Bool} (h : Fmt2 P emin emax W E ex) (hx1 : 1 ≤ emax) (f : Int) (hf : impl_layoutOf.f f = some ((P : Int), emin, emax, (W : Int), (E : Int), ex, true)) (neg neg' : Bool) (c : Int) (S : Nat) (q : Int) (hv : VP P emin emax c S q) (up : Bool) (hn : c = 1 → neg = !up) (hg : c ≠ 1 → (up != neg) = true) :
  CtV Tryd.prog 93 [rndV P emin emax W E ex f neg, .agg #[.int .i64 c, .bool neg', .int .u64 (hiI S), .int .u64 (loI S), .int .i64 q]] [Tabled] (.tuple #[.agg #[.int .u64 (hiI (stepN P emin emax W E ex c neg S q up).1), .int .u64 (loI (stepN P emin emax W E ex c neg S q up).1)], .bool (c != 4)]) := by
 have p1 := h.p1
 have p3 := h.p3
 have m0 := h.m0
 have m1 := h.m1
 have b128 : 2 ^ P < B128 := Nat.pow_lt_pow_right (a := 2) (n := 128) (by decide) (by omega)
 have sP : Sm (2 ^ P) := sm128 (Nat.lt_of_lt_of_le b128 (by decide))
 have t2 := two_P h.toFmt
 have h1P : 1 ≤ 2 ^ P := Nat.pow_pos (by decide)
 have hSP : S < 2 ^ P := by
  rcases hv with ⟨_, rfl, _⟩ | ⟨_, rfl, _⟩ | ⟨_, h1, h2, _⟩ | ⟨_, h1, h2, _⟩ <;> omega
 have bS : S < B128 := by omega
 have sS : Sm S := sP.mono (by omega)
 have sS1 : Sm (S + 1) := sP.mono (by omega)
 have s1 : Sm 1 := sP.mono (by omega)
 refine ct_of Tryd.func93 rfl (by kernel_rfl) (fun B w0 => ?_)
 have zq : Zn (emin - P + 1) (emin - P + 1) := ⟨rfl, by omega, by omega⟩
 have z0 : Zn 0 0 := ⟨rfl, by decide, by decide⟩
 have b1 : 1 < B128 := by decide
 have hF := h.toFmt
 obtain ⟨m1, hm1⟩ := bits_ex (S + 1)
 have e1 := bits_lt (k := P) hm1
 have e2 := bits_lt (k := P - 1) hm1
 obtain ⟨m2, hm2⟩ := bits_ex ((S + 1) / 2 ^ 1)
 have e3 := bits_lt (k := P - 1) hm2
 have sS2 : Sm ((S + 1) / 2 ^ 1) := sS1.mono (Nat.div_le_self _ _)
 rcases hv with ⟨rfl, rfl, rfl⟩ | ⟨rfl, rfl, rfl⟩ | hv
 ·rw [stepN, if_pos rfl, ← hn rfl]
  refine xg ?_
  refine xb 2 [.int .i64 (P : Int), .int .i64 emin, .int .i64 emax, .int .i64 (W : Int), .int .i64 (E : Int), .bool ex, .int .i64 f, .bool neg] 114 (fun g0 => ?_)
  refine xb 3 [.int .i64 1, .bool neg', .int .u64 (hiI 0), .int .u64 (loI 0), .int .i64 0] 27 (fun g1 => ?_)
  refine xb 4 [.int .u64 0, .int .u64 0] 25 (fun g2 => ?_)
  refine xz [] [(5, .bool false)] ?_
  refine xg ?_
  refine xn 2 [(1, [1])] [(9, .agg #[.int .u64 (hiI 0), .int .u64 (loI 0)])] ?_
  refine xcr 10 (ct_impl_Word_nat (0) bS) zs0 (fun A0 k0 => ?_)
  refine xcr 11 (ct_impl_word (1) (1) ⟨rfl⟩ (by omega)) zs0 (fun A1 k1 => ?_)
  refine xcr 12 (ct_impl_nat_add (0) (1) (A0) (A1) (k0) (k1) sS2 sS1) (zsS (ziS zi0) (zsS zi0 zs0)) (fun A2 k2 => ?_)
  refine xz [] [(6, .slice A2 (List.length (ofN B64 (0 + 1))) k2)] ?_
  refine SW_seq ?_
  refine xr [(1, [1])] [(14, .int .i64 1)] ?_
  refine SW_block ?_
  refine xr [] [(15, .bool false)] ?_
  refine xs0 ?_
  refine xr [] [(18, .bool true)] ?_
  refine xs1 ?_
  refine xd (fun hB => ?_)
  refine xdk [(0, [0]), (2, []), (3, [0])] [(23, .agg #[.int .i64 (P : Int), .int .i64 emin, .int .i64 emax, .int .i64 (W : Int), .int .i64 (E : Int), .bool ex]), (20, .agg #[.int .i64 (P : Int), .int .i64 emin, .int .i64 emax, .int .i64 (W : Int), .int .i64 (E : Int), .bool ex, .int .i64 f, .bool neg])] hB ?_
  refine xdr 1 21 (ct_impl_word (1) (1) ⟨rfl⟩ (by omega)) zs0 (fun A3 k3 => ?_)
  refine xdv 4 24 (ct_impl_layout_qMin hF) zs0 ?_
  refine xdv 5 25 (ct_impl_rounding_packed h (f) hf (neg) (2) (1) (A3) (k3) b1 (emin - (P : Int) + 1) (emin - (P : Int) + 1) zq) (zsS (ziS (ziS (ziS (ziS zi0)))) (zsS zi0 zs0)) ?_
  refine xds 6 [2] [(2, [.int .u64 (hiI (Prod.fst (packR P emin emax W E ex 2 neg 1 (emin - (P : Int) + 1)))), .int .u64 (loI (Prod.fst (packR P emin emax W E ex 2 neg 1 (emin - (P : Int) + 1))))])] ?_
  refine xdk [(7, [])] [(5, .bool true)] hB ?_
  refine xdz ?_
  refine SW_ret ?_
  refine xe () (.tuple #[.agg #[.int .u64 (hiI (Prod.fst (packR P emin emax W E ex 2 neg 1 (emin - (P : Int) + 1)))), .int .u64 (loI (Prod.fst (packR P emin emax W E ex 2 neg 1 (emin - (P : Int) + 1))))], .bool true]) [2] ?_ trivial
  rfl
 ·rw [stepN, if_neg (by decide), if_pos rfl, if_pos (hg (by decide))]
  refine xg ?_
  refine xb 2 [.int .i64 (P : Int), .int .i64 emin, .int .i64 emax, .int .i64 (W : Int), .int .i64 (E : Int), .bool ex, .int .i64 f, .bool neg] 114 (fun g0 => ?_)
  refine xb 3 [.int .i64 4, .bool neg', .int .u64 (hiI 0), .int .u64 (loI 0), .int .i64 0] 27 (fun g1 => ?_)
  refine xb 4 [.int .u64 0, .int .u64 0] 25 (fun g2 => ?_)
  refine xz [] [(5, .bool false)] ?_
  refine xg ?_
  refine xn 2 [(1, [1])] [(9, .agg #[.int .u64 (hiI 0), .int .u64 (loI 0)])] ?_
  refine xcr 10 (ct_impl_Word_nat (0) bS) zs0 (fun A0 k0 => ?_)
  refine xcr 11 (ct_impl_word (1) (1) ⟨rfl⟩ (by omega)) zs0 (fun A1 k1 => ?_)
  refine xcr 12 (ct_impl_nat_add (0) (1) (A0) (A1) (k0) (k1) sS2 sS1) (zsS (ziS zi0) (zsS zi0 zs0)) (fun A2 k2 => ?_)
  refine xz [] [(6, .slice A2 (List.length (ofN B64 (0 + 1))) k2)] ?_
  refine SW_seq ?_
  refine xr [(1, [1])] [(14, .int .i64 4)] ?_
  refine SW_block ?_
  refine xr [] [(15, .bool true)] ?_
  refine xs1 ?_
  refine xq [(1, [2])] [(5, .bool false)] [] ?_
  refine SW_ret ?_
  refine xe () (.tuple #[.agg #[.int .u64 0, .int .u64 0], .bool false]) [2] ?_ trivial
  rfl
 ·have hc : c = 2 ∨ c = 3 := by
   rcases hv with ⟨rfl, _⟩ | ⟨rfl, _⟩
   ·exact .inl rfl
   ·exact .inr rfl
  have c1 : (c == 1) = false := by rw [beq_eq_false_iff_ne]; omega
  have c4 : (c == 4) = false := by rw [beq_eq_false_iff_ne]; omega
  have c4' : (c != 4) = true := by rw [bne, c4]; rfl
  rw [stepN, if_neg (by omega), if_neg (by omega), if_pos (hg (by omega)), c4']
  have hb : (0 < S ∧ S < 2 ^ P) ∧ emin - P + 1 ≤ q ∧ q ≤ emax - P + 1 ∧ (S < 2 ^ (P - 1) → q = emin - P + 1) := by
   have hx2 := h.mn
   rcases hv with ⟨_, h1, h2, rfl⟩ | ⟨_, h1, h2, h3, h4⟩
   ·omega
   ·omega
  obtain ⟨⟨bS0, _⟩, bq0, bq1, bq2⟩ := hb
  have hP4 : 4 ≤ 2 ^ (P - 1) := (show 2 ^ 2 ≤ 2 ^ (P - 1) from Nat.pow_le_pow_right (by decide) (by omega))
  have zq1 : Zn (IntKind.i64.wrap (q + 1)) (q + 1) := Zn.wrap rfl (by omega)
  have zq2 : Zn q q := ⟨rfl, by omega, by omega⟩
  have w1 : IntKind.i64.wrap (IntKind.i64.wrap (IntKind.i64.wrap (q + 1) + P) - 1) = q + P := by rw [wsi (x := q + 1) (by omega), wsi (x := q + 1 + P) (by omega), wsi (by omega)]; omega
  have w2 : IntKind.i64.wrap (IntKind.i64.wrap (q + P) - 1) = q + P - 1 := by rw [wsi (x := q + P) (by omega), wsi (by omega)]
  by_cases hp : 2 ^ P ≤ S + 1
  ·have z1 : decide ((m1 : Int) > (P : Int)) = true := decide_eq_true (by omega)
   have hu : (S + 1) / 2 ^ 1 = 2 ^ (P - 1) := by omega
   have bu : (S + 1) / 2 ^ 1 < B128 := by omega
   have z3 : decide ((m2 : Int) < (P : Int)) = false := decide_eq_false (by omega)
   rw [farS, if_pos hp, putN]
   dsimp only
   by_cases k2 : emax < q + P
   ·have z2 : decide (IntKind.i64.wrap (IntKind.i64.wrap (IntKind.i64.wrap (q + 1) + P) - 1) > emax) = true := decide_eq_true (by rw [w1]; omega)
    rw [show clsN P emax ((S + 1) / 2) (q + 1) = 4 by rw [clsN, if_neg (by omega), if_pos (by omega)], if_pos (.inr rfl)]
    refine xg ?_
    refine xb 2 [.int .i64 (P : Int), .int .i64 emin, .int .i64 emax, .int .i64 (W : Int), .int .i64 (E : Int), .bool ex, .int .i64 f, .bool neg] 114 (fun g0 => ?_)
    refine xb 3 [.int .i64 c, .bool neg', .int .u64 (hiI S), .int .u64 (loI S), .int .i64 q] 27 (fun g1 => ?_)
    refine xb 4 [.int .u64 0, .int .u64 0] 25 (fun g2 => ?_)
    refine xz [] [(5, .bool false)] ?_
    refine xg ?_
    refine xn 2 [(1, [1])] [(9, .agg #[.int .u64 (hiI S), .int .u64 (loI S)])] ?_
    refine xcr 10 (ct_impl_Word_nat (S) bS) zs0 (fun A3 k3 => ?_)
    refine xcr 11 (ct_impl_word (1) (1) ⟨rfl⟩ (by omega)) zs0 (fun A4 k4 => ?_)
    refine xcr 12 (ct_impl_nat_add (S) (1) (A3) (A4) (k3) (k4) sS s1) (zsS (ziS zi0) (zsS zi0 zs0)) (fun A5 k5 => ?_)
    refine xz [] [(6, .slice A5 (List.length (ofN B64 (S + 1))) k5)] ?_
    refine SW_seq ?_
    refine xr [(1, [1])] [(14, .int .i64 c)] ?_
    refine SW_block ?_
    refine xr [] [(15, .bool (c == 4))] ?_
    refine xsf c4 ?_
    refine xr [] [(18, .bool (c == 1))] ?_
    refine xsf c1 ?_
    refine SW_skip ?_
    refine SW_seq ?_
    refine xd (fun hB => ?_)
    refine xdk [(0, []), (2, []), (3, []), (4, []), (5, [0])] [(31, .int .i64 (P : Int)), (26, .slice A5 (List.length (ofN B64 (S + 1))) k5)] hB ?_
    refine xdv 1 27 (ct_impl_nat_bits (S + 1) (A5) (k5) sS1 (m1) hm1) (zsS zi0 zs0) ?_
    refine xdk [(6, [])] [(32, .bool (decide ((m1 : Int) > (P : Int))))] hB ?_
    refine xdz ?_
    refine xst z1 ?_
    refine xg ?_
    refine xn 1 [] [(33, .slice A5 (List.length (ofN B64 (S + 1))) k5)] ?_
    refine xcr 34 (ct_impl_nat_right (S + 1) (A5) (k5) (1) (1) ⟨rfl⟩ (by omega) sS1) (zsS zi0 zs0) (fun A6 k6 => ?_)
    refine xz [] [(6, .slice A6 (List.length (ofN B64 ((S + 1) / 2 ^ 1))) k6)] ?_
    refine xql [(1, [1]), (4, [1])] [] [(1, [.int .i64 c, .bool neg', .int .u64 (hiI S), .int .u64 (loI S), .int .i64 (IntKind.wrap IntKind.i64 (q + 1))])] ?_
    refine SW_seq ?_
    refine xr [(1, [1]), (5, [0]), (11, [0])] [(51, .bool (decide (IntKind.wrap IntKind.i64 (IntKind.wrap IntKind.i64 (IntKind.wrap IntKind.i64 (q + 1) + (P : Int)) - 1) > emax)))] ?_
    refine xst z2 ?_
    refine xg ?_
    refine xn 1 [(0, [0])] [(52, .agg #[.int .i64 (P : Int), .int .i64 emin, .int .i64 emax, .int .i64 (W : Int), .int .i64 (E : Int), .bool ex, .int .i64 f, .bool neg])] ?_
    refine xcv 53 (ct_impl_rounding_packed' h (f) hf (neg) (4) (0) (0) z0) (zsS (ziS (ziS (ziS (ziS zi0)))) zs0) ?_
    refine xy [(2, [2])] [(5, .bool true)] [(2, [.int .u64 (hiI (Prod.fst (packR P emin emax W E ex 4 neg 0 0))), .int .u64 (loI (Prod.fst (packR P emin emax W E ex 4 neg 0 0)))])] ?_
    refine SW_ret ?_
    refine xe () (.tuple #[.agg #[.int .u64 (hiI (Prod.fst (packR P emin emax W E ex 4 neg 0 0))), .int .u64 (loI (Prod.fst (packR P emin emax W E ex 4 neg 0 0)))], .bool true]) [2] ?_ trivial
    rfl
   ·have z2 : decide (IntKind.i64.wrap (IntKind.i64.wrap (IntKind.i64.wrap (q + 1) + P) - 1) > emax) = false := decide_eq_false (by rw [w1]; omega)
    rw [show clsN P emax ((S + 1) / 2) (q + 1) = 3 by rw [clsN, if_neg (by omega), if_neg (by omega), if_neg (by omega)], if_neg (by decide)]
    refine xg ?_
    refine xb 2 [.int .i64 (P : Int), .int .i64 emin, .int .i64 emax, .int .i64 (W : Int), .int .i64 (E : Int), .bool ex, .int .i64 f, .bool neg] 114 (fun g0 => ?_)
    refine xb 3 [.int .i64 c, .bool neg', .int .u64 (hiI S), .int .u64 (loI S), .int .i64 q] 27 (fun g1 => ?_)
    refine xb 4 [.int .u64 0, .int .u64 0] 25 (fun g2 => ?_)
    refine xz [] [(5, .bool false)] ?_
    refine xg ?_
    refine xn 2 [(1, [1])] [(9, .agg #[.int .u64 (hiI S), .int .u64 (loI S)])] ?_
    refine xcr 10 (ct_impl_Word_nat (S) bS) zs0 (fun A3 k3 => ?_)
    refine xcr 11 (ct_impl_word (1) (1) ⟨rfl⟩ (by omega)) zs0 (fun A4 k4 => ?_)
    refine xcr 12 (ct_impl_nat_add (S) (1) (A3) (A4) (k3) (k4) sS s1) (zsS (ziS zi0) (zsS zi0 zs0)) (fun A5 k5 => ?_)
    refine xz [] [(6, .slice A5 (List.length (ofN B64 (S + 1))) k5)] ?_
    refine SW_seq ?_
    refine xr [(1, [1])] [(14, .int .i64 c)] ?_
    refine SW_block ?_
    refine xr [] [(15, .bool (c == 4))] ?_
    refine xsf c4 ?_
    refine xr [] [(18, .bool (c == 1))] ?_
    refine xsf c1 ?_
    refine SW_skip ?_
    refine SW_seq ?_
    refine xd (fun hB => ?_)
    refine xdk [(0, []), (2, []), (3, []), (4, []), (5, [0])] [(31, .int .i64 (P : Int)), (26, .slice A5 (List.length (ofN B64 (S + 1))) k5)] hB ?_
    refine xdv 1 27 (ct_impl_nat_bits (S + 1) (A5) (k5) sS1 (m1) hm1) (zsS zi0 zs0) ?_
    refine xdk [(6, [])] [(32, .bool (decide ((m1 : Int) > (P : Int))))] hB ?_
    refine xdz ?_
    refine xst z1 ?_
    refine xg ?_
    refine xn 1 [] [(33, .slice A5 (List.length (ofN B64 (S + 1))) k5)] ?_
    refine xcr 34 (ct_impl_nat_right (S + 1) (A5) (k5) (1) (1) ⟨rfl⟩ (by omega) sS1) (zsS zi0 zs0) (fun A6 k6 => ?_)
    refine xz [] [(6, .slice A6 (List.length (ofN B64 ((S + 1) / 2 ^ 1))) k6)] ?_
    refine xql [(1, [1]), (4, [1])] [] [(1, [.int .i64 c, .bool neg', .int .u64 (hiI S), .int .u64 (loI S), .int .i64 (IntKind.wrap IntKind.i64 (q + 1))])] ?_
    refine SW_seq ?_
    refine xr [(1, [1]), (5, [0]), (11, [0])] [(51, .bool (decide (IntKind.wrap IntKind.i64 (IntKind.wrap IntKind.i64 (IntKind.wrap IntKind.i64 (q + 1) + (P : Int)) - 1) > emax)))] ?_
    refine xsf z2 ?_
    refine SW_skip ?_
    refine xr [] [(7, .int .i64 3)] ?_
    refine SW_seq ?_
    refine xd (fun hB => ?_)
    refine xdk [(0, []), (2, []), (3, []), (4, []), (5, [0])] [(59, .int .i64 (P : Int)), (54, .slice A6 (List.length (ofN B64 ((S + 1) / 2 ^ 1))) k6)] hB ?_
    refine xdv 1 55 (ct_impl_nat_bits ((S + 1) / 2 ^ 1) (A6) (k6) sS2 (m2) hm2) (zsS zi0 zs0) ?_
    refine xdk [(6, [])] [(60, .bool (decide ((m2 : Int) < (P : Int))))] hB ?_
    refine xdz ?_
    refine xsf z3 ?_
    refine SW_skip ?_
    refine xg ?_
    refine xn 5 [(0, [0]), (4, [1])] [(65, .int .i64 (IntKind.wrap IntKind.i64 (q + 1))), (63, .slice A6 (List.length (ofN B64 ((S + 1) / 2 ^ 1))) k6), (62, .int .i64 3), (61, .agg #[.int .i64 (P : Int), .int .i64 emin, .int .i64 emax, .int .i64 (W : Int), .int .i64 (E : Int), .bool ex, .int .i64 f, .bool neg])] ?_
    refine xcv 66 (ct_impl_rounding_packed h (f) hf (neg) (3) ((S + 1) / 2 ^ 1) (A6) (k6) bu (IntKind.wrap IntKind.i64 (q + 1)) (q + 1) zq1) (zsS (ziS (ziS (ziS (ziS zi0)))) (zsS zi0 zs0)) ?_
    refine xy [(6, [2])] [(5, .bool true)] [(2, [.int .u64 (hiI (Prod.fst (packR P emin emax W E ex 3 neg ((S + 1) / 2 ^ 1) (q + 1)))), .int .u64 (loI (Prod.fst (packR P emin emax W E ex 3 neg ((S + 1) / 2 ^ 1) (q + 1))))])] ?_
    refine SW_ret ?_
    refine xe () (.tuple #[.agg #[.int .u64 (hiI (Prod.fst (packR P emin emax W E ex 3 neg ((S + 1) / 2 ^ 1) (q + 1)))), .int .u64 (loI (Prod.fst (packR P emin emax W E ex 3 neg ((S + 1) / 2 ^ 1) (q + 1))))], .bool true]) [2] ?_ trivial
    rfl
  ·have z1 : decide ((m1 : Int) > (P : Int)) = false := decide_eq_false (by omega)
   have bu : S + 1 < B128 := by omega
   have z2 : decide (IntKind.i64.wrap (IntKind.i64.wrap (q + P) - 1) > emax) = false := decide_eq_false (by rw [w2]; omega)
   rw [farS, if_neg hp, putN]
   dsimp only
   by_cases k3 : S + 1 < 2 ^ (P - 1)
   ·have z3 : decide ((m1 : Int) < (P : Int)) = true := decide_eq_true (by omega)
    rw [show clsN P emax (S + 1) q = 2 by rw [clsN, if_neg (by omega), if_neg (by omega), if_pos k3], if_neg (by decide)]
    refine xg ?_
    refine xb 2 [.int .i64 (P : Int), .int .i64 emin, .int .i64 emax, .int .i64 (W : Int), .int .i64 (E : Int), .bool ex, .int .i64 f, .bool neg] 114 (fun g0 => ?_)
    refine xb 3 [.int .i64 c, .bool neg', .int .u64 (hiI S), .int .u64 (loI S), .int .i64 q] 27 (fun g1 => ?_)
    refine xb 4 [.int .u64 0, .int .u64 0] 25 (fun g2 => ?_)
    refine xz [] [(5, .bool false)] ?_
    refine xg ?_
    refine xn 2 [(1, [1])] [(9, .agg #[.int .u64 (hiI S), .int .u64 (loI S)])] ?_
    refine xcr 10 (ct_impl_Word_nat (S) bS) zs0 (fun A4 k4 => ?_)
    refine xcr 11 (ct_impl_word (1) (1) ⟨rfl⟩ (by omega)) zs0 (fun A5 k5 => ?_)
    refine xcr 12 (ct_impl_nat_add (S) (1) (A4) (A5) (k4) (k5) sS s1) (zsS (ziS zi0) (zsS zi0 zs0)) (fun A6 k6 => ?_)
    refine xz [] [(6, .slice A6 (List.length (ofN B64 (S + 1))) k6)] ?_
    refine SW_seq ?_
    refine xr [(1, [1])] [(14, .int .i64 c)] ?_
    refine SW_block ?_
    refine xr [] [(15, .bool (c == 4))] ?_
    refine xsf c4 ?_
    refine xr [] [(18, .bool (c == 1))] ?_
    refine xsf c1 ?_
    refine SW_skip ?_
    refine SW_seq ?_
    refine xd (fun hB => ?_)
    refine xdk [(0, []), (2, []), (3, []), (4, []), (5, [0])] [(31, .int .i64 (P : Int)), (26, .slice A6 (List.length (ofN B64 (S + 1))) k6)] hB ?_
    refine xdv 1 27 (ct_impl_nat_bits (S + 1) (A6) (k6) sS1 (m1) hm1) (zsS zi0 zs0) ?_
    refine xdk [(6, [])] [(32, .bool (decide ((m1 : Int) > (P : Int))))] hB ?_
    refine xdz ?_
    refine xsf z1 ?_
    refine SW_skip ?_
    refine SW_seq ?_
    refine xr [(1, [1]), (5, [0]), (11, [0])] [(51, .bool (decide (IntKind.wrap IntKind.i64 (IntKind.wrap IntKind.i64 (q + (P : Int)) - 1) > emax)))] ?_
    refine xsf z2 ?_
    refine SW_skip ?_
    refine xr [] [(7, .int .i64 3)] ?_
    refine SW_seq ?_
    refine xd (fun hB => ?_)
    refine xdk [(0, []), (2, []), (3, []), (4, []), (5, [0])] [(59, .int .i64 (P : Int)), (54, .slice A6 (List.length (ofN B64 (S + 1))) k6)] hB ?_
    refine xdv 1 55 (ct_impl_nat_bits (S + 1) (A6) (k6) sS1 (m1) hm1) (zsS zi0 zs0) ?_
    refine xdk [(6, [])] [(60, .bool (decide ((m1 : Int) < (P : Int))))] hB ?_
    refine xdz ?_
    refine xst z3 ?_
    refine xrl [] [(7, .int .i64 2)] ?_
    refine xg ?_
    refine xn 5 [(0, [0]), (4, [1])] [(65, .int .i64 q), (63, .slice A6 (List.length (ofN B64 (S + 1))) k6), (62, .int .i64 2), (61, .agg #[.int .i64 (P : Int), .int .i64 emin, .int .i64 emax, .int .i64 (W : Int), .int .i64 (E : Int), .bool ex, .int .i64 f, .bool neg])] ?_
    refine xcv 66 (ct_impl_rounding_packed h (f) hf (neg) (2) (S + 1) (A6) (k6) bu (q) (q) zq2) (zsS (ziS (ziS (ziS zi0))) (zsS zi0 zs0)) ?_
    refine xy [(6, [2])] [(5, .bool true)] [(2, [.int .u64 (hiI (Prod.fst (packR P emin emax W E ex 2 neg (S + 1) q))), .int .u64 (loI (Prod.fst (packR P emin emax W E ex 2 neg (S + 1) q)))])] ?_
    refine SW_ret ?_
    refine xe () (.tuple #[.agg #[.int .u64 (hiI (Prod.fst (packR P emin emax W E ex 2 neg (S + 1) q))), .int .u64 (loI (Prod.fst (packR P emin emax W E ex 2 neg (S + 1) q)))], .bool true]) [2] ?_ trivial
    rfl
   ·have z3 : decide ((m1 : Int) < (P : Int)) = false := decide_eq_false (by omega)
    rw [show clsN P emax (S + 1) q = 3 by rw [clsN, if_neg (by omega), if_neg (by omega), if_neg k3], if_neg (by decide)]
    refine xg ?_
    refine xb 2 [.int .i64 (P : Int), .int .i64 emin, .int .i64 emax, .int .i64 (W : Int), .int .i64 (E : Int), .bool ex, .int .i64 f, .bool neg] 114 (fun g0 => ?_)
    refine xb 3 [.int .i64 c, .bool neg', .int .u64 (hiI S), .int .u64 (loI S), .int .i64 q] 27 (fun g1 => ?_)
    refine xb 4 [.int .u64 0, .int .u64 0] 25 (fun g2 => ?_)
    refine xz [] [(5, .bool false)] ?_
    refine xg ?_
    refine xn 2 [(1, [1])] [(9, .agg #[.int .u64 (hiI S), .int .u64 (loI S)])] ?_
    refine xcr 10 (ct_impl_Word_nat (S) bS) zs0 (fun A4 k4 => ?_)
    refine xcr 11 (ct_impl_word (1) (1) ⟨rfl⟩ (by omega)) zs0 (fun A5 k5 => ?_)
    refine xcr 12 (ct_impl_nat_add (S) (1) (A4) (A5) (k4) (k5) sS s1) (zsS (ziS zi0) (zsS zi0 zs0)) (fun A6 k6 => ?_)
    refine xz [] [(6, .slice A6 (List.length (ofN B64 (S + 1))) k6)] ?_
    refine SW_seq ?_
    refine xr [(1, [1])] [(14, .int .i64 c)] ?_
    refine SW_block ?_
    refine xr [] [(15, .bool (c == 4))] ?_
    refine xsf c4 ?_
    refine xr [] [(18, .bool (c == 1))] ?_
    refine xsf c1 ?_
    refine SW_skip ?_
    refine SW_seq ?_
    refine xd (fun hB => ?_)
    refine xdk [(0, []), (2, []), (3, []), (4, []), (5, [0])] [(31, .int .i64 (P : Int)), (26, .slice A6 (List.length (ofN B64 (S + 1))) k6)] hB ?_
    refine xdv 1 27 (ct_impl_nat_bits (S + 1) (A6) (k6) sS1 (m1) hm1) (zsS zi0 zs0) ?_
    refine xdk [(6, [])] [(32, .bool (decide ((m1 : Int) > (P : Int))))] hB ?_
    refine xdz ?_
    refine xsf z1 ?_
    refine SW_skip ?_
    refine SW_seq ?_
    refine xr [(1, [1]), (5, [0]), (11, [0])] [(51, .bool (decide (IntKind.wrap IntKind.i64 (IntKind.wrap IntKind.i64 (q + (P : Int)) - 1) > emax)))] ?_
    refine xsf z2 ?_
    refine SW_skip ?_
    refine xr [] [(7, .int .i64 3)] ?_
    refine SW_seq ?_
    refine xd (fun hB => ?_)
    refine xdk [(0, []), (2, []), (3, []), (4, []), (5, [0])] [(59, .int .i64 (P : Int)), (54, .slice A6 (List.length (ofN B64 (S + 1))) k6)] hB ?_
    refine xdv 1 55 (ct_impl_nat_bits (S + 1) (A6) (k6) sS1 (m1) hm1) (zsS zi0 zs0) ?_
    refine xdk [(6, [])] [(60, .bool (decide ((m1 : Int) < (P : Int))))] hB ?_
    refine xdz ?_
    refine xsf z3 ?_
    refine SW_skip ?_
    refine xg ?_
    refine xn 5 [(0, [0]), (4, [1])] [(65, .int .i64 q), (63, .slice A6 (List.length (ofN B64 (S + 1))) k6), (62, .int .i64 3), (61, .agg #[.int .i64 (P : Int), .int .i64 emin, .int .i64 emax, .int .i64 (W : Int), .int .i64 (E : Int), .bool ex, .int .i64 f, .bool neg])] ?_
    refine xcv 66 (ct_impl_rounding_packed h (f) hf (neg) (3) (S + 1) (A6) (k6) bu (q) (q) zq2) (zsS (ziS (ziS (ziS zi0))) (zsS zi0 zs0)) ?_
    refine xy [(6, [2])] [(5, .bool true)] [(2, [.int .u64 (hiI (Prod.fst (packR P emin emax W E ex 3 neg (S + 1) q))), .int .u64 (loI (Prod.fst (packR P emin emax W E ex 3 neg (S + 1) q)))])] ?_
    refine SW_ret ?_
    refine xe () (.tuple #[.agg #[.int .u64 (hiI (Prod.fst (packR P emin emax W E ex 3 neg (S + 1) q))), .int .u64 (loI (Prod.fst (packR P emin emax W E ex 3 neg (S + 1) q)))], .bool true]) [2] ?_ trivial
    rfl
end Go.Proofs.YtdbnmdchecacdaaDoor.M
end
section
namespace Go.Proofs.YtdbnmdchecacdaaDoor.M
open Go.RowKit Go.Proofs.YtdbnmdchecacdaaDoor.G Go.Proofs.YtdbnmdchecacdaaDoorV.PrintWords Go.Proofs.YtdbnmdchecacdaaDoorV.PrintLast Go.Proofs.YtdbnmdchecacdaaDoor.X
set_option linter.unusedVariables false
set_option linter.unusedSimpArgs false
theorem ct_impl_rounding_nearer {P : Nat} {emin emax : Int} {W E : Nat} {ex : Bool} (h : Fmt2 P emin emax W E ex) (hx1 : 1 ≤ emax) (f : Int) (hf : impl_layoutOf.f f = some ((P : Int), emin, emax, (W : Int), (E : Int), ex, true)) (neg neg' : Bool) (c : Int) (S : Nat) (q : Int) (hv : VP P emin emax c S q) (up : Bool) (hn : c ≠ 1) (hg : (up != neg) = false) :
  CtV Tryd.prog 94 [rndV P emin emax W E ex f neg, .agg #[.int .i64 c, .bool neg', .int .u64 (hiI S), .int .u64 (loI S), .int .i64 q]] [Tabled] (.agg #[.int .u64 (hiI (stepN P emin emax W E ex c neg S q up).1), .int .u64 (loI (stepN P emin emax W E ex c neg S q up).1)]) := by
 have p1 := h.p1
 have p3 := h.p3
 have m0 := h.m0
 have m1 := h.m1
 have b128 : 2 ^ P < B128 := Nat.pow_lt_pow_right (a := 2) (n := 128) (by decide) (by omega)
 have sP : Sm (2 ^ P) := sm128 (Nat.lt_of_lt_of_le b128 (by decide))
 refine ct_of Tryd.func94 rfl (by kernel_rfl) (fun B w0 => ?_)
 have t2 := two_P h.toFmt
 have hF := h.toFmt
 have zq : Zn (emin - P + 1) (emin - P + 1) := ⟨rfl, by omega, by omega⟩
 have z0 : Zn 0 0 := ⟨rfl, by decide, by decide⟩
 have hgn : ¬ (up != neg) = true := by rw [hg]; decide
 rcases hv with ⟨rfl, rfl, rfl⟩ | ⟨rfl, rfl, rfl⟩ | hv
 ·exact absurd rfl hn
 ·rw [stepN, if_neg (by decide), if_pos rfl, if_neg hgn]
  refine xg ?_
  refine xb 2 [.int .i64 (P : Int), .int .i64 emin, .int .i64 emax, .int .i64 (W : Int), .int .i64 (E : Int), .bool ex, .int .i64 f, .bool neg] 114 (fun g0 => ?_)
  refine xb 3 [.int .i64 4, .bool neg', .int .u64 (hiI 0), .int .u64 (loI 0), .int .i64 0] 27 (fun g1 => ?_)
  refine xb 4 [.int .u64 0, .int .u64 0] 25 (fun g2 => ?_)
  refine xz [] [] ?_
  refine SW_seq ?_
  refine xr [(1, [1])] [(8, .bool true)] ?_
  refine xs1 ?_
  refine xg ?_
  refine xn 1 [(0, [0])] [(9, .agg #[.int .i64 (P : Int), .int .i64 emin, .int .i64 emax, .int .i64 (W : Int), .int .i64 (E : Int), .bool ex, .int .i64 f, .bool neg])] ?_
  refine xcv 10 (ct_impl_rounding_greatest h (f) hf (neg)) (zsS zi0 zs0) ?_
  refine xy [(2, [2])] [] [(2, [.int .u64 (hiI (Prod.fst (packR P emin emax W E ex 3 neg (2 ^ P - 1) (emax - (P : Int) + 1)))), .int .u64 (loI (Prod.fst (packR P emin emax W E ex 3 neg (2 ^ P - 1) (emax - (P : Int) + 1))))])] ?_
  refine SW_ret ?_
  refine xe () (.agg #[.int .u64 (hiI (Prod.fst (packR P emin emax W E ex 3 neg (2 ^ P - 1) (emax - (P : Int) + 1)))), .int .u64 (loI (Prod.fst (packR P emin emax W E ex 3 neg (2 ^ P - 1) (emax - (P : Int) + 1))))]) [2] ?_ trivial
  rfl
 ·have hc : c = 2 ∨ c = 3 := by
   rcases hv with ⟨rfl, _⟩ | ⟨rfl, _⟩
   ·exact .inl rfl
   ·exact .inr rfl
  have c4 : (c == 4) = false := by rw [beq_eq_false_iff_ne]; omega
  have hb : (0 < S ∧ S < 2 ^ P) ∧ emin - P + 1 ≤ q ∧ q ≤ emax - P + 1 ∧ (S < 2 ^ (P - 1) → q = emin - P + 1) ∧ (c = 2 → S < 2 ^ (P - 1)) := by
   have hx2 := h.mn
   rcases hv with ⟨_, h1, h2, rfl⟩ | ⟨_, h1, h2, h3, h4⟩
   ·omega
   ·omega
  obtain ⟨⟨bS0, bS1⟩, bq0, bq1, bq2, bq3⟩ := hb
  have bS : S < B128 := by omega
  have sS : Sm S := sP.mono (by omega)
  have s1 : Sm 1 := sP.mono (by omega)
  rw [stepN, if_neg (by omega), if_neg (by omega), if_neg hgn]
  obtain ⟨m2, hm2⟩ := bits_ex (S - 1)
  have e2 := bits_lt (k := P - 1) hm2
  have sS2 : Sm (S - 1) := sP.mono (by omega)
  have sS3 : Sm ((S - 1) * 2 ^ 1) := sm128 (Nat.lt_trans (show (S - 1) * 2 ^ 1 < 2 ^ 114 by have : (2 : Nat) ^ P ≤ 2 ^ 113 := Nat.pow_le_pow_right (by decide) p1; omega) (by decide))
  have sS4 : Sm ((S - 1) * 2 ^ 1 + 1) := sm128 (Nat.lt_trans (show (S - 1) * 2 ^ 1 + 1 < 2 ^ 114 by have : (2 : Nat) ^ P ≤ 2 ^ 113 := Nat.pow_le_pow_right (by decide) p1; omega) (by decide))
  have hP4 : 4 ≤ 2 ^ (P - 1) := (show 2 ^ 2 ≤ 2 ^ (P - 1) from Nat.pow_le_pow_right (by decide) (by omega))
  have b1 : (S - 1) * 2 ^ 1 + 1 < B128 := Nat.lt_trans (show (S - 1) * 2 ^ 1 + 1 < 2 ^ 114 by have : (2 : Nat) ^ P ≤ 2 ^ 113 := Nat.pow_le_pow_right (by decide) p1; omega) (by decide)
  have b2 : S - 1 < B128 := by omega
  obtain ⟨m3, hm3⟩ := bits_ex ((S - 1) * 2 ^ 1 + 1)
  have e3 := bits_lt (k := P - 1) hm3
  have zq1 : Zn (IntKind.i64.wrap (q - 1)) (q - 1) := Zn.wrap rfl (by omega)
  have zq2 : Zn q q := ⟨rfl, by omega, by omega⟩
  have hz : ((((ofN B64 (S - 1)).length : Nat) : Int) == 0) = decide (S - 1 = 0) := by
   have y := ofN_zero B64_2 (S - 1)
   rw [Bool.eq_iff_iff, beq_iff_eq, decide_eq_true_iff, ← y]
   omega
  have hz2 : ((((ofN B64 ((S - 1) * 2 ^ 1 + 1)).length : Nat) : Int) == 0) = false := by
   have y := ofN_zero B64_2 ((S - 1) * 2 ^ 1 + 1)
   rw [beq_eq_false_iff_ne]
   omega
  by_cases hpq : S - 1 < 2 ^ (P - 1) ∧ emin - P + 1 < q
  ·have c3 : (c == 3) = true := by rw [beq_iff_eq]; omega
   have z1 : decide ((m2 : Int) < (P : Int)) = true := decide_eq_true (by omega)
   have z2 : decide (q > emin - P + 1) = true := decide_eq_true (by omega)
   rw [nearS, if_pos hpq, putN]
   dsimp only
   rw [show 2 * (S - 1) + 1 = (S - 1) * 2 ^ 1 + 1 by omega]
   have hS3 : 2 ^ (P - 1) ≤ S := Nat.le_of_not_lt (fun z => by have := bq2 z; omega)
   have z3 : decide ((m3 : Int) < (P : Int)) = false := decide_eq_false (by omega)
   rw [show clsN P emax ((S - 1) * 2 ^ 1 + 1) (q - 1) = 3 by rw [clsN, if_neg (by omega), if_neg (by omega), if_neg (by omega)], if_neg (by decide)]
   refine xg ?_
   refine xb 2 [.int .i64 (P : Int), .int .i64 emin, .int .i64 emax, .int .i64 (W : Int), .int .i64 (E : Int), .bool ex, .int .i64 f, .bool neg] 114 (fun g0 => ?_)
   refine xb 3 [.int .i64 c, .bool neg', .int .u64 (hiI S), .int .u64 (loI S), .int .i64 q] 27 (fun g1 => ?_)
   refine xb 4 [.int .u64 0, .int .u64 0] 25 (fun g2 => ?_)
   refine xz [] [] ?_
   refine SW_seq ?_
   refine xr [(1, [1])] [(8, .bool (c == 4))] ?_
   refine xsf c4 ?_
   refine SW_skip ?_
   refine xg ?_
   refine xn 2 [(1, [1])] [(12, .agg #[.int .u64 (hiI S), .int .u64 (loI S)])] ?_
   refine xcr 13 (ct_impl_Word_nat (S) bS) zs0 (fun A0 k0 => ?_)
   refine xcr 14 (ct_impl_word (1) (1) ⟨rfl⟩ (by omega)) zs0 (fun A1 k1 => ?_)
   refine xcr 15 (ct_impl_nat_sub (S) (1) (A0) (A1) (k0) (k1) sS (by omega)) (zsS (ziS zi0) (zsS zi0 zs0)) (fun A2 k2 => ?_)
   refine xz [] [(5, .slice A2 (List.length (ofN B64 (S - 1))) k2)] ?_
   refine SW_seq ?_
   refine xd (fun hB => ?_)
   refine xdk [(0, []), (1, [1]), (2, []), (3, [])] [(19, .bool (c == 3))] hB ?_
   refine xdnt 19 c3 ?_
   refine xdk [(4, []), (6, []), (7, []), (8, []), (9, [0])] [(25, .int .i64 (P : Int)), (20, .slice A2 (List.length (ofN B64 (S - 1))) k2)] hB ?_
   refine xdv 5 21 (ct_impl_nat_bits (S - 1) (A2) (k2) sS2 (m2) hm2) (zsS zi0 zs0) ?_
   refine xdk [(10, []), (11, []), (12, [])] [(28, .bool (decide ((m2 : Int) < (P : Int))))] hB ?_
   refine xdnt 28 z1 ?_
   refine xdk [(13, []), (14, [1]), (15, []), (16, [0])] [(32, .agg #[.int .i64 (P : Int), .int .i64 emin, .int .i64 emax, .int .i64 (W : Int), .int .i64 (E : Int), .bool ex]), (30, .int .i64 q)] hB ?_
   refine xdv 17 33 (ct_impl_layout_qMin hF) zs0 ?_
   refine xdk [(18, []), (19, [])] [(35, .bool (decide (q > emin - (P : Int) + 1)))] hB ?_
   refine xdz ?_
   refine xst z2 ?_
   refine xg ?_
   refine xn 1 [] [(36, .slice A2 (List.length (ofN B64 (S - 1))) k2)] ?_
   refine xcr 37 (ct_impl_nat_left (S - 1) (A2) (k2) (1) (1) ⟨rfl⟩ (by omega) sS2) (zsS zi0 zs0) (fun A3 k3 => ?_)
   refine xcr 38 (ct_impl_word (1) (1) ⟨rfl⟩ (by omega)) zs0 (fun A4 k4 => ?_)
   refine xcr 39 (ct_impl_nat_add ((S - 1) * 2 ^ 1) (1) (A3) (A4) (k3) (k4) sS3 s1) (zsS (ziS zi0) (zsS zi0 zs0)) (fun A5 k5 => ?_)
   refine xz [] [(5, .slice A5 (List.length (ofN B64 ((S - 1) * 2 ^ 1 + 1))) k5)] ?_
   refine xql [(1, [1]), (4, [1])] [] [(1, [.int .i64 c, .bool neg', .int .u64 (hiI S), .int .u64 (loI S), .int .i64 (IntKind.wrap IntKind.i64 (q - 1))])] ?_
   refine SW_seq ?_
   refine SW_block ?_
   refine xr [] [(44, .bool ((((List.length (ofN B64 ((S - 1) * 2 ^ 1 + 1))) : Nat) : Int) == 0))] ?_
   refine xsf hz2 ?_
   refine xd (fun hB => ?_)
   refine xdk [(0, []), (2, []), (3, []), (4, []), (5, [0])] [(56, .int .i64 (P : Int)), (51, .slice A5 (List.length (ofN B64 ((S - 1) * 2 ^ 1 + 1))) k5)] hB ?_
   refine xdv 1 52 (ct_impl_nat_bits ((S - 1) * 2 ^ 1 + 1) (A5) (k5) sS4 (m3) hm3) (zsS zi0 zs0) ?_
   refine xdk [(6, []), (7, [])] [(50, .bool (decide ((m3 : Int) < (P : Int))))] hB ?_
   refine xdz ?_
   refine xsf z3 ?_
   refine SW_skip ?_
   refine xg ?_
   refine xn 4 [(0, [0]), (3, [1])] [(66, .int .i64 (IntKind.wrap IntKind.i64 (q - 1))), (64, .slice A5 (List.length (ofN B64 ((S - 1) * 2 ^ 1 + 1))) k5), (63, .agg #[.int .i64 (P : Int), .int .i64 emin, .int .i64 emax, .int .i64 (W : Int), .int .i64 (E : Int), .bool ex, .int .i64 f, .bool neg])] ?_
   refine xcv 67 (ct_impl_rounding_packed h (f) hf (neg) (3) ((S - 1) * 2 ^ 1 + 1) (A5) (k5) b1 (IntKind.wrap IntKind.i64 (q - 1)) (q - 1) zq1) (zsS (ziS (ziS (ziS (ziS (ziS (ziS zi0)))))) (zsS zi0 zs0)) ?_
   refine xy [(5, [2])] [] [(2, [.int .u64 (hiI (Prod.fst (packR P emin emax W E ex 3 neg ((S - 1) * 2 ^ 1 + 1) (q - 1)))), .int .u64 (loI (Prod.fst (packR P emin emax W E ex 3 neg ((S - 1) * 2 ^ 1 + 1) (q - 1))))])] ?_
   refine SW_ret ?_
   refine xe () (.agg #[.int .u64 (hiI (Prod.fst (packR P emin emax W E ex 3 neg ((S - 1) * 2 ^ 1 + 1) (q - 1)))), .int .u64 (loI (Prod.fst (packR P emin emax W E ex 3 neg ((S - 1) * 2 ^ 1 + 1) (q - 1))))]) [2] ?_ trivial
   rfl
  ·rw [nearS, if_neg hpq, putN]
   dsimp only
   by_cases hc3 : c = 3
   ·have c3 : (c == 3) = true := by rw [beq_iff_eq]; exact hc3
    by_cases hp : S - 1 < 2 ^ (P - 1)
    ·have hS3 : S = 2 ^ (P - 1) := by
      rcases hv with ⟨rfl, _⟩ | ⟨_, h1, _⟩
      ·omega
      ·omega
     have z1 : decide ((m2 : Int) < (P : Int)) = true := decide_eq_true (by omega)
     have z2 : decide (q > emin - P + 1) = false := decide_eq_false (fun z => hpq ⟨hp, z⟩)
     have z4 := hz.trans (decide_eq_false (show ¬ S - 1 = 0 by omega))
     rw [show clsN P emax (S - 1) q = 2 by rw [clsN, if_neg (by omega), if_neg (by omega), if_pos hp], if_neg (by decide)]
     refine xg ?_
     refine xb 2 [.int .i64 (P : Int), .int .i64 emin, .int .i64 emax, .int .i64 (W : Int), .int .i64 (E : Int), .bool ex, .int .i64 f, .bool neg] 114 (fun g0 => ?_)
     refine xb 3 [.int .i64 c, .bool neg', .int .u64 (hiI S), .int .u64 (loI S), .int .i64 q] 27 (fun g1 => ?_)
     refine xb 4 [.int .u64 0, .int .u64 0] 25 (fun g2 => ?_)
     refine xz [] [] ?_
     refine SW_seq ?_
     refine xr [(1, [1])] [(8, .bool (c == 4))] ?_
     refine xsf c4 ?_
     refine SW_skip ?_
     refine xg ?_
     refine xn 2 [(1, [1])] [(12, .agg #[.int .u64 (hiI S), .int .u64 (loI S)])] ?_
     refine xcr 13 (ct_impl_Word_nat (S) bS) zs0 (fun A0 k0 => ?_)
     refine xcr 14 (ct_impl_word (1) (1) ⟨rfl⟩ (by omega)) zs0 (fun A1 k1 => ?_)
     refine xcr 15 (ct_impl_nat_sub (S) (1) (A0) (A1) (k0) (k1) sS (by omega)) (zsS (ziS zi0) (zsS zi0 zs0)) (fun A2 k2 => ?_)
     refine xz [] [(5, .slice A2 (List.length (ofN B64 (S - 1))) k2)] ?_
     refine SW_seq ?_
     refine xd (fun hB => ?_)
     refine xdk [(0, []), (1, [1]), (2, []), (3, [])] [(19, .bool (c == 3))] hB ?_
     refine xdnt 19 c3 ?_
     refine xdk [(4, []), (6, []), (7, []), (8, []), (9, [0])] [(25, .int .i64 (P : Int)), (20, .slice A2 (List.length (ofN B64 (S - 1))) k2)] hB ?_
     refine xdv 5 21 (ct_impl_nat_bits (S - 1) (A2) (k2) sS2 (m2) hm2) (zsS zi0 zs0) ?_
     refine xdk [(10, []), (11, []), (12, [])] [(28, .bool (decide ((m2 : Int) < (P : Int))))] hB ?_
     refine xdnt 28 z1 ?_
     refine xdk [(13, []), (14, [1]), (15, []), (16, [0])] [(32, .agg #[.int .i64 (P : Int), .int .i64 emin, .int .i64 emax, .int .i64 (W : Int), .int .i64 (E : Int), .bool ex]), (30, .int .i64 q)] hB ?_
     refine xdv 17 33 (ct_impl_layout_qMin hF) zs0 ?_
     refine xdk [(18, []), (19, [])] [(35, .bool (decide (q > emin - (P : Int) + 1)))] hB ?_
     refine xdz ?_
     refine xsf z2 ?_
     refine SW_skip ?_
     refine SW_seq ?_
     refine SW_block ?_
     refine xr [] [(44, .bool ((((List.length (ofN B64 (S - 1))) : Nat) : Int) == 0))] ?_
     refine xsf z4 ?_
     refine xd (fun hB => ?_)
     refine xdk [(0, []), (2, []), (3, []), (4, []), (5, [0])] [(56, .int .i64 (P : Int)), (51, .slice A2 (List.length (ofN B64 (S - 1))) k2)] hB ?_
     refine xdv 1 52 (ct_impl_nat_bits (S - 1) (A2) (k2) sS2 (m2) hm2) (zsS zi0 zs0) ?_
     refine xdk [(6, []), (7, [])] [(50, .bool (decide ((m2 : Int) < (P : Int))))] hB ?_
     refine xdz ?_
     refine xst z1 ?_
     refine xg ?_
     refine xn 4 [(0, [0]), (3, [1])] [(61, .int .i64 q), (59, .slice A2 (List.length (ofN B64 (S - 1))) k2), (58, .agg #[.int .i64 (P : Int), .int .i64 emin, .int .i64 emax, .int .i64 (W : Int), .int .i64 (E : Int), .bool ex, .int .i64 f, .bool neg])] ?_
     refine xcv 62 (ct_impl_rounding_packed h (f) hf (neg) (2) (S - 1) (A2) (k2) b2 (q) (q) zq2) (zsS (ziS (ziS (ziS zi0))) (zsS zi0 zs0)) ?_
     refine xy [(5, [2])] [] [(2, [.int .u64 (hiI (Prod.fst (packR P emin emax W E ex 2 neg (S - 1) q))), .int .u64 (loI (Prod.fst (packR P emin emax W E ex 2 neg (S - 1) q)))])] ?_
     refine SW_ret ?_
     refine xe () (.agg #[.int .u64 (hiI (Prod.fst (packR P emin emax W E ex 2 neg (S - 1) q))), .int .u64 (loI (Prod.fst (packR P emin emax W E ex 2 neg (S - 1) q)))]) [2] ?_ trivial
     rfl
    ·have z1 : decide ((m2 : Int) < (P : Int)) = false := decide_eq_false (by omega)
     have z4 := hz.trans (decide_eq_false (show ¬ S - 1 = 0 by omega))
     rw [show clsN P emax (S - 1) q = 3 by rw [clsN, if_neg (by omega), if_neg (by omega), if_neg hp], if_neg (by decide)]
     refine xg ?_
     refine xb 2 [.int .i64 (P : Int), .int .i64 emin, .int .i64 emax, .int .i64 (W : Int), .int .i64 (E : Int), .bool ex, .int .i64 f, .bool neg] 114 (fun g0 => ?_)
     refine xb 3 [.int .i64 c, .bool neg', .int .u64 (hiI S), .int .u64 (loI S), .int .i64 q] 27 (fun g1 => ?_)
     refine xb 4 [.int .u64 0, .int .u64 0] 25 (fun g2 => ?_)
     refine xz [] [] ?_
     refine SW_seq ?_
     refine xr [(1, [1])] [(8, .bool (c == 4))] ?_
     refine xsf c4 ?_
     refine SW_skip ?_
     refine xg ?_
     refine xn 2 [(1, [1])] [(12, .agg #[.int .u64 (hiI S), .int .u64 (loI S)])] ?_
     refine xcr 13 (ct_impl_Word_nat (S) bS) zs0 (fun A0 k0 => ?_)
     refine xcr 14 (ct_impl_word (1) (1) ⟨rfl⟩ (by omega)) zs0 (fun A1 k1 => ?_)
     refine xcr 15 (ct_impl_nat_sub (S) (1) (A0) (A1) (k0) (k1) sS (by omega)) (zsS (ziS zi0) (zsS zi0 zs0)) (fun A2 k2 => ?_)
     refine xz [] [(5, .slice A2 (List.length (ofN B64 (S - 1))) k2)] ?_
     refine SW_seq ?_
     refine xd (fun hB => ?_)
     refine xdk [(0, []), (1, [1]), (2, []), (3, [])] [(19, .bool (c == 3))] hB ?_
     refine xdnt 19 c3 ?_
     refine xdk [(4, []), (6, []), (7, []), (8, []), (9, [0])] [(25, .int .i64 (P : Int)), (20, .slice A2 (List.length (ofN B64 (S - 1))) k2)] hB ?_
     refine xdv 5 21 (ct_impl_nat_bits (S - 1) (A2) (k2) sS2 (m2) hm2) (zsS zi0 zs0) ?_
     refine xdk [(10, []), (11, []), (12, [])] [(28, .bool (decide ((m2 : Int) < (P : Int))))] hB ?_
     refine xdnf 28 z1 ?_
     refine xdk [(13, []), (14, []), (15, []), (16, []), (17, []), (18, []), (19, [])] [(35, .bool false)] hB ?_
     refine xdz ?_
     refine xs0 ?_
     refine SW_skip ?_
     refine SW_seq ?_
     refine SW_block ?_
     refine xr [] [(44, .bool ((((List.length (ofN B64 (S - 1))) : Nat) : Int) == 0))] ?_
     refine xsf z4 ?_
     refine xd (fun hB => ?_)
     refine xdk [(0, []), (2, []), (3, []), (4, []), (5, [0])] [(56, .int .i64 (P : Int)), (51, .slice A2 (List.length (ofN B64 (S - 1))) k2)] hB ?_
     refine xdv 1 52 (ct_impl_nat_bits (S - 1) (A2) (k2) sS2 (m2) hm2) (zsS zi0 zs0) ?_
     refine xdk [(6, []), (7, [])] [(50, .bool (decide ((m2 : Int) < (P : Int))))] hB ?_
     refine xdz ?_
     refine xsf z1 ?_
     refine SW_skip ?_
     refine xg ?_
     refine xn 4 [(0, [0]), (3, [1])] [(66, .int .i64 q), (64, .slice A2 (List.length (ofN B64 (S - 1))) k2), (63, .agg #[.int .i64 (P : Int), .int .i64 emin, .int .i64 emax, .int .i64 (W : Int), .int .i64 (E : Int), .bool ex, .int .i64 f, .bool neg])] ?_
     refine xcv 67 (ct_impl_rounding_packed h (f) hf (neg) (3) (S - 1) (A2) (k2) b2 (q) (q) zq2) (zsS (ziS (ziS (ziS zi0))) (zsS zi0 zs0)) ?_
     refine xy [(5, [2])] [] [(2, [.int .u64 (hiI (Prod.fst (packR P emin emax W E ex 3 neg (S - 1) q))), .int .u64 (loI (Prod.fst (packR P emin emax W E ex 3 neg (S - 1) q)))])] ?_
     refine SW_ret ?_
     refine xe () (.agg #[.int .u64 (hiI (Prod.fst (packR P emin emax W E ex 3 neg (S - 1) q))), .int .u64 (loI (Prod.fst (packR P emin emax W E ex 3 neg (S - 1) q)))]) [2] ?_ trivial
     rfl
   ·have c3 : (c == 3) = false := by rw [beq_eq_false_iff_ne]; exact hc3
    have hS2 := bq3 (by omega)
    by_cases k1 : S - 1 = 0
    ·have z4 := hz.trans (decide_eq_true k1)
     rw [show clsN P emax (S - 1) q = 1 by rw [clsN, if_pos k1], if_pos (.inl rfl)]
     refine xg ?_
     refine xb 2 [.int .i64 (P : Int), .int .i64 emin, .int .i64 emax, .int .i64 (W : Int), .int .i64 (E : Int), .bool ex, .int .i64 f, .bool neg] 114 (fun g0 => ?_)
     refine xb 3 [.int .i64 c, .bool neg', .int .u64 (hiI S), .int .u64 (loI S), .int .i64 q] 27 (fun g1 => ?_)
     refine xb 4 [.int .u64 0, .int .u64 0] 25 (fun g2 => ?_)
     refine xz [] [] ?_
     refine SW_seq ?_
     refine xr [(1, [1])] [(8, .bool (c == 4))] ?_
     refine xsf c4 ?_
     refine SW_skip ?_
     refine xg ?_
     refine xn 2 [(1, [1])] [(12, .agg #[.int .u64 (hiI S), .int .u64 (loI S)])] ?_
     refine xcr 13 (ct_impl_Word_nat (S) bS) zs0 (fun A2 k2 => ?_)
     refine xcr 14 (ct_impl_word (1) (1) ⟨rfl⟩ (by omega)) zs0 (fun A3 k3 => ?_)
     refine xcr 15 (ct_impl_nat_sub (S) (1) (A2) (A3) (k2) (k3) sS (by omega)) (zsS (ziS zi0) (zsS zi0 zs0)) (fun A4 k4 => ?_)
     refine xz [] [(5, .slice A4 (List.length (ofN B64 (S - 1))) k4)] ?_
     refine SW_seq ?_
     refine xd (fun hB => ?_)
     refine xdk [(0, []), (1, [1]), (2, []), (3, [])] [(19, .bool (c == 3))] hB ?_
     refine xdnf 19 c3 ?_
     refine xdk [(4, []), (5, []), (6, []), (7, []), (8, []), (9, []), (10, []), (11, []), (12, []), (13, []), (14, []), (15, []), (16, []), (17, []), (18, []), (19, [])] [(35, .bool false)] hB ?_
     refine xdz ?_
     refine xs0 ?_
     refine SW_skip ?_
     refine SW_seq ?_
     refine SW_block ?_
     refine xr [] [(44, .bool ((((List.length (ofN B64 (S - 1))) : Nat) : Int) == 0))] ?_
     refine xst z4 ?_
     refine xg ?_
     refine xn 1 [(0, [0])] [(48, .agg #[.int .i64 (P : Int), .int .i64 emin, .int .i64 emax, .int .i64 (W : Int), .int .i64 (E : Int), .bool ex, .int .i64 f, .bool neg])] ?_
     refine xcv 49 (ct_impl_rounding_packed' h (f) hf (neg) (1) (0) (0) z0) (zsS (ziS (ziS (ziS zi0))) zs0) ?_
     refine xy [(2, [2])] [] [(2, [.int .u64 (hiI (Prod.fst (packR P emin emax W E ex 1 neg 0 0))), .int .u64 (loI (Prod.fst (packR P emin emax W E ex 1 neg 0 0)))])] ?_
     refine SW_ret ?_
     refine xe () (.agg #[.int .u64 (hiI (Prod.fst (packR P emin emax W E ex 1 neg 0 0))), .int .u64 (loI (Prod.fst (packR P emin emax W E ex 1 neg 0 0)))]) [2] ?_ trivial
     rfl
    ·have z4 := hz.trans (decide_eq_false k1)
     have z1 : decide ((m2 : Int) < (P : Int)) = true := decide_eq_true (by omega)
     rw [show clsN P emax (S - 1) q = 2 by rw [clsN, if_neg k1, if_neg (by omega), if_pos (by omega)], if_neg (by decide)]
     refine xg ?_
     refine xb 2 [.int .i64 (P : Int), .int .i64 emin, .int .i64 emax, .int .i64 (W : Int), .int .i64 (E : Int), .bool ex, .int .i64 f, .bool neg] 114 (fun g0 => ?_)
     refine xb 3 [.int .i64 c, .bool neg', .int .u64 (hiI S), .int .u64 (loI S), .int .i64 q] 27 (fun g1 => ?_)
     refine xb 4 [.int .u64 0, .int .u64 0] 25 (fun g2 => ?_)
     refine xz [] [] ?_
     refine SW_seq ?_
     refine xr [(1, [1])] [(8, .bool (c == 4))] ?_
     refine xsf c4 ?_
     refine SW_skip ?_
     refine xg ?_
     refine xn 2 [(1, [1])] [(12, .agg #[.int .u64 (hiI S), .int .u64 (loI S)])] ?_
     refine xcr 13 (ct_impl_Word_nat (S) bS) zs0 (fun A2 k2 => ?_)
     refine xcr 14 (ct_impl_word (1) (1) ⟨rfl⟩ (by omega)) zs0 (fun A3 k3 => ?_)
     refine xcr 15 (ct_impl_nat_sub (S) (1) (A2) (A3) (k2) (k3) sS (by omega)) (zsS (ziS zi0) (zsS zi0 zs0)) (fun A4 k4 => ?_)
     refine xz [] [(5, .slice A4 (List.length (ofN B64 (S - 1))) k4)] ?_
     refine SW_seq ?_
     refine xd (fun hB => ?_)
     refine xdk [(0, []), (1, [1]), (2, []), (3, [])] [(19, .bool (c == 3))] hB ?_
     refine xdnf 19 c3 ?_
     refine xdk [(4, []), (5, []), (6, []), (7, []), (8, []), (9, []), (10, []), (11, []), (12, []), (13, []), (14, []), (15, []), (16, []), (17, []), (18, []), (19, [])] [(35, .bool false)] hB ?_
     refine xdz ?_
     refine xs0 ?_
     refine SW_skip ?_
     refine SW_seq ?_
     refine SW_block ?_
     refine xr [] [(44, .bool ((((List.length (ofN B64 (S - 1))) : Nat) : Int) == 0))] ?_
     refine xsf z4 ?_
     refine xd (fun hB => ?_)
     refine xdk [(0, []), (2, []), (3, []), (4, []), (5, [0])] [(56, .int .i64 (P : Int)), (51, .slice A4 (List.length (ofN B64 (S - 1))) k4)] hB ?_
     refine xdv 1 52 (ct_impl_nat_bits (S - 1) (A4) (k4) sS2 (m2) hm2) (zsS zi0 zs0) ?_
     refine xdk [(6, []), (7, [])] [(50, .bool (decide ((m2 : Int) < (P : Int))))] hB ?_
     refine xdz ?_
     refine xst z1 ?_
     refine xg ?_
     refine xn 4 [(0, [0]), (3, [1])] [(61, .int .i64 q), (59, .slice A4 (List.length (ofN B64 (S - 1))) k4), (58, .agg #[.int .i64 (P : Int), .int .i64 emin, .int .i64 emax, .int .i64 (W : Int), .int .i64 (E : Int), .bool ex, .int .i64 f, .bool neg])] ?_
     refine xcv 62 (ct_impl_rounding_packed h (f) hf (neg) (2) (S - 1) (A4) (k4) b2 (q) (q) zq2) (zsS (ziS (ziS (ziS zi0))) (zsS zi0 zs0)) ?_
     refine xy [(5, [2])] [] [(2, [.int .u64 (hiI (Prod.fst (packR P emin emax W E ex 2 neg (S - 1) q))), .int .u64 (loI (Prod.fst (packR P emin emax W E ex 2 neg (S - 1) q)))])] ?_
     refine SW_ret ?_
     refine xe () (.agg #[.int .u64 (hiI (Prod.fst (packR P emin emax W E ex 2 neg (S - 1) q))), .int .u64 (loI (Prod.fst (packR P emin emax W E ex 2 neg (S - 1) q)))]) [2] ?_ trivial
     rfl
end Go.Proofs.YtdbnmdchecacdaaDoor.M
end
section
namespace Go.Proofs.YtdbnmdchecacdaaDoor.M
open Go.RowKit Go.Proofs.YtdbnmdchecacdaaDoor.G Go.Proofs.YtdbnmdchecacdaaDoorV.PrintWords Go.Proofs.YtdbnmdchecacdaaDoorV.PrintLast Go.Proofs.YtdbnmdchecacdaaDoor.X
set_option linter.unusedVariables false
set_option linter.unusedSimpArgs false
theorem ct_impl_Step0 (f : Int) (hf : impl_layoutOf.f f = some (0, 0, 0, 0, 0, false, false)) (h l : Int) (up : Bool) :
  CtV Tryd.prog 31 [.int .i64 f, .agg #[.int .u64 h, .int .u64 l], .bool up] [Tabled] (.tuple #[.agg #[.int .u64 0, .int .u64 0], .bool false]) := by
 refine ct_of Tryd.func31 rfl (by kernel_rfl) (fun B w0 => ?_)
 refine xg ?_
 refine xb 4 [.int .u64 h, .int .u64 l] 25 (fun g0 => ?_)
 refine xb 6 [.int .u64 0, .int .u64 0] 25 (fun g1 => ?_)
 refine xz [] [(7, .bool false)] ?_
 refine xg ?_
 refine xn 1 [] [(13, .int .i64 f)] ?_
 refine xcv 14 (ct_impl_layoutOf' (f) hf) (zsS zi0 zs0) ?_
 refine xn 5 [] [(16, .bool false), (15, .agg #[.int .i64 0, .int .i64 0, .int .i64 0, .int .i64 0, .int .i64 0, .bool false])] ?_
 refine xb 8 [.int .i64 0, .int .i64 0, .int .i64 0, .int .i64 0, .int .i64 0, .bool false] 91 (fun g2 => ?_)
 refine xy [(6, [2])] [(9, .bool false)] [] ?_
 refine xg ?_
 refine xn 2 [(1, [0])] [(18, .agg #[.int .u64 h, .int .u64 l]), (17, .int .i64 f)] ?_
 refine xcv 19 (ct_impl_Unpack' (f) hf (h) (l)) (zsS zi0 zs0) ?_
 refine xb 10 [.int .i64 0, .bool false, .int .u64 0, .int .u64 0, .int .i64 0] 27 (fun g3 => ?_)
 refine xy [(4, [3])] [] [] ?_
 refine SW_seq ?_
 refine xr [] [(31, .bool true)] ?_
 refine xs1 ?_
 refine xq [(1, [1])] [(7, .bool false)] [] ?_
 refine SW_ret ?_
 refine xe () (.tuple #[.agg #[.int .u64 0, .int .u64 0], .bool false]) [1] ?_ trivial
 rfl
theorem ct_spec_Step0 (f : Int) (hf : spec_Describe.f f = some (0, 0, 0, 0, 0, false)) (h l : Int) (up : Bool) :
  CtV Tryd.prog 30 [.int .i64 f, .agg #[.int .u64 h, .int .u64 l], .bool up] [] (.tuple #[.agg #[.int .u64 0, .int .u64 0], .bool false]) := by
 refine ct_of Tryd.func30 rfl (by kernel_rfl) (fun B w0 => ?_)
 refine xg ?_
 refine xb 4 [.int .u64 h, .int .u64 l] 25 (fun g0 => ?_)
 refine xb 6 [.int .u64 0, .int .u64 0] 25 (fun g1 => ?_)
 refine xz [] [(7, .bool false)] ?_
 refine xg ?_
 refine xn 2 [(1, [0])] [(17, .agg #[.int .u64 h, .int .u64 l]), (16, .int .i64 f)] ?_
 refine xcv 18 (ct_spec_Unpack' (f) hf (h) (l)) zs0 ?_
 refine xb 8 [.int .i64 0, .bool false, .int .u64 0, .int .u64 0, .int .i64 0] 27 (fun g2 => ?_)
 refine xy [(4, [2])] [] [] ?_
 refine xg ?_
 refine xn 1 [] [(19, .int .i64 f)] ?_
 refine xcv 20 (ct_spec_Describe' (f) hf) zs0 ?_
 refine xb 9 [.int .i64 0, .int .i64 0, .int .i64 0, .int .i64 0, .int .i64 0, .bool false] 83 (fun g3 => ?_)
 refine xy [(3, [3])] [] [] ?_
 refine SW_seq ?_
 refine xr [(1, [2])] [(28, .bool true)] ?_
 refine xs1 ?_
 refine xq [(1, [1])] [(7, .bool false)] [] ?_
 refine SW_ret ?_
 refine xe () (.tuple #[.agg #[.int .u64 0, .int .u64 0], .bool false]) [1] ?_ trivial
 rfl
theorem ct_impl_Step {P : Nat} {emin emax : Int} {W E : Nat} {ex : Bool} {f : Int} (d : FD f P emin emax W E ex) (x : Nat) (hx : x < B128) (up : Bool) (R : Nat × Bool)
  (hb : unpN P emin emax W E ex x = badP ∨ unpN P emin emax W E ex x = (5, false, 0, 0, 0) → R = (0, false)) (hS : ∀ c neg S q, unpN P emin emax W E ex x = (c, neg, hiI S, loI S, q) → VP P emin emax c S q → R = stepN P emin emax W E ex c neg S q up) :
  CtV Tryd.prog 31 [.int .i64 f, .agg #[.int .u64 (hiI x), .int .u64 (loI x)], .bool up] [Tabled] (.tuple #[.agg #[.int .u64 (hiI R.1), .int .u64 (loI R.1)], .bool R.2]) := by
 have h := d.h
 have hx1 := d.x1
 have hf := d.lf
 have hF := h.toFmt
 have cu := ct_impl_Unpack h.toFmt f hf x hx
 refine ct_of Tryd.func31 rfl (by kernel_rfl) (fun B w0 => ?_)
 rcases unp_form h x with hu | hu | ⟨c, neg, S, q, hu, hl, hv⟩
 ·rw [hb (.inl hu)]
  rw [hu, badP, prtV] at cu
  dsimp only at cu
  refine xg ?_
  refine xb 4 [.int .u64 (hiI x), .int .u64 (loI x)] 25 (fun g0 => ?_)
  refine xb 6 [.int .u64 0, .int .u64 0] 25 (fun g1 => ?_)
  refine xz [] [(7, .bool false)] ?_
  refine xg ?_
  refine xn 1 [] [(13, .int .i64 f)] ?_
  refine xcv 14 (ct_impl_layoutOf (f) hf) (zsS zi0 zs0) ?_
  refine xn 5 [] [(16, .bool true), (15, .agg #[.int .i64 (P : Int), .int .i64 emin, .int .i64 emax, .int .i64 (W : Int), .int .i64 (E : Int), .bool ex])] ?_
  refine xb 8 [.int .i64 0, .int .i64 0, .int .i64 0, .int .i64 0, .int .i64 0, .bool false] 91 (fun g2 => ?_)
  refine xy [(6, [2])] [(9, .bool true)] [(2, [.int .i64 (P : Int), .int .i64 emin, .int .i64 emax, .int .i64 (W : Int), .int .i64 (E : Int), .bool ex])] ?_
  refine xg ?_
  refine xn 2 [(1, [0])] [(18, .agg #[.int .u64 (hiI x), .int .u64 (loI x)]), (17, .int .i64 f)] ?_
  refine xcv 19 cu (zsS zi0 zs0) ?_
  refine xb 10 [.int .i64 0, .bool false, .int .u64 0, .int .u64 0, .int .i64 0] 27 (fun g3 => ?_)
  refine xy [(4, [3])] [] [] ?_
  refine SW_seq ?_
  refine xr [(4, [3])] [(31, .bool true)] ?_
  refine xs1 ?_
  refine xq [(1, [1])] [(7, .bool false)] [] ?_
  refine SW_ret ?_
  refine xe () (.tuple #[.agg #[.int .u64 0, .int .u64 0], .bool false]) [1] ?_ trivial
  rfl
 ·rw [hb (.inr hu)]
  rw [hu, prtV] at cu
  dsimp only at cu
  refine xg ?_
  refine xb 4 [.int .u64 (hiI x), .int .u64 (loI x)] 25 (fun g0 => ?_)
  refine xb 6 [.int .u64 0, .int .u64 0] 25 (fun g1 => ?_)
  refine xz [] [(7, .bool false)] ?_
  refine xg ?_
  refine xn 1 [] [(13, .int .i64 f)] ?_
  refine xcv 14 (ct_impl_layoutOf (f) hf) (zsS zi0 zs0) ?_
  refine xn 5 [] [(16, .bool true), (15, .agg #[.int .i64 (P : Int), .int .i64 emin, .int .i64 emax, .int .i64 (W : Int), .int .i64 (E : Int), .bool ex])] ?_
  refine xb 8 [.int .i64 0, .int .i64 0, .int .i64 0, .int .i64 0, .int .i64 0, .bool false] 91 (fun g2 => ?_)
  refine xy [(6, [2])] [(9, .bool true)] [(2, [.int .i64 (P : Int), .int .i64 emin, .int .i64 emax, .int .i64 (W : Int), .int .i64 (E : Int), .bool ex])] ?_
  refine xg ?_
  refine xn 2 [(1, [0])] [(18, .agg #[.int .u64 (hiI x), .int .u64 (loI x)]), (17, .int .i64 f)] ?_
  refine xcv 19 cu (zsS zi0 zs0) ?_
  refine xb 10 [.int .i64 0, .bool false, .int .u64 0, .int .u64 0, .int .i64 0] 27 (fun g3 => ?_)
  refine xy [(4, [3])] [] [(3, [.int .i64 5, .bool false, .int .u64 0, .int .u64 0, .int .i64 0])] ?_
  refine SW_seq ?_
  refine xr [(4, [3]), (9, [3])] [(31, .bool true)] ?_
  refine xs1 ?_
  refine xq [(1, [1])] [(7, .bool false)] [] ?_
  refine SW_ret ?_
  refine xe () (.tuple #[.agg #[.int .u64 0, .int .u64 0], .bool false]) [1] ?_ trivial
  rfl
 ·rw [hS c neg S q hu hv]
  rw [hu, prtV] at cu
  dsimp only at cu
  have h0c : (c == 0) = false := by rw [beq_eq_false_iff_ne]; rcases hv with ⟨rfl, _⟩ | ⟨rfl, _⟩ | ⟨rfl, _⟩ | ⟨rfl, _⟩ <;> decide
  have h5c : (c == 5) = false := by rw [beq_eq_false_iff_ne]; rcases hv with ⟨rfl, _⟩ | ⟨rfl, _⟩ | ⟨rfl, _⟩ | ⟨rfl, _⟩ <;> decide
  by_cases h1 : c = 1
  ·have c1 : (c == 1) = true := by rw [beq_iff_eq]; exact h1
   have st : stepN P emin emax W E ex c (!up) S q up = stepN P emin emax W E ex c neg S q up := by unfold stepN; rw [if_pos h1, if_pos h1]
   have ok := step_ok h hx1 (neg := neg) hv up (fun z => by rw [h1] at z; exact absurd z.1 (by decide))
   have hn : c = 1 → (!up) = !up := fun _ => rfl
   have hg : c ≠ 1 → (up != !up) = true := fun z => absurd h1 z
   refine xg ?_
   refine xb 4 [.int .u64 (hiI x), .int .u64 (loI x)] 25 (fun g0 => ?_)
   refine xb 6 [.int .u64 0, .int .u64 0] 25 (fun g1 => ?_)
   refine xz [] [(7, .bool false)] ?_
   refine xg ?_
   refine xn 1 [] [(13, .int .i64 f)] ?_
   refine xcv 14 (ct_impl_layoutOf (f) hf) (zsS zi0 zs0) ?_
   refine xn 5 [] [(16, .bool true), (15, .agg #[.int .i64 (P : Int), .int .i64 emin, .int .i64 emax, .int .i64 (W : Int), .int .i64 (E : Int), .bool ex])] ?_
   refine xb 8 [.int .i64 0, .int .i64 0, .int .i64 0, .int .i64 0, .int .i64 0, .bool false] 91 (fun g2 => ?_)
   refine xy [(6, [2])] [(9, .bool true)] [(2, [.int .i64 (P : Int), .int .i64 emin, .int .i64 emax, .int .i64 (W : Int), .int .i64 (E : Int), .bool ex])] ?_
   refine xg ?_
   refine xn 2 [(1, [0])] [(18, .agg #[.int .u64 (hiI x), .int .u64 (loI x)]), (17, .int .i64 f)] ?_
   refine xcv 19 cu (zsS zi0 zs0) ?_
   refine xb 10 [.int .i64 0, .bool false, .int .u64 0, .int .u64 0, .int .i64 0] 27 (fun g3 => ?_)
   refine xy [(4, [3])] [] [(3, [.int .i64 c, .bool neg, .int .u64 (hiI S), .int .u64 (loI S), .int .i64 q])] ?_
   refine SW_seq ?_
   refine xg ?_
   refine xn 8 [(4, [3])] [(27, .bool (c == 0))] ?_
   refine xkf 27 h0c ?_
   refine xz [(9, [3])] [(31, .bool (c == 5))] ?_
   refine xsf h5c ?_
   refine SW_skip ?_
   refine SW_seq ?_
   refine xr [(1, [3])] [(35, .bool (c == 1))] ?_
   refine xst c1 ?_
   refine xql [(3, [3])] [] [(3, [.int .i64 c, .bool !up, .int .u64 (hiI S), .int .u64 (loI S), .int .i64 q])] ?_
   refine xg ?_
   refine xn 5 [(0, [2]), (3, [3])] [(43, .agg #[.int .i64 (P : Int), .int .i64 emin, .int .i64 emax, .int .i64 (W : Int), .int .i64 (E : Int), .bool ex, .int .i64 f, .bool !up])] ?_
   refine xb 11 [.int .i64 0, .int .i64 0, .int .i64 0, .int .i64 0, .int .i64 0, .bool false, .int .i64 0, .bool false] 114 (fun g4 => ?_)
   refine xy [(6, [4])] [] [(4, [.int .i64 (P : Int), .int .i64 emin, .int .i64 emax, .int .i64 (W : Int), .int .i64 (E : Int), .bool ex, .int .i64 f, .bool !up])] ?_
   refine SW_seq ?_
   refine xg ?_
   refine xn 4 [(1, [3])] [(47, .bool (c == 1))] ?_
   refine xkt 47 c1 ?_
   refine xz [] [(52, .bool true)] ?_
   refine xs1 ?_
   refine xg ?_
   refine xn 2 [(0, [4]), (1, [3])] [(54, .agg #[.int .i64 c, .bool !up, .int .u64 (hiI S), .int .u64 (loI S), .int .i64 q]), (53, .agg #[.int .i64 (P : Int), .int .i64 emin, .int .i64 emax, .int .i64 (W : Int), .int .i64 (E : Int), .bool ex, .int .i64 f, .bool !up])] ?_
   refine xcv 55 (ct_impl_rounding_away h hx1 (f) hf (!up) (!up) (c) (S) (q) hv (up) hn hg) (zsS zi0 zs0) ?_
   refine xy [(5, [1])] [(7, .bool (c != 4))] [(1, [.int .u64 (hiI (Prod.fst (stepN P emin emax W E ex c (!up) S q up))), .int .u64 (loI (Prod.fst (stepN P emin emax W E ex c (!up) S q up)))])] ?_
   refine SW_ret ?_
   refine xe () (.tuple #[.agg #[.int .u64 (hiI (Prod.fst (stepN P emin emax W E ex c (!up) S q up))), .int .u64 (loI (Prod.fst (stepN P emin emax W E ex c (!up) S q up)))], .bool (c != 4)]) [1] ?_ trivial
   rw [st, ok]
   have : (c != 4) = true := by rw [h1]; rfl
   rw [this]
  ·have c1 : (c == 1) = false := by rw [beq_eq_false_iff_ne]; exact h1
   have hn : c = 1 → neg = !up := fun z => absurd z h1
   by_cases hg : (up != neg) = true
   ·have z1 : (!(up == neg)) = true := hg
    have hg' : c ≠ 1 → (up != neg) = true := fun _ => hg
    refine xg ?_
    refine xb 4 [.int .u64 (hiI x), .int .u64 (loI x)] 25 (fun g0 => ?_)
    refine xb 6 [.int .u64 0, .int .u64 0] 25 (fun g1 => ?_)
    refine xz [] [(7, .bool false)] ?_
    refine xg ?_
    refine xn 1 [] [(13, .int .i64 f)] ?_
    refine xcv 14 (ct_impl_layoutOf (f) hf) (zsS zi0 zs0) ?_
    refine xn 5 [] [(16, .bool true), (15, .agg #[.int .i64 (P : Int), .int .i64 emin, .int .i64 emax, .int .i64 (W : Int), .int .i64 (E : Int), .bool ex])] ?_
    refine xb 8 [.int .i64 0, .int .i64 0, .int .i64 0, .int .i64 0, .int .i64 0, .bool false] 91 (fun g2 => ?_)
    refine xy [(6, [2])] [(9, .bool true)] [(2, [.int .i64 (P : Int), .int .i64 emin, .int .i64 emax, .int .i64 (W : Int), .int .i64 (E : Int), .bool ex])] ?_
    refine xg ?_
    refine xn 2 [(1, [0])] [(18, .agg #[.int .u64 (hiI x), .int .u64 (loI x)]), (17, .int .i64 f)] ?_
    refine xcv 19 cu (zsS zi0 zs0) ?_
    refine xb 10 [.int .i64 0, .bool false, .int .u64 0, .int .u64 0, .int .i64 0] 27 (fun g3 => ?_)
    refine xy [(4, [3])] [] [(3, [.int .i64 c, .bool neg, .int .u64 (hiI S), .int .u64 (loI S), .int .i64 q])] ?_
    refine SW_seq ?_
    refine xg ?_
    refine xn 8 [(4, [3])] [(27, .bool (c == 0))] ?_
    refine xkf 27 h0c ?_
    refine xz [(9, [3])] [(31, .bool (c == 5))] ?_
    refine xsf h5c ?_
    refine SW_skip ?_
    refine SW_seq ?_
    refine xr [(1, [3])] [(35, .bool (c == 1))] ?_
    refine xsf c1 ?_
    refine SW_skip ?_
    refine xg ?_
    refine xn 5 [(0, [2]), (3, [3])] [(43, .agg #[.int .i64 (P : Int), .int .i64 emin, .int .i64 emax, .int .i64 (W : Int), .int .i64 (E : Int), .bool ex, .int .i64 f, .bool neg])] ?_
    refine xb 11 [.int .i64 0, .int .i64 0, .int .i64 0, .int .i64 0, .int .i64 0, .bool false, .int .i64 0, .bool false] 114 (fun g4 => ?_)
    refine xy [(6, [4])] [] [(4, [.int .i64 (P : Int), .int .i64 emin, .int .i64 emax, .int .i64 (W : Int), .int .i64 (E : Int), .bool ex, .int .i64 f, .bool neg])] ?_
    refine SW_seq ?_
    refine xg ?_
    refine xn 4 [(1, [3])] [(47, .bool (c == 1))] ?_
    refine xkf 47 c1 ?_
    refine xz [(6, [3])] [(52, .bool !up == neg)] ?_
    refine xst z1 ?_
    refine xg ?_
    refine xn 2 [(0, [4]), (1, [3])] [(54, .agg #[.int .i64 c, .bool neg, .int .u64 (hiI S), .int .u64 (loI S), .int .i64 q]), (53, .agg #[.int .i64 (P : Int), .int .i64 emin, .int .i64 emax, .int .i64 (W : Int), .int .i64 (E : Int), .bool ex, .int .i64 f, .bool neg])] ?_
    refine xcv 55 (ct_impl_rounding_away h hx1 (f) hf (neg) (neg) (c) (S) (q) hv (up) hn hg') (zsS zi0 zs0) ?_
    refine xy [(5, [1])] [(7, .bool (c != 4))] [(1, [.int .u64 (hiI (Prod.fst (stepN P emin emax W E ex c neg S q up))), .int .u64 (loI (Prod.fst (stepN P emin emax W E ex c neg S q up)))])] ?_
    refine SW_ret ?_
    refine xe () (.tuple #[.agg #[.int .u64 (hiI (Prod.fst (stepN P emin emax W E ex c neg S q up))), .int .u64 (loI (Prod.fst (stepN P emin emax W E ex c neg S q up)))], .bool (c != 4)]) [1] ?_ trivial
    by_cases h4 : c = 4
    ·have : (c != 4) = false := by rw [h4]; rfl
     rw [this, stepN, if_neg h1, if_pos h4, if_pos hg]
    ·have : (c != 4) = true := by rw [bne_iff_ne]; exact h4
     rw [this, step_ok h hx1 hv up (fun z => h4 z.1)]
   ·have z1 : (!(up == neg)) = false := by simpa using hg
    have hg' : (up != neg) = false := by simpa using hg
    have ok := step_ok h hx1 hv up (fun z => hg z.2)
    refine xg ?_
    refine xb 4 [.int .u64 (hiI x), .int .u64 (loI x)] 25 (fun g0 => ?_)
    refine xb 6 [.int .u64 0, .int .u64 0] 25 (fun g1 => ?_)
    refine xz [] [(7, .bool false)] ?_
    refine xg ?_
    refine xn 1 [] [(13, .int .i64 f)] ?_
    refine xcv 14 (ct_impl_layoutOf (f) hf) (zsS zi0 zs0) ?_
    refine xn 5 [] [(16, .bool true), (15, .agg #[.int .i64 (P : Int), .int .i64 emin, .int .i64 emax, .int .i64 (W : Int), .int .i64 (E : Int), .bool ex])] ?_
    refine xb 8 [.int .i64 0, .int .i64 0, .int .i64 0, .int .i64 0, .int .i64 0, .bool false] 91 (fun g2 => ?_)
    refine xy [(6, [2])] [(9, .bool true)] [(2, [.int .i64 (P : Int), .int .i64 emin, .int .i64 emax, .int .i64 (W : Int), .int .i64 (E : Int), .bool ex])] ?_
    refine xg ?_
    refine xn 2 [(1, [0])] [(18, .agg #[.int .u64 (hiI x), .int .u64 (loI x)]), (17, .int .i64 f)] ?_
    refine xcv 19 cu (zsS zi0 zs0) ?_
    refine xb 10 [.int .i64 0, .bool false, .int .u64 0, .int .u64 0, .int .i64 0] 27 (fun g3 => ?_)
    refine xy [(4, [3])] [] [(3, [.int .i64 c, .bool neg, .int .u64 (hiI S), .int .u64 (loI S), .int .i64 q])] ?_
    refine SW_seq ?_
    refine xg ?_
    refine xn 8 [(4, [3])] [(27, .bool (c == 0))] ?_
    refine xkf 27 h0c ?_
    refine xz [(9, [3])] [(31, .bool (c == 5))] ?_
    refine xsf h5c ?_
    refine SW_skip ?_
    refine SW_seq ?_
    refine xr [(1, [3])] [(35, .bool (c == 1))] ?_
    refine xsf c1 ?_
    refine SW_skip ?_
    refine xg ?_
    refine xn 5 [(0, [2]), (3, [3])] [(43, .agg #[.int .i64 (P : Int), .int .i64 emin, .int .i64 emax, .int .i64 (W : Int), .int .i64 (E : Int), .bool ex, .int .i64 f, .bool neg])] ?_
    refine xb 11 [.int .i64 0, .int .i64 0, .int .i64 0, .int .i64 0, .int .i64 0, .bool false, .int .i64 0, .bool false] 114 (fun g4 => ?_)
    refine xy [(6, [4])] [] [(4, [.int .i64 (P : Int), .int .i64 emin, .int .i64 emax, .int .i64 (W : Int), .int .i64 (E : Int), .bool ex, .int .i64 f, .bool neg])] ?_
    refine SW_seq ?_
    refine xg ?_
    refine xn 4 [(1, [3])] [(47, .bool (c == 1))] ?_
    refine xkf 47 c1 ?_
    refine xz [(6, [3])] [(52, .bool !up == neg)] ?_
    refine xsf z1 ?_
    refine SW_skip ?_
    refine xg ?_
    refine xn 2 [(0, [4]), (1, [3])] [(59, .agg #[.int .i64 c, .bool neg, .int .u64 (hiI S), .int .u64 (loI S), .int .i64 q]), (58, .agg #[.int .i64 (P : Int), .int .i64 emin, .int .i64 emax, .int .i64 (W : Int), .int .i64 (E : Int), .bool ex, .int .i64 f, .bool neg])] ?_
    refine xcv 60 (ct_impl_rounding_nearer h hx1 (f) hf (neg) (neg) (c) (S) (q) hv (up) h1 hg') (zsS zi0 zs0) ?_
    refine xy [(3, [1])] [(7, .bool true)] [(1, [.int .u64 (hiI (Prod.fst (stepN P emin emax W E ex c neg S q up))), .int .u64 (loI (Prod.fst (stepN P emin emax W E ex c neg S q up)))])] ?_
    refine SW_ret ?_
    refine xe () (.tuple #[.agg #[.int .u64 (hiI (Prod.fst (stepN P emin emax W E ex c neg S q up))), .int .u64 (loI (Prod.fst (stepN P emin emax W E ex c neg S q up)))], .bool true]) [1] ?_ trivial
    rw [ok]
theorem step_both (f : Int) (x : Nat) (hx : x < B128) (up : Bool) : ∃ R : Nat × Bool,
  CtV Tryd.prog 30 [.int .i64 f, .agg #[.int .u64 (hiI x), .int .u64 (loI x)], .bool up] [] (.tuple #[.agg #[.int .u64 (hiI R.1), .int .u64 (loI R.1)], .bool R.2]) ∧
  CtV Tryd.prog 31 [.int .i64 f, .agg #[.int .u64 (hiI x), .int .u64 (loI x)], .bool up] [Tabled] (.tuple #[.agg #[.int .u64 (hiI R.1), .int .u64 (loI R.1)], .bool R.2]) := by
 rcases fd_or f with ⟨_, P, emin, emax, W, E, ex, d⟩ | ⟨_, hs, hl⟩
 ·have key : ∃ R : Nat × Bool, (unpN P emin emax W E ex x = badP ∨ unpN P emin emax W E ex x = (5, false, 0, 0, 0) → R = (0, false)) ∧ (∀ c neg S q, unpN P emin emax W E ex x = (c, neg, hiI S, loI S, q) → VP P emin emax c S q → R = stepN P emin emax W E ex c neg S q up) := by
   rcases unp_form d.h x with hu | hu | ⟨c, neg, S, q, hu, hl, hv⟩
   ·refine ⟨(0, false), fun _ => rfl, fun c neg S q h2 hv => ?_⟩
    rw [hu, badP] at h2
    injection h2 with h2 _
    rcases hv with ⟨rfl, _⟩ | ⟨rfl, _⟩ | ⟨rfl, _⟩ | ⟨rfl, _⟩ <;> cases h2
   ·refine ⟨(0, false), fun _ => rfl, fun c neg S q h2 hv => ?_⟩
    rw [hu] at h2
    injection h2 with h2 _
    rcases hv with ⟨rfl, _⟩ | ⟨rfl, _⟩ | ⟨rfl, _⟩ | ⟨rfl, _⟩ <;> cases h2
   ·refine ⟨stepN P emin emax W E ex c neg S q up, fun h2 => ?_, fun c' neg' S' q' h2 hv' => ?_⟩
    ·have : c = 0 ∨ c = 5 := by
      rcases h2 with h2 | h2
      ·rw [hu, badP] at h2; injection h2 with h2 _; exact .inl h2
      ·rw [hu] at h2; injection h2 with h2 _; exact .inr h2
     rcases hv with ⟨rfl, _⟩ | ⟨rfl, _⟩ | ⟨rfl, _⟩ | ⟨rfl, _⟩ <;> omega
    ·rw [hu] at h2
     injection h2 with e1 h2
     injection h2 with e2 h2
     injection h2 with e3 h2
     injection h2 with e4 e5
     rw [e1, e2, e5, hilo_inj e3 e4]
  obtain ⟨R, k1, k2⟩ := key
  exact ⟨R, ct_spec_Step d.h d.x1 f d.sf x hx up R k1 k2, ct_impl_Step d x hx up R k1 k2⟩
 ·exact ⟨(0, false), ct_spec_Step0 f hs _ _ up, ct_impl_Step0 f hl _ _ up⟩
end Go.Proofs.YtdbnmdchecacdaaDoor.M
end
section
namespace Go.Proofs.YtdbnmdchecacdaaDoor.M
open Go.RowKit Go.Proofs.YtdbnmdchecacdaaDoor.G Go.Proofs.YtdbnmdchecacdaaDoorV.PrintWords Go.Proofs.YtdbnmdchecacdaaDoorV.PrintLast Go.Proofs.YtdbnmdchecacdaaDoor.X
set_option linter.unusedVariables false
set_option linter.unusedSimpArgs false
theorem unp_of_pack {P : Nat} {emin emax : Int} {W E : Nat} {ex : Bool} {c : Int} {neg : Bool} {S : Nat} {q : Int} (h : (packR P emin emax W E ex c neg S q).2 = true) : unpN P emin emax W E ex (packR P emin emax W E ex c neg S q).1 = (c, neg, hiI S, loI S, q) := by
  unfold packR at h ⊢
  split at h
  · cases h
  · rename_i w hw
    split at h
    · rename_i hu
      rw [if_pos hu]
      exact hu
    · cases h
end Go.Proofs.YtdbnmdchecacdaaDoor.M
end
section
namespace Go.Proofs.YtdbnmdchecacdaaDoor.M
open Go.RowKit Go.Proofs.YtdbnmdchecacdaaDoor.G Go.Proofs.YtdbnmdchecacdaaDoorV.PrintWords Go.Proofs.YtdbnmdchecacdaaDoorV.PrintLast Go.Proofs.YtdbnmdchecacdaaDoor.X
set_option linter.unusedVariables false
set_option linter.unusedSimpArgs false
def fldE (P : Nat) (emax : Int) (E : Nat) (c : Int) (q : Int) : Nat := if c = 4 then 2 ^ E - 1 else if c = 3 then (q + emax + P - 1).toNat else 0
def fldR (P : Nat) (c : Int) (S : Nat) : Nat := if c = 3 then S - 2 ^ (P - 1) else S
def wordP (P : Nat) (emax : Int) (W E : Nat) (ex : Bool) (c : Int) (neg : Bool) (S : Nat) (q : Int) : Nat := makeN P W ex neg (decide (fldE P emax E c q ≠ 0)) (fldE P emax E c q) (fldR P c S)
section
variable {P : Nat} {emin emax : Int} {W E : Nat} {ex : Bool}
theorem fld_rng (h : Fmt2 P emin emax W E ex) {c : Int} {S : Nat} {q : Int} (hv : VP P emin emax c S q) : fldE P emax E c q < 2 ^ E ∧ fldR P c S < 2 ^ (P - 1) := by
  have e0 : 0 < 2 ^ E := Nat.pow_pos (by decide)
  have z0 : 0 < 2 ^ (P - 1) := Nat.pow_pos (by decide)
  have t2 := two_P h.toFmt
  have tp := h.top
  unfold fldE fldR
  rcases hv with ⟨rfl, rfl, rfl⟩ | ⟨rfl, rfl, rfl⟩ | ⟨rfl, h1, h2, rfl⟩ | ⟨rfl, h1, h2, h3, h4⟩
  · exact ⟨e0, z0⟩
  · rw [if_pos rfl, if_neg (by decide)]
    exact ⟨by omega, z0⟩
  · exact ⟨e0, h2⟩
  · rw [if_neg (by decide), if_pos rfl, if_pos rfl]
    exact ⟨by omega, by omega⟩
theorem pack_word (h : Fmt2 P emin emax W E ex) {c : Int} {neg : Bool} {S : Nat} {q : Int} (hv : VP P emin emax c S q) : packR P emin emax W E ex c neg S q = (wordP P emax W E ex c neg S q, true) := by
  have hok := pack_ok h (neg := neg) hv
  have hp := Nat.pow_pos (n := P - 1) (show 0 < 2 by decide)
  have hE := Nat.pow_le_pow_right (n := 2) (by decide) h.e0
  have t2 := two_P h.toFmt
  have tp := h.top
  have mn := h.mn
  have key : ∀ w, packN P emax W E ex c neg S q = some w → packR P emin emax W E ex c neg S q = (w, true) := fun w hw => by
    rw [packR_some hw] at hok ⊢
    split at hok
    · rename_i hu
      rw [if_pos hu]
    · cases hok
  refine key _ ?_
  unfold wordP fldE fldR
  rcases hv with ⟨rfl, rfl, rfl⟩ | ⟨rfl, rfl, rfl⟩ | ⟨rfl, h1, h2, rfl⟩ | ⟨rfl, h1, h2, h3, h4⟩
  · unfold packN
    rw [if_pos rfl]
    rfl
  · unfold packN
    rw [if_neg (by decide), if_pos rfl, if_pos rfl, decide_eq_true (show 2 ^ E - 1 ≠ 0 by omega)]
    rfl
  · unfold packN
    rw [if_neg (by decide), if_neg (by decide), if_neg (by decide), if_pos rfl, if_pos h2]
    rfl
  · have hS : S % 2 ^ (P - 1) = S - 2 ^ (P - 1) := by rw [Nat.mod_eq_sub_mod h1, Nat.mod_eq_of_lt (by omega)]
    unfold packN
    rw [if_neg (by decide), if_neg (by decide), if_neg (by decide), if_neg (by decide), if_pos rfl, if_pos ⟨⟨h1, h2⟩, by omega, by omega⟩, hS, if_neg (show ¬ (3 : Int) = 4 by decide), if_pos rfl, decide_eq_true (show (q + emax + P - 1).toNat ≠ 0 by omega)]
    rfl
theorem parts_fld (h : Fmt2 P emin emax W E ex) {e r : Nat} {n neg : Bool} {c : Int} {S : Nat} {q : Int} (hr : r < 2 ^ (P - 1)) (he : e < 2 ^ E) (hu : partsOf P emin emax E e n r = (c, neg, hiI S, loI S, q)) (hv : VP P emin emax c S q) : n = neg ∧ fldE P emax E c q = e ∧ fldR P c S = r := by
  unfold partsOf at hu
  unfold fldE fldR
  split at hu
  · split at hu
    · injection hu with h1 hu
      injection hu with h2 hu
      injection hu with h3 hu
      injection hu with h4 h5
      subst h1 h2
      have hS : (0 : Nat) = S := hilo_inj h3 h4
      rw [if_pos rfl, if_neg (by decide)]
      exact ⟨rfl, by omega, by omega⟩
    · injection hu with h1 hu
      subst h1
      rcases hv with ⟨z, _⟩ | ⟨z, _⟩ | ⟨z, _⟩ | ⟨z, _⟩ <;> omega
  · split at hu
    · split at hu
      · injection hu with h1 hu
        injection hu with h2 hu
        injection hu with h3 hu
        injection hu with h4 h5
        subst h1 h2
        have hS : (0 : Nat) = S := hilo_inj h3 h4
        rw [if_neg (by decide), if_neg (by decide), if_neg (by decide)]
        exact ⟨rfl, by omega, by omega⟩
      · injection hu with h1 hu
        injection hu with h2 hu
        injection hu with h3 hu
        injection hu with h4 h5
        subst h1 h2
        have hS := hilo_inj h3 h4
        rw [if_neg (by decide), if_neg (by decide), if_neg (by decide)]
        exact ⟨rfl, by omega, by omega⟩
    · injection hu with h1 hu
      injection hu with h2 hu
      injection hu with h3 hu
      injection hu with h4 h5
      subst h1 h2
      have hS := hilo_inj h3 h4
      rw [if_neg (by decide), if_pos rfl, if_pos rfl]
      exact ⟨rfl, by omega, by omega⟩
theorem unp_word (h : Fmt2 P emin emax W E ex) {x : Nat} {c : Int} {neg : Bool} {S : Nat} {q : Int} (hu : unpN P emin emax W E ex x = (c, neg, hiI S, loI S, q)) (hv : VP P emin emax c S q) : x = wordP P emax W E ex c neg S q := by
  have hw1 := h.w1
  have p0 := h.p0
  have hc0 : c ≠ 0 := by rcases hv with ⟨z, _⟩ | ⟨z, _⟩ | ⟨z, _⟩ | ⟨z, _⟩ <;> omega
  have nb : badP ≠ (c, neg, hiI S, loI S, q) := fun z => by
    unfold badP at z
    injection z with z _
    exact hc0 z.symm
  have pE := Nat.pow_pos (n := E) (show 0 < 2 by decide)
  have pP := Nat.pow_pos (n := P - 1) (show 0 < 2 by decide)
  have hP : 2 ^ P = 2 ^ (P - 1) * 2 := by rw [← Nat.pow_succ]; congr 1; omega
  unfold unpN at hu
  split at hu
  · exact absurd hu nb
  · rename_i hxW
    have hxW2 := Nat.lt_of_not_le hxW
    have sgn : ∀ F : Nat, F + E = W - 1 → x = x % 2 ^ F + (x / 2 ^ F % 2 ^ E + (if decide (x / 2 ^ (W - 1) % 2 = 1) = true then 2 ^ E else 0)) * 2 ^ F := by
      intro F hF
      have pF := Nat.pow_pos (n := F) (show 0 < 2 by decide)
      have d1 := Nat.div_add_mod x (2 ^ F)
      have d2 := Nat.div_add_mod (x / 2 ^ F) (2 ^ E)
      have e1 : x / 2 ^ F / 2 ^ E = x / 2 ^ (W - 1) := by rw [Nat.div_div_eq_div_mul, ← Nat.pow_add, hF]
      have e2 : x / 2 ^ (W - 1) < 2 := by
        rw [Nat.div_lt_iff_lt_mul (Nat.pow_pos (by decide))]
        have : 2 ^ W = 2 * 2 ^ (W - 1) := by rw [Nat.mul_comm, ← Nat.pow_succ]; congr 1; omega
        omega
      rw [e1] at d2
      have e3 : x / 2 ^ F % 2 ^ E + (if decide (x / 2 ^ (W - 1) % 2 = 1) = true then 2 ^ E else 0) = x / 2 ^ F := by
        rcases (show ∀ b : Nat, b < 2 → b = 0 ∨ b = 1 from fun b hb => by omega) _ e2 with z | z
        · rw [z] at d2 ⊢
          rw [if_neg (by decide)]
          omega
        · rw [z] at d2 ⊢
          rw [if_pos (by decide)]
          omega
      rw [e3, Nat.mul_comm (x / 2 ^ F)]
      omega
    unfold wordP makeN
    split at hu
    · rename_i hex
      split at hu
      · rename_i hj
        obtain ⟨f1, f2, f3⟩ := parts_fld h (Nat.mod_lt _ pP) (Nat.mod_lt _ pE) hu hv
        have hs := sgn P (by rw [hex] at hw1; have : fracN P true = P := rfl; omega)
        have hF : fracN P ex = P := by rw [hex]; rfl
        rw [f2, f3, hF]
        rw [f1] at hs
        have hlow : x % 2 ^ P = x % 2 ^ P % 2 ^ (P - 1) + (if 2 ^ (P - 1) ≤ x % 2 ^ P then 2 ^ (P - 1) else 0) := by
          have := Nat.mod_lt x (show 0 < 2 ^ P by omega)
          split
          · rename_i z
            rw [Nat.mod_eq_sub_mod z, Nat.mod_eq_of_lt (a := x % 2 ^ P - 2 ^ (P - 1)) (by omega)]
            omega
          · rename_i z
            rw [Nat.mod_eq_of_lt (a := x % 2 ^ P) (by omega)]
            omega
        have hl2 : (if ex = true ∧ decide (x / 2 ^ P % 2 ^ E ≠ 0) = true then 2 ^ (P - 1) else 0) = (if 2 ^ (P - 1) ≤ x % 2 ^ P then 2 ^ (P - 1) else 0) := by
          by_cases z : 2 ^ (P - 1) ≤ x % 2 ^ P
          · rw [if_pos z, if_pos ⟨hex, decide_eq_true (hj.1 z)⟩]
          · rw [if_neg z, if_neg (fun z2 => z (hj.2 (of_decide_eq_true z2.2)))]
        have hW : (if neg = true then 2 ^ E else 0) * 2 ^ P = (if neg = true then 2 ^ (W - 1) else 0) := by
          split
          · rw [← Nat.pow_add]
            congr 1
            omega
          · exact Nat.zero_mul _
        rw [hl2]
        rw [Nat.add_mul, hW] at hs
        generalize (if 2 ^ (P - 1) ≤ x % 2 ^ P then 2 ^ (P - 1) else 0) = X1 at *
        generalize (if neg = true then 2 ^ (W - 1) else 0) = X2 at *
        generalize x / 2 ^ P % 2 ^ E * 2 ^ P = X3 at *
        omega
      · exact absurd hu nb
    · rename_i hex
      obtain ⟨f1, f2, f3⟩ := parts_fld h (Nat.mod_lt _ pP) (Nat.mod_lt _ pE) hu hv
      have hF : fracN P ex = P - 1 := by unfold fracN; rw [if_neg hex]
      have hs := sgn (P - 1) (by omega)
      rw [f2, f3, hF, if_neg (fun z => hex z.1), Nat.add_zero]
      rw [f1] at hs
      have hW : (if neg = true then 2 ^ E else 0) * 2 ^ (P - 1) = (if neg = true then 2 ^ (W - 1) else 0) := by
        split
        · rw [← Nat.pow_add]
          congr 1
          omega
        · exact Nat.zero_mul _
      rw [Nat.add_mul, hW] at hs
      generalize (if neg = true then 2 ^ (W - 1) else 0) = X2 at *
      generalize x / 2 ^ (P - 1) % 2 ^ E * 2 ^ (P - 1) = X3 at *
      omega
end
end Go.Proofs.YtdbnmdchecacdaaDoor.M
end
section
namespace Go.Proofs.YtdbnmdchecacdaaDoor.M
open Go.RowKit Go.Proofs.YtdbnmdchecacdaaDoor.G Go.Proofs.YtdbnmdchecacdaaDoorV.PrintWords Go.Proofs.YtdbnmdchecacdaaDoorV.PrintLast Go.Proofs.YtdbnmdchecacdaaDoor.X
set_option linter.unusedVariables false
set_option linter.unusedSimpArgs false
def cls3 (P : Nat) (emax : Int) (u : Nat × Int) : Int × Nat × Int := if clsN P emax u.1 u.2 = 1 ∨ clsN P emax u.1 u.2 = 4 then (clsN P emax u.1 u.2, 0, 0) else (clsN P emax u.1 u.2, u.1, u.2)
section
variable {P : Nat} {emin emax : Int} {W E : Nat} {ex : Bool}
theorem putN_cls (neg : Bool) (u : Nat × Int) : putN P emin emax W E ex neg u = packR P emin emax W E ex (cls3 P emax u).1 neg (cls3 P emax u).2.1 (cls3 P emax u).2.2 := by
  unfold putN cls3
  split
  · rfl
  · rfl
theorem cls3_2 {S : Nat} {q : Int} (h1 : 0 < S) (h2 : S < 2 ^ (P - 1)) (h3 : q + P - 1 ≤ emax) : cls3 P emax (S, q) = (2, S, q) := by
  have e : clsN P emax S q = 2 := by unfold clsN; rw [if_neg (by omega), if_neg (by omega), if_pos h2]
  unfold cls3
  dsimp only
  rw [e, if_neg (by decide)]
theorem cls3_3 {S : Nat} {q : Int} (h2 : 2 ^ (P - 1) ≤ S) (h3 : q + P - 1 ≤ emax) : cls3 P emax (S, q) = (3, S, q) := by
  have hp := Nat.pow_pos (n := P - 1) (show 0 < 2 by decide)
  have e : clsN P emax S q = 3 := by unfold clsN; rw [if_neg (by omega), if_neg (by omega), if_neg (by omega)]
  unfold cls3
  dsimp only
  rw [e, if_neg (by decide)]
theorem cls3_4 {S : Nat} {q : Int} (h2 : 0 < S) (h3 : emax < q + P - 1) : cls3 P emax (S, q) = (4, 0, 0) := by
  have e : clsN P emax S q = 4 := by unfold clsN; rw [if_neg (by omega), if_pos h3]
  unfold cls3
  dsimp only
  rw [e, if_pos (.inr rfl)]
theorem cls3_1 {q : Int} : cls3 P emax (0, q) = (1, 0, 0) := by
  have e : clsN P emax 0 q = 1 := by unfold clsN; rw [if_pos rfl]
  unfold cls3
  dsimp only
  rw [e, if_pos (.inl rfl)]
theorem put_self (h : Fmt2 P emin emax W E ex) (hx1 : 1 ≤ emax) {c : Int} {neg : Bool} {S : Nat} {q : Int} (hv : VP P emin emax c S q) (hc : c = 2 ∨ c = 3) : putN P emin emax W E ex neg (S, q) = packR P emin emax W E ex c neg S q := by
  have mn := h.mn
  rw [putN_cls]
  rcases hv with ⟨rfl, _⟩ | ⟨rfl, _⟩ | ⟨rfl, h1, h2, rfl⟩ | ⟨rfl, h1, h2, h3, h4⟩
  · omega
  · omega
  · rw [cls3_2 h1 h2 (by omega)]
  · rw [cls3_3 h1 (by omega)]
theorem far_cases (h : Fmt2 P emin emax W E ex) (hx1 : 1 ≤ emax) {c : Int} {S : Nat} {q : Int} (hv : VP P emin emax c S q) (hc : c = 2 ∨ c = 3) :
    (cls3 P emax (farS P S q) = (2, S + 1, q) ∧ c = 2 ∧ S + 1 < 2 ^ (P - 1) ∧ q = emin - P + 1) ∨
    (cls3 P emax (farS P S q) = (3, S + 1, q) ∧ ((c = 2 ∧ S + 1 = 2 ^ (P - 1) ∧ q = emin - P + 1) ∨ (c = 3 ∧ 2 ^ (P - 1) ≤ S ∧ S + 1 < 2 ^ P ∧ emin - P + 1 ≤ q ∧ q ≤ emax - P + 1))) ∨
    (cls3 P emax (farS P S q) = (3, 2 ^ (P - 1), q + 1) ∧ c = 3 ∧ S + 1 = 2 ^ P ∧ emin - P + 1 ≤ q ∧ q + P - 1 < emax) ∨
    (cls3 P emax (farS P S q) = (4, 0, 0) ∧ c = 3 ∧ S + 1 = 2 ^ P ∧ q + P - 1 = emax) := by
  have mn := h.mn
  have t2 := two_P h.toFmt
  have p3 := h.p3
  have hp4 : 4 ≤ 2 ^ (P - 1) := (show 2 ^ 2 ≤ 2 ^ (P - 1) from Nat.pow_le_pow_right (by decide) (by omega))
  rcases hv with ⟨rfl, _⟩ | ⟨rfl, _⟩ | ⟨rfl, h1, h2, rfl⟩ | ⟨rfl, h1, h2, h3, h4⟩
  · omega
  · omega
  · unfold farS
    rw [if_neg (by omega)]
    by_cases z : S + 1 < 2 ^ (P - 1)
    · exact .inl ⟨cls3_2 (by omega) z (by omega), rfl, z, rfl⟩
    · exact .inr (.inl ⟨cls3_3 (by omega) (by omega), .inl ⟨rfl, by omega, rfl⟩⟩)
  · unfold farS
    by_cases z : 2 ^ P ≤ S + 1
    · rw [if_pos z, show (S + 1) / 2 = 2 ^ (P - 1) by omega]
      by_cases z2 : q + P - 1 < emax
      · exact .inr (.inr (.inl ⟨cls3_3 (Nat.le_refl _) (by omega), rfl, by omega, h3, z2⟩))
      · exact .inr (.inr (.inr ⟨cls3_4 (by omega) (by omega), rfl, by omega, by omega⟩))
    · rw [if_neg z]
      exact .inr (.inl ⟨cls3_3 (by omega) (by omega), .inr ⟨rfl, h1, by omega, h3, h4⟩⟩)
theorem near_cases (h : Fmt2 P emin emax W E ex) (hx1 : 1 ≤ emax) {c : Int} {S : Nat} {q : Int} (hv : VP P emin emax c S q) (hc : c = 2 ∨ c = 3) :
    (cls3 P emax (nearS P emin S q) = (1, 0, 0) ∧ c = 2 ∧ S = 1 ∧ q = emin - P + 1) ∨
    (cls3 P emax (nearS P emin S q) = (2, S - 1, q) ∧ q = emin - P + 1 ∧ ((c = 2 ∧ 1 < S ∧ S < 2 ^ (P - 1)) ∨ (c = 3 ∧ S = 2 ^ (P - 1)))) ∨
    (cls3 P emax (nearS P emin S q) = (3, 2 ^ P - 1, q - 1) ∧ c = 3 ∧ S = 2 ^ (P - 1) ∧ emin - P + 1 < q ∧ q ≤ emax - P + 1) ∨
    (cls3 P emax (nearS P emin S q) = (3, S - 1, q) ∧ c = 3 ∧ 2 ^ (P - 1) < S ∧ S < 2 ^ P ∧ emin - P + 1 ≤ q ∧ q ≤ emax - P + 1) := by
  have mn := h.mn
  have t2 := two_P h.toFmt
  have p3 := h.p3
  have hp4 : 4 ≤ 2 ^ (P - 1) := (show 2 ^ 2 ≤ 2 ^ (P - 1) from Nat.pow_le_pow_right (by decide) (by omega))
  rcases hv with ⟨rfl, _⟩ | ⟨rfl, _⟩ | ⟨rfl, h1, h2, rfl⟩ | ⟨rfl, h1, h2, h3, h4⟩
  · omega
  · omega
  · unfold nearS
    rw [if_neg (by omega)]
    by_cases z : S = 1
    · subst z
      exact .inl ⟨cls3_1, rfl, rfl, rfl⟩
    · exact .inr (.inl ⟨cls3_2 (by omega) (by omega) (by omega), rfl, .inl ⟨rfl, by omega, h2⟩⟩)
  · unfold nearS
    by_cases z : S = 2 ^ (P - 1)
    · by_cases z2 : emin - P + 1 < q
      · rw [if_pos ⟨by omega, z2⟩, show 2 * (S - 1) + 1 = 2 ^ P - 1 by omega]
        exact .inr (.inr (.inl ⟨cls3_3 (by omega) (by omega), rfl, z, z2, h4⟩))
      · rw [if_neg (fun w => z2 w.2)]
        exact .inr (.inl ⟨cls3_2 (by omega) (by omega) (by omega), by omega, .inr ⟨rfl, z⟩⟩)
    · rw [if_neg (fun w => by omega)]
      exact .inr (.inr (.inr ⟨cls3_3 (by omega) (by omega), rfl, by omega, h2, h3, h4⟩))
theorem far_vp (h : Fmt2 P emin emax W E ex) (hx1 : 1 ≤ emax) {c : Int} {S : Nat} {q : Int} (hv : VP P emin emax c S q) (hc : c = 2 ∨ c = 3) : VP P emin emax (cls3 P emax (farS P S q)).1 (cls3 P emax (farS P S q)).2.1 (cls3 P emax (farS P S q)).2.2 := by
  have mn := h.mn
  have t2 := two_P h.toFmt
  have hp := Nat.pow_pos (n := P - 1) (show 0 < 2 by decide)
  rcases far_cases h hx1 hv hc with ⟨e, h1, h2, h3⟩ | ⟨e, h1⟩ | ⟨e, h1, h2, h3, h4⟩ | ⟨e, h1, h2, h3⟩
  · rw [e]
    exact .inr (.inr (.inl ⟨rfl, by dsimp only; omega, h2, h3⟩))
  · rw [e]
    refine .inr (.inr (.inr ⟨rfl, ?_, ?_, ?_, ?_⟩)) <;> dsimp only <;> omega
  · rw [e]
    refine .inr (.inr (.inr ⟨rfl, ?_, ?_, ?_, ?_⟩)) <;> dsimp only <;> omega
  · rw [e]
    exact .inr (.inl ⟨rfl, rfl, rfl⟩)
theorem near_vp (h : Fmt2 P emin emax W E ex) (hx1 : 1 ≤ emax) {c : Int} {S : Nat} {q : Int} (hv : VP P emin emax c S q) (hc : c = 2 ∨ c = 3) : VP P emin emax (cls3 P emax (nearS P emin S q)).1 (cls3 P emax (nearS P emin S q)).2.1 (cls3 P emax (nearS P emin S q)).2.2 := by
  have mn := h.mn
  have t2 := two_P h.toFmt
  have p3 := h.p3
  have hp4 : 4 ≤ 2 ^ (P - 1) := (show 2 ^ 2 ≤ 2 ^ (P - 1) from Nat.pow_le_pow_right (by decide) (by omega))
  rcases near_cases h hx1 hv hc with ⟨e, h1, h2, h3⟩ | ⟨e, h1, h2⟩ | ⟨e, h1, h2, h3, h4⟩ | ⟨e, h1, h2, h3, h4, h5⟩
  · rw [e]
    exact .inl ⟨rfl, rfl, rfl⟩
  · rw [e]
    refine .inr (.inr (.inl ⟨rfl, ?_, ?_, ?_⟩)) <;> dsimp only <;> omega
  · rw [e]
    refine .inr (.inr (.inr ⟨rfl, ?_, ?_, ?_, ?_⟩)) <;> dsimp only <;> omega
  · rw [e]
    refine .inr (.inr (.inr ⟨rfl, ?_, ?_, ?_, ?_⟩)) <;> dsimp only <;> omega
theorem far_back (h : Fmt2 P emin emax W E ex) (hx1 : 1 ≤ emax) {c : Int} {neg b : Bool} {S : Nat} {q : Int} (hv : VP P emin emax c S q) (hc : c = 2 ∨ c = 3) (hb : (b != neg) = false) :
    stepN P emin emax W E ex (cls3 P emax (farS P S q)).1 neg (cls3 P emax (farS P S q)).2.1 (cls3 P emax (farS P S q)).2.2 b = packR P emin emax W E ex c neg S q := by
  have mn := h.mn
  have t2 := two_P h.toFmt
  have p3 := h.p3
  have hp4 : 4 ≤ 2 ^ (P - 1) := (show 2 ^ 2 ≤ 2 ^ (P - 1) from Nat.pow_le_pow_right (by decide) (by omega))
  have hb' : ¬ (b != neg) = true := by rw [hb]; decide
  rw [← put_self h hx1 hv hc]
  unfold stepN
  rcases far_cases h hx1 hv hc with ⟨e, h1, h2, h3⟩ | ⟨e, h1⟩ | ⟨e, h1, h2, h3, h4⟩ | ⟨e, h1, h2, h3⟩
  · rw [e]
    dsimp only
    rw [if_neg (by decide), if_neg (by decide), if_neg hb']
    congr 1
    unfold nearS
    rw [if_neg (by omega), Nat.add_sub_cancel]
  · rw [e]
    dsimp only
    rw [if_neg (by decide), if_neg (by decide), if_neg hb']
    congr 1
    unfold nearS
    rw [if_neg (by omega), Nat.add_sub_cancel]
  · rw [e]
    dsimp only
    rw [if_neg (by decide), if_neg (by decide), if_neg hb']
    congr 1
    unfold nearS
    rw [if_pos (by omega), Int.add_sub_cancel]
    congr 1
    omega
  · rw [e, if_neg (by decide), if_pos rfl, if_neg hb', put_self h hx1 hv hc, h1, show S = 2 ^ P - 1 by omega, show q = emax - P + 1 by omega]
theorem near_back (h : Fmt2 P emin emax W E ex) (hx1 : 1 ≤ emax) {c : Int} {neg b : Bool} {S : Nat} {q : Int} (hv : VP P emin emax c S q) (hc : c = 2 ∨ c = 3) (hb : (b != neg) = true) :
    stepN P emin emax W E ex (cls3 P emax (nearS P emin S q)).1 neg (cls3 P emax (nearS P emin S q)).2.1 (cls3 P emax (nearS P emin S q)).2.2 b = packR P emin emax W E ex c neg S q := by
  have mn := h.mn
  have t2 := two_P h.toFmt
  have p3 := h.p3
  have hp4 : 4 ≤ 2 ^ (P - 1) := (show 2 ^ 2 ≤ 2 ^ (P - 1) from Nat.pow_le_pow_right (by decide) (by omega))
  have hn : (!b) = neg := by cases b <;> cases neg <;> simp at hb ⊢
  rw [← put_self h hx1 hv hc]
  unfold stepN
  rcases near_cases h hx1 hv hc with ⟨e, h1, h2, h3⟩ | ⟨e, h1, h2⟩ | ⟨e, h1, h2, h3, h4⟩ | ⟨e, h1, h2, h3, h4, h5⟩
  · rw [e, if_pos rfl, put_self h hx1 hv hc, h1, h2, h3, hn]
  · rw [e]
    dsimp only
    rw [if_neg (by decide), if_neg (by decide), if_pos hb]
    congr 1
    unfold farS
    rw [if_neg (by omega), show S - 1 + 1 = S by omega]
  · rw [e]
    dsimp only
    rw [if_neg (by decide), if_neg (by decide), if_pos hb]
    congr 1
    unfold farS
    rw [if_pos (by omega), Int.sub_add_cancel]
    congr 1
    omega
  · rw [e]
    dsimp only
    rw [if_neg (by decide), if_neg (by decide), if_pos hb]
    congr 1
    unfold farS
    rw [if_neg (by omega), show S - 1 + 1 = S by omega]
def mgN (P : Nat) (ex : Bool) (e r : Nat) : Nat := r + (if ex = true ∧ decide (e ≠ 0) = true then 2 ^ (P - 1) else 0) + e * 2 ^ fracN P ex
theorem word_mg (h : Fmt2 P emin emax W E ex) (neg : Bool) (e r : Nat) (he : e < 2 ^ E) (hr : r < 2 ^ (P - 1)) : makeN P W ex neg (decide (e ≠ 0)) e r % 2 ^ (W - 1) = mgN P ex e r := by
  have hw1 := h.w1
  have hlt : mgN P ex e r < 2 ^ (W - 1) := by
    have h1 := makeN_lt h.toFmt true (decide (e ≠ 0)) e r he hr
    have h2 : makeN P W ex true (decide (e ≠ 0)) e r = mgN P ex e r + 2 ^ (W - 1) := by unfold makeN mgN; rw [if_pos rfl]
    have h5 : 2 ^ W = 2 ^ (W - 1) * 2 := by rw [← Nat.pow_succ]; congr 1; omega
    omega
  have e1 : makeN P W ex neg (decide (e ≠ 0)) e r = mgN P ex e r + (if neg = true then 2 ^ (W - 1) else 0) := rfl
  rw [e1]
  split
  · rw [Nat.add_mod_right, Nat.mod_eq_of_lt hlt]
  · rw [Nat.add_zero, Nat.mod_eq_of_lt hlt]
theorem mg_succ (hP : 1 ≤ P) {e r : Nat} (hr : r + 1 < 2 ^ (P - 1)) : mgN P ex e r < mgN P ex e (r + 1) := by unfold mgN; omega
theorem mg_next (hP : 2 ≤ P) {e r : Nat} (hr : r < 2 ^ (P - 1)) : mgN P ex e r < mgN P ex (e + 1) 0 := by
  have t2 : 2 ^ P = 2 * 2 ^ (P - 1) := by rw [Nat.mul_comm, ← Nat.pow_succ]; congr 1; omega
  unfold mgN
  rw [Nat.succ_mul]
  cases ex with
  | true =>
    have a1 : (if true = true ∧ decide (e + 1 ≠ 0) = true then 2 ^ (P - 1) else 0) = 2 ^ (P - 1) := if_pos ⟨rfl, decide_eq_true (by omega)⟩
    have f1 : fracN P true = P := rfl
    rw [a1, f1]
    split <;> omega
  | false =>
    have a1 : ∀ b : Bool, (if false = true ∧ b = true then 2 ^ (P - 1) else 0) = 0 := fun b => if_neg (fun z => absurd z.1 (by decide))
    have f1 : fracN P false = P - 1 := rfl
    rw [a1, a1, f1]
    omega
theorem fldE_2 (E : Nat) (q : Int) : fldE P emax E 2 q = 0 := by unfold fldE; rw [if_neg (by decide), if_neg (by decide)]
theorem fldE_3 (E : Nat) (q : Int) : fldE P emax E 3 q = (q + emax + P - 1).toNat := by unfold fldE; rw [if_neg (by decide), if_pos rfl]
theorem fldE_4 (E : Nat) (q : Int) : fldE P emax E 4 q = 2 ^ E - 1 := by unfold fldE; rw [if_pos rfl]
def mgP (P : Nat) (emax : Int) (E : Nat) (ex : Bool) (c : Int) (S : Nat) (q : Int) : Nat := mgN P ex (fldE P emax E c q) (fldR P c S)
theorem far_mg (h : Fmt2 P emin emax W E ex) (hx1 : 1 ≤ emax) {c : Int} {S : Nat} {q : Int} (hv : VP P emin emax c S q) (hc : c = 2 ∨ c = 3) :
    mgP P emax E ex c S q < mgP P emax E ex (cls3 P emax (farS P S q)).1 (cls3 P emax (farS P S q)).2.1 (cls3 P emax (farS P S q)).2.2 := by
  have mn := h.mn
  have t2 := two_P h.toFmt
  have p3 := h.p3
  have tp := h.top
  have hp4 : 4 ≤ 2 ^ (P - 1) := (show 2 ^ 2 ≤ 2 ^ (P - 1) from Nat.pow_le_pow_right (by decide) (by omega))
  unfold mgP
  rcases far_cases h hx1 hv hc with ⟨e, rfl, h2, h3⟩ | ⟨e, ⟨rfl, h2, h3⟩ | ⟨rfl, h2, h3, h4, h5⟩⟩ | ⟨e, rfl, h2, h3, h4⟩ | ⟨e, rfl, h2, h3⟩
  · rw [e]
    have f1 : fldR P 2 S = S := if_neg (by decide)
    have f2 : fldR P 2 (S + 1) = S + 1 := if_neg (by decide)
    dsimp only
    rw [f1, f2]
    exact mg_succ (by omega) h2
  · rw [e]
    have f1 : fldR P 2 S = S := if_neg (by decide)
    have f2 : fldR P 3 (S + 1) = 0 := by unfold fldR; rw [if_pos rfl]; omega
    have f3 : fldE P emax E 2 q = 0 := fldE_2 E q
    have f4 : fldE P emax E 3 q = 0 + 1 := by rw [fldE_3]; omega
    dsimp only
    rw [f1, f2, f3, f4]
    exact mg_next (by omega) (by omega)
  · rw [e]
    have f1 : fldR P 3 S = S - 2 ^ (P - 1) := if_pos rfl
    have f2 : fldR P 3 (S + 1) = S - 2 ^ (P - 1) + 1 := by unfold fldR; rw [if_pos rfl]; omega
    dsimp only
    rw [f1, f2]
    exact mg_succ (by omega) (by omega)
  · rw [e]
    have f1 : fldR P 3 S = S - 2 ^ (P - 1) := if_pos rfl
    have f2 : fldR P 3 (2 ^ (P - 1)) = 0 := by unfold fldR; rw [if_pos rfl]; omega
    have f4 : fldE P emax E 3 (q + 1) = fldE P emax E 3 q + 1 := by rw [fldE_3, fldE_3]; omega
    dsimp only
    rw [f1, f2, f4]
    exact mg_next (by omega) (by omega)
  · rw [e]
    have f1 : fldR P 3 S = S - 2 ^ (P - 1) := if_pos rfl
    have f2 : fldR P 4 0 = 0 := if_neg (by decide)
    have f4 : fldE P emax E 4 0 = fldE P emax E 3 q + 1 := by rw [fldE_4, fldE_3]; omega
    dsimp only
    rw [f1, f2, f4]
    exact mg_next (by omega) (by omega)
theorem near_mg (h : Fmt2 P emin emax W E ex) (hx1 : 1 ≤ emax) {c : Int} {S : Nat} {q : Int} (hv : VP P emin emax c S q) (hc : c = 2 ∨ c = 3) (h1 : (cls3 P emax (nearS P emin S q)).1 ≠ 1) :
    mgP P emax E ex (cls3 P emax (nearS P emin S q)).1 (cls3 P emax (nearS P emin S q)).2.1 (cls3 P emax (nearS P emin S q)).2.2 < mgP P emax E ex c S q := by
  have mn := h.mn
  have t2 := two_P h.toFmt
  have p3 := h.p3
  have hp4 : 4 ≤ 2 ^ (P - 1) := (show 2 ^ 2 ≤ 2 ^ (P - 1) from Nat.pow_le_pow_right (by decide) (by omega))
  unfold mgP
  rcases near_cases h hx1 hv hc with ⟨e, _⟩ | ⟨e, h3, ⟨rfl, h4, h5⟩ | ⟨rfl, h4⟩⟩ | ⟨e, rfl, h3, h4, h5⟩ | ⟨e, rfl, h3, h4, h5, h6⟩
  · rw [e] at h1
    exact absurd rfl h1
  · rw [e]
    have f1 : fldR P 2 S = S - 1 + 1 := by unfold fldR; rw [if_neg (by decide)]; omega
    have f2 : fldR P 2 (S - 1) = S - 1 := if_neg (by decide)
    dsimp only
    rw [f1, f2]
    exact mg_succ (by omega) (by omega)
  · rw [e]
    have f1 : fldR P 3 S = 0 := by unfold fldR; rw [if_pos rfl]; omega
    have f2 : fldR P 2 (S - 1) = S - 1 := if_neg (by decide)
    have f3 : fldE P emax E 2 q = 0 := fldE_2 E q
    have f4 : fldE P emax E 3 q = 0 + 1 := by rw [fldE_3]; omega
    dsimp only
    rw [f1, f2, f3, f4]
    exact mg_next (by omega) (by omega)
  · rw [e]
    have f1 : fldR P 3 S = 0 := by unfold fldR; rw [if_pos rfl]; omega
    have f2 : fldR P 3 (2 ^ P - 1) = 2 ^ (P - 1) - 1 := by unfold fldR; rw [if_pos rfl]; omega
    have f4 : fldE P emax E 3 q = fldE P emax E 3 (q - 1) + 1 := by rw [fldE_3, fldE_3]; omega
    dsimp only
    rw [f1, f2, f4]
    exact mg_next (by omega) (by omega)
  · rw [e]
    have f1 : fldR P 3 S = S - 1 - 2 ^ (P - 1) + 1 := by unfold fldR; rw [if_pos rfl]; omega
    have f2 : fldR P 3 (S - 1) = S - 1 - 2 ^ (P - 1) := if_pos rfl
    dsimp only
    rw [f1, f2]
    exact mg_succ (by omega) (by omega)
theorem bnd_tq {P : Nat} {emin : Int} {S : Nat} {q : Int} : (bndN P emin S q).1 = lo4 P emin S q * 2 ^ (q - 2).toNat ∧ (bndN P emin S q).2.1 = hi4 S * 2 ^ (q - 2).toNat ∧ (bndN P emin S q).2.2 = 2 ^ (2 - q).toNat := by
  unfold bndN
  by_cases hq : 2 ≤ q
  · rw [if_pos hq]
    refine ⟨rfl, rfl, ?_⟩
    rw [show (2 - q).toNat = 0 by omega]
  · rw [if_neg hq, show (q - 2).toNat = 0 by omega, Nat.pow_zero, Nat.mul_one, Nat.mul_one]
    exact ⟨rfl, rfl, rfl⟩
theorem meet (h : Fmt2 P emin emax W E ex) (hx1 : 1 ≤ emax) {c : Int} {S : Nat} {q : Int} (hv : VP P emin emax c S q) (hc : c = 2 ∨ c = 3) {c' : Int} {S' : Nat} {q' : Int} (e : cls3 P emax (farS P S q) = (c', S', q')) (hc' : c' ≠ 4) :
    (bndN P emin S q).2.1 * (bndN P emin S' q').2.2 = (bndN P emin S' q').1 * (bndN P emin S q).2.2 ∧ (c' = 2 ∨ c' = 3) ∧ (decide (S % 2 = 0) != decide (S' % 2 = 0)) = true := by
  have mn := h.mn
  have t2 := two_P h.toFmt
  have p3 := h.p3
  have hp4 : 4 ≤ 2 ^ (P - 1) := (show 2 ^ 2 ≤ 2 ^ (P - 1) from Nat.pow_le_pow_right (by decide) (by omega))
  have hev : 2 ^ (P - 1) % 2 = 0 := by
    rw [show P - 1 = P - 2 + 1 by omega, Nat.pow_succ]
    omega
  obtain ⟨a1, a2, a3⟩ := bnd_tq (P := P) (emin := emin) (S := S) (q := q)
  obtain ⟨b1, b2, b3⟩ := bnd_tq (P := P) (emin := emin) (S := S') (q := q')
  rw [a2, a3, b1, b3]
  have par : ∀ a b : Nat, a % 2 ≠ b % 2 → (decide (a % 2 = 0) != decide (b % 2 = 0)) = true := fun a b hab => by
    rcases (show a % 2 = 0 ∨ a % 2 = 1 by omega) with z | z <;> rcases (show b % 2 = 0 ∨ b % 2 = 1 by omega) with z2 | z2
    · omega
    · rw [decide_eq_true z, decide_eq_false (by omega)]
      rfl
    · rw [decide_eq_false (by omega), decide_eq_true z2]
      rfl
    · omega
  have same : q' = q → S' = S + 1 → (S + 1 = 2 ^ (P - 1) → q = emin - P + 1) → hi4 S * 2 ^ (q - 2).toNat * 2 ^ (2 - q').toNat = lo4 P emin S' q' * 2 ^ (q' - 2).toNat * 2 ^ (2 - q).toNat := fun z1 z2 z3 => by
    subst z1 z2
    have : hi4 S = lo4 P emin (S + 1) q' := by
      unfold hi4 lo4
      rw [if_neg (fun w => by have := z3 w.1; omega)]
      omega
    rw [this]
  rcases far_cases h hx1 hv hc with ⟨e2, h1, h2, h3⟩ | ⟨e2, h1⟩ | ⟨e2, h1, h2, h3, h4⟩ | ⟨e2, _⟩
  · rw [e] at e2
    injection e2 with e3 e2
    injection e2 with e4 e5
    exact ⟨same e5 e4 (fun z => by omega), .inl e3, par _ _ (by omega)⟩
  · rw [e] at e2
    injection e2 with e3 e2
    injection e2 with e4 e5
    exact ⟨same e5 e4 (fun z => by omega), .inr e3, par _ _ (by omega)⟩
  · rw [e] at e2
    injection e2 with e3 e2
    injection e2 with e4 e5
    refine ⟨?_, .inr e3, par _ _ (by omega)⟩
    have f1 : hi4 S = 2 * (2 * 2 ^ P - 1) := by unfold hi4; omega
    have f2 : lo4 P emin S' q' = 2 * 2 ^ P - 1 := by
      unfold lo4
      rw [if_pos ⟨e4, by omega⟩]
      omega
    rw [f1, f2, e5]
    generalize 2 * 2 ^ P - 1 = K
    by_cases hq : 2 ≤ q
    · rw [show (2 - (q + 1)).toNat = 0 by omega, show (2 - q).toNat = 0 by omega, show (q + 1 - 2).toNat = (q - 2).toNat + 1 by omega, Nat.pow_succ, Nat.pow_zero, Nat.mul_one, Nat.mul_one, Nat.mul_comm 2 K, Nat.mul_assoc, Nat.mul_comm 2]
    · rw [show (q - 2).toNat = 0 by omega, show (q + 1 - 2).toNat = 0 by omega, show (2 - q).toNat = (2 - (q + 1)).toNat + 1 by omega, Nat.pow_succ, Nat.pow_zero, Nat.mul_one, Nat.mul_one, Nat.mul_comm 2 K, Nat.mul_assoc, Nat.mul_comm 2]
  · rw [e] at e2
    injection e2 with e3 _
    exact absurd e3 hc'
end
end Go.Proofs.YtdbnmdchecacdaaDoor.M
end
section
namespace Go.Proofs.YtdbnmdchecacdaaDoor.M
open Go.RowKit Go.Proofs.YtdbnmdchecacdaaDoor.G Go.Proofs.YtdbnmdchecacdaaDoorV.PrintWords Go.Proofs.YtdbnmdchecacdaaDoorV.PrintLast Go.Proofs.YtdbnmdchecacdaaDoor.X
set_option linter.unusedVariables false
set_option linter.unusedSimpArgs false
def sgnN (c : Int) (neg : Bool) : Int := if c = 1 then 0 else if neg = true then -1 else 1
theorem sgn_rng (c : Int) (neg : Bool) : -1 ≤ sgnN c neg ∧ sgnN c neg ≤ 1 := by
 unfold sgnN
 split
 ·omega
 ·split <;> omega
theorem ct_order_sign (c : Int) (neg : Bool) (k1 k2 k3 : Int) (s : Int) (hs : sgnN c neg = s) : CtV Tryd.prog 75 [.agg #[.int .i64 c, .bool neg, .int .u64 k1, .int .u64 k2, .int .i64 k3]] [] (.int .i64 s) := by
 subst hs
 refine ct_of Tryd.func75 rfl (by kernel_rfl) (fun B w0 => ?_)
 unfold sgnN
 by_cases h : c = 1
 ·have z1 : (c == 1) = true := by rw [beq_iff_eq]; exact h
  rw [if_pos h]
  refine xg ?_
  refine xb 1 [.int .i64 c, .bool neg, .int .u64 k1, .int .u64 k2, .int .i64 k3] 27 (fun g0 => ?_)
  refine xz [] [(2, .int .i64 0)] ?_
  refine SW_seq ?_
  refine SW_block ?_
  refine xr [(1, [0])] [(3, .bool (c == 1))] ?_
  refine xst z1 ?_
  refine xr [] [(2, .int .i64 0)] ?_
  refine SW_ret ?_
  refine xe () (.int .i64 0) [] ?_ trivial
  rfl
 ·have z1 : (c == 1) = false := by rw [beq_eq_false_iff_ne]; exact h
  rw [if_neg h]
  cases neg with
  | true =>
   rw [if_pos rfl]
   refine xg ?_
   refine xb 1 [.int .i64 c, .bool true, .int .u64 k1, .int .u64 k2, .int .i64 k3] 27 (fun g0 => ?_)
   refine xz [] [(2, .int .i64 0)] ?_
   refine SW_seq ?_
   refine SW_block ?_
   refine xr [(1, [0])] [(3, .bool (c == 1))] ?_
   refine xsf z1 ?_
   refine xr [(1, [0])] [(7, .bool true)] ?_
   refine xs1 ?_
   refine xr [] [(2, .int .i64 (-1))] ?_
   refine SW_ret ?_
   refine xe () (.int .i64 (-1)) [] ?_ trivial
   rfl
  | false =>
   rw [if_neg (by decide)]
   refine xg ?_
   refine xb 1 [.int .i64 c, .bool false, .int .u64 k1, .int .u64 k2, .int .i64 k3] 27 (fun g0 => ?_)
   refine xz [] [(2, .int .i64 0)] ?_
   refine SW_seq ?_
   refine SW_block ?_
   refine xr [(1, [0])] [(3, .bool (c == 1))] ?_
   refine xsf z1 ?_
   refine xr [(1, [0])] [(7, .bool false)] ?_
   refine xs0 ?_
   refine SW_skip ?_
   refine xr [] [(2, .int .i64 1)] ?_
   refine SW_ret ?_
   refine xe () (.int .i64 1) [] ?_ trivial
   rfl
theorem ct_impl_Order_lt {P : Nat} {emin emax : Int} {W E : Nat} {ex : Bool} {f : Int} (d : FD f P emin emax W E ex) (x y : Nat) (hx : x < B128) (hy : y < B128) (c : Int) (neg : Bool) (S : Nat) (q : Int) (c' : Int) (neg' : Bool) (S' : Nat) (q' : Int)
  (hu : unpN P emin emax W E ex x = (c, neg, hiI S, loI S, q)) (hu' : unpN P emin emax W E ex y = (c', neg', hiI S', loI S', q')) (hc : c ≠ 0 ∧ c ≠ 5) (hc' : c' ≠ 0 ∧ c' ≠ 5)
  (hlt : sgnN c neg < sgnN c' neg' ∨ (sgnN c neg = sgnN c' neg' ∧ sgnN c neg * cmpN (x % 2 ^ (W - 1)) (y % 2 ^ (W - 1)) = -1)) :
  CtV Tryd.prog 20 [.int .i64 f, .agg #[.int .u64 (hiI x), .int .u64 (loI x)], .agg #[.int .u64 (hiI y), .int .u64 (loI y)]] [Tabled] (.int .i64 (-1)) := by
 have h := d.h
 have hF := h.toFmt
 have hf := d.lf
 have w1 := hF.w1
 have w2 := hF.w2
 have cu := ct_impl_Unpack hF f hf x hx
 have cu' := ct_impl_Unpack hF f hf y hy
 rw [hu, prtV] at cu
 rw [hu', prtV] at cu'
 dsimp only at cu cu'
 obtain ⟨s, hs⟩ : ∃ s, sgnN c neg = s := ⟨_, rfl⟩
 obtain ⟨t, ht⟩ : ∃ t, sgnN c' neg' = t := ⟨_, rfl⟩
 have rs : -1 ≤ s ∧ s ≤ 1 := hs ▸ sgn_rng c neg
 have rt : -1 ≤ t ∧ t ≤ 1 := ht ▸ sgn_rng c' neg'
 rw [hs, ht] at hlt
 have co := ct_order_sign c neg (hiI S) (loI S) q s hs
 have co' := ct_order_sign c' neg' (hiI S') (loI S') q' t ht
 have z0 : (c == 0) = false := by rw [beq_eq_false_iff_ne]; exact hc.1
 have z5 : (c == 5) = false := by rw [beq_eq_false_iff_ne]; exact hc.2
 have z0' : (c' == 0) = false := by rw [beq_eq_false_iff_ne]; exact hc'.1
 have z5' : (c' == 5) = false := by rw [beq_eq_false_iff_ne]; exact hc'.2
 refine ct_of Tryd.func20 rfl (by kernel_rfl) (fun B w0 => ?_)
 refine xg ?_
 refine xb 4 [.int .u64 (hiI x), .int .u64 (loI x)] 25 (fun g0 => ?_)
 refine xb 5 [.int .u64 (hiI y), .int .u64 (loI y)] 25 (fun g1 => ?_)
 refine xz [] [(6, .int .i64 0)] ?_
 refine SW_cut (fun s' => ∃ g2 g3, WeakP s' ⟨[(0, .int .i64 f), (4, .pointer (some ⟨g0, 0, none⟩)), (5, .pointer (some ⟨g1, 0, none⟩)), (6, .int .i64 0), (7, .pointer (some ⟨g2, 0, none⟩)), (8, .pointer (some ⟨g3, 0, none⟩))], [⟨g0, [.int .u64 (hiI x), .int .u64 (loI x)], 25⟩, ⟨g1, [.int .u64 (hiI y), .int .u64 (loI y)], 25⟩, ⟨g2, [.int .i64 c, .bool neg, .int .u64 (hiI S), .int .u64 (loI S), .int .i64 q], 27⟩, ⟨g3, [.int .i64 c', .bool neg', .int .u64 (hiI S'), .int .u64 (loI S'), .int .i64 q'], 27⟩], [Tabled]⟩) ?_ ?_
 ·refine xdl (fun hB => ?_)
  refine xdk [(0, []), (1, [0]), (3, []), (4, [1])] [(20, .agg #[.int .u64 (hiI y), .int .u64 (loI y)]), (19, .int .i64 f), (17, .agg #[.int .u64 (hiI x), .int .u64 (loI x)]), (16, .int .i64 f)] hB ?_
  refine xd3 2 6 7 ?_ ?_ ?_
  ·refine xev 18 cu (zsS zi0 zs0) ?_
   refine xd3 5 6 7 ?_ ?_ ?_
   ·refine xev 21 cu' (zsS zi0 zs0) ?_
    refine xd2 6 7 ?_ ?_
    ·refine xen 7 [.int .i64 0, .bool false, .int .u64 0, .int .u64 0, .int .i64 0] 27 (fun g2 => ?_)
     refine xdb 7 8 [.int .i64 0, .bool false, .int .u64 0, .int .u64 0, .int .i64 0] 27 (fun g3 => ?_)
     refine xds 8 [2] [(2, [.int .i64 c, .bool neg, .int .u64 (hiI S), .int .u64 (loI S), .int .i64 q])] ?_
     refine xds 9 [3] [(3, [.int .i64 c', .bool neg', .int .u64 (hiI S'), .int .u64 (loI S'), .int .i64 q'])] ?_
     refine xdz ?_
     refine ⟨g2, g3, ?_⟩
     exact xwp [0, 1, 2, 3] (zsS zi0 zs0)
    ·refine xen 8 [.int .i64 0, .bool false, .int .u64 0, .int .u64 0, .int .i64 0] 27 (fun g2 => ?_)
     refine xdb 6 7 [.int .i64 0, .bool false, .int .u64 0, .int .u64 0, .int .i64 0] 27 (fun g3 => ?_)
     refine xds 8 [3] [(3, [.int .i64 c, .bool neg, .int .u64 (hiI S), .int .u64 (loI S), .int .i64 q])] ?_
     refine xds 9 [2] [(2, [.int .i64 c', .bool neg', .int .u64 (hiI S'), .int .u64 (loI S'), .int .i64 q'])] ?_
     refine xdz ?_
     refine ⟨g3, g2, ?_⟩
     exact xwp [0, 1, 3, 2] (zsS zi0 zs0)
   ·refine xen 7 [.int .i64 0, .bool false, .int .u64 0, .int .u64 0, .int .i64 0] 27 (fun g2 => ?_)
    refine xd2 5 7 ?_ ?_
    ·refine xev 21 cu' (zsS zi0 zs0) ?_
     refine xdb 7 8 [.int .i64 0, .bool false, .int .u64 0, .int .u64 0, .int .i64 0] 27 (fun g3 => ?_)
     refine xds 8 [2] [(2, [.int .i64 c, .bool neg, .int .u64 (hiI S), .int .u64 (loI S), .int .i64 q])] ?_
     refine xds 9 [3] [(3, [.int .i64 c', .bool neg', .int .u64 (hiI S'), .int .u64 (loI S'), .int .i64 q'])] ?_
     refine xdz ?_
     refine ⟨g2, g3, ?_⟩
     exact xwp [0, 1, 2, 3] (zsS zi0 zs0)
    ·refine xen 8 [.int .i64 0, .bool false, .int .u64 0, .int .u64 0, .int .i64 0] 27 (fun g3 => ?_)
     refine xdv 5 21 cu' (zsS zi0 zs0) ?_
     refine xds 8 [2] [(2, [.int .i64 c, .bool neg, .int .u64 (hiI S), .int .u64 (loI S), .int .i64 q])] ?_
     refine xds 9 [3] [(3, [.int .i64 c', .bool neg', .int .u64 (hiI S'), .int .u64 (loI S'), .int .i64 q'])] ?_
     refine xdz ?_
     refine ⟨g2, g3, ?_⟩
     exact xwp [0, 1, 2, 3] (zsS zi0 zs0)
   ·refine xen 8 [.int .i64 0, .bool false, .int .u64 0, .int .u64 0, .int .i64 0] 27 (fun g2 => ?_)
    refine xd2 5 6 ?_ ?_
    ·refine xev 21 cu' (zsS zi0 zs0) ?_
     refine xdb 6 7 [.int .i64 0, .bool false, .int .u64 0, .int .u64 0, .int .i64 0] 27 (fun g3 => ?_)
     refine xds 8 [3] [(3, [.int .i64 c, .bool neg, .int .u64 (hiI S), .int .u64 (loI S), .int .i64 q])] ?_
     refine xds 9 [2] [(2, [.int .i64 c', .bool neg', .int .u64 (hiI S'), .int .u64 (loI S'), .int .i64 q'])] ?_
     refine xdz ?_
     refine ⟨g3, g2, ?_⟩
     exact xwp [0, 1, 3, 2] (zsS zi0 zs0)
    ·refine xen 7 [.int .i64 0, .bool false, .int .u64 0, .int .u64 0, .int .i64 0] 27 (fun g3 => ?_)
     refine xdv 5 21 cu' (zsS zi0 zs0) ?_
     refine xds 8 [3] [(3, [.int .i64 c, .bool neg, .int .u64 (hiI S), .int .u64 (loI S), .int .i64 q])] ?_
     refine xds 9 [2] [(2, [.int .i64 c', .bool neg', .int .u64 (hiI S'), .int .u64 (loI S'), .int .i64 q'])] ?_
     refine xdz ?_
     refine ⟨g3, g2, ?_⟩
     exact xwp [0, 1, 3, 2] (zsS zi0 zs0)
  ·refine xen 7 [.int .i64 0, .bool false, .int .u64 0, .int .u64 0, .int .i64 0] 27 (fun g2 => ?_)
   refine xd2 2 7 ?_ ?_
   ·refine xev 18 cu (zsS zi0 zs0) ?_
    refine xd2 5 7 ?_ ?_
    ·refine xev 21 cu' (zsS zi0 zs0) ?_
     refine xdb 7 8 [.int .i64 0, .bool false, .int .u64 0, .int .u64 0, .int .i64 0] 27 (fun g3 => ?_)
     refine xds 8 [2] [(2, [.int .i64 c, .bool neg, .int .u64 (hiI S), .int .u64 (loI S), .int .i64 q])] ?_
     refine xds 9 [3] [(3, [.int .i64 c', .bool neg', .int .u64 (hiI S'), .int .u64 (loI S'), .int .i64 q'])] ?_
     refine xdz ?_
     refine ⟨g2, g3, ?_⟩
     exact xwp [0, 1, 2, 3] (zsS zi0 zs0)
    ·refine xen 8 [.int .i64 0, .bool false, .int .u64 0, .int .u64 0, .int .i64 0] 27 (fun g3 => ?_)
     refine xdv 5 21 cu' (zsS zi0 zs0) ?_
     refine xds 8 [2] [(2, [.int .i64 c, .bool neg, .int .u64 (hiI S), .int .u64 (loI S), .int .i64 q])] ?_
     refine xds 9 [3] [(3, [.int .i64 c', .bool neg', .int .u64 (hiI S'), .int .u64 (loI S'), .int .i64 q'])] ?_
     refine xdz ?_
     refine ⟨g2, g3, ?_⟩
     exact xwp [0, 1, 2, 3] (zsS zi0 zs0)
   ·refine xen 8 [.int .i64 0, .bool false, .int .u64 0, .int .u64 0, .int .i64 0] 27 (fun g3 => ?_)
    refine xdv 2 18 cu (zsS zi0 zs0) ?_
    refine xdv 5 21 cu' (zsS zi0 zs0) ?_
    refine xds 8 [2] [(2, [.int .i64 c, .bool neg, .int .u64 (hiI S), .int .u64 (loI S), .int .i64 q])] ?_
    refine xds 9 [3] [(3, [.int .i64 c', .bool neg', .int .u64 (hiI S'), .int .u64 (loI S'), .int .i64 q'])] ?_
    refine xdz ?_
    refine ⟨g2, g3, ?_⟩
    exact xwp [0, 1, 2, 3] (zsS zi0 zs0)
  ·refine xen 8 [.int .i64 0, .bool false, .int .u64 0, .int .u64 0, .int .i64 0] 27 (fun g2 => ?_)
   refine xd2 2 6 ?_ ?_
   ·refine xev 18 cu (zsS zi0 zs0) ?_
    refine xd2 5 6 ?_ ?_
    ·refine xev 21 cu' (zsS zi0 zs0) ?_
     refine xdb 6 7 [.int .i64 0, .bool false, .int .u64 0, .int .u64 0, .int .i64 0] 27 (fun g3 => ?_)
     refine xds 8 [3] [(3, [.int .i64 c, .bool neg, .int .u64 (hiI S), .int .u64 (loI S), .int .i64 q])] ?_
     refine xds 9 [2] [(2, [.int .i64 c', .bool neg', .int .u64 (hiI S'), .int .u64 (loI S'), .int .i64 q'])] ?_
     refine xdz ?_
     refine ⟨g3, g2, ?_⟩
     exact xwp [0, 1, 3, 2] (zsS zi0 zs0)
    ·refine xen 7 [.int .i64 0, .bool false, .int .u64 0, .int .u64 0, .int .i64 0] 27 (fun g3 => ?_)
     refine xdv 5 21 cu' (zsS zi0 zs0) ?_
     refine xds 8 [3] [(3, [.int .i64 c, .bool neg, .int .u64 (hiI S), .int .u64 (loI S), .int .i64 q])] ?_
     refine xds 9 [2] [(2, [.int .i64 c', .bool neg', .int .u64 (hiI S'), .int .u64 (loI S'), .int .i64 q'])] ?_
     refine xdz ?_
     refine ⟨g3, g2, ?_⟩
     exact xwp [0, 1, 3, 2] (zsS zi0 zs0)
   ·refine xen 7 [.int .i64 0, .bool false, .int .u64 0, .int .u64 0, .int .i64 0] 27 (fun g3 => ?_)
    refine xdv 2 18 cu (zsS zi0 zs0) ?_
    refine xdv 5 21 cu' (zsS zi0 zs0) ?_
    refine xds 8 [3] [(3, [.int .i64 c, .bool neg, .int .u64 (hiI S), .int .u64 (loI S), .int .i64 q])] ?_
    refine xds 9 [2] [(2, [.int .i64 c', .bool neg', .int .u64 (hiI S'), .int .u64 (loI S'), .int .i64 q'])] ?_
    refine xdz ?_
    refine ⟨g3, g2, ?_⟩
    exact xwp [0, 1, 3, 2] (zsS zi0 zs0)
 ·rintro s' ⟨g2, g3, hw⟩
  refine SW_weakP hw ?_
  clear hw
  refine SW_seq ?_
  refine xg ?_
  refine xn 2 [(0, [2]), (1, [3])] [(23, .agg #[.int .i64 c', .bool neg', .int .u64 (hiI S'), .int .u64 (loI S'), .int .i64 q']), (22, .agg #[.int .i64 c, .bool neg, .int .u64 (hiI S), .int .u64 (loI S), .int .i64 q])] ?_
  refine xbl 24 [.int .i64 c, .bool neg, .int .u64 (hiI S), .int .u64 (loI S), .int .i64 q, .int .i64 c', .bool neg', .int .u64 (hiI S'), .int .u64 (loI S'), .int .i64 q'] 27 2 (fun g4 => ?_)
  refine xz [] [(26, .int .i64 0), (25, .int .i64 2)] ?_
  refine SW_block ?_
  refine SW_unroll ?_
  refine LW_step ?_
  refine xr [] [(27, .bool true)] ?_
  refine SW_seq ?_
  refine xs1 ?_
  refine SW_skip ?_
  refine SW_seq ?_
  refine SW_block ?_
  refine xg ?_
  refine xn 2 [(1, [4])] [(29, .agg #[.int .i64 c, .bool neg, .int .u64 (hiI S), .int .u64 (loI S), .int .i64 q])] ?_
  refine xb 10 [.int .i64 0, .bool false, .int .u64 0, .int .u64 0, .int .i64 0] 27 (fun g5 => ?_)
  refine xy [(3, [5])] [] [(5, [.int .i64 c, .bool neg, .int .u64 (hiI S), .int .u64 (loI S), .int .i64 q])] ?_
  refine xg ?_
  refine xn 4 [(1, [5])] [(33, .bool (c == 0))] ?_
  refine xkf 33 z0 ?_
  refine xz [(5, [5])] [(37, .bool (c == 5))] ?_
  refine xsf z5 ?_
  refine SW_skip ?_
  refine xrl [] [(26, .int .i64 1)] ?_
  refine LW_step ?_
  refine xr [] [(27, .bool true)] ?_
  refine SW_seq ?_
  refine xs1 ?_
  refine SW_skip ?_
  refine SW_seq ?_
  refine SW_block ?_
  refine xg ?_
  refine xn 2 [(1, [4])] [(29, .agg #[.int .i64 c', .bool neg', .int .u64 (hiI S'), .int .u64 (loI S'), .int .i64 q'])] ?_
  refine xb 10 [.int .i64 0, .bool false, .int .u64 0, .int .u64 0, .int .i64 0] 27 (fun g6 => ?_)
  refine xy [(3, [6])] [] [(6, [.int .i64 c', .bool neg', .int .u64 (hiI S'), .int .u64 (loI S'), .int .i64 q'])] ?_
  refine xg ?_
  refine xn 4 [(1, [6])] [(33, .bool (c' == 0))] ?_
  refine xkf 33 z0' ?_
  refine xz [(5, [6])] [(37, .bool (c' == 5))] ?_
  refine xsf z5' ?_
  refine SW_skip ?_
  refine xrl [] [(26, .int .i64 2)] ?_
  refine LW_step ?_
  refine xr [] [(27, .bool false)] ?_
  refine SW_seq ?_
  refine xs0 ?_
  refine SW_exit ?_
  refine xr [] [(11, Value.func (Fn.func 75) #[] #[])] ?_
  refine xd (fun hB => ?_)
  refine xdk [(0, []), (1, [2]), (3, []), (4, [3])] [(43, .agg #[.int .i64 c', .bool neg', .int .u64 (hiI S'), .int .u64 (loI S'), .int .i64 q']), (42, Value.func (Fn.func 75) #[] #[]), (40, .agg #[.int .i64 c, .bool neg, .int .u64 (hiI S), .int .u64 (loI S), .int .i64 q]), (39, Value.func (Fn.func 75) #[] #[])] hB ?_
  refine xdv 2 41 co zs0 ?_
  refine xdv 5 44 co' zs0 ?_
  refine xdk [(6, []), (7, [])] [(13, .int .i64 t), (12, .int .i64 s)] hB ?_
  refine xdz ?_
  refine SW_seq ?_
  refine xr [] [(47, .bool (s != t))] ?_
  refine xs (s != t) (fun q0 => ?_) (fun q0 => ?_)
  ·have hst : s ≠ t := by simpa using q0
   clear q0
   rcases (show (s = -1 ∧ t = 0) ∨ (s = -1 ∧ t = 1) ∨ (s = 0 ∧ t = 1) by omega) with ⟨rfl, rfl⟩ | ⟨rfl, rfl⟩ | ⟨rfl, rfl⟩
   ·refine xr [] [(6, .int .i64 (-1))] ?_
    refine SW_ret ?_
    refine xe () (.int .i64 (-1)) [] ?_ trivial
    rfl
   ·refine xr [] [(6, .int .i64 (-1))] ?_
    refine SW_ret ?_
    refine xe () (.int .i64 (-1)) [] ?_ trivial
    rfl
   ·refine xr [] [(6, .int .i64 (-1))] ?_
    refine SW_ret ?_
    refine xe () (.int .i64 (-1)) [] ?_ trivial
    rfl
  ·have hst : s = t := by simpa using q0
   subst hst
   clear q0
   have hlt := (hlt.resolve_left (by omega)).2
   have v1 : Ve (IntKind.i64.wrap ((W : Int) - 1)) ((W - 1 : Nat) : Int) := ⟨by rw [wrap_i64 (by omega)]; omega⟩
   have hn : Nn ((W - 1 : Nat) : Int) (W - 1) := ⟨rfl⟩
   have b1 : x % 2 ^ (W - 1) < B128 := Nat.lt_of_le_of_lt (Nat.mod_le _ _) hx
   have b2 : y % 2 ^ (W - 1) < B128 := Nat.lt_of_le_of_lt (Nat.mod_le _ _) hy
   have s1 : Sm (x % 2 ^ (W - 1)) := sm128 (Nat.lt_trans b1 (by decide))
   have s2 : Sm (y % 2 ^ (W - 1)) := sm128 (Nat.lt_trans b2 (by decide))
   have cl1 := ct_impl_layoutOf f hf
   have cc := fun A A' c c' => ct_impl_nat_cmp (x % 2 ^ (W - 1)) (y % 2 ^ (W - 1)) A A' c c' s1 s2
   generalize cmpN (x % 2 ^ (W - 1)) (y % 2 ^ (W - 1)) = v at hlt cc
   rcases (show s = -1 ∨ s = 0 ∨ s = 1 by omega) with rfl | rfl | rfl
   ·have hv : v = 1 := by omega
    subst hv
    have z1 : ((-1 : Int) != -1) = false := rfl
    refine SW_skip ?_
    refine xg ?_
    refine xn 1 [] [(54, .int .i64 f)] ?_
    refine xcv 55 cl1 (zsS zi0 zs0) ?_
    refine xn 5 [] [(57, .bool true), (56, .agg #[.int .i64 (P : Int), .int .i64 emin, .int .i64 emax, .int .i64 (W : Int), .int .i64 (E : Int), .bool ex])] ?_
    refine xb 14 [.int .i64 0, .int .i64 0, .int .i64 0, .int .i64 0, .int .i64 0, .bool false] 91 (fun g7 => ?_)
    refine xy [(6, [7])] [] [(7, [.int .i64 (P : Int), .int .i64 emin, .int .i64 emax, .int .i64 (W : Int), .int .i64 (E : Int), .bool ex])] ?_
    refine xd (fun hB => ?_)
    refine xdk [(0, []), (1, [0]), (2, []), (3, []), (4, [7]), (8, [1]), (9, []), (10, []), (11, [7])] [(69, .int .i64 (W : Int)), (66, .agg #[.int .u64 (hiI y), .int .u64 (loI y)]), (62, .int .i64 (W : Int)), (59, .agg #[.int .u64 (hiI x), .int .u64 (loI x)]), (58, .int .i64 (-1))] hB ?_
    refine xdve 5 hB 63 IntKind.i64 (IntKind.wrap IntKind.i64 ((W : Int) - 1)) ((((W - 1) : Nat) : Int)) v1 ?_
    refine xdve 12 hB 70 IntKind.i64 (IntKind.wrap IntKind.i64 ((W : Int) - 1)) ((((W - 1) : Nat) : Int)) v1 ?_
    refine xdv 6 64 (ct_impl_Word_low (x) ((((W - 1) : Nat) : Int)) (W - 1) hn (by omega) hx) zs0 ?_
    refine xdr 7 65 (ct_impl_Word_nat (x % 2 ^ (W - 1)) b1) zs0 (fun A0 k0 => ?_)
    refine xdv 13 71 (ct_impl_Word_low (y) ((((W - 1) : Nat) : Int)) (W - 1) hn (by omega) hy) zs0 ?_
    refine xdr 14 72 (ct_impl_Word_nat (y % 2 ^ (W - 1)) b2) zs0 (fun A1 k1 => ?_)
    refine xdv 15 73 (cc _ _ _ _) (zsS (ziS zi0) (zsS zi0 zs0)) ?_
    refine xdk [(16, []), (17, [])] [(6, .int .i64 (-1))] hB ?_
    refine xdz ?_
    refine SW_ret ?_
    refine xe () (.int .i64 (-1)) [] ?_ trivial
    rfl
   ·omega
   ·have hv : v = -1 := by omega
    subst hv
    have z1 : ((1 : Int) != 1) = false := rfl
    refine SW_skip ?_
    refine xg ?_
    refine xn 1 [] [(54, .int .i64 f)] ?_
    refine xcv 55 cl1 (zsS zi0 zs0) ?_
    refine xn 5 [] [(57, .bool true), (56, .agg #[.int .i64 (P : Int), .int .i64 emin, .int .i64 emax, .int .i64 (W : Int), .int .i64 (E : Int), .bool ex])] ?_
    refine xb 14 [.int .i64 0, .int .i64 0, .int .i64 0, .int .i64 0, .int .i64 0, .bool false] 91 (fun g7 => ?_)
    refine xy [(6, [7])] [] [(7, [.int .i64 (P : Int), .int .i64 emin, .int .i64 emax, .int .i64 (W : Int), .int .i64 (E : Int), .bool ex])] ?_
    refine xd (fun hB => ?_)
    refine xdk [(0, []), (1, [0]), (2, []), (3, []), (4, [7]), (8, [1]), (9, []), (10, []), (11, [7])] [(69, .int .i64 (W : Int)), (66, .agg #[.int .u64 (hiI y), .int .u64 (loI y)]), (62, .int .i64 (W : Int)), (59, .agg #[.int .u64 (hiI x), .int .u64 (loI x)]), (58, .int .i64 1)] hB ?_
    refine xdve 5 hB 63 IntKind.i64 (IntKind.wrap IntKind.i64 ((W : Int) - 1)) ((((W - 1) : Nat) : Int)) v1 ?_
    refine xdve 12 hB 70 IntKind.i64 (IntKind.wrap IntKind.i64 ((W : Int) - 1)) ((((W - 1) : Nat) : Int)) v1 ?_
    refine xdv 6 64 (ct_impl_Word_low (x) ((((W - 1) : Nat) : Int)) (W - 1) hn (by omega) hx) zs0 ?_
    refine xdr 7 65 (ct_impl_Word_nat (x % 2 ^ (W - 1)) b1) zs0 (fun A0 k0 => ?_)
    refine xdv 13 71 (ct_impl_Word_low (y) ((((W - 1) : Nat) : Int)) (W - 1) hn (by omega) hy) zs0 ?_
    refine xdr 14 72 (ct_impl_Word_nat (y % 2 ^ (W - 1)) b2) zs0 (fun A1 k1 => ?_)
    refine xdv 15 73 (cc _ _ _ _) (zsS (ziS zi0) (zsS zi0 zs0)) ?_
    refine xdk [(16, []), (17, [])] [(6, .int .i64 (-1))] hB ?_
    refine xdz ?_
    refine SW_ret ?_
    refine xe () (.int .i64 (-1)) [] ?_ trivial
    rfl
end Go.Proofs.YtdbnmdchecacdaaDoor.M
end
section
namespace Go.Proofs.YtdbnmdchecacdaaDoor.M
open Go.RowKit Go.Proofs.YtdbnmdchecacdaaDoor.G Go.Proofs.YtdbnmdchecacdaaDoorV.PrintWords Go.Proofs.YtdbnmdchecacdaaDoorV.PrintLast Go.Proofs.YtdbnmdchecacdaaDoor.X
set_option linter.unusedVariables false
set_option linter.unusedSimpArgs false
section
variable {P : Nat} {emin emax : Int} {W E : Nat} {ex : Bool}
theorem wordP_lt (h : Fmt2 P emin emax W E ex) {c : Int} (neg : Bool) {S : Nat} {q : Int} (hv : VP P emin emax c S q) : wordP P emax W E ex c neg S q < B128 := by
  obtain ⟨h1, h2⟩ := fld_rng h hv
  have h3 := makeN_lt h.toFmt neg (decide (fldE P emax E c q ≠ 0)) _ _ h1 h2
  have h4 : 2 ^ W ≤ 2 ^ 128 := Nat.pow_le_pow_right (by decide) h.w2
  have h5 : B128 = 2 ^ 128 := rfl
  unfold wordP
  omega
theorem wordP_mg (h : Fmt2 P emin emax W E ex) {c : Int} (neg : Bool) {S : Nat} {q : Int} (hv : VP P emin emax c S q) : wordP P emax W E ex c neg S q % 2 ^ (W - 1) = mgP P emax E ex c S q := by
  obtain ⟨h1, h2⟩ := fld_rng h hv
  exact word_mg h neg _ _ h1 h2
theorem unp_wordP (h : Fmt2 P emin emax W E ex) {c : Int} (neg : Bool) {S : Nat} {q : Int} (hv : VP P emin emax c S q) : unpN P emin emax W E ex (wordP P emax W E ex c neg S q) = (c, neg, hiI S, loI S, q) := by
  have h1 := unp_of_pack (pack_ok h (neg := neg) hv)
  rwa [pack_word h hv] at h1
theorem cmpN_lt' {x y : Nat} (h : x < y) : cmpN x y = -1 := by unfold cmpN; rw [if_pos h]
theorem cmpN_gt' {x y : Nat} (h : y < x) : cmpN x y = 1 := by unfold cmpN; rw [if_neg (by omega), if_pos h]
def Next (P : Nat) (emin : Int) (S : Nat) (q : Int) (c' : Int) (S' : Nat) (q' : Int) : Prop :=
  c' = 4 ∨ ((bndN P emin S q).2.1 * (bndN P emin S' q').2.2 = (bndN P emin S' q').1 * (bndN P emin S q).2.2 ∧ (c' = 2 ∨ c' = 3) ∧ (decide (S % 2 = 0) != decide (S' % 2 = 0)) = true)
structure Nbr (P : Nat) (emin emax : Int) (W E : Nat) (ex : Bool) (x : Nat) (c : Int) (neg : Bool) (S : Nat) (q : Int) (b : Bool) (y : Nat) (c' : Int) (S' : Nat) (q' : Int) : Prop where
  lt : y < B128
  un : unpN P emin emax W E ex y = (c', neg, hiI S', loI S', q')
  vp : VP P emin emax c' S' q'
  st : stepN P emin emax W E ex c neg S q b = (y, true)
  bk : stepN P emin emax W E ex c' neg S' q' (!b) = (x, true)
  up : b = true → sgnN c neg < sgnN c' neg ∨ (sgnN c neg = sgnN c' neg ∧ sgnN c neg * cmpN (x % 2 ^ (W - 1)) (y % 2 ^ (W - 1)) = -1)
  dn : b = false → sgnN c' neg < sgnN c neg ∨ (sgnN c' neg = sgnN c neg ∧ sgnN c' neg * cmpN (y % 2 ^ (W - 1)) (x % 2 ^ (W - 1)) = -1)
  nx : (b != neg) = true → Next P emin S q c' S' q'
theorem sgn_fin {c : Int} (hc : c ≠ 1) (neg : Bool) : sgnN c neg = if neg = true then -1 else 1 := if_neg hc
theorem nbr (h : Fmt2 P emin emax W E ex) (hx1 : 1 ≤ emax) {x : Nat} {c : Int} {neg : Bool} {S : Nat} {q : Int} (hu : unpN P emin emax W E ex x = (c, neg, hiI S, loI S, q)) (hv : VP P emin emax c S q) (hc : c = 2 ∨ c = 3) (b : Bool) :
    ∃ y c' S' q', Nbr P emin emax W E ex x c neg S q b y c' S' q' := by
  have hx := unp_word h hu hv
  have h1c : c ≠ 1 := by omega
  have h4c : c ≠ 4 := by omega
  have sc := sgn_fin h1c neg
  have pw := pack_word (neg := neg) h hv
  rw [← hx] at pw
  have mx := wordP_mg h neg hv
  rw [← hx] at mx
  by_cases hb : (b != neg) = true
  · have hv' := far_vp h hx1 hv hc
    have hm := far_mg h hx1 hv hc
    have hbk := far_back (W := W) (E := E) (ex := ex) (b := !b) (neg := neg) h hx1 hv hc (by cases b <;> cases neg <;> simp at hb ⊢)
    have hst : stepN P emin emax W E ex c neg S q b = packR P emin emax W E ex (cls3 P emax (farS P S q)).1 neg (cls3 P emax (farS P S q)).2.1 (cls3 P emax (farS P S q)).2.2 := by
      unfold stepN
      rw [if_neg h1c, if_neg h4c, if_pos hb, putN_cls]
    have h1 : (cls3 P emax (farS P S q)).1 ≠ 1 := by
      rcases far_cases h hx1 hv hc with ⟨e, _⟩ | ⟨e, _⟩ | ⟨e, _⟩ | ⟨e, _⟩ <;> rw [e] <;> dsimp only <;> decide
    have hn : Next P emin S q (cls3 P emax (farS P S q)).1 (cls3 P emax (farS P S q)).2.1 (cls3 P emax (farS P S q)).2.2 := by
      by_cases z : (cls3 P emax (farS P S q)).1 = 4
      · exact .inl z
      · exact .inr (meet h hx1 hv hc rfl z)
    generalize cls3 P emax (farS P S q) = u at *
    obtain ⟨c', S', q'⟩ := u
    dsimp only at *
    have sc' := sgn_fin h1 neg
    have my := wordP_mg h neg hv'
    refine ⟨wordP P emax W E ex c' neg S' q', c', S', q', wordP_lt h neg hv', unp_wordP h neg hv', hv', by rw [hst, pack_word h hv'], by rw [hbk, pw], fun hb1 => ?_, fun hb1 => ?_, fun _ => hn⟩
    · subst hb1
      have : neg = false := by cases neg <;> simp at hb ⊢
      subst this
      rw [sc, sc', mx, my, cmpN_lt' hm]
      exact .inr ⟨rfl, by decide⟩
    · subst hb1
      have : neg = true := by cases neg <;> simp at hb ⊢
      subst this
      rw [sc, sc', mx, my, cmpN_gt' hm]
      exact .inr ⟨rfl, by decide⟩
  · have hb0 : (b != neg) = false := by simpa using hb
    have hv' := near_vp h hx1 hv hc
    have hm := near_mg (E := E) (ex := ex) h hx1 hv hc
    have hbk := near_back (W := W) (E := E) (ex := ex) (b := !b) (neg := neg) h hx1 hv hc (by cases b <;> cases neg <;> simp at hb ⊢)
    have hst : stepN P emin emax W E ex c neg S q b = packR P emin emax W E ex (cls3 P emax (nearS P emin S q)).1 neg (cls3 P emax (nearS P emin S q)).2.1 (cls3 P emax (nearS P emin S q)).2.2 := by
      unfold stepN
      rw [if_neg h1c, if_neg h4c, if_neg hb, putN_cls]
    generalize cls3 P emax (nearS P emin S q) = u at *
    obtain ⟨c', S', q'⟩ := u
    dsimp only at *
    have my := wordP_mg h neg hv'
    refine ⟨wordP P emax W E ex c' neg S' q', c', S', q', wordP_lt h neg hv', unp_wordP h neg hv', hv', by rw [hst, pack_word h hv'], by rw [hbk, pw], fun hb1 => ?_, fun hb1 => ?_, fun hb1 => absurd hb1 hb⟩
    · subst hb1
      have : neg = true := by cases neg <;> simp at hb ⊢
      subst this
      by_cases z : c' = 1
      · have e : sgnN c' true = 0 := by unfold sgnN; rw [if_pos z]
        rw [sc, e]
        exact .inl (by decide)
      · rw [sc, sgn_fin z, mx, my, cmpN_gt' (hm z)]
        exact .inr ⟨rfl, by decide⟩
    · subst hb1
      have : neg = false := by cases neg <;> simp at hb ⊢
      subst this
      by_cases z : c' = 1
      · have e : sgnN c' false = 0 := by unfold sgnN; rw [if_pos z]
        rw [sc, e]
        exact .inl (by decide)
      · rw [sc, sgn_fin z, mx, my, cmpN_lt' (hm z)]
        exact .inr ⟨rfl, by decide⟩
end
end Go.Proofs.YtdbnmdchecacdaaDoor.M
end
section
namespace Go.Proofs.YtdbnmdchecacdaaDoor.M
open Go.RowKit Go.Proofs.YtdbnmdchecacdaaDoor.G Go.Proofs.YtdbnmdchecacdaaDoorV.PrintWords Go.Proofs.YtdbnmdchecacdaaDoorV.PrintLast Go.Proofs.YtdbnmdchecacdaaDoor.X
set_option linter.unusedVariables false
set_option linter.unusedSimpArgs false
theorem ct_spec_NatMul (x y m n : Nat) (A A' : Option Addr) (c c' : Nat) (hm : x < 2 ^ m) (hm1 : m ≤ 76800) (hn : y < 2 ^ n) (hn1 : n ≤ 76800) : CtR Tryd.prog 34 [.slice A (ofN B64 x).length c, .slice A' (ofN B64 y).length c'] [Row .u64 A c (ofN B64 x), Row .u64 A' c' (ofN B64 y)] .u64 (ofN B64 (x * y)) := by
 have fa := decide_eq_true (len1200 hm hm1)
 have fb := decide_eq_true (len1200 hn hn1)
 have s1 : Sm x := Sm.of hm (by omega)
 have s2 : Sm y := Sm.of hn (by omega)
 have s3 : Sm (x * y) := Sm.of (k := m + n) (by rw [Nat.pow_add]; exact Nat.lt_of_le_of_lt (Nat.mul_le_mul_left _ (Nat.le_of_lt hn)) (Nat.mul_lt_mul_of_pos_right hm (Nat.pow_pos (by decide)))) (by omega)
 refine ct_of Tryd.func34 rfl (by kernel_rfl) (fun B w0 => ?_)
 refine xr [] [(4, .slice none 0 0)] ?_
 refine SW_seq ?_
 refine xg ?_
 refine xn 1 [] [(5, .slice A (List.length (ofN B64 x)) c)] ?_
 refine xcv 6 (ct_spec_l1Fits (List.length (ofN B64 x)) (c) (A) (true) fa) zs0 ?_
 refine xn 5 [] [(9, .slice A' (List.length (ofN B64 y)) c'), (8, .bool false)] ?_
 refine xcv 10 (ct_spec_l1Fits (List.length (ofN B64 y)) (c') (A') (true) fb) zs0 ?_
 refine xz [] [(12, .bool false)] ?_
 refine xs0 ?_
 refine SW_skip ?_
 refine xg ?_
 refine xn 1 [] [(13, .slice A (List.length (ofN B64 x)) c)] ?_
 refine xcr 14 (ct_spec_l1In (x) (A) (c) s1) (zsS zi0 zs0) (fun A0 k0 => ?_)
 refine xn 3 [] [(15, .slice A' (List.length (ofN B64 y)) c')] ?_
 refine xcr 16 (ct_spec_l1In (y) (A') (c') s2) (zsS (ziS (ziS zi0)) zs0) (fun A1 k1 => ?_)
 refine xcr 17 (ct_spec_l1Mul (x) (y) (A0) (A1) (k0) (k1) s1 s2) (zsS (ziS zi0) (zsS zi0 zs0)) (fun A2 k2 => ?_)
 refine xcr 18 (ct_spec_l1Out (x * y) (A2) (k2) s3) (zsS zi0 zs0) (fun A3 k3 => ?_)
 refine xz [] [(4, .slice A3 (List.length (ofN B64 (x * y))) k3)] ?_
 refine SW_ret ?_
 refine xe (A3, k3) (.slice A3 (List.length (ofN B64 (x * y))) k3) [] ?_ (zsS zi0 zs0)
 rfl
theorem ct_spec_NatCmp (x y m n : Nat) (A A' : Option Addr) (c c' : Nat) (hm : x < 2 ^ m) (hm1 : m ≤ 76800) (hn : y < 2 ^ n) (hn1 : n ≤ 76800) : CtV Tryd.prog 33 [.slice A (ofN B64 x).length c, .slice A' (ofN B64 y).length c'] [Row .u64 A c (ofN B64 x), Row .u64 A' c' (ofN B64 y)] (.int .i64 (cmpN x y)) := by
 have fa := decide_eq_true (len1200 hm hm1)
 have fb := decide_eq_true (len1200 hn hn1)
 have s1 : Sm x := Sm.of hm (by omega)
 have s2 : Sm y := Sm.of hn (by omega)
 refine ct_of Tryd.func33 rfl (by kernel_rfl) (fun B w0 => ?_)
 refine xr [] [(4, .int .i64 0)] ?_
 refine SW_seq ?_
 refine xg ?_
 refine xn 1 [] [(5, .slice A (List.length (ofN B64 x)) c)] ?_
 refine xcv 6 (ct_spec_l1Fits (List.length (ofN B64 x)) (c) (A) (true) fa) zs0 ?_
 refine xn 5 [] [(9, .slice A' (List.length (ofN B64 y)) c'), (8, .bool false)] ?_
 refine xcv 10 (ct_spec_l1Fits (List.length (ofN B64 y)) (c') (A') (true) fb) zs0 ?_
 refine xz [] [(12, .bool false)] ?_
 refine xs0 ?_
 refine SW_skip ?_
 refine xg ?_
 refine xn 1 [] [(13, .slice A (List.length (ofN B64 x)) c)] ?_
 refine xcr 14 (ct_spec_l1In (x) (A) (c) s1) (zsS zi0 zs0) (fun A0 k0 => ?_)
 refine xn 3 [] [(15, .slice A' (List.length (ofN B64 y)) c')] ?_
 refine xcr 16 (ct_spec_l1In (y) (A') (c') s2) (zsS (ziS (ziS zi0)) zs0) (fun A1 k1 => ?_)
 refine xcv 17 (ct_spec_l1Cmp (x) (y) (A0) (A1) (k0) (k1) s1 s2) (zsS (ziS zi0) (zsS zi0 zs0)) ?_
 refine xz [] [(4, .int .i64 (cmpN x y))] ?_
 refine SW_ret ?_
 refine xe () (.int .i64 (cmpN x y)) [] ?_ trivial
 rfl
theorem unp_both (f : Int) (x : Nat) (hx : x < B128) :
  (∃ (c : Int) (b : Bool) (k1 k2 k3 : Int), (c ≠ 2 ∧ c ≠ 3) ∧ CtV Tryd.prog 15 [.int .i64 f, .agg #[.int .u64 (hiI x), .int .u64 (loI x)]] [] (.agg #[.int .i64 c, .bool b, .int .u64 k1, .int .u64 k2, .int .i64 k3])) ∨
  ∃ (P : Nat) (emin emax : Int) (W E : Nat) (ex : Bool) (c : Int) (neg : Bool) (S : Nat) (q : Int), FD f P emin emax W E ex ∧ unpN P emin emax W E ex x = (c, neg, hiI S, loI S, q) ∧ VP P emin emax c S q ∧ (c = 2 ∨ c = 3) := by
 rcases fd_or f with ⟨_, P, emin, emax, W, E, ex, d⟩ | ⟨_, hs, hl⟩
 ·have cs := ct_spec_Unpack d.h.toFmt f d.sf x hx
  rcases unp_form d.h x with hu | hu | ⟨c, neg, S, q, hu, hSl, hv⟩
  ·rw [hu, badP, prtV] at cs
   exact .inl ⟨_, _, _, _, _, ⟨by decide, by decide⟩, cs⟩
  ·rw [hu, prtV] at cs
   exact .inl ⟨_, _, _, _, _, ⟨by decide, by decide⟩, cs⟩
  ·by_cases hc : c = 2 ∨ c = 3
   ·exact .inr ⟨P, emin, emax, W, E, ex, c, neg, S, q, d, hu, hv, hc⟩
   ·rw [hu, prtV] at cs
    exact .inl ⟨_, _, _, _, _, ⟨fun z => hc (.inl z), fun z => hc (.inr z)⟩, cs⟩
 ·exact .inl ⟨_, _, _, _, _, ⟨by decide, by decide⟩, ct_spec_Unpack' f hs (hiI x) (loI x)⟩
theorem ct_step_known {P : Nat} {emin emax : Int} {W E : Nat} {ex : Bool} {f : Int} (d : FD f P emin emax W E ex) {x : Nat} (hx : x < B128) {c : Int} {neg : Bool} {S : Nat} {q : Int} (hu : unpN P emin emax W E ex x = (c, neg, hiI S, loI S, q)) (hv : VP P emin emax c S q) (up : Bool) {y : Nat} (hs : stepN P emin emax W E ex c neg S q up = (y, true)) :
  CtV Tryd.prog 31 [.int .i64 f, .agg #[.int .u64 (hiI x), .int .u64 (loI x)], .bool up] [Tabled] (.tuple #[.agg #[.int .u64 (hiI y), .int .u64 (loI y)], .bool true]) := by
 have hc : c ≠ 0 ∧ c ≠ 5 := by rcases hv with ⟨rfl, _⟩ | ⟨rfl, _⟩ | ⟨rfl, _⟩ | ⟨rfl, _⟩ <;> decide
 refine ct_impl_Step d x hx up (y, true) (fun h2 => ?_) (fun c' neg' S' q' h2 _ => ?_)
 ·exfalso
  rcases h2 with h2 | h2
  ·rw [hu, badP] at h2
   injection h2 with h2 _
   exact hc.1 h2
  ·rw [hu] at h2
   injection h2 with h2 _
   exact hc.2 h2
 ·rw [hu] at h2
  injection h2 with e1 h2
  injection h2 with e2 h2
  injection h2 with e3 h2
  injection h2 with e4 e5
  rw [← hs, e1, e2, e5, hilo_inj e3 e4]
theorem ct_laws_FnStep (A : Option Addr) (c : Nat) (bt : List Int) (dx : Dig 256 bt) :
  CtV Tryd.prog 8 [.slice A bt.length c] [Tabled, Row .u8 A c bt] (.bool true) := by
 by_cases hx : bt.length ≤ 1048576
 ·have z0 : decide ((bt.length : Int) > 1048576) = false := decide_eq_false (by omega)
  refine ct_of Tryd.func8 rfl (by kernel_rfl) (fun B w0 => ?_)
  have noweak := True.intro
  refine xr [] [(2, .bool false)] ?_
  refine SW_seq ?_
  refine xr [] [(21, .bool (decide ((((List.length bt) : Nat) : Int) > 1048576)))] ?_
  refine xsf z0 ?_
  refine SW_skip ?_
  refine xg ?_
  refine xn 1 [] [(23, .slice A (List.length bt) c)] ?_
  (refine xck 24 (ct_spec_DrawUnpack (A) (c) (bt) hx dx) (zsS (ziS zi0) zs0) (fun zz => ?_); obtain ⟨⟨z1, z2⟩, p3⟩ := zz)
  refine xn 5 [] [(26, .agg #[.int .u64 (hiI z2), .int .u64 (loI z2)]), (25, .int .i64 z1)] ?_
  refine xb 4 [.int .u64 0, .int .u64 0] 25 (fun g0 => ?_)
  refine xy [(7, [0])] [(3, .int .i64 z1)] [(0, [.int .u64 (hiI z2), .int .u64 (loI z2)])] ?_
  refine xg ?_
  refine xn 2 [(1, [0])] [(28, .agg #[.int .u64 (hiI z2), .int .u64 (loI z2)]), (27, .int .i64 z1)] ?_
  rcases unp_both z1 z2 p3.2 with ⟨cc, b, k1, k2, k3, hcc, cu⟩ | ⟨P, emin, emax, W, E, ex, cc, neg, S, q, d, hu, hv, hc⟩
  ·obtain ⟨R, r1, r2⟩ := step_both z1 z2 p3.2 true
   have z3 : (cc != 3) = true := by rw [bne_iff_ne]; exact hcc.2
   have z4 : (cc != 2) = true := by rw [bne_iff_ne]; exact hcc.1
   refine xcv 29 cu zs0 ?_
   refine xz [] [(5, .int .i64 cc)] ?_
   refine SW_seq ?_
   refine xg ?_
   refine xn 3 [] [(33, .bool (cc != 3))] ?_
   refine xkt 33 z3 ?_
   refine xz [] [(36, .bool (cc != 2))] ?_
   refine xst z4 ?_
   refine xg ?_
   refine xn 2 [(1, [0])] [(39, .agg #[.int .u64 (hiI z2), .int .u64 (loI z2)]), (38, .int .i64 z1)] ?_
   refine xcv 40 r2 (zsS zi0 zs0) ?_
   refine xn 6 [] [(42, .bool (Prod.snd R)), (41, .agg #[.int .u64 (hiI (Prod.fst R)), .int .u64 (loI (Prod.fst R))])] ?_
   refine xb 6 [.int .u64 0, .int .u64 0] 25 (fun g1 => ?_)
   refine xy [(7, [1])] [(7, .bool (Prod.snd R))] [(1, [.int .u64 (hiI (Prod.fst R)), .int .u64 (loI (Prod.fst R))])] ?_
   refine xg ?_
   refine xn 2 [(1, [0])] [(45, .agg #[.int .u64 (hiI z2), .int .u64 (loI z2)]), (44, .int .i64 z1)] ?_
   refine xcv 46 r1 zs0 ?_
   refine xn 6 [] [(48, .bool (Prod.snd R)), (47, .agg #[.int .u64 (hiI (Prod.fst R)), .int .u64 (loI (Prod.fst R))])] ?_
   refine xb 8 [.int .u64 0, .int .u64 0] 25 (fun g2 => ?_)
   refine xy [(7, [2])] [(9, .bool (Prod.snd R))] [(2, [.int .u64 (hiI (Prod.fst R)), .int .u64 (loI (Prod.fst R))])] ?_
   refine xr [] [(2, .bool (Prod.snd R == Prod.snd R))] ?_
   refine SW_ret ?_
   refine xe () (.bool (Prod.snd R == Prod.snd R)) [] ?_ trivial
   rw [beq_self_eq_true]
  ·have h := d.h
   have hs := d.sf
   have hf := d.lf
   have cu := ct_spec_Unpack h.toFmt z1 hs z2 p3.2
   rw [hu, prtV] at cu
   dsimp only at cu
   have zk : ((cc != 3) && (cc != 2)) = false := by rcases hc with rfl | rfl <;> rfl
   obtain ⟨y1, c1, S1, q1, n1⟩ := nbr h d.x1 hu hv hc true
   obtain ⟨y2, c2, S2, q2, n2⟩ := nbr h d.x1 hu hv hc false
   have hcx : cc ≠ 0 ∧ cc ≠ 5 := by omega
   have cv : ∀ c' S' q', VP P emin emax c' S' q' → c' ≠ 0 ∧ c' ≠ 5 := fun c' S' q' hv => by rcases hv with ⟨rfl, _⟩ | ⟨rfl, _⟩ | ⟨rfl, _⟩ | ⟨rfl, _⟩ <;> decide
   have cs1 := ct_step_known d p3.2 hu hv true n1.st
   have cs2 := ct_step_known d p3.2 hu hv false n2.st
   have cb1 := ct_step_known d n1.lt n1.un n1.vp false n1.bk
   have cb2 := ct_step_known d n2.lt n2.un n2.vp true n2.bk
   have co1 := ct_impl_Order_lt d z2 y1 p3.2 n1.lt _ _ _ _ _ _ _ _ hu n1.un hcx (cv _ _ _ n1.vp) (n1.up rfl)
   have co2 := ct_impl_Order_lt d y2 z2 n2.lt p3.2 _ _ _ _ _ _ _ _ n2.un hu (cv _ _ _ n2.vp) hcx (n2.dn rfl)
   have cu1 := ct_spec_Unpack h.toFmt z1 hs y1 n1.lt
   rw [n1.un, prtV] at cu1
   dsimp only at cu1
   have cu2 := ct_spec_Unpack h.toFmt z1 hs y2 n2.lt
   rw [n2.un, prtV] at cu2
   dsimp only at cu2
   obtain ⟨u, hu2⟩ : ∃ u, bndN P emin S q = u := ⟨_, rfl⟩
   have ci := ct_impl_Bounds d z2 p3.2 cc neg S q hu hv hc u hu2
   obtain ⟨k, hk, hlt, l1, l2, l3⟩ := bnd_sm h d.x1 hv hc
   obtain ⟨h1, h2, h3⟩ := hlt
   rw [hu2] at h1 h2 h3 l1 l2 l3
   obtain ⟨lo, hi, dn⟩ := u
   dsimp only at h1 h2 h3 l1 l2 l3
   have zw : (!((hiI z2 == hiI z2) && (loI z2 == loI z2))) = false := by simp
   refine xcv 29 cu zs0 ?_
   refine xz [] [(5, .int .i64 cc)] ?_
   refine SW_cut (fun s' => Weak s' ⟨[(3, .int .i64 z1), (4, .pointer (some ⟨g0, 0, none⟩))], [⟨g0, [.int .u64 (hiI z2), .int .u64 (loI z2)], 25⟩], [Tabled]⟩) ?_ ?_
   ·rcases hc with rfl | rfl
    ·have z3 : ((2 : Int) != 3) = true := rfl
     have z4 : ((2 : Int) != 2) = false := rfl
     refine xr [] [(36, .bool false)] ?_
     refine xs0 ?_
     refine SW_skip ?_
     exact xw (zsS zi0 zs0)
    ·have z3 : ((3 : Int) != 3) = false := rfl
     refine xr [] [(36, .bool false)] ?_
     refine xs0 ?_
     refine SW_skip ?_
     exact xw (zsS zi0 zs0)
   ·rintro s' hw
    refine SW_weak hw ?_
    clear hw
    refine xg ?_
    refine xn 2 [(1, [0])] [(54, .agg #[.int .u64 (hiI z2), .int .u64 (loI z2)]), (53, .int .i64 z1)] ?_
    refine xcv 55 cs1 (zsS zi0 zs0) ?_
    refine xn 6 [] [(57, .bool true), (56, .agg #[.int .u64 (hiI y1), .int .u64 (loI y1)])] ?_
    refine xb 10 [.int .u64 0, .int .u64 0] 25 (fun g1 => ?_)
    refine xy [(7, [1])] [(11, .bool true)] [(1, [.int .u64 (hiI y1), .int .u64 (loI y1)])] ?_
    refine xg ?_
    refine xn 2 [(1, [0])] [(60, .agg #[.int .u64 (hiI z2), .int .u64 (loI z2)]), (59, .int .i64 z1)] ?_
    refine xcv 61 cs2 (zsS zi0 zs0) ?_
    refine xn 6 [] [(63, .bool true), (62, .agg #[.int .u64 (hiI y2), .int .u64 (loI y2)])] ?_
    refine xb 12 [.int .u64 0, .int .u64 0] 25 (fun g2 => ?_)
    refine xy [(7, [2])] [(13, .bool true)] [(2, [.int .u64 (hiI y2), .int .u64 (loI y2)])] ?_
    refine SW_seq ?_
    refine xg ?_
    refine xn 10 [(8, [0]), (9, [1])] [(73, .agg #[.int .u64 (hiI y1), .int .u64 (loI y1)]), (72, .agg #[.int .u64 (hiI z2), .int .u64 (loI z2)]), (71, .int .i64 z1), (70, .bool false)] ?_
    refine xcv 74 co1 (zsS zi0 zs0) ?_
    refine xn 17 [(15, [2]), (16, [0])] [(80, .agg #[.int .u64 (hiI z2), .int .u64 (loI z2)]), (79, .agg #[.int .u64 (hiI y2), .int .u64 (loI y2)]), (78, .int .i64 z1), (77, .bool false)] ?_
    refine xcv 81 co2 (zsS zi0 zs0) ?_
    refine xz [] [(83, .bool false)] ?_
    refine xs0 ?_
    refine SW_skip ?_
    refine xg ?_
    refine xn 2 [(1, [1])] [(86, .agg #[.int .u64 (hiI y1), .int .u64 (loI y1)]), (85, .int .i64 z1)] ?_
    refine xcv 87 cb1 (zsS zi0 zs0) ?_
    refine xn 6 [] [(89, .bool true), (88, .agg #[.int .u64 (hiI z2), .int .u64 (loI z2)])] ?_
    refine xb 14 [.int .u64 0, .int .u64 0] 25 (fun g3 => ?_)
    refine xy [(7, [3])] [(11, .bool true)] [(3, [.int .u64 (hiI z2), .int .u64 (loI z2)])] ?_
    refine xg ?_
    refine xn 2 [(1, [2])] [(92, .agg #[.int .u64 (hiI y2), .int .u64 (loI y2)]), (91, .int .i64 z1)] ?_
    refine xcv 93 cb2 (zsS zi0 zs0) ?_
    refine xn 6 [] [(95, .bool true), (94, .agg #[.int .u64 (hiI z2), .int .u64 (loI z2)])] ?_
    refine xb 15 [.int .u64 0, .int .u64 0] 25 (fun g4 => ?_)
    refine xy [(7, [4])] [(13, .bool true)] [(4, [.int .u64 (hiI z2), .int .u64 (loI z2)])] ?_
    refine SW_seq ?_
    refine xg ?_
    refine xn 9 [(7, [3]), (8, [0])] [(104, .agg #[.int .u64 (hiI z2), .int .u64 (loI z2)]), (103, .agg #[.int .u64 (hiI z2), .int .u64 (loI z2)]), (102, .bool false)] ?_
    refine xv 105 (.bool (!((hiI z2 == hiI z2) && (loI z2 == loI z2)))) (fun w _ _ => run_neq rfl (by kernel_rfl) (by kernel_rfl) (by kernel_rfl) w (eq_word _ _ _ _ _ w)) ?_
    refine xn 12 [] [(107, .bool !(hiI z2 == hiI z2 && loI z2 == loI z2))] ?_
    refine xkf 107 zw ?_
    refine xn 14 [(12, [4]), (13, [0])] [(109, .agg #[.int .u64 (hiI z2), .int .u64 (loI z2)]), (108, .agg #[.int .u64 (hiI z2), .int .u64 (loI z2)])] ?_
    refine xv 110 (.bool (!((hiI z2 == hiI z2) && (loI z2 == loI z2)))) (fun w _ _ => run_neq rfl (by kernel_rfl) (by kernel_rfl) (by kernel_rfl) w (eq_word _ _ _ _ _ w)) ?_
    refine xz [] [(111, .bool !(hiI z2 == hiI z2 && loI z2 == loI z2))] ?_
    refine xsf zw ?_
    refine SW_skip ?_
    refine xg ?_
    refine xn 1 [(0, [1])] [(112, .agg #[.int .u64 (hiI y1), .int .u64 (loI y1)])] ?_
    refine xb 16 [.int .u64 0, .int .u64 0] 25 (fun g5 => ?_)
    refine xy [(2, [5])] [] [(5, [.int .u64 (hiI y1), .int .u64 (loI y1)])] ?_
    refine SW_seq ?_
    refine xg ?_
    refine xn 2 [(1, [0])] [(114, .agg #[.int .u64 (hiI z2), .int .u64 (loI z2)]), (113, .int .i64 z1)] ?_
    refine xcv 115 cu zs0 ?_
    refine xz [] [(116, .bool neg)] ?_
    refine xs (neg) (fun q3 => ?_) (fun q3 => ?_)
    ·subst q3
     rcases n2.nx rfl with h4 | ⟨he, hc', hp⟩
     ·subst h4
      have cz := n2.un
      have ci2 := ct_impl_Unpack h.toFmt z1 hf y2 n2.lt
      rw [cz, prtV] at ci2
      dsimp only at ci2
      have cb0 := ct_impl_Bounds0 4 (by decide) _ _ _ _ _ _ _ _ _ _ _ _ _ (ct_impl_layoutOf z1 hf) ci2
      refine xql [(0, [2]), (1, [5])] [] [(5, [.int .u64 (hiI y2), .int .u64 (loI y2)])] ?_
      refine xg ?_
      refine xn 2 [(1, [0])] [(119, .agg #[.int .u64 (hiI z2), .int .u64 (loI z2)]), (118, .int .i64 z1)] ?_
      (refine xck 120 ci (zsS zi0 zs0) (fun zz => ?_); obtain ⟨⟨z4, z5⟩, ⟨⟨z6, z7⟩, ⟨z8, z9⟩⟩⟩ := zz)
      refine xb 17 [.slice none 0 0, .slice none 0 0, .slice none 0 0, .bool false, .bool false] 43 (fun g6 => ?_)
      refine xy [(4, [6])] [] [(6, [.slice z4 (List.length (ofN B64 lo)) z5, .slice z6 (List.length (ofN B64 hi)) z7, .slice z8 (List.length (ofN B64 dn)) z9, .bool (decide (S % 2 = 0)), .bool true])] ?_
      refine xg ?_
      refine xn 2 [(1, [5])] [(122, .agg #[.int .u64 (hiI y2), .int .u64 (loI y2)]), (121, .int .i64 z1)] ?_
      refine xcv 123 cb0 (zsS (ziS (ziS (ziS zi0))) zs0) ?_
      refine xb 18 [.slice none 0 0, .slice none 0 0, .slice none 0 0, .bool false, .bool false] 43 (fun g7 => ?_)
      refine xy [(4, [7])] [] [] ?_
      refine SW_seq ?_
      refine xr [(1, [6])] [(126, .bool false)] ?_
      refine xs0 ?_
      refine SW_skip ?_
      refine SW_seq ?_
      refine xg ?_
      refine xn 2 [(1, [5])] [(128, .agg #[.int .u64 (hiI y2), .int .u64 (loI y2)]), (127, .int .i64 z1)] ?_
      refine xcv 129 cu2 zs0 ?_
      refine xz [] [(131, .bool true)] ?_
      refine xs1 ?_
      refine xr [(1, [7])] [(2, .bool true)] ?_
      refine SW_ret ?_
      refine xe () (.bool true) [] ?_ trivial
      rfl
     ·obtain ⟨v, hv2⟩ : ∃ v, bndN P emin S2 q2 = v := ⟨_, rfl⟩
      have cb0 := ct_impl_Bounds d y2 n2.lt c2 true S2 q2 n2.un n2.vp hc' v hv2
      obtain ⟨k', hk', hlt', l1', l2', l3'⟩ := bnd_sm h d.x1 n2.vp hc'
      obtain ⟨h1', h2', h3'⟩ := hlt'
      rw [hv2] at h1' h2' h3' l1' l2' l3' he
      rw [hu2] at he
      obtain ⟨lo', hi', dn'⟩ := v
      dsimp only at h1' h2' h3' l1' l2' l3' he
      have z5 : (c2 == 4) = false := by rw [beq_eq_false_iff_ne]; omega
      obtain ⟨b1, hb1⟩ : ∃ b, decide (S % 2 = 0) = b := ⟨_, rfl⟩
      obtain ⟨b2, hb2⟩ : ∃ b, decide (S2 % 2 = 0) = b := ⟨_, rfl⟩
      rw [hb1] at ci hp
      rw [hb2] at cb0 hp
      obtain ⟨X, hX⟩ : ∃ X, hi * dn' = X := ⟨_, rfl⟩
      have hX' : lo' * dn = X := by rw [← hX, he]
      have hlX : X < 2 ^ (k + k') := by rw [← hX, Nat.pow_add]; exact Nat.lt_of_le_of_lt (Nat.mul_le_mul_left _ (Nat.le_of_lt h3')) (Nat.mul_lt_mul_of_pos_right h2 (Nat.pow_pos (by decide)))
      have m1 := fun A A' c c' => ct_spec_NatMul hi dn' k k' A A' c c' h2 (by omega) h3' (by omega)
      have m2 := fun A A' c c' => ct_spec_NatMul lo' dn k' k A A' c c' h1' (by omega) h3 (by omega)
      rw [hX] at m1
      rw [hX'] at m2
      have m3 := fun A A' c c' => ct_spec_NatCmp X X (k + k') (k + k') A A' c c' hlX (by omega) hlX (by omega)
      have e0 : cmpN X X = 0 := by unfold cmpN; rw [if_neg (by omega), if_neg (by omega)]
      rw [e0] at m3
      clear hX hX' hlX e0 he
      refine xql [(0, [2]), (1, [5])] [] [(5, [.int .u64 (hiI y2), .int .u64 (loI y2)])] ?_
      refine xg ?_
      refine xn 2 [(1, [0])] [(119, .agg #[.int .u64 (hiI z2), .int .u64 (loI z2)]), (118, .int .i64 z1)] ?_
      (refine xck 120 ci (zsS zi0 zs0) (fun zz => ?_); obtain ⟨⟨z6, z7⟩, ⟨⟨z8, z9⟩, ⟨z10, z11⟩⟩⟩ := zz)
      refine xb 17 [.slice none 0 0, .slice none 0 0, .slice none 0 0, .bool false, .bool false] 43 (fun g6 => ?_)
      refine xy [(4, [6])] [] [(6, [.slice z6 (List.length (ofN B64 lo)) z7, .slice z8 (List.length (ofN B64 hi)) z9, .slice z10 (List.length (ofN B64 dn)) z11, .bool b1, .bool true])] ?_
      refine xg ?_
      refine xn 2 [(1, [5])] [(122, .agg #[.int .u64 (hiI y2), .int .u64 (loI y2)]), (121, .int .i64 z1)] ?_
      (refine xck 123 cb0 (zsS (ziS (ziS (ziS zi0))) zs0) (fun zz => ?_); obtain ⟨⟨z12, z13⟩, ⟨⟨z14, z15⟩, ⟨z16, z17⟩⟩⟩ := zz)
      refine xb 18 [.slice none 0 0, .slice none 0 0, .slice none 0 0, .bool false, .bool false] 43 (fun g7 => ?_)
      refine xy [(4, [7])] [] [(7, [.slice z12 (List.length (ofN B64 lo')) z13, .slice z14 (List.length (ofN B64 hi')) z15, .slice z16 (List.length (ofN B64 dn')) z17, .bool b2, .bool true])] ?_
      refine SW_seq ?_
      refine xr [(1, [6])] [(126, .bool false)] ?_
      refine xs0 ?_
      refine SW_skip ?_
      refine SW_seq ?_
      refine xg ?_
      refine xn 2 [(1, [5])] [(128, .agg #[.int .u64 (hiI y2), .int .u64 (loI y2)]), (127, .int .i64 z1)] ?_
      refine xcv 129 cu2 zs0 ?_
      refine xz [] [(131, .bool (c2 == 4))] ?_
      refine xsf z5 ?_
      refine SW_skip ?_
      refine xd (fun hB => ?_)
      refine xdk [(0, []), (1, [7]), (2, []), (3, []), (4, [6]), (5, []), (6, [7]), (8, []), (9, [7]), (10, []), (11, [6])] [(146, .slice z10 (List.length (ofN B64 dn)) z11), (144, .slice z12 (List.length (ofN B64 lo')) z13), (141, .slice z16 (List.length (ofN B64 dn')) z17), (139, .slice z8 (List.length (ofN B64 hi)) z9), (137, .bool true)] hB ?_
      refine xdr 7 142 (m1 _ _ _ _) (zsS (ziS (ziS (ziS (ziS zi0)))) (zsS (ziS (ziS zi0)) zs0)) (fun A0 k0 => ?_)
      refine xdr 12 147 (m2 _ _ _ _) (zsS (ziS zi0) (zsS (ziS (ziS (ziS (ziS (ziS (ziS zi0)))))) zs0)) (fun A1 k1 => ?_)
      refine xdv 13 148 (m3 _ _ _ _) (zsS (ziS zi0) (zsS zi0 zs0)) ?_
      refine xdk [(14, []), (15, []), (16, []), (17, []), (18, [6]), (19, []), (20, [7]), (21, []), (22, []), (23, [])] [(2, .bool !b1 == b2)] hB ?_
      refine xdz ?_
      refine SW_ret ?_
      refine xe () (.bool !b1 == b2) [] ?_ trivial
      exact congrArg Value.bool hp
    ·subst q3
     rcases n1.nx rfl with h4 | ⟨he, hc', hp⟩
     ·subst h4
      have cz := n1.un
      have ci2 := ct_impl_Unpack h.toFmt z1 hf y1 n1.lt
      rw [cz, prtV] at ci2
      dsimp only at ci2
      have cb0 := ct_impl_Bounds0 4 (by decide) _ _ _ _ _ _ _ _ _ _ _ _ _ (ct_impl_layoutOf z1 hf) ci2
      refine SW_skip ?_
      refine xg ?_
      refine xn 2 [(1, [0])] [(119, .agg #[.int .u64 (hiI z2), .int .u64 (loI z2)]), (118, .int .i64 z1)] ?_
      (refine xck 120 ci (zsS zi0 zs0) (fun zz => ?_); obtain ⟨⟨z4, z5⟩, ⟨⟨z6, z7⟩, ⟨z8, z9⟩⟩⟩ := zz)
      refine xb 17 [.slice none 0 0, .slice none 0 0, .slice none 0 0, .bool false, .bool false] 43 (fun g6 => ?_)
      refine xy [(4, [6])] [] [(6, [.slice z4 (List.length (ofN B64 lo)) z5, .slice z6 (List.length (ofN B64 hi)) z7, .slice z8 (List.length (ofN B64 dn)) z9, .bool (decide (S % 2 = 0)), .bool true])] ?_
      refine xg ?_
      refine xn 2 [(1, [5])] [(122, .agg #[.int .u64 (hiI y1), .int .u64 (loI y1)]), (121, .int .i64 z1)] ?_
      refine xcv 123 cb0 (zsS (ziS (ziS (ziS zi0))) zs0) ?_
      refine xb 18 [.slice none 0 0, .slice none 0 0, .slice none 0 0, .bool false, .bool false] 43 (fun g7 => ?_)
      refine xy [(4, [7])] [] [] ?_
      refine SW_seq ?_
      refine xr [(1, [6])] [(126, .bool false)] ?_
      refine xs0 ?_
      refine SW_skip ?_
      refine SW_seq ?_
      refine xg ?_
      refine xn 2 [(1, [5])] [(128, .agg #[.int .u64 (hiI y1), .int .u64 (loI y1)]), (127, .int .i64 z1)] ?_
      refine xcv 129 cu1 zs0 ?_
      refine xz [] [(131, .bool true)] ?_
      refine xs1 ?_
      refine xr [(1, [7])] [(2, .bool true)] ?_
      refine SW_ret ?_
      refine xe () (.bool true) [] ?_ trivial
      rfl
     ·obtain ⟨v, hv2⟩ : ∃ v, bndN P emin S1 q1 = v := ⟨_, rfl⟩
      have cb0 := ct_impl_Bounds d y1 n1.lt c1 false S1 q1 n1.un n1.vp hc' v hv2
      obtain ⟨k', hk', hlt', l1', l2', l3'⟩ := bnd_sm h d.x1 n1.vp hc'
      obtain ⟨h1', h2', h3'⟩ := hlt'
      rw [hv2] at h1' h2' h3' l1' l2' l3' he
      rw [hu2] at he
      obtain ⟨lo', hi', dn'⟩ := v
      dsimp only at h1' h2' h3' l1' l2' l3' he
      have z5 : (c1 == 4) = false := by rw [beq_eq_false_iff_ne]; omega
      obtain ⟨b1, hb1⟩ : ∃ b, decide (S % 2 = 0) = b := ⟨_, rfl⟩
      obtain ⟨b2, hb2⟩ : ∃ b, decide (S1 % 2 = 0) = b := ⟨_, rfl⟩
      rw [hb1] at ci hp
      rw [hb2] at cb0 hp
      obtain ⟨X, hX⟩ : ∃ X, hi * dn' = X := ⟨_, rfl⟩
      have hX' : lo' * dn = X := by rw [← hX, he]
      have hlX : X < 2 ^ (k + k') := by rw [← hX, Nat.pow_add]; exact Nat.lt_of_le_of_lt (Nat.mul_le_mul_left _ (Nat.le_of_lt h3')) (Nat.mul_lt_mul_of_pos_right h2 (Nat.pow_pos (by decide)))
      have m1 := fun A A' c c' => ct_spec_NatMul hi dn' k k' A A' c c' h2 (by omega) h3' (by omega)
      have m2 := fun A A' c c' => ct_spec_NatMul lo' dn k' k A A' c c' h1' (by omega) h3 (by omega)
      rw [hX] at m1
      rw [hX'] at m2
      have m3 := fun A A' c c' => ct_spec_NatCmp X X (k + k') (k + k') A A' c c' hlX (by omega) hlX (by omega)
      have e0 : cmpN X X = 0 := by unfold cmpN; rw [if_neg (by omega), if_neg (by omega)]
      rw [e0] at m3
      clear hX hX' hlX e0 he
      refine SW_skip ?_
      refine xg ?_
      refine xn 2 [(1, [0])] [(119, .agg #[.int .u64 (hiI z2), .int .u64 (loI z2)]), (118, .int .i64 z1)] ?_
      (refine xck 120 ci (zsS zi0 zs0) (fun zz => ?_); obtain ⟨⟨z6, z7⟩, ⟨⟨z8, z9⟩, ⟨z10, z11⟩⟩⟩ := zz)
      refine xb 17 [.slice none 0 0, .slice none 0 0, .slice none 0 0, .bool false, .bool false] 43 (fun g6 => ?_)
      refine xy [(4, [6])] [] [(6, [.slice z6 (List.length (ofN B64 lo)) z7, .slice z8 (List.length (ofN B64 hi)) z9, .slice z10 (List.length (ofN B64 dn)) z11, .bool b1, .bool true])] ?_
      refine xg ?_
      refine xn 2 [(1, [5])] [(122, .agg #[.int .u64 (hiI y1), .int .u64 (loI y1)]), (121, .int .i64 z1)] ?_
      (refine xck 123 cb0 (zsS (ziS (ziS (ziS zi0))) zs0) (fun zz => ?_); obtain ⟨⟨z12, z13⟩, ⟨⟨z14, z15⟩, ⟨z16, z17⟩⟩⟩ := zz)
      refine xb 18 [.slice none 0 0, .slice none 0 0, .slice none 0 0, .bool false, .bool false] 43 (fun g7 => ?_)
      refine xy [(4, [7])] [] [(7, [.slice z12 (List.length (ofN B64 lo')) z13, .slice z14 (List.length (ofN B64 hi')) z15, .slice z16 (List.length (ofN B64 dn')) z17, .bool b2, .bool true])] ?_
      refine SW_seq ?_
      refine xr [(1, [6])] [(126, .bool false)] ?_
      refine xs0 ?_
      refine SW_skip ?_
      refine SW_seq ?_
      refine xg ?_
      refine xn 2 [(1, [5])] [(128, .agg #[.int .u64 (hiI y1), .int .u64 (loI y1)]), (127, .int .i64 z1)] ?_
      refine xcv 129 cu1 zs0 ?_
      refine xz [] [(131, .bool (c1 == 4))] ?_
      refine xsf z5 ?_
      refine SW_skip ?_
      refine xd (fun hB => ?_)
      refine xdk [(0, []), (1, [7]), (2, []), (3, []), (4, [6]), (5, []), (6, [7]), (8, []), (9, [7]), (10, []), (11, [6])] [(146, .slice z10 (List.length (ofN B64 dn)) z11), (144, .slice z12 (List.length (ofN B64 lo')) z13), (141, .slice z16 (List.length (ofN B64 dn')) z17), (139, .slice z8 (List.length (ofN B64 hi)) z9), (137, .bool true)] hB ?_
      refine xdr 7 142 (m1 _ _ _ _) (zsS (ziS (ziS (ziS (ziS zi0)))) (zsS (ziS (ziS zi0)) zs0)) (fun A0 k0 => ?_)
      refine xdr 12 147 (m2 _ _ _ _) (zsS (ziS zi0) (zsS (ziS (ziS (ziS (ziS (ziS (ziS zi0)))))) zs0)) (fun A1 k1 => ?_)
      refine xdv 13 148 (m3 _ _ _ _) (zsS (ziS zi0) (zsS zi0 zs0)) ?_
      refine xdk [(14, []), (15, []), (16, []), (17, []), (18, [6]), (19, []), (20, [7]), (21, []), (22, []), (23, [])] [(2, .bool !b1 == b2)] hB ?_
      refine xdz ?_
      refine SW_ret ?_
      refine xe () (.bool !b1 == b2) [] ?_ trivial
      exact congrArg Value.bool hp
 ·have z0 : decide ((bt.length : Int) > 1048576) = true := decide_eq_true (by omega)
  refine ct_of Tryd.func8 rfl (by kernel_rfl) (fun B w0 => ?_)
  refine xr [] [(2, .bool false)] ?_
  refine SW_seq ?_
  refine xr [] [(21, .bool (decide ((((List.length bt) : Nat) : Int) > 1048576)))] ?_
  refine xst z0 ?_
  refine xr [] [(2, .bool true)] ?_
  refine SW_ret ?_
  refine xe () (.bool true) [] ?_ trivial
  rfl
end Go.Proofs.YtdbnmdchecacdaaDoor.M
end
