import Derived.Test.YtdbnmdchecacdaaDoorQFnBoundsm
section
namespace Go.Proofs.YtdbnmdchecacdaaDoor.M
open Go.RowKit Go.Proofs.YtdbnmdchecacdaaDoor.G Go.Proofs.YtdbnmdchecacdaaDoorV.PrintWords Go.Proofs.YtdbnmdchecacdaaDoorV.PrintLast Go.Proofs.YtdbnmdchecacdaaDoor.X
set_option linter.unusedVariables false
set_option linter.unusedSimpArgs false
theorem hilo_eq (a b : Nat) : ((hiI a == hiI b) && (loI a == loI b)) = decide (a = b) := by
 rw [Bool.eq_iff_iff, Bool.and_eq_true, beq_iff_eq, beq_iff_eq, decide_eq_true_iff]
 exact ⟨fun z => hilo_inj z.1 z.2, fun z => by rw [z]; exact ⟨rfl, rfl⟩⟩
theorem ct_impl_Bounds {P : Nat} {emin emax : Int} {W E : Nat} {ex : Bool} {f : Int} (d : FD f P emin emax W E ex) (x : Nat) (hx : x < B128) (c : Int) (neg : Bool) (S : Nat) (q : Int) (hx2 : unpN P emin emax W E ex x = (c, neg, hiI S, loI S, q)) (hv : VP P emin emax c S q) (hc : c = 2 ∨ c = 3) (u : Nat × Nat × Nat) (hu : bndN P emin S q = u) :
  Ct Tryd.prog 26 [.int .i64 f, .agg #[.int .u64 (hiI x), .int .u64 (loI x)]] [Tabled] (γ := R3) (itvV u (decide (S % 2 = 0))) (itvF u) := by
 subst hu
 have h := d.h
 have hF := h.toFmt
 have hf := d.lf
 have cu := ct_impl_Unpack h.toFmt f hf x hx
 rw [hx2, prtV] at cu
 dsimp only at cu
 have p0 := h.p0
 have p1 := h.p1
 have p3 := h.p3
 have m0 := h.m0
 have m1 := h.m1
 have b128 : 2 ^ P < B128 := Nat.pow_lt_pow_right (a := 2) (n := 128) (by decide) (by omega)
 have t2 := two_P hF
 obtain ⟨⟨bS0, bS1⟩, bq0, bq1, bS2, _⟩ := vp_fin h d.x1 hv hc
 have bS : S < B128 := by omega
 have p113 : 2 ^ P ≤ 2 ^ 113 := Nat.pow_le_pow_right (by decide) p1
 have sS : Sm S := sm128 (Nat.lt_trans bS (by decide))
 have sF : Sm (S * 2 ^ 2) := Sm.of (k := 116) (by omega) (by decide)
 have sH : Sm (S * 2 ^ 2 + 2) := Sm.of (k := 116) (by omega) (by decide)
 have s2 : Sm 2 := Sm.of (k := 2) (by decide) (by decide)
 have s1 : Sm 1 := Sm.of (k := 1) (by decide) (by decide)
 have l2 : 2 ≤ S * 2 ^ 2 := by omega
 have l1 : 1 ≤ S * 2 ^ 2 := by omega
 have hp1 : P - 1 < 128 := by omega
 have v1 : Ve (IntKind.i64.wrap ((P : Int) - 1)) ((P - 1 : Nat) : Int) := ⟨by rw [wrap_i64 (by omega)]; omega⟩
 have w3 : Ve (IntKind.i64.wrap (q - 2)) (q - 2) := ⟨wrap_i64 (by omega)⟩
 have v2 : Ve (bits .and .u64 (loI S) 1) ((S % 2 : Nat) : Int) := ⟨by unfold loI; rw [and1 _ (by omega)]; omega⟩
 have e2 : (((S % 2 : Nat) : Int) == 0) = decide (S % 2 = 0) := by rw [Bool.eq_iff_iff, beq_iff_eq, decide_eq_true_iff]; omega
 obtain ⟨L, hL⟩ : ∃ L, lo4 P emin S q = L := ⟨_, rfl⟩
 have sL : Sm L := by rw [← hL]; unfold lo4; split <;> exact sF.mono (by omega)
 have hL3 : L < 2 ^ 116 := by rw [← hL]; unfold lo4; split <;> omega
 rw [← e2]
 refine ct_of Tryd.func26 rfl (by kernel_rfl) (fun B w0 => ?_)
 refine xg ?_
 refine xb 3 [.int .u64 (hiI x), .int .u64 (loI x)] 25 (fun g0 => ?_)
 refine xb 4 [.slice none 0 0, .slice none 0 0, .slice none 0 0, .bool false, .bool false] 43 (fun g1 => ?_)
 refine xz [] [] ?_
 refine xg ?_
 refine xn 1 [] [(14, .int .i64 f)] ?_
 refine xcv 15 (ct_impl_layoutOf (f) hf) (zsS zi0 zs0) ?_
 refine xn 5 [] [(17, .bool true), (16, .agg #[.int .i64 (P : Int), .int .i64 emin, .int .i64 emax, .int .i64 (W : Int), .int .i64 (E : Int), .bool ex])] ?_
 refine xb 5 [.int .i64 0, .int .i64 0, .int .i64 0, .int .i64 0, .int .i64 0, .bool false] 91 (fun g2 => ?_)
 refine xy [(6, [2])] [] [(2, [.int .i64 (P : Int), .int .i64 emin, .int .i64 emax, .int .i64 (W : Int), .int .i64 (E : Int), .bool ex])] ?_
 refine xg ?_
 refine xn 2 [(1, [0])] [(19, .agg #[.int .u64 (hiI x), .int .u64 (loI x)]), (18, .int .i64 f)] ?_
 refine xcv 20 cu (zsS zi0 zs0) ?_
 refine xb 7 [.int .i64 0, .bool false, .int .u64 0, .int .u64 0, .int .i64 0] 27 (fun g3 => ?_)
 refine xy [(4, [3])] [] [(3, [.int .i64 c, .bool neg, .int .u64 (hiI S), .int .u64 (loI S), .int .i64 q])] ?_
 refine SW_cut (fun s' => Weak2 s' ⟨[(4, .pointer (some ⟨g1, 0, none⟩)), (5, .pointer (some ⟨g2, 0, none⟩)), (7, .pointer (some ⟨g3, 0, none⟩))], [⟨g1, [.slice none 0 0, .slice none 0 0, .slice none 0 0, .bool false, .bool false], 43⟩, ⟨g2, [.int .i64 (P : Int), .int .i64 emin, .int .i64 emax, .int .i64 (W : Int), .int .i64 (E : Int), .bool ex], 91⟩, ⟨g3, [.int .i64 c, .bool neg, .int .u64 (hiI S), .int .u64 (loI S), .int .i64 q], 27⟩], [Tabled]⟩) ?_ ?_
 ·rcases hc with rfl | rfl
  ·refine xr [(1, [3])] [(28, .bool false)] ?_
   refine xs0 ?_
   refine SW_skip ?_
   exact xw2 [false, true, true, true] (zsS zi0 zs0)
  ·refine xr [(1, [3]), (5, [3])] [(28, .bool false)] ?_
   refine xs0 ?_
   refine SW_skip ?_
   exact xw2 [false, true, true, true] (zsS zi0 zs0)
 ·rintro s' hw
  refine SW_weak2 hw ?_
  clear hw
  refine xg ?_
  refine xn 2 [(1, [2])] [(31, .agg #[.int .u64 (hiI S), .int .u64 (loI S)])] ?_
  refine xcr 32 (ct_impl_Word_nat (S) bS) zs0 (fun A0 k0 => ?_)
  refine xcr 33 (ct_impl_nat_left (S) (A0) (k0) (2) (2) ⟨rfl⟩ (by omega) sS) (zsS zi0 zs0) (fun A1 k1 => ?_)
  refine xz [] [(8, .slice A1 (List.length (ofN B64 (S * 2 ^ 2))) k1)] ?_
  refine xg ?_
  refine xn 1 [] [(34, .slice A1 (List.length (ofN B64 (S * 2 ^ 2))) k1)] ?_
  refine xcr 35 (ct_impl_word (2) (2) ⟨rfl⟩ (by omega)) zs0 (fun A2 k2 => ?_)
  refine xcr 36 (ct_impl_nat_add (S * 2 ^ 2) (2) (A1) (A2) (k1) (k2) sF s2) (zsS (ziS zi0) (zsS zi0 zs0)) (fun A3 k3 => ?_)
  refine xn 4 [] [(37, .slice A1 (List.length (ofN B64 (S * 2 ^ 2))) k1)] ?_
  refine xcr 38 (ct_impl_word (2) (2) ⟨rfl⟩ (by omega)) zs0 (fun A4 k4 => ?_)
  refine xcr 39 (ct_impl_nat_sub (S * 2 ^ 2) (2) (A1) (A4) (k1) (k4) sF l2) (zsS (ziS (ziS (ziS zi0))) (zsS zi0 zs0)) (fun A5 k5 => ?_)
  refine xz [] [(10, .slice A5 (List.length (ofN B64 (S * 2 ^ 2 - 2))) k5), (9, .slice A3 (List.length (ofN B64 (S * 2 ^ 2 + 2))) k3)] ?_
  refine SW_cut (fun s' => ∃ (A1 A2 : Option Addr) (c1 c2 : Nat), Weak2 s' ⟨[(4, .pointer (some ⟨g1, 0, none⟩)), (7, .pointer (some ⟨g3, 0, none⟩)), (9, .slice A1 (ofN B64 (S * 2 ^ 2 + 2)).length c1), (10, .slice A2 (ofN B64 L).length c2)], [⟨g1, [.slice none 0 0, .slice none 0 0, .slice none 0 0, .bool false, .bool false], 43⟩, ⟨g3, [.int .i64 c, .bool neg, .int .u64 (hiI S), .int .u64 (loI S), .int .i64 q], 27⟩], [Row .u64 A1 c1 (ofN B64 (S * 2 ^ 2 + 2)), Row .u64 A2 c2 (ofN B64 L)]⟩) ?_ ?_
  ·by_cases hc3 : c = 3
   ·have z1 : (c == 3) = true := by rw [beq_iff_eq]; exact hc3
    by_cases hS : S = 2 ^ (P - 1)
    ·have z2 : ((hiI S == hiI (2 ^ (P - 1))) && (loI S == loI (2 ^ (P - 1)))) = true := by rw [hilo_eq]; exact decide_eq_true hS
     by_cases hq : q > emin - (P : Int) + 1
     ·have z3 : decide (q > emin - (P : Int) + 1) = true := decide_eq_true hq
      have e : L = S * 2 ^ 2 - 1 := by rw [← hL]; unfold lo4; rw [if_pos ⟨hS, hq⟩]
      rw [e]
      refine xd (fun hB => ?_)
      refine xdk [(0, []), (1, [2]), (2, []), (3, [])] [(43, .bool (c == 3))] hB ?_
      refine xdnt 43 z1 ?_
      refine xdk [(4, []), (5, [2]), (6, []), (7, []), (8, [1])] [(48, .int .i64 (P : Int)), (45, .agg #[.int .u64 (hiI S), .int .u64 (loI S)])] hB ?_
      refine xdve 9 hB 49 IntKind.i64 (IntKind.wrap IntKind.i64 ((P : Int) - 1)) ((((P - 1) : Nat) : Int)) v1 ?_
      refine xdv 10 50 (ct_impl_one ((((P - 1) : Nat) : Int)) (P - 1) ⟨rfl⟩ hp1) zs0 ?_
      refine xdw 11 51 (.bool ((hiI S == hiI (2 ^ (P - 1))) && (loI S == loI (2 ^ (P - 1))))) hB (fun w _ _ => run_eql rfl (by kernel_rfl) (by kernel_rfl) (by kernel_rfl) w (eq_word _ _ _ _ _ w)) ?_
      refine xdk [(12, []), (13, [])] [(53, .bool (hiI S == hiI (2 ^ (P - 1)) && loI S == loI (2 ^ (P - 1))))] hB ?_
      refine xdnt 53 z2 ?_
      refine xdk [(14, []), (15, [2]), (16, [1])] [(56, .agg #[.int .i64 (P : Int), .int .i64 emin, .int .i64 emax, .int .i64 (W : Int), .int .i64 (E : Int), .bool ex]), (55, .int .i64 q)] hB ?_
      refine xdv 17 57 (ct_impl_layout_qMin hF) zs0 ?_
      refine xdk [(18, []), (19, [])] [(59, .bool (decide (q > emin - (P : Int) + 1)))] hB ?_
      refine xdz ?_
      refine xst z3 ?_
      refine SW_region ?_
      refine xn 1 [] [(60, .slice A1 (List.length (ofN B64 (S * 2 ^ 2))) k1)] ?_
      refine xcr 61 (ct_impl_word (1) (1) ⟨rfl⟩ (by omega)) zs0 (fun A6 k6 => ?_)
      refine xcr 62 (ct_impl_nat_sub (S * 2 ^ 2) (1) (A1) (A6) (k1) (k6) sF l1) (zsS (ziS (ziS (ziS (ziS (ziS zi0))))) (zsS zi0 zs0)) (fun A7 k7 => ?_)
      refine xz [] [(10, .slice A7 (List.length (ofN B64 (S * 2 ^ 2 - 1))) k7)] ?_
      refine ⟨(A3), (A7), (k3), (k7), xw2 [true, false, true] (zsS (ziS (ziS (ziS (ziS zi0)))) (zsS zi0 zs0))⟩
     ·have z3 : decide (q > emin - (P : Int) + 1) = false := decide_eq_false hq
      have e : L = S * 2 ^ 2 - 2 := by rw [← hL]; unfold lo4; rw [if_neg (fun z => hq z.2)]
      rw [e]
      refine xd (fun hB => ?_)
      refine xdk [(0, []), (1, [2]), (2, []), (3, [])] [(43, .bool (c == 3))] hB ?_
      refine xdnt 43 z1 ?_
      refine xdk [(4, []), (5, [2]), (6, []), (7, []), (8, [1])] [(48, .int .i64 (P : Int)), (45, .agg #[.int .u64 (hiI S), .int .u64 (loI S)])] hB ?_
      refine xdve 9 hB 49 IntKind.i64 (IntKind.wrap IntKind.i64 ((P : Int) - 1)) ((((P - 1) : Nat) : Int)) v1 ?_
      refine xdv 10 50 (ct_impl_one ((((P - 1) : Nat) : Int)) (P - 1) ⟨rfl⟩ hp1) zs0 ?_
      refine xdw 11 51 (.bool ((hiI S == hiI (2 ^ (P - 1))) && (loI S == loI (2 ^ (P - 1))))) hB (fun w _ _ => run_eql rfl (by kernel_rfl) (by kernel_rfl) (by kernel_rfl) w (eq_word _ _ _ _ _ w)) ?_
      refine xdk [(12, []), (13, [])] [(53, .bool (hiI S == hiI (2 ^ (P - 1)) && loI S == loI (2 ^ (P - 1))))] hB ?_
      refine xdnt 53 z2 ?_
      refine xdk [(14, []), (15, [2]), (16, [1])] [(56, .agg #[.int .i64 (P : Int), .int .i64 emin, .int .i64 emax, .int .i64 (W : Int), .int .i64 (E : Int), .bool ex]), (55, .int .i64 q)] hB ?_
      refine xdv 17 57 (ct_impl_layout_qMin hF) zs0 ?_
      refine xdk [(18, []), (19, [])] [(59, .bool (decide (q > emin - (P : Int) + 1)))] hB ?_
      refine xdz ?_
      refine xsf z3 ?_
      refine SW_skip ?_
      refine ⟨(A3), (A5), (k3), (k5), xw2 [true, false, true] (zsS (ziS (ziS zi0)) (zsS zi0 zs0))⟩
    ·have z2 : ((hiI S == hiI (2 ^ (P - 1))) && (loI S == loI (2 ^ (P - 1)))) = false := by rw [hilo_eq]; exact decide_eq_false hS
     have e : L = S * 2 ^ 2 - 2 := by rw [← hL]; unfold lo4; rw [if_neg (fun z => hS z.1)]
     rw [e]
     refine xd (fun hB => ?_)
     refine xdk [(0, []), (1, [2]), (2, []), (3, [])] [(43, .bool (c == 3))] hB ?_
     refine xdnt 43 z1 ?_
     refine xdk [(4, []), (5, [2]), (6, []), (7, []), (8, [1])] [(48, .int .i64 (P : Int)), (45, .agg #[.int .u64 (hiI S), .int .u64 (loI S)])] hB ?_
     refine xdve 9 hB 49 IntKind.i64 (IntKind.wrap IntKind.i64 ((P : Int) - 1)) ((((P - 1) : Nat) : Int)) v1 ?_
     refine xdv 10 50 (ct_impl_one ((((P - 1) : Nat) : Int)) (P - 1) ⟨rfl⟩ hp1) zs0 ?_
     refine xdw 11 51 (.bool ((hiI S == hiI (2 ^ (P - 1))) && (loI S == loI (2 ^ (P - 1))))) hB (fun w _ _ => run_eql rfl (by kernel_rfl) (by kernel_rfl) (by kernel_rfl) w (eq_word _ _ _ _ _ w)) ?_
     refine xdk [(12, []), (13, [])] [(53, .bool (hiI S == hiI (2 ^ (P - 1)) && loI S == loI (2 ^ (P - 1))))] hB ?_
     refine xdnf 53 z2 ?_
     refine xdk [(14, []), (15, []), (16, [1]), (17, []), (18, []), (19, [])] [(59, .bool false)] hB ?_
     refine xdz ?_
     refine xs0 ?_
     refine SW_skip ?_
     refine ⟨(A3), (A5), (k3), (k5), xw2 [true, false, true] (zsS (ziS (ziS zi0)) (zsS zi0 zs0))⟩
   ·have z1 : (c == 3) = false := by rw [beq_eq_false_iff_ne]; exact hc3
    have e : L = S * 2 ^ 2 - 2 := by rw [← hL]; unfold lo4; rw [if_neg (fun z => by have := bS2 (by omega); omega)]
    rw [e]
    refine xd (fun hB => ?_)
    refine xdk [(0, []), (1, [2]), (2, []), (3, [])] [(43, .bool (c == 3))] hB ?_
    refine xdnf 43 z1 ?_
    refine xdk [(4, []), (5, []), (6, []), (7, []), (8, []), (9, []), (10, []), (11, []), (12, []), (13, []), (14, []), (15, []), (16, [1]), (17, []), (18, []), (19, [])] [(59, .bool false)] hB ?_
    refine xdz ?_
    refine xs0 ?_
    refine SW_skip ?_
    refine ⟨(A3), (A5), (k3), (k5), xw2 [true, false, true] (zsS (ziS (ziS zi0)) (zsS zi0 zs0))⟩
  ·rintro s' ⟨A1, A2, c1, c2, hw⟩
   refine SW_weak2 hw ?_
   clear hw
   by_cases hq2 : 2 ≤ q
   ·have z4 : decide (q - 2 ≥ 0) = true := decide_eq_true (by omega)
    have hN : Nn (q - 2) (q - 2).toNat := ⟨by omega⟩
    have hn : (q - 2).toNat ≤ 1000000 := by omega
    have e : bndN P emin S q = (L * 2 ^ (q - 2).toNat, (S * 2 ^ 2 + 2) * 2 ^ (q - 2).toNat, 1) := by unfold bndN hi4; rw [if_pos hq2, hL]
    rw [e]
    refine xg ?_
    refine xn 2 [(1, [1])] [(64, .int .i64 q)] ?_
    refine xve 65 IntKind.i64 (IntKind.wrap IntKind.i64 (q - 2)) (q - 2) w3 ?_
    refine xz [] [(11, .int .i64 (q - 2))] ?_
    refine xg ?_
    refine xn 3 [(2, [1])] [(68, .int .u64 (loI S))] ?_
    refine xve 69 IntKind.u64 (bits BinOp.and IntKind.u64 (loI S) 1) ((((S % 2) : Nat) : Int)) v2 ?_
    refine xn 6 [] [(71, .agg #[.slice none 0 0, .slice none 0 0, .slice none 0 0, .bool ((((S % 2) : Nat) : Int) == 0), .bool true])] ?_
    refine xb 12 [.slice none 0 0, .slice none 0 0, .slice none 0 0, .bool false, .bool false] 43 (fun g4 => ?_)
    refine xy [(7, [2])] [] [(2, [.slice none 0 0, .slice none 0 0, .slice none 0 0, .bool ((((S % 2) : Nat) : Int) == 0), .bool true])] ?_
    refine SW_seq ?_
    refine xr [] [(73, .bool (decide (q - 2 ≥ 0)))] ?_
    refine xst z4 ?_
    refine SW_region ?_
    refine xn 2 [] [(75, .int .i64 (q - 2)), (74, .slice A2 (List.length (ofN B64 L)) c2)] ?_
    refine xcr 76 (ct_impl_nat_left (L) (A2) (c2) (q - 2) (Int.toNat (q - 2)) hN hn sL) (zsS (ziS zi0) zs0) (fun A6 k6 => ?_)
    refine xn 5 [] [(78, .int .i64 (q - 2)), (77, .slice A1 (List.length (ofN B64 (S * 2 ^ 2 + 2))) c1)] ?_
    refine xcr 79 (ct_impl_nat_left (S * 2 ^ 2 + 2) (A1) (c1) (q - 2) (Int.toNat (q - 2)) hN hn sH) (zsS (ziS zi0) zs0) (fun A7 k7 => ?_)
    refine xcr 80 (ct_impl_word (1) (1) ⟨rfl⟩ (by omega)) zs0 (fun A8 k8 => ?_)
    refine xy [(8, [2]), (10, [2]), (12, [2])] [] [(2, [.slice A6 (List.length (ofN B64 (L * 2 ^ Int.toNat (q - 2)))) k6, .slice A7 (List.length (ofN B64 ((S * 2 ^ 2 + 2) * 2 ^ Int.toNat (q - 2)))) k7, .slice A8 (List.length (ofN B64 1)) k8, .bool ((((S % 2) : Nat) : Int) == 0), .bool true])] ?_
    refine xq [(0, [2]), (1, [0])] [] [(0, [.slice A6 (List.length (ofN B64 (L * 2 ^ Int.toNat (q - 2)))) k6, .slice A7 (List.length (ofN B64 ((S * 2 ^ 2 + 2) * 2 ^ Int.toNat (q - 2)))) k7, .slice A8 (List.length (ofN B64 1)) k8, .bool ((((S % 2) : Nat) : Int) == 0), .bool true])] ?_
    refine SW_ret ?_
    refine xe ((A6, k6), (A7, k7), A8, k8) (.agg #[.slice A6 (List.length (ofN B64 (L * 2 ^ Int.toNat (q - 2)))) k6, .slice A7 (List.length (ofN B64 ((S * 2 ^ 2 + 2) * 2 ^ Int.toNat (q - 2)))) k7, .slice A8 (List.length (ofN B64 1)) k8, .bool ((((S % 2) : Nat) : Int) == 0), .bool true]) [0] ?_ (zsS (ziS (ziS zi0)) (zsS (ziS zi0) (zsS zi0 zs0)))
    rfl
   ·have z4 : decide (q - 2 ≥ 0) = false := decide_eq_false (by omega)
    have w4 : Ve (IntKind.i64.wrap (0 - (q - 2))) (((2 - q).toNat : Nat) : Int) := ⟨by rw [wrap_i64 (by omega)]; omega⟩
    have e : bndN P emin S q = (L, S * 2 ^ 2 + 2, 1 * 2 ^ (2 - q).toNat) := by unfold bndN hi4; rw [if_neg hq2, hL, Nat.one_mul]
    have hn : (2 - q).toNat ≤ 1000000 := by omega
    rw [e]
    refine xg ?_
    refine xn 2 [(1, [1])] [(64, .int .i64 q)] ?_
    refine xve 65 IntKind.i64 (IntKind.wrap IntKind.i64 (q - 2)) (q - 2) w3 ?_
    refine xz [] [(11, .int .i64 (q - 2))] ?_
    refine xg ?_
    refine xn 3 [(2, [1])] [(68, .int .u64 (loI S))] ?_
    refine xve 69 IntKind.u64 (bits BinOp.and IntKind.u64 (loI S) 1) ((((S % 2) : Nat) : Int)) v2 ?_
    refine xn 6 [] [(71, .agg #[.slice none 0 0, .slice none 0 0, .slice none 0 0, .bool ((((S % 2) : Nat) : Int) == 0), .bool true])] ?_
    refine xb 12 [.slice none 0 0, .slice none 0 0, .slice none 0 0, .bool false, .bool false] 43 (fun g4 => ?_)
    refine xy [(7, [2])] [] [(2, [.slice none 0 0, .slice none 0 0, .slice none 0 0, .bool ((((S % 2) : Nat) : Int) == 0), .bool true])] ?_
    refine SW_seq ?_
    refine xr [] [(73, .bool (decide (q - 2 ≥ 0)))] ?_
    refine xsf z4 ?_
    refine SW_region ?_
    refine xn 2 [] [(85, .slice A1 (List.length (ofN B64 (S * 2 ^ 2 + 2))) c1), (84, .slice A2 (List.length (ofN B64 L)) c2)] ?_
    refine xcr 86 (ct_impl_word (1) (1) ⟨rfl⟩ (by omega)) zs0 (fun A6 k6 => ?_)
    refine xn 4 [] [(87, .int .i64 (q - 2))] ?_
    refine xve 88 IntKind.i64 (IntKind.wrap IntKind.i64 (0 - (q - 2))) ((((Int.toNat (2 - q)) : Nat) : Int)) w4 ?_
    refine xcr 89 (ct_impl_nat_left (1) (A6) (k6) ((((Int.toNat (2 - q)) : Nat) : Int)) (Int.toNat (2 - q)) ⟨rfl⟩ hn s1) (zsS zi0 zs0) (fun A7 k7 => ?_)
    refine xy [(7, [2]), (9, [2]), (11, [2])] [] [(2, [.slice A2 (List.length (ofN B64 L)) c2, .slice A1 (List.length (ofN B64 (S * 2 ^ 2 + 2))) c1, .slice A7 (List.length (ofN B64 (1 * 2 ^ Int.toNat (2 - q)))) k7, .bool ((((S % 2) : Nat) : Int) == 0), .bool true])] ?_
    refine xq [(0, [2]), (1, [0])] [] [(0, [.slice A2 (List.length (ofN B64 L)) c2, .slice A1 (List.length (ofN B64 (S * 2 ^ 2 + 2))) c1, .slice A7 (List.length (ofN B64 (1 * 2 ^ Int.toNat (2 - q)))) k7, .bool ((((S % 2) : Nat) : Int) == 0), .bool true])] ?_
    refine SW_ret ?_
    refine xe ((A2, c2), (A1, c1), A7, k7) (.agg #[.slice A2 (List.length (ofN B64 L)) c2, .slice A1 (List.length (ofN B64 (S * 2 ^ 2 + 2))) c1, .slice A7 (List.length (ofN B64 (1 * 2 ^ Int.toNat (2 - q)))) k7, .bool ((((S % 2) : Nat) : Int) == 0), .bool true]) [0] ?_ (zsS (ziS (ziS (ziS zi0))) (zsS (ziS (ziS zi0)) (zsS zi0 zs0)))
    rfl
theorem ct_impl_Bounds0 {f : Int} (c : Int) (hc : c ≠ 2 ∧ c ≠ 3) (b : Bool) (k1 k2 k3 : Int) (u1 u2 : Int) (r1 r2 r3 r4 r5 : Int) (r6 r7 : Bool) (cl : CtV Tryd.prog 65 [.int .i64 f] [Tabled] (.tuple #[.agg #[.int .i64 r1, .int .i64 r2, .int .i64 r3, .int .i64 r4, .int .i64 r5, .bool r6], .bool r7])) (cu : CtV Tryd.prog 17 [.int .i64 f, .agg #[.int .u64 u1, .int .u64 u2]] [Tabled] (.agg #[.int .i64 c, .bool b, .int .u64 k1, .int .u64 k2, .int .i64 k3])) :
  CtV Tryd.prog 26 [.int .i64 f, .agg #[.int .u64 u1, .int .u64 u2]] [Tabled] (.agg #[.slice none 0 0, .slice none 0 0, .slice none 0 0, .bool false, .bool false]) := by
 have z2 : (c != 2) = true := by rw [bne_iff_ne]; exact hc.1
 have z3 : (c != 3) = true := by rw [bne_iff_ne]; exact hc.2
 refine ct_of Tryd.func26 rfl (by kernel_rfl) (fun B w0 => ?_)
 refine xg ?_
 refine xb 3 [.int .u64 u1, .int .u64 u2] 25 (fun g0 => ?_)
 refine xb 4 [.slice none 0 0, .slice none 0 0, .slice none 0 0, .bool false, .bool false] 43 (fun g1 => ?_)
 refine xz [] [] ?_
 refine xg ?_
 refine xn 1 [] [(14, .int .i64 f)] ?_
 refine xcv 15 cl (zsS zi0 zs0) ?_
 refine xn 5 [] [(17, .bool r7), (16, .agg #[.int .i64 r1, .int .i64 r2, .int .i64 r3, .int .i64 r4, .int .i64 r5, .bool r6])] ?_
 refine xb 5 [.int .i64 0, .int .i64 0, .int .i64 0, .int .i64 0, .int .i64 0, .bool false] 91 (fun g2 => ?_)
 refine xy [(6, [2])] [] [(2, [.int .i64 r1, .int .i64 r2, .int .i64 r3, .int .i64 r4, .int .i64 r5, .bool r6])] ?_
 refine xg ?_
 refine xn 2 [(1, [0])] [(19, .agg #[.int .u64 u1, .int .u64 u2]), (18, .int .i64 f)] ?_
 refine xcv 20 cu (zsS zi0 zs0) ?_
 refine xb 7 [.int .i64 0, .bool false, .int .u64 0, .int .u64 0, .int .i64 0] 27 (fun g3 => ?_)
 refine xy [(4, [3])] [] [(3, [.int .i64 c, .bool b, .int .u64 k1, .int .u64 k2, .int .i64 k3])] ?_
 refine SW_seq ?_
 refine xg ?_
 refine xn 4 [(1, [3])] [(24, .bool (c != 2))] ?_
 refine xkt 24 z2 ?_
 refine xz [(5, [3])] [(28, .bool (c != 3))] ?_
 refine xst z3 ?_
 refine xq [(1, [1])] [] [] ?_
 refine SW_ret ?_
 refine xe () (.agg #[.slice none 0 0, .slice none 0 0, .slice none 0 0, .bool false, .bool false]) [1] ?_ trivial
 rfl
end Go.Proofs.YtdbnmdchecacdaaDoor.M
end
section
namespace Go.Proofs.YtdbnmdchecacdaaDoor.M
open Go.RowKit Go.Proofs.YtdbnmdchecacdaaDoor.G Go.Proofs.YtdbnmdchecacdaaDoorV.PrintWords Go.Proofs.YtdbnmdchecacdaaDoorV.PrintLast Go.Proofs.YtdbnmdchecacdaaDoor.X
set_option linter.unusedVariables false
set_option linter.unusedSimpArgs false
theorem ct_spec_l1Reader_next (g : Nat) (A : Option Addr) (c : Nat) (bt : List Int) (a : Int) (i : Nat) (ha : Nn a i) (hi : i ≤ bt.length) (hx : bt.length ≤ 1048576) (dx : Dig 256 bt) :
  CtM Tryd.prog 118 [.pointer (some ⟨g, 0, none⟩)] [⟨g, [.slice A bt.length c, .int .i64 a], 119⟩] [Row .u8 A c bt] (γ := {p : Nat × Nat // p.1 ≤ bt.length ∧ p.2 < 256}) (fun p => .int .i64 (p.1.2 : Int)) (fun p => [⟨g, [.slice A bt.length c, .int .i64 (p.1.1 : Int)], 119⟩]) (fun _ => []) := by
 obtain ⟨rfl⟩ := ha
 refine cm_of Tryd.func118 rfl (by kernel_rfl) (fun B w0 => ?_)
 by_cases h : i < bt.length
 ·have z : decide ((i : Int) ≥ (bt.length : Int)) = false := decide_eq_false (by omega)
  refine SW_know zi0 (fun w h => row_at h (by omega)) (fun ⟨ad, e⟩ => ?_)
  subst e
  have v1 : Ve (IntKind.i64.wrap ((i : Int) + 1)) ((i + 1 : Nat) : Int) := ⟨by rw [wrap_i64 (by omega)]; rfl⟩
  have hd := dx.rd (by decide) (i : Int)
  have v2 : Ve (IntKind.i64.wrap (rd bt (i : Int))) (rd bt (i : Int)).toNat := ⟨by rw [wrap_i64 (by omega)]; omega⟩
  refine xr [] [(2, .int .i64 0)] ?_
  refine SW_seq ?_
  refine xd (fun hB => ?_)
  refine xdk [(0, []), (1, []), (2, []), (3, [0]), (4, []), (5, []), (6, []), (7, [0]), (8, []), (9, [])] [(13, .bool (decide ((i : Int) ≥ (((List.length bt) : Nat) : Int))))] hB ?_
  refine xdz ?_
  refine xsf z ?_
  refine SW_skip ?_
  refine xd (fun hB => ?_)
  refine xdk [(0, []), (1, []), (2, []), (3, [0]), (4, []), (5, []), (6, []), (7, [0])] [(21, .int .i64 (i : Int)), (17, .slice (some ad) (List.length bt) c)] hB ?_
  refine xdfi 8 hB 22 5 (ad) (List.length bt) (c) (i) IntKind.i64 ((i : Int)) ⟨rfl⟩ (by omega) ?_
  refine xdfl 9 hB 23 zi0 (i) (by omega) ?_
  refine xdk [(10, [])] [(3, .int .u8 (rd bt (i : Int)))] hB ?_
  refine xdz ?_
  refine xg ?_
  refine xn 4 [(3, [0])] [(27, .int .i64 (i : Int)), (24, .pointer (some ⟨g, 0, none⟩))] ?_
  refine xve 28 IntKind.i64 (IntKind.wrap IntKind.i64 ((i : Int) + 1)) ((((i + 1) : Nat) : Int)) v1 ?_
  refine xy [(7, [0])] [] [(0, [.slice (some ad) (List.length bt) c, .int .i64 (((i + 1) : Nat) : Int)])] ?_
  refine xg ?_
  refine xn 1 [] [(31, .int .u8 (rd bt (i : Int)))] ?_
  refine xve 32 IntKind.i64 (IntKind.wrap IntKind.i64 (rd bt (i : Int))) ((((Int.toNat (rd bt (i : Int))) : Nat) : Int)) v2 ?_
  refine xz [] [(2, .int .i64 (((Int.toNat (rd bt (i : Int))) : Nat) : Int))] ?_
  refine SW_ret ?_
  refine xmeg (.int .i64 (((Int.toNat (rd bt (i : Int))) : Nat) : Int)) [] ?_
  exact ⟨⟨(i + 1, (rd bt (i : Int)).toNat), by dsimp only; omega, by dsimp only; omega⟩, [true], rfl, rfl, zs0⟩
 ·have z : decide ((i : Int) ≥ (bt.length : Int)) = true := decide_eq_true (by omega)
  refine xr [] [(2, .int .i64 0)] ?_
  refine SW_seq ?_
  refine xd (fun hB => ?_)
  refine xdk [(0, []), (1, []), (2, []), (3, [0]), (4, []), (5, []), (6, []), (7, [0]), (8, []), (9, [])] [(13, .bool (decide ((i : Int) ≥ (((List.length bt) : Nat) : Int))))] hB ?_
  refine xdz ?_
  refine xst z ?_
  refine xr [] [(2, .int .i64 0)] ?_
  refine SW_ret ?_
  refine xmeg (.int .i64 0) [] ?_
  exact ⟨⟨(i, 0), hi, Nat.succ_pos _⟩, [true], rfl, rfl, zs0⟩
theorem wrap_u64_nat (z : Int) : ∃ y : Nat, y < 18446744073709551616 ∧ IntKind.u64.wrap z = (y : Int) := by
 refine ⟨(IntKind.u64.wrap z).toNat, ?_, ?_⟩ <;> simp [IntKind.wrap, IntKind.bits, IntKind.signed] <;> omega
theorem ct_spec_l1Reader_format (g : Nat) (A : Option Addr) (c : Nat) (bt : List Int) (a : Int) (i : Nat) (ha : Nn a i) (hi : i ≤ bt.length) (hx : bt.length ≤ 1048576) (dx : Dig 256 bt) :
  CtM Tryd.prog 95 [.pointer (some ⟨g, 0, none⟩)] [⟨g, [.slice A bt.length c, .int .i64 a], 119⟩] [Row .u8 A c bt] (γ := {p : Nat × Int // p.1 ≤ bt.length ∧ -1000 ≤ p.2 ∧ p.2 ≤ 1000}) (fun p => .int .i64 p.1.2) (fun p => [⟨g, [.slice A bt.length c, .int .i64 (p.1.1 : Int)], 119⟩]) (fun _ => []) := by
 refine cm_of Tryd.func95 rfl (by kernel_rfl) (fun B w0 => ?_)
 refine xr [] [(2, .int .i64 0)] ?_
 refine xg ?_
 refine xn 1 [] [(4, .pointer (some ⟨g, 0, none⟩))] ?_
 (refine xcm 5 [true] (ct_spec_l1Reader_next (g) (A) (c) (bt) (a) (i) ha hi hx dx) (zsS zi0 zs0) (fun zz => ?_); obtain ⟨⟨z0, z1⟩, p2⟩ := zz)
 refine xz [] [(3, .int .i64 (z1 : Int))] ?_
 refine SW_seq ?_
 refine xr [] [(7, .bool (decide ((z1 : Int) ≥ 248)))] ?_
 refine xs (decide ((z1 : Int) ≥ 248)) (fun q0 => ?_) (fun q0 => ?_)
 ·have v1 : Ve (IntKind.i64.wrap ((z1 : Int) - 252)) ((z1 : Int) - 252) := ⟨wrap_i64 (by omega)⟩
  refine xg ?_
  refine xn 1 [] [(8, .int .i64 (z1 : Int))] ?_
  refine xve 9 IntKind.i64 (IntKind.wrap IntKind.i64 ((z1 : Int) - 252)) ((z1 : Int) - 252) v1 ?_
  refine xz [] [(2, .int .i64 ((z1 : Int) - 252))] ?_
  refine SW_ret ?_
  refine xmeg (.int .i64 ((z1 : Int) - 252)) [] ?_
  exact ⟨⟨(z0, (z1 : Int) - 252), p2.1, by dsimp only; omega, by dsimp only; omega⟩, [true], rfl, rfl, zs0⟩
 ·have v1 : Ve (Int.tmod (z1 : Int) 4) ((z1 % 4 : Nat) : Int) := ⟨by rw [Int.tmod_eq_emod_of_nonneg (by omega)]; omega⟩
  refine SW_skip ?_
  refine xg ?_
  refine xn 1 [] [(10, .int .i64 (z1 : Int))] ?_
  refine xve 11 IntKind.i64 (Int.tmod (z1 : Int) 4) ((((z1 % 4) : Nat) : Int)) v1 ?_
  refine xz [] [(2, .int .i64 (((z1 % 4) : Nat) : Int))] ?_
  refine SW_ret ?_
  refine xmeg (.int .i64 (((z1 % 4) : Nat) : Int)) [] ?_
  exact ⟨⟨(z0, ((z1 % 4 : Nat) : Int)), p2.1, by dsimp only; omega, by dsimp only; omega⟩, [true], rfl, rfl, zs0⟩
theorem ct_spec_l1Reader_wide (g : Nat) (A : Option Addr) (c : Nat) (bt : List Int) (a : Int) (i : Nat) (ha : Nn a i) (hi : i ≤ bt.length) (hx : bt.length ≤ 1048576) (dx : Dig 256 bt) :
  CtM Tryd.prog 131 [.pointer (some ⟨g, 0, none⟩)] [⟨g, [.slice A bt.length c, .int .i64 a], 119⟩] [Row .u8 A c bt] (γ := {p : Nat × Nat // p.1 ≤ bt.length ∧ p.2 < 18446744073709551616}) (fun p => .int .u64 (p.1.2 : Int)) (fun p => [⟨g, [.slice A bt.length c, .int .i64 (p.1.1 : Int)], 119⟩]) (fun _ => []) := by
 obtain ⟨rfl⟩ := ha
 refine cm_of Tryd.func131 rfl (by kernel_rfl) (fun B w0 => ?_)
 refine xr [] [(2, .int .u64 0)] ?_
 refine xr [] [(3, .int .u64 0)] ?_
 refine SW_seq ?_
 refine xr [] [(4, .int .i64 0)] ?_
 refine SW_block ?_
 refine SW_loopn (fun m s => ∃ (j i' x : Nat), m + j = 8 ∧ i' ≤ bt.length ∧ x < 18446744073709551616 ∧ Weak s ⟨[(0, .pointer (some ⟨g, 0, none⟩)), (3, .int .u64 (x : Int)), (4, .int .i64 (j : Int))], [⟨g, [.slice A bt.length c, .int .i64 (i' : Int)], 119⟩], [Row .u8 A c bt]⟩) 8 ⟨0, i, 0, rfl, hi, by decide, ?_⟩ (fun m s hI => ?_)
 ·exact xw (zsS zi0 zs0)
 ·obtain ⟨j, i', x, h1, h2, h3, hw⟩ := hI
  refine SW_weak hw ?_
  clear hw
  by_cases hj : j < 8
  ·have z : decide ((j : Int) < 8) = true := decide_eq_true (by omega)
   obtain ⟨m, rfl⟩ : ∃ m', m = m' + 1 := ⟨m - 1, by omega⟩
   have v1 : Ve (IntKind.i64.wrap ((j : Int) + 1)) ((j + 1 : Nat) : Int) := ⟨by rw [wrap_i64 (by omega)]; rfl⟩
   refine SW_seq ?_
   refine xr [] [(6, .bool (decide ((j : Int) < 8)))] ?_
   refine xst z ?_
   refine SW_skip ?_
   refine SW_seq ?_
   refine SW_block ?_
   refine SW_region ?_
   refine xn 3 [] [(11, .pointer (some ⟨g, 0, none⟩)), (10, .int .u64 (IntKind.wrap IntKind.u64 ((x : Int) * 2 ^ min (Int.toNat 8) (IntKind.bits IntKind.u64))))] ?_
   (refine xcm 12 [true] (ct_spec_l1Reader_next (g) (A) (c) (bt) (((i' : Nat) : Int)) (i') ⟨rfl⟩ h2 hx dx) (zsS zi0 zs0) (fun zz => ?_); obtain ⟨⟨z0, z1⟩, p2⟩ := zz)
   refine xz [] [(3, .int .u64 (IntKind.wrap IntKind.u64 (((BitVec.toNat (BitVec.ofInt (IntKind.bits IntKind.u64) (IntKind.wrap IntKind.u64 ((x : Int) * 2 ^ min (Int.toNat 8) (IntKind.bits IntKind.u64))) ||| BitVec.ofInt (IntKind.bits IntKind.u64) (IntKind.wrap IntKind.u64 (z1 : Int)))) : Nat) : Int)))] ?_
   refine SW_region ?_
   refine xn 1 [] [(7, .int .i64 (j : Int))] ?_
   refine xve 8 IntKind.i64 (IntKind.wrap IntKind.i64 ((j : Int) + 1)) ((((j + 1) : Nat) : Int)) v1 ?_
   refine xz [] [(4, .int .i64 (((j + 1) : Nat) : Int))] ?_
   obtain ⟨y, hy, ey⟩ := wrap_u64_nat ((BitVec.toNat (BitVec.ofInt IntKind.u64.bits (IntKind.u64.wrap ((x : Int) * 2 ^ min (Int.toNat 8) IntKind.u64.bits)) ||| BitVec.ofInt IntKind.u64.bits (IntKind.u64.wrap (z1 : Int))) : Nat) : Int)
   rw [ey]
   refine ⟨m, by omega, j + 1, z0, y, by omega, p2.1, hy, ?_⟩
   exact xw (zsS zi0 zs0)
  ·have z : decide ((j : Int) < 8) = false := decide_eq_false (by omega)
   refine SW_seq ?_
   refine xr [] [(6, .bool (decide ((j : Int) < 8)))] ?_
   refine xsf z ?_
   refine SW_exit ?_
   refine xr [] [(2, .int .u64 (x : Int))] ?_
   refine SW_ret ?_
   refine xmeg (.int .u64 (x : Int)) [] ?_
   exact ⟨⟨(i', x), h2, h3⟩, [true], rfl, rfl, zs0⟩
end Go.Proofs.YtdbnmdchecacdaaDoor.M
end
section
namespace Go.Proofs.YtdbnmdchecacdaaDoor.M
open Go.RowKit Go.Proofs.YtdbnmdchecacdaaDoor.G Go.Proofs.YtdbnmdchecacdaaDoorV.PrintWords Go.Proofs.YtdbnmdchecacdaaDoorV.PrintLast Go.Proofs.YtdbnmdchecacdaaDoor.X
set_option linter.unusedVariables false
set_option linter.unusedSimpArgs false
theorem packR_lt {P : Nat} {emin emax : Int} {W E : Nat} {ex : Bool} (h : Fmt2 P emin emax W E ex) {c : Int} {neg : Bool} {S : Nat} {q : Int} : (packR P emin emax W E ex c neg S q).1 < B128 := by
 have p3 := h.p3
 have w2 := h.w2
 have e0 : 0 < 2 ^ E := Nat.pow_pos (by decide)
 have z0 : 0 < 2 ^ (P - 1) := Nat.pow_pos (by decide)
 have key : ∀ w, packN P emax W E ex c neg S q = some w → w < B128 := by
  intro w hw
  have fin : ∀ neg lead e r, e < 2 ^ E → r < 2 ^ (P - 1) → makeN P W ex neg lead e r < B128 := fun neg lead e r he hr => Nat.lt_of_lt_of_le (makeN_lt h.toFmt neg lead e r he hr) (show 2 ^ W ≤ 2 ^ 128 from Nat.pow_le_pow_right (by decide) w2)
  unfold packN at hw
  split at hw
  ·cases hw
   exact fin _ _ _ _ e0 z0
  ·split at hw
   ·cases hw
    exact fin _ _ _ _ (by omega) z0
   ·split at hw
    ·cases hw
     exact fin _ _ _ _ (by omega) (Nat.pow_lt_pow_right (by decide) (by omega))
    ·split at hw
     ·split at hw
      ·rename_i hS
       cases hw
       exact fin _ _ _ _ e0 hS
      ·cases hw
     ·split at hw
      ·split at hw
       ·rename_i hS
        cases hw
        exact fin _ _ _ _ (by omega) (Nat.mod_lt _ z0)
       ·cases hw
      ·cases hw
 unfold packR
 split
 ·decide
 ·rename_i w hw
  split
  ·exact key w hw
  ·decide
theorem wrap_rng (z : Int) : -9223372036854775808 ≤ IntKind.i64.wrap z ∧ IntKind.i64.wrap z ≤ 9223372036854775807 := by
 simp [IntKind.wrap, IntKind.bits, IntKind.signed]
 omega
theorem hi_mk (x y : Nat) (hx : x < 18446744073709551616) (hy : y < 18446744073709551616) : hiI (y + x * 18446744073709551616) = (x : Int) := by
 unfold hiI
 omega
theorem lo_mk (x y : Nat) (hy : y < 18446744073709551616) : loI (y + x * 18446744073709551616) = (y : Int) := by
 unfold loI
 omega
theorem two_val' (x y : Nat) (hx : x < 18446744073709551616) (hy : y < 18446744073709551616) : Dig B64 [(x : Int), (y : Int)] ∧ val B64 [(x : Int), (y : Int)] = x + y * 18446744073709551616 := by
 refine ⟨Dig.cons (by unfold B64; omega) (Dig.cons (by unfold B64; omega) (Dig.nil _)), ?_⟩
 rw [val_cons, val_one]
 unfold B64
 rw [Int.toNat_natCast, Int.toNat_natCast]
 omega
theorem ct_spec_l1In' (g x y : Nat) (hx : x < 18446744073709551616) (hy : y < 18446744073709551616) : CtM Tryd.prog 98 [.slice (some ⟨g, 0, none⟩) 2 2] [⟨g, [.int .u64 (x : Int), .int .u64 (y : Int)], 22⟩] [] (γ := Option Addr × Nat) (fun p => .slice p.1 (ofN B32 (x + y * 18446744073709551616)).length p.2) (fun _ => []) (fun p => [Row .u64 p.1 p.2 (ofN B32 (x + y * 18446744073709551616))]) := by
 obtain ⟨d, v⟩ := two_val' x y hx hy
 obtain ⟨d2, n2, v2⟩ := ofN_spec B32_2 (x + y * 18446744073709551616)
 exact ctM_row (xs := [(x : Int), (y : Int)]) rfl (by simp) (by simp) (ct_spec_l1In_rows [(x : Int), (y : Int)] _ 2 d (by simp) _ d2 n2 (by rw [v2, v]))
theorem ct_spec_l1Reader_word (f : Int) (g : Nat) (A : Option Addr) (c : Nat) (bt : List Int) (a : Int) (i : Nat) (ha : Nn a i) (hi : i ≤ bt.length) (hx : bt.length ≤ 1048576) (dx : Dig 256 bt) :
  CtM Tryd.prog 96 [.pointer (some ⟨g, 0, none⟩), .int .i64 f] [⟨g, [.slice A bt.length c, .int .i64 a], 119⟩] [Row .u8 A c bt] (γ := {p : Nat × Nat // p.1 ≤ bt.length ∧ p.2 < B128}) (fun p => .agg #[.int .u64 (hiI p.1.2), .int .u64 (loI p.1.2)]) (fun p => [⟨g, [.slice A bt.length c, .int .i64 (p.1.1 : Int)], 119⟩]) (fun _ => []) := by
 obtain ⟨rfl⟩ := ha
 refine cm_of Tryd.func96 rfl (by kernel_rfl) (fun B w0 => ?_)
 -- the format that is drawn in
 obtain ⟨f', P, emin, emax, W, E, ex, r1, r2, r3, r4, r5, r6, d, hr, hf'⟩ : ∃ f' P emin emax W E ex r1 r2 r3 r4 r5 r6, FD f' P emin emax W E ex ∧ spec_Describe.f f = some (r1, r2, r3, r4, r5, r6) ∧ ((f = f' ∧ (P : Int) = r1 ∧ emin = r2 ∧ emax = r3 ∧ (W : Int) = r4 ∧ (E : Int) = r5 ∧ ex = r6) ∨ (f' = 1 ∧ r1 = 0)) := by
  rcases fd_or f with ⟨_, P, emin, emax, W, E, ex, d⟩ | ⟨_, hs, hl⟩
  ·exact ⟨f, P, emin, emax, W, E, ex, _, _, _, _, _, _, d, d.sf, .inl ⟨rfl, rfl, rfl, rfl, rfl, rfl, rfl⟩⟩
  ·exact ⟨1, 53, -1022, 1023, 64, 11, false, _, _, _, _, _, _, ⟨fmt2_1, by decide, rfl, rfl⟩, hs, .inr ⟨rfl, rfl⟩⟩
 have cd := spec_Describe.calls f _ _ _ _ _ _ hr
 have h := d.h
 have hF := h.toFmt
 have hs := d.sf
 have p0 := h.p0
 have p1 := h.p1
 have p3 := h.p3
 have m0 := h.m0
 have m1 := h.m1
 have zP : ((P : Int) == 0) = false := by rw [beq_eq_false_iff_ne]; omega
 refine xg ?_
 refine xb 4 [.int .u64 0, .int .u64 0] 25 (fun g0 => ?_)
 refine xz [] [] ?_
 refine xg ?_
 refine xn 1 [] [(14, .int .i64 f)] ?_
 refine xcv 15 cd zs0 ?_
 refine xb 5 [.int .i64 0, .int .i64 0, .int .i64 0, .int .i64 0, .int .i64 0, .bool false] 83 (fun g1 => ?_)
 refine xy [(3, [2])] [] [(2, [.int .i64 r1, .int .i64 r2, .int .i64 r3, .int .i64 r4, .int .i64 r5, .bool r6])] ?_
 refine SW_cut (fun s' => Weak s' ⟨[(0, .pointer (some ⟨g, 0, none⟩)), (1, .int .i64 f'), (4, .pointer (some ⟨g0, 0, none⟩)), (5, .pointer (some ⟨g1, 0, none⟩))], [⟨g, [.slice A bt.length c, .int .i64 (i : Int)], 119⟩, ⟨g0, [.int .u64 0, .int .u64 0], 25⟩, ⟨g1, [.int .i64 (P : Int), .int .i64 emin, .int .i64 emax, .int .i64 (W : Int), .int .i64 (E : Int), .bool ex], 83⟩], [Row .u8 A c bt]⟩) ?_ ?_
 ·rcases hf' with ⟨rfl, rfl, rfl, rfl, rfl, rfl, rfl⟩ | ⟨rfl, rfl⟩
  ·refine xr [(1, [2])] [(18, .bool ((P : Int) == 0))] ?_
   refine xsf zP ?_
   refine SW_skip ?_
   exact xw (zsS zi0 zs0)
  ·refine xr [(1, [2])] [(18, .bool true)] ?_
   refine xs1 ?_
   refine xg ?_
   refine xcv 19 (ct_spec_Describe (1) hs) zs0 ?_
   refine xy [(1, [2])] [] [(2, [.int .i64 (P : Int), .int .i64 emin, .int .i64 emax, .int .i64 (W : Int), .int .i64 (E : Int), .bool ex])] ?_
   refine xrl [] [(1, .int .i64 1)] ?_
   exact xw (zsS zi0 zs0)
 ·rintro s' hw
  refine SW_weak hw ?_
  clear hw
  have w1 : Ve (IntKind.i64.wrap (emin - (P : Int))) (emin - (P : Int)) := ⟨wrap_i64 (by omega)⟩
  have w2 : Ve (IntKind.i64.wrap (emin - (P : Int) + 1)) (emin - (P : Int) + 1) := ⟨wrap_i64 (by omega)⟩
  refine xg ?_
  refine xn 1 [] [(20, .pointer (some ⟨g, 0, none⟩))] ?_
  (refine xcm 21 [true] (ct_spec_l1Reader_next (g) (A) (c) (bt) ((i : Int)) (i) ⟨rfl⟩ hi hx dx) (zsS zi0 zs0) (fun zz => ?_); obtain ⟨⟨z4, z5⟩, p6⟩ := zz)
  refine xz [] [(6, .int .i64 (z5 : Int))] ?_
  refine xg ?_
  refine xn 1 [] [(22, .pointer (some ⟨g, 0, none⟩))] ?_
  (refine xcm 23 [true] (ct_spec_l1Reader_next (g) (A) (c) (bt) ((z4 : Int)) (z4) ⟨rfl⟩ (by omega) hx dx) (zsS zi0 zs0) (fun zz => ?_); obtain ⟨⟨z7, z8⟩, p9⟩ := zz)
  refine xz [] [(7, .bool (Int.tmod (z8 : Int) 3 == 1))] ?_
  refine xg ?_
  refine xn 2 [] [(27, .agg #[.int .i64 0, .bool (Int.tmod (z8 : Int) 3 == 1), .int .u64 0, .int .u64 0, .int .i64 0])] ?_
  refine xb 8 [.int .i64 0, .bool false, .int .u64 0, .int .u64 0, .int .i64 0] 27 (fun g2 => ?_)
  refine xy [(3, [3])] [] [(3, [.int .i64 0, .bool (Int.tmod (z8 : Int) 3 == 1), .int .u64 0, .int .u64 0, .int .i64 0])] ?_
  refine xg ?_
  refine xn 4 [(1, [2]), (3, [2])] [(31, .int .i64 (P : Int)), (29, .int .i64 emin)] ?_
  refine xve 32 IntKind.i64 (IntKind.wrap IntKind.i64 (emin - (P : Int))) (emin - (P : Int)) w1 ?_
  refine xve 33 IntKind.i64 (IntKind.wrap IntKind.i64 (emin - (P : Int) + 1)) (emin - (P : Int) + 1) w2 ?_
  refine xz [] [(9, .int .i64 (emin - (P : Int) + 1))] ?_
  generalize hnb : (Int.tmod (z8 : Int) 3 == 1) = nb
  have v12 : Ve (Int.tmod (z5 : Int) 12) ((z5 % 12 : Nat) : Int) := ⟨by rw [Int.tmod_eq_emod_of_nonneg (by omega)]; omega⟩
  have hq0 : -9223372036854775808 ≤ emin - (P : Int) + 1 ∧ emin - (P : Int) + 1 ≤ 9223372036854775807 := by omega
  have hb0 : 0 < B128 := by decide
  have hbv : ∀ x y : Nat, x < 18446744073709551616 → y < 18446744073709551616 → x + y * 18446744073709551616 < B128 := fun x y hx hy => by
   have : B128 = 340282366920938463463374607431768211456 := by decide
   omega
  have hsm : ∀ x y : Nat, x < 18446744073709551616 → y < 18446744073709551616 → Sm (x + y * 18446744073709551616) := fun x y hx hy => sm128 (Nat.lt_trans (hbv x y hx hy) (by decide))
  have hdv : ∀ x y n : Nat, x < 18446744073709551616 → y < 18446744073709551616 → (x + y * 18446744073709551616) / 2 ^ n < B128 := fun x y n hx hy => Nat.lt_of_le_of_lt (Nat.div_le_self _ _) (hbv x y hx hy)
  have hmv : ∀ x y n : Nat, x < 18446744073709551616 → y < 18446744073709551616 → (x + y * 18446744073709551616) % 2 ^ n < B128 := fun x y n hx hy => Nat.lt_of_le_of_lt (Nat.mod_le _ _) (hbv x y hx hy)
  have hw1 := h.w1
  have hW : W ≤ 128 := h.w2
  have hle : ∀ z : Nat, 129 - P + z % (P - 1) ≤ 100000000000 := fun z => by
   have := Nat.mod_lt z (show 0 < P - 1 by omega)
   omega
  have hN : ∀ z : Nat, Nn (IntKind.i64.wrap (((129 - P : Nat) : Int) + ((z % (P - 1) : Nat) : Int))) (129 - P + z % (P - 1)) := fun z => by
   have := Nat.mod_lt z (show 0 < P - 1 by omega)
   exact Nn.wrap (by omega) (by omega)
  have b128 : 2 ^ P < B128 := Nat.pow_lt_pow_right (a := 2) (n := 128) (by decide) (by omega)
  have v1 : Ve (IntKind.i64.wrap ((P : Int) - 1)) ((P - 1 : Nat) : Int) := ⟨by rw [wrap_i64 (by omega)]; omega⟩
  have v129 : Ve (IntKind.i64.wrap (129 - (P : Int))) ((129 - P : Nat) : Int) := ⟨by rw [wrap_i64 (by omega)]; omega⟩
  refine SW_cut (fun s' => ∃ (i' : Nat) (cc : Int) (n2 : Bool) (S : Nat) (q : Int), i' ≤ bt.length ∧ S < B128 ∧ (-9223372036854775808 ≤ q ∧ q ≤ 9223372036854775807) ∧ Weak2 s' ⟨[(0, .pointer (some ⟨g, 0, none⟩)), (1, .int .i64 f'), (4, .pointer (some ⟨g0, 0, none⟩)), (6, .int .i64 (z5 : Int)), (7, .bool nb), (8, .pointer (some ⟨g2, 0, none⟩)), (9, .int .i64 (emin - (P : Int) + 1))], [⟨g, [.slice A bt.length c, .int .i64 (i' : Int)], 119⟩, ⟨g0, [.int .u64 0, .int .u64 0], 25⟩, ⟨g2, [.int .i64 cc, .bool n2, .int .u64 (hiI S), .int .u64 (loI S), .int .i64 q], 27⟩], [Row .u8 A c bt]⟩) ?_ ?_
  ·refine xg ?_
   refine xn 1 [] [(34, .int .i64 (z5 : Int))] ?_
   refine xve 35 IntKind.i64 (Int.tmod (z5 : Int) 12) ((((z5 % 12) : Nat) : Int)) v12 ?_
   refine xz [] [] ?_
   refine SW_block ?_
   refine xr [] [(131, .bool ((((z5 % 12) : Nat) : Int) == 0))] ?_
   refine xs ((((z5 % 12) : Nat) : Int) == 0) (fun q0 => ?_) (fun q0 => ?_)
   ·refine xql [(1, [3])] [] [(3, [.int .i64 1, .bool nb, .int .u64 0, .int .u64 0, .int .i64 0])] ?_
    refine ⟨z7, 1, nb, 0, 0, p9.1, hb0, by decide, ?_⟩
    exact xw2 [true, true, false, true] (zsS zi0 zs0)
   ·refine xr [] [(134, .bool ((((z5 % 12) : Nat) : Int) == 1))] ?_
    refine xs ((((z5 % 12) : Nat) : Int) == 1) (fun q1 => ?_) (fun q1 => ?_)
    ·refine xql [(1, [3])] [] [(3, [.int .i64 4, .bool nb, .int .u64 0, .int .u64 0, .int .i64 0])] ?_
     refine ⟨z7, 4, nb, 0, 0, p9.1, hb0, by decide, ?_⟩
     exact xw2 [true, true, false, true] (zsS zi0 zs0)
    ·refine xr [] [(137, .bool ((((z5 % 12) : Nat) : Int) == 2))] ?_
     refine xs ((((z5 % 12) : Nat) : Int) == 2) (fun q2 => ?_) (fun q2 => ?_)
     ·refine xql [(1, [3])] [] [(3, [.int .i64 5, .bool false, .int .u64 0, .int .u64 0, .int .i64 0])] ?_
      refine ⟨z7, 5, false, 0, 0, p9.1, hb0, by decide, ?_⟩
      exact xw2 [true, true, false, true] (zsS zi0 zs0)
     ·refine xr [] [(140, .bool ((((z5 % 12) : Nat) : Int) == 3))] ?_
      refine xs ((((z5 % 12) : Nat) : Int) == 3) (fun q3 => ?_) (fun q3 => ?_)
      ·refine xq [(1, [3])] [] [(3, [.int .i64 2, .bool nb, .int .u64 0, .int .u64 0, .int .i64 0])] ?_
       refine xq [(2, [3])] [] [(3, [.int .i64 2, .bool nb, .int .u64 0, .int .u64 0, .int .i64 (emin - (P : Int) + 1)])] ?_
       refine xdml [false, true, true, true] (fun hB => ?_)
       refine xdk [(0, []), (2, []), (6, []), (7, [1]), (9, []), (11, []), (12, [1])] [(157, .int .i64 (P : Int)), (154, .pointer (some ⟨g, 0, none⟩)), (152, .int .i64 (P : Int)), (147, .pointer (some ⟨g, 0, none⟩)), (145, .pointer (some ⟨g, 0, none⟩))] hB ?_
       refine xdve 8 hB 153 IntKind.i64 (IntKind.wrap IntKind.i64 (129 - (P : Int))) ((((129 - P) : Nat) : Int)) v129 ?_
       refine xdve 13 hB 158 IntKind.i64 (IntKind.wrap IntKind.i64 ((P : Int) - 1)) ((((P - 1) : Nat) : Int)) v1 ?_
       (refine xdcm 1 146 [true] [false, true, true, true] (ct_spec_l1Reader_wide (g) (A) (c) (bt) ((z7 : Int)) (z7) ⟨rfl⟩ (by omega) hx dx) (zsS zi0 zs0) (zsS zi0 zs0) (fun zz => ?_); obtain ⟨⟨z10, z11⟩, p12⟩ := zz)
       (refine xdcm 3 148 [true] [false, true, true, true] (ct_spec_l1Reader_wide (g) (A) (c) (bt) ((z10 : Int)) (z10) ⟨rfl⟩ (by omega) hx dx) (zsS zi0 zs0) (zsS zi0 zs0) (fun zz => ?_); obtain ⟨⟨z13, z14⟩, p15⟩ := zz)
       refine xdbl 4 149 [.int .u64 (z11 : Int), .int .u64 (z14 : Int)] 22 2 (fun g3 => ?_)
       (refine xdcm 5 150 [false, false, false, false, true] [false, true, true, true, false] (ct_spec_l1In' (g3) (z11) (z14) (by omega) (by omega)) zs0 (zsS zi0 zs0) (fun zz => ?_); obtain ⟨z16, z17⟩ := zz)
       (refine xdcm 10 155 [true] [false, true, true, true] (ct_spec_l1Reader_next (g) (A) (c) (bt) ((z13 : Int)) (z13) ⟨rfl⟩ (by omega) hx dx) (zsS (ziS zi0) zs0) (zsS (ziS zi0) zs0) (fun zz => ?_); obtain ⟨⟨z18, z19⟩, p20⟩ := zz)
       refine xdqri 14 hB 159 ((z19 : Int)) ((((P - 1) : Nat) : Int)) ((z19)) ((P - 1)) ⟨rfl⟩ ⟨rfl⟩ (by omega) (by omega) ?_
       refine xdk [(15, [])] [(160, .int .i64 (IntKind.wrap IntKind.i64 ((((129 - P) : Nat) : Int) + (((z19 % (P - 1)) : Nat) : Int))))] hB ?_
       refine xdr 16 161 (ct_spec_l1Right (z11 + z14 * 18446744073709551616) (z16) (z17) (IntKind.wrap IntKind.i64 ((((129 - P) : Nat) : Int) + (((z19 % (P - 1)) : Nat) : Int))) (129 - P + z19 % (P - 1)) (hN _) (hle _) (hsm _ _ (by omega) (by omega))) (zsS zi0 zs0) (fun A0 k0 => ?_)
       refine xdv 17 162 (ct_spec_l2Word ((z11 + z14 * 18446744073709551616) / 2 ^ (129 - P + z19 % (P - 1))) (A0) (k0) (hdv _ _ _ (by omega) (by omega))) (zsS zi0 zs0) ?_
       refine xdk [(18, [])] [(163, .pointer (some ⟨g2, 2, none⟩))] hB ?_
       refine xds 19 [3] [(3, [.int .i64 2, .bool nb, .int .u64 (hiI ((z11 + z14 * 18446744073709551616) / 2 ^ (129 - P + z19 % (P - 1)))), .int .u64 (loI ((z11 + z14 * 18446744073709551616) / 2 ^ (129 - P + z19 % (P - 1)))), .int .i64 (emin - (P : Int) + 1)])] ?_
       refine xdz ?_
       refine ⟨z18, 2, nb, (z11 + z14 * 18446744073709551616) / 2 ^ (129 - P + z19 % (P - 1)), emin - (P : Int) + 1, p20.1, hdv _ _ _ p12.2 p15.2, hq0, ?_⟩
       exact xw2 [true, true, false, true] (zsS (ziS (ziS zi0)) zs0)
      ·refine xr [] [(164, .bool ((((z5 % 12) : Nat) : Int) == 4))] ?_
       refine xs ((((z5 % 12) : Nat) : Int) == 4) (fun q4 => ?_) (fun q4 => ?_)
       ·refine xg ?_
        refine xn 1 [] [(166, .pointer (some ⟨g, 0, none⟩))] ?_
        (refine xcm 167 [true] (ct_spec_l1Reader_wide (g) (A) (c) (bt) ((z7 : Int)) (z7) ⟨rfl⟩ (by omega) hx dx) (zsS zi0 zs0) (fun zz => ?_); obtain ⟨⟨z10, z11⟩, p12⟩ := zz)
        refine xn 3 [] [(168, .pointer (some ⟨g, 0, none⟩))] ?_
        (refine xcm 169 [true] (ct_spec_l1Reader_wide (g) (A) (c) (bt) ((z10 : Int)) (z10) ⟨rfl⟩ (by omega) hx dx) (zsS zi0 zs0) (fun zz => ?_); obtain ⟨⟨z13, z14⟩, p15⟩ := zz)
        refine xy [(5, [1])] [] [(1, [.int .u64 (z11 : Int), .int .u64 (z14 : Int)])] ?_
        refine SW_ret ?_
        refine xmeg (.agg #[.int .u64 (z11 : Int), .int .u64 (z14 : Int)]) [1] ?_
        exact ⟨⟨(z13, z14 + z11 * 18446744073709551616), p15.1, hbv z14 z11 p15.2 p12.2⟩, [true], by dsimp only; rw [hi_mk _ _ p12.2 p15.2, lo_mk _ _ p15.2], rfl, zs0⟩
       ·refine xr [] [(171, .bool ((((z5 % 12) : Nat) : Int) == 5))] ?_
        refine xs ((((z5 % 12) : Nat) : Int) == 5) (fun q5 => ?_) (fun q5 => ?_)
        ·refine xdm [false, true, true, true] (fun hB => ?_)
         refine xdk [(0, []), (2, []), (6, []), (7, [1])] [(180, .int .i64 (W : Int)), (175, .pointer (some ⟨g, 0, none⟩)), (173, .pointer (some ⟨g, 0, none⟩))] hB ?_
         (refine xdcm 1 174 [true] [false, true, true, true] (ct_spec_l1Reader_wide (g) (A) (c) (bt) ((z7 : Int)) (z7) ⟨rfl⟩ (by omega) hx dx) (zsS zi0 zs0) (zsS zi0 zs0) (fun zz => ?_); obtain ⟨⟨z10, z11⟩, p12⟩ := zz)
         (refine xdcm 3 176 [true] [false, true, true, true] (ct_spec_l1Reader_wide (g) (A) (c) (bt) ((z10 : Int)) (z10) ⟨rfl⟩ (by omega) hx dx) (zsS zi0 zs0) (zsS zi0 zs0) (fun zz => ?_); obtain ⟨⟨z13, z14⟩, p15⟩ := zz)
         refine xdbl 4 177 [.int .u64 (z11 : Int), .int .u64 (z14 : Int)] 22 2 (fun g3 => ?_)
         (refine xdcm 5 178 [false, false, false, false, true] [false, true, true, true, false] (ct_spec_l1In' (g3) (z11) (z14) (by omega) (by omega)) zs0 (zsS zi0 zs0) (fun zz => ?_); obtain ⟨z16, z17⟩ := zz)
         refine xdr 8 181 (ct_spec_l2Low (z11 + z14 * 18446744073709551616) (z16) (z17) ((W : Int)) (W) ⟨rfl⟩ (by omega) (hsm _ _ (by omega) (by omega))) (zsS zi0 zs0) (fun A0 k0 => ?_)
         refine xdv 9 182 (ct_spec_l2Word ((z11 + z14 * 18446744073709551616) % 2 ^ W) (A0) (k0) (hmv _ _ _ (by omega) (by omega))) (zsS zi0 zs0) ?_
         refine xds 10 [1] [(1, [.int .u64 (hiI ((z11 + z14 * 18446744073709551616) % 2 ^ W)), .int .u64 (loI ((z11 + z14 * 18446744073709551616) % 2 ^ W))])] ?_
         refine xdz ?_
         refine SW_ret ?_
         refine xmeg (.agg #[.int .u64 (hiI ((z11 + z14 * 18446744073709551616) % 2 ^ W)), .int .u64 (loI ((z11 + z14 * 18446744073709551616) % 2 ^ W))]) [1] ?_
         exact ⟨⟨(z13, (z11 + z14 * 18446744073709551616) % 2 ^ W), p15.1, hmv z11 z14 W p12.2 p15.2⟩, [true], rfl, rfl, zs0⟩
        ·refine xq [(1, [3])] [] [(3, [.int .i64 3, .bool nb, .int .u64 0, .int .u64 0, .int .i64 0])] ?_
         refine xg ?_
         refine xn 2 [(1, [2])] [(38, .int .i64 (P : Int))] ?_
         refine xve 39 IntKind.i64 (IntKind.wrap IntKind.i64 ((P : Int) - 1)) ((((P - 1) : Nat) : Int)) v1 ?_
         refine xcr 40 (ct_spec_l2Two ((((P - 1) : Nat) : Int)) (P - 1) ⟨rfl⟩ (by omega)) zs0 (fun A0 k0 => ?_)
         refine xz [] [(10, .slice A0 (List.length (ofN B32 (2 ^ (P - 1)))) k0)] ?_
         have sP : Sm (2 ^ P) := sm128 (Nat.lt_of_lt_of_le b128 (by decide))
         have sP1 : Sm (2 ^ (P - 1)) := sP.mono (Nat.pow_le_pow_right (by decide) (by omega))
         have hc3 : ∀ z : Nat, Nn (IntKind.u64.wrap (IntKind.i64.wrap (1 + Int.tmod (z : Int) 3))) (1 + z % 3) := fun z => by
          have e : Int.tmod (z : Int) 3 = ((z % 3 : Nat) : Int) := by rw [Int.tmod_eq_emod_of_nonneg (by omega)]; omega
          rw [e]
          exact Nn.u (Nn.wrap (by omega) (by omega)) (by omega)
         have hc4 : ∀ z : Nat, Nn (IntKind.u64.wrap (Int.tmod (z : Int) 4)) (z % 4) := fun z => by
          have e : Int.tmod (z : Int) 4 = ((z % 4 : Nat) : Int) := by rw [Int.tmod_eq_emod_of_nonneg (by omega)]; omega
          rw [e]
          exact Nn.u ⟨rfl⟩ (by omega)
         have hs3 : ∀ z : Nat, Sm (1 + z % 3) := fun z => sm128 (Nat.lt_trans (show 1 + z % 3 < 4 by omega) (by decide))
         have hs4 : ∀ z : Nat, Sm (z % 4) := fun z => sm128 (Nat.lt_trans (show z % 4 < 4 by omega) (by decide))
         have hsl : ∀ z : Nat, Sm (z % 2 ^ (P - 1)) := fun z => sP1.mono (Nat.le_of_lt (Nat.mod_lt _ (Nat.pow_pos (by decide))))
         have hl3 : ∀ z : Nat, 1 + z % 3 ≤ 2 ^ P := fun z => by
          have h1 : 1 + z % 3 ≤ 2 ^ 2 := by omega
          exact Nat.le_trans h1 (Nat.pow_le_pow_right (by decide) p0)
         have b128' := b128
         have t2 := two_P hF
         have hl4 : ∀ z : Nat, 2 ^ (P - 1) + z % 2 ^ (P - 1) < B128 := fun z => by
          have := Nat.mod_lt z (Nat.pow_pos (n := P - 1) (show 0 < 2 by decide))
          omega
         have hP1 : 2 ^ (P - 1) < B128 := Nat.lt_of_le_of_lt (Nat.pow_le_pow_right (by decide) (by omega)) b128
         have t2 := two_P hF
         have hP113 : 2 ^ P ≤ 2 ^ 113 := Nat.pow_le_pow_right (by decide) p1
         have pd : (2 : Nat) ^ 113 + 2 ^ 113 < B128 := by decide
         have hp4 : 4 ≤ 2 ^ (P - 1) := (show 2 ^ 2 ≤ 2 ^ (P - 1) from Nat.pow_le_pow_right (by decide) (by omega))
         refine SW_cut (fun s' => ∃ (i' : Nat) (Sg : Nat) (A1 : Option Addr) (c1 : Nat), i' ≤ bt.length ∧ Sg < B128 ∧ Weak2 s' ⟨[(0, .pointer (some ⟨g, 0, none⟩)), (1, .int .i64 f'), (4, .pointer (some ⟨g0, 0, none⟩)), (5, .pointer (some ⟨g1, 0, none⟩)), (6, .int .i64 (z5 : Int)), (7, .bool nb), (8, .pointer (some ⟨g2, 0, none⟩)), (9, .int .i64 (emin - (P : Int) + 1)), (10, .slice A1 (ofN B32 Sg).length c1)], [⟨g, [.slice A bt.length c, .int .i64 (i' : Int)], 119⟩, ⟨g0, [.int .u64 0, .int .u64 0], 25⟩, ⟨g1, [.int .i64 (P : Int), .int .i64 emin, .int .i64 emax, .int .i64 (W : Int), .int .i64 (E : Int), .bool ex], 83⟩, ⟨g2, [.int .i64 3, .bool nb, .int .u64 0, .int .u64 0, .int .i64 0], 27⟩], [Row .u8 A c bt, Row .u64 A1 c1 (ofN B32 Sg)]⟩) ?_ ?_
         ·refine xg ?_
          refine xn 1 [] [(41, .pointer (some ⟨g, 0, none⟩))] ?_
          (refine xcm 42 [true] (ct_spec_l1Reader_next (g) (A) (c) (bt) ((z7 : Int)) (z7) ⟨rfl⟩ (by omega) hx dx) (zsS (ziS zi0) zs0) (fun zz => ?_); obtain ⟨⟨z10, z11⟩, p12⟩ := zz)
          refine xz [] [(43, .int .i64 (Int.tmod (z11 : Int) 5))] ?_
          refine SW_block ?_
          refine xr [] [(56, .bool (Int.tmod (z11 : Int) 5 == 0))] ?_
          refine xs (Int.tmod (z11 : Int) 5 == 0) (fun q6 => ?_) (fun q6 => ?_)
          ·refine SW_skip ?_
           refine ⟨(z10), (2 ^ (P - 1)), (A0), (k0), ?_, ?_, xw2 [true, true, true, true] (zsS (ziS zi0) (zsS zi0 zs0))⟩
           ·omega
           ·exact hP1
          ·refine xr [] [(58, .bool (Int.tmod (z11 : Int) 5 == 1))] ?_
           refine xs (Int.tmod (z11 : Int) 5 == 1) (fun q7 => ?_) (fun q7 => ?_)
           ·refine SW_region ?_
            refine xn 2 [(1, [2])] [(61, .int .i64 (P : Int))] ?_
            refine xcr 62 (ct_spec_l2Two ((P : Int)) (P) ⟨rfl⟩ (by omega)) zs0 (fun A1 k1 => ?_)
            refine xn 4 [] [(63, .pointer (some ⟨g, 0, none⟩))] ?_
            (refine xcm 64 [true] (ct_spec_l1Reader_next (g) (A) (c) (bt) ((z10 : Int)) (z10) ⟨rfl⟩ (by omega) hx dx) (zsS (ziS (ziS zi0)) zs0) (fun zz => ?_); obtain ⟨⟨z13, z14⟩, p15⟩ := zz)
            refine xn 8 [] [(67, .int .u64 (IntKind.wrap IntKind.u64 (IntKind.wrap IntKind.i64 (1 + Int.tmod (z14 : Int) 3))))] ?_
            refine xcr 68 (ct_spec_l1Of (IntKind.wrap IntKind.u64 (IntKind.wrap IntKind.i64 (1 + Int.tmod (z14 : Int) 3))) (1 + z14 % 3) (hc3 _) (by omega)) zs0 (fun A2 k2 => ?_)
            refine xcr 69 (ct_spec_l1Sub (2 ^ P) (1 + z14 % 3) (A1) (A2) (k1) (k2) sP (hl3 _)) (zsS (ziS zi0) (zsS zi0 zs0)) (fun A3 k3 => ?_)
            refine xz [] [(10, .slice A3 (List.length (ofN B32 (2 ^ P - (1 + z14 % 3)))) k3)] ?_
            refine ⟨(z13), (2 ^ P - (1 + z14 % 3)), (A3), (k3), ?_, ?_, xw2 [true, true, true, true] (zsS (ziS (ziS (ziS (ziS zi0)))) (zsS zi0 zs0))⟩
            ·omega
            ·omega
           ·refine xr [] [(70, .bool (Int.tmod (z11 : Int) 5 == 2))] ?_
            refine xs (Int.tmod (z11 : Int) 5 == 2) (fun q8 => ?_) (fun q8 => ?_)
            ·refine SW_region ?_
             refine xn 2 [] [(73, .pointer (some ⟨g, 0, none⟩)), (72, .slice A0 (List.length (ofN B32 (2 ^ (P - 1)))) k0)] ?_
             (refine xcm 74 [true] (ct_spec_l1Reader_next (g) (A) (c) (bt) ((z10 : Int)) (z10) ⟨rfl⟩ (by omega) hx dx) (zsS (ziS zi0) zs0) (fun zz => ?_); obtain ⟨⟨z13, z14⟩, p15⟩ := zz)
             refine xn 5 [] [(76, .int .u64 (IntKind.wrap IntKind.u64 (Int.tmod (z14 : Int) 4)))] ?_
             refine xcr 77 (ct_spec_l1Of (IntKind.wrap IntKind.u64 (Int.tmod (z14 : Int) 4)) (z14 % 4) (hc4 _) (by omega)) zs0 (fun A1 k1 => ?_)
             refine xcr 78 (ct_spec_l1Add (2 ^ (P - 1)) (z14 % 4) (A0) (A1) (k0) (k1) sP1 (hs4 _)) (zsS (ziS zi0) (zsS zi0 zs0)) (fun A2 k2 => ?_)
             refine xz [] [(10, .slice A2 (List.length (ofN B32 (2 ^ (P - 1) + z14 % 4))) k2)] ?_
             refine ⟨(z13), (2 ^ (P - 1) + z14 % 4), (A2), (k2), ?_, ?_, xw2 [true, true, true, true] (zsS (ziS (ziS (ziS zi0))) (zsS zi0 zs0))⟩
             ·omega
             ·omega
            ·refine xdml [false, true, true, true] (fun hB => ?_)
             refine xdk [(0, []), (1, []), (3, []), (7, []), (8, [1])] [(52, .int .i64 (P : Int)), (47, .pointer (some ⟨g, 0, none⟩)), (45, .pointer (some ⟨g, 0, none⟩)), (44, .slice A0 (List.length (ofN B32 (2 ^ (P - 1)))) k0)] hB ?_
             refine xdve 9 hB 53 IntKind.i64 (IntKind.wrap IntKind.i64 ((P : Int) - 1)) ((((P - 1) : Nat) : Int)) v1 ?_
             (refine xdcm 2 46 [true] [false, true, true, true] (ct_spec_l1Reader_wide (g) (A) (c) (bt) ((z10 : Int)) (z10) ⟨rfl⟩ (by omega) hx dx) (zsS (ziS zi0) zs0) (zsS zi0 (zsS (ziS zi0) zs0)) (fun zz => ?_); obtain ⟨⟨z13, z14⟩, p15⟩ := zz)
             (refine xdcm 4 48 [true] [false, true, true, true] (ct_spec_l1Reader_wide (g) (A) (c) (bt) ((z13 : Int)) (z13) ⟨rfl⟩ (by omega) hx dx) (zsS (ziS zi0) zs0) (zsS zi0 (zsS (ziS zi0) zs0)) (fun zz => ?_); obtain ⟨⟨z16, z17⟩, p18⟩ := zz)
             refine xdbl 5 49 [.int .u64 (z14 : Int), .int .u64 (z17 : Int)] 22 2 (fun g3 => ?_)
             (refine xdcm 6 50 [false, false, false, false, true] [false, true, true, true, false] (ct_spec_l1In' (g3) (z14) (z17) (by omega) (by omega)) zs0 (zsS zi0 (zsS (ziS zi0) zs0)) (fun zz => ?_); obtain ⟨z19, z20⟩ := zz)
             refine xdr 10 54 (ct_spec_l2Low (z14 + z17 * 18446744073709551616) (z19) (z20) ((((P - 1) : Nat) : Int)) (P - 1) ⟨rfl⟩ (by omega) (hsm _ _ (by omega) (by omega))) (zsS zi0 zs0) (fun A1 k1 => ?_)
             refine xdr 11 55 (ct_spec_l1Add (2 ^ (P - 1)) ((z14 + z17 * 18446744073709551616) % 2 ^ (P - 1)) (A0) (A1) (k0) (k1) sP1 (hsl _)) (zsS (ziS (ziS zi0)) (zsS zi0 zs0)) (fun A2 k2 => ?_)
             refine xdk [(12, [])] [(10, .slice A2 (List.length (ofN B32 (2 ^ (P - 1) + (z14 + z17 * 18446744073709551616) % 2 ^ (P - 1)))) k2)] hB ?_
             refine xdz ?_
             refine ⟨(z16), (2 ^ (P - 1) + (z14 + z17 * 18446744073709551616) % 2 ^ (P - 1)), (A2), (k2), ?_, ?_, xw2 [true, true, true, true] (zsS (ziS (ziS (ziS (ziS zi0)))) (zsS zi0 zs0))⟩
             ·omega
             ·exact hl4 _
         ·rintro s' ⟨i', Sg, A1, c1, hi', hSg, hw⟩
          refine SW_weak2 hw ?_
          clear hw
          have sSg : Sm Sg := sm128 (Nat.lt_trans hSg (by decide))
          have vd : Nn (IntKind.i64.wrap (IntKind.i64.wrap (emax - emin) + 1)) (emax - emin + 1).toNat := Nn.wrap (by rw [wrap_i64 (by omega)]; have h1 := h.mn; have h2 := d.x1; omega) (by omega)
          have hd0 : 0 < (emax - emin + 1).toNat := by have := h.mn; have := d.x1; omega
          refine xg ?_
          refine xn 1 [] [(79, .slice A1 (List.length (ofN B32 Sg)) c1)] ?_
          refine xcv 80 (ct_spec_l2Word (Sg) (A1) (c1) hSg) (zsS (ziS zi0) zs0) ?_
          refine xy [(3, [3])] [] [(3, [.int .i64 3, .bool nb, .int .u64 (hiI Sg), .int .u64 (loI Sg), .int .i64 0])] ?_
          refine xg ?_
          refine xn 1 [] [(82, .pointer (some ⟨g, 0, none⟩))] ?_
          (refine xcm 83 [true] (ct_spec_l1Reader_next (g) (A) (c) (bt) (((i' : Nat) : Int)) (i') ⟨rfl⟩ hi' hx dx) (zsS zi0 zs0) (fun zz => ?_); obtain ⟨⟨z10, z11⟩, p12⟩ := zz)
          refine xn 4 [] [(85, .pointer (some ⟨g, 0, none⟩)), (84, .int .i64 (IntKind.wrap IntKind.i64 ((z11 : Int) * 256)))] ?_
          (refine xcm 86 [true] (ct_spec_l1Reader_next (g) (A) (c) (bt) ((z10 : Int)) (z10) ⟨rfl⟩ (by omega) hx dx) (zsS zi0 zs0) (fun zz => ?_); obtain ⟨⟨z13, z14⟩, p15⟩ := zz)
          refine xz [] [(11, .int .i64 (IntKind.wrap IntKind.i64 (IntKind.wrap IntKind.i64 ((z11 : Int) * 256) + (z14 : Int))))] ?_
          refine xg ?_
          refine xn 1 [] [(88, .pointer (some ⟨g, 0, none⟩))] ?_
          (refine xcm 89 [true] (ct_spec_l1Reader_next (g) (A) (c) (bt) ((z13 : Int)) (z13) ⟨rfl⟩ (by omega) hx dx) (zsS zi0 zs0) (fun zz => ?_); obtain ⟨⟨z16, z17⟩, p18⟩ := zz)
          refine xz [] [(90, .int .i64 (Int.tmod (z17 : Int) 4))] ?_
          refine SW_block ?_
          refine xr [] [(102, .bool (Int.tmod (z17 : Int) 4 == 0))] ?_
          refine xs (Int.tmod (z17 : Int) 4 == 0) (fun q6 => ?_) (fun q6 => ?_)
          ·refine xql [(4, [2]), (8, [3])] [] [(3, [.int .i64 3, .bool nb, .int .u64 (hiI Sg), .int .u64 (loI Sg), .int .i64 (IntKind.wrap IntKind.i64 (IntKind.wrap IntKind.i64 (IntKind.wrap IntKind.i64 (Int.tmod (IntKind.wrap IntKind.i64 (IntKind.wrap IntKind.i64 ((z11 : Int) * 256) + (z14 : Int))) 120 - 60) - (P : Int)) + 1))])] ?_
           refine ⟨(z16), (3 : Int), (nb), (Sg), (IntKind.wrap IntKind.i64 (IntKind.wrap IntKind.i64 (IntKind.wrap IntKind.i64 (Int.tmod (IntKind.wrap IntKind.i64 (IntKind.wrap IntKind.i64 ((z11 : Int) * 256) + (z14 : Int))) 120 - 60) - (P : Int)) + 1) : Int), ?_, ?_, ?_, xw2 [true, true, false, true] (zsS zi0 zs0)⟩
           ·omega
           ·exact hSg
           ·exact wrap_rng _
          ·refine xr [] [(112, .bool (Int.tmod (z17 : Int) 4 == 1))] ?_
           refine xs (Int.tmod (z17 : Int) 4 == 1) (fun q7 => ?_) (fun q7 => ?_)
           ·refine xql [(5, [3])] [] [(3, [.int .i64 3, .bool nb, .int .u64 (hiI Sg), .int .u64 (loI Sg), .int .i64 (IntKind.wrap IntKind.i64 (emin - (P : Int) + 1 + Int.tmod (IntKind.wrap IntKind.i64 (IntKind.wrap IntKind.i64 ((z11 : Int) * 256) + (z14 : Int))) 3))])] ?_
            refine ⟨(z16), (3 : Int), (nb), (Sg), (IntKind.wrap IntKind.i64 (emin - (P : Int) + 1 + Int.tmod (IntKind.wrap IntKind.i64 (IntKind.wrap IntKind.i64 ((z11 : Int) * 256) + (z14 : Int))) 3) : Int), ?_, ?_, ?_, xw2 [true, true, false, true] (zsS zi0 zs0)⟩
            ·omega
            ·exact hSg
            ·exact wrap_rng _
           ·refine xr [] [(119, .bool (Int.tmod (z17 : Int) 4 == 2))] ?_
            refine xs (Int.tmod (z17 : Int) 4 == 2) (fun q8 => ?_) (fun q8 => ?_)
            ·refine xql [(1, [2]), (3, [2]), (10, [3])] [] [(3, [.int .i64 3, .bool nb, .int .u64 (hiI Sg), .int .u64 (loI Sg), .int .i64 (IntKind.wrap IntKind.i64 (IntKind.wrap IntKind.i64 (IntKind.wrap IntKind.i64 (emax - (P : Int)) + 1) - Int.tmod (IntKind.wrap IntKind.i64 (IntKind.wrap IntKind.i64 ((z11 : Int) * 256) + (z14 : Int))) 3))])] ?_
             refine ⟨(z16), (3 : Int), (nb), (Sg), (IntKind.wrap IntKind.i64 (IntKind.wrap IntKind.i64 (IntKind.wrap IntKind.i64 (emax - (P : Int)) + 1) - Int.tmod (IntKind.wrap IntKind.i64 (IntKind.wrap IntKind.i64 ((z11 : Int) * 256) + (z14 : Int))) 3) : Int), ?_, ?_, ?_, xw2 [true, true, false, true] (zsS zi0 zs0)⟩
             ·omega
             ·exact hSg
             ·exact wrap_rng _
            ·refine SW_region ?_
             refine xn 8 [(3, [2]), (5, [2])] [(98, .int .i64 (IntKind.wrap IntKind.i64 (IntKind.wrap IntKind.i64 (emax - emin) + 1))), (92, .int .i64 (IntKind.wrap IntKind.i64 (IntKind.wrap IntKind.i64 ((z11 : Int) * 256) + (z14 : Int)))), (91, .int .i64 (emin - (P : Int) + 1))] ?_
             refine xqri 99 (IntKind.wrap IntKind.i64 (IntKind.wrap IntKind.i64 ((z11 : Int) * 256) + (z14 : Int))) (IntKind.wrap IntKind.i64 (IntKind.wrap IntKind.i64 (emax - emin) + 1)) ((((z11) * 256) + (z14))) ((Int.toNat (emax - emin + 1))) (Nn.w (Nn.add (Nn.w (Nn.mul ⟨rfl⟩ ⟨rfl⟩) (by omega)) ⟨rfl⟩) (by omega)) vd (by omega) (by omega) ?_
             refine xy [(11, [3])] [] [(3, [.int .i64 3, .bool nb, .int .u64 (hiI Sg), .int .u64 (loI Sg), .int .i64 (IntKind.wrap IntKind.i64 (emin - (P : Int) + 1 + ((((z11 * 256 + z14) % Int.toNat (emax - emin + 1)) : Nat) : Int)))])] ?_
             refine ⟨(z16), (3 : Int), (nb), (Sg), (IntKind.wrap IntKind.i64 (emin - (P : Int) + 1 + ((((z11 * 256 + z14) % Int.toNat (emax - emin + 1)) : Nat) : Int)) : Int), ?_, ?_, ?_, xw2 [true, true, false, true] (zsS zi0 zs0)⟩
             ·omega
             ·exact hSg
             ·exact wrap_rng _
  ·rintro s' ⟨i', cc, n2, S, q, hi', hS, hq, hw⟩
   refine SW_weak2 hw ?_
   clear hw
   have zq : Zn q q := ⟨rfl, hq.1, hq.2⟩
   obtain ⟨r, er⟩ : ∃ r, packR P emin emax W E ex cc n2 S q = r := ⟨_, rfl⟩
   have hr1 : r.1 < B128 := by rw [← er]; exact packR_lt h
   have cp := ct_spec_Pack' h f' hs cc n2 (hiI S) (loI S) S ⟨rfl, rfl⟩ hS q q zq
   rw [er] at cp
   have z7n : Nn (IntKind.u64.wrap (IntKind.i64.wrap (1 + Int.tmod (z5 : Int) 7))) (1 + z5 % 7) := by
    have e : Int.tmod (z5 : Int) 7 = ((z5 % 7 : Nat) : Int) := by rw [Int.tmod_eq_emod_of_nonneg (by omega)]; omega
    rw [e]
    exact Nn.u (Nn.wrap (by omega) (by omega)) (by omega)
   have w7 : Wd 0 (IntKind.u64.wrap (IntKind.i64.wrap (1 + Int.tmod (z5 : Int) 7))) (1 + z5 % 7) := by
    rw [z7n.out]
    exact ⟨by unfold hiI; omega, by unfold loI; omega⟩
   have b7 : 1 + z5 % 7 < B128 := Nat.lt_trans (show 1 + z5 % 7 < 8 by omega) (by decide)
   have zq0 : Zn (emin - (P : Int) + 1) (emin - (P : Int) + 1) := ⟨rfl, hq0.1, hq0.2⟩
   obtain ⟨r1, r2⟩ := r
   dsimp only at cp hr1
   cases r2 with
   | true =>
    refine xg ?_
    refine xn 2 [(1, [2])] [(185, .agg #[.int .i64 cc, .bool n2, .int .u64 (hiI S), .int .u64 (loI S), .int .i64 q]), (184, .int .i64 f')] ?_
    refine xcv 186 cp zs0 ?_
    refine xn 6 [] [(188, .bool true), (187, .agg #[.int .u64 (hiI r1), .int .u64 (loI r1)])] ?_
    refine xb 12 [.int .u64 0, .int .u64 0] 25 (fun g3 => ?_)
    refine xy [(7, [3])] [(13, .bool true)] [(3, [.int .u64 (hiI r1), .int .u64 (loI r1)])] ?_
    refine SW_seq ?_
    refine xr [] [(190, .bool false)] ?_
    refine xs0 ?_
    refine SW_skip ?_
    refine xq [(0, [3]), (1, [1])] [] [(1, [.int .u64 (hiI r1), .int .u64 (loI r1)])] ?_
    refine SW_ret ?_
    refine xmeg (.agg #[.int .u64 (hiI r1), .int .u64 (loI r1)]) [1] ?_
    exact ⟨⟨(i', r1), hi', hr1⟩, [true], rfl, rfl, zs0⟩
   | false =>
    refine xg ?_
    refine xn 2 [(1, [2])] [(185, .agg #[.int .i64 cc, .bool n2, .int .u64 (hiI S), .int .u64 (loI S), .int .i64 q]), (184, .int .i64 f')] ?_
    refine xcv 186 cp zs0 ?_
    refine xn 6 [] [(188, .bool false), (187, .agg #[.int .u64 (hiI r1), .int .u64 (loI r1)])] ?_
    refine xb 12 [.int .u64 0, .int .u64 0] 25 (fun g3 => ?_)
    refine xy [(7, [3])] [(13, .bool false)] [(3, [.int .u64 (hiI r1), .int .u64 (loI r1)])] ?_
    refine SW_seq ?_
    refine xr [] [(190, .bool true)] ?_
    refine xs1 ?_
    refine SW_region ?_
    refine xn 9 [] [(200, .agg #[.int .i64 2, .bool nb, .int .u64 0, .int .u64 (IntKind.wrap IntKind.u64 (IntKind.wrap IntKind.i64 (1 + Int.tmod (z5 : Int) 7))), .int .i64 (emin - (P : Int) + 1)]), (192, .int .i64 f')] ?_
    refine xcv 201 (ct_spec_Pack' h (f') hs (2) (nb) (0) (IntKind.wrap IntKind.u64 (IntKind.wrap IntKind.i64 (1 + Int.tmod (z5 : Int) 7))) (1 + z5 % 7) w7 b7 (emin - (P : Int) + 1) (emin - (P : Int) + 1) zq0) zs0 ?_
    refine xy [(13, [3])] [] [(3, [.int .u64 (hiI (Prod.fst (packR P emin emax W E ex 2 nb (1 + z5 % 7) (emin - (P : Int) + 1)))), .int .u64 (loI (Prod.fst (packR P emin emax W E ex 2 nb (1 + z5 % 7) (emin - (P : Int) + 1))))])] ?_
    refine xq [(0, [3]), (1, [1])] [] [(1, [.int .u64 (hiI (Prod.fst (packR P emin emax W E ex 2 nb (1 + z5 % 7) (emin - (P : Int) + 1)))), .int .u64 (loI (Prod.fst (packR P emin emax W E ex 2 nb (1 + z5 % 7) (emin - (P : Int) + 1))))])] ?_
    refine SW_ret ?_
    refine xmeg (.agg #[.int .u64 (hiI (Prod.fst (packR P emin emax W E ex 2 nb (1 + z5 % 7) (emin - (P : Int) + 1)))), .int .u64 (loI (Prod.fst (packR P emin emax W E ex 2 nb (1 + z5 % 7) (emin - (P : Int) + 1))))]) [1] ?_
    exact ⟨⟨(i', (packR P emin emax W E ex 2 nb (1 + z5 % 7) (emin - (P : Int) + 1)).1), hi', packR_lt h⟩, [true], rfl, rfl, zs0⟩
theorem ct_spec_DrawUnpack (A : Option Addr) (c : Nat) (bt : List Int) (hx : bt.length ≤ 1048576) (dx : Dig 256 bt) :
  Ct Tryd.prog 32 [.slice A bt.length c] [Row .u8 A c bt] (γ := {p : Int × Nat // (-1000 ≤ p.1 ∧ p.1 ≤ 1000) ∧ p.2 < B128}) (fun p => .tuple #[.int .i64 p.1.1, .agg #[.int .u64 (hiI p.1.2), .int .u64 (loI p.1.2)]]) (fun _ => []) := by
 have h0 : 0 ≤ bt.length := Nat.zero_le _
 refine ct_of Tryd.func32 rfl (by kernel_rfl) (fun B w0 => ?_)
 refine xg ?_
 refine xn 1 [] [(2, .int .i64 0)] ?_
 refine xb 3 [.int .u64 0, .int .u64 0] 25 (fun g0 => ?_)
 refine xz [] [] ?_
 refine xg ?_
 refine xn 2 [] [(7, .agg #[.slice A (List.length bt) c, .int .i64 0])] ?_
 refine xb 8 [.slice A (List.length bt) c, .int .i64 0] 119 (fun g1 => ?_)
 refine xz [] [(4, .pointer (some ⟨g1, 0, none⟩))] ?_
 refine xg ?_
 refine xn 1 [] [(9, .pointer (some ⟨g1, 0, none⟩))] ?_
 (refine xcm 10 [false, true] (ct_spec_l1Reader_format (g1) (A) (c) (bt) (0) (0) ⟨rfl⟩ h0 hx dx) (zsS zi0 zs0) (fun zz => ?_); obtain ⟨⟨z0, z1⟩, p2⟩ := zz)
 refine xz [] [(5, .int .i64 z1)] ?_
 refine xg ?_
 refine xn 3 [] [(13, .int .i64 z1), (12, .pointer (some ⟨g1, 0, none⟩)), (11, .int .i64 z1)] ?_
 (refine xcm 14 [false, true] (ct_spec_l1Reader_word (z1) (g1) (A) (c) (bt) ((z0 : Int)) (z0) ⟨rfl⟩ (by omega) hx dx) (zsS zi0 zs0) (fun zz => ?_); obtain ⟨⟨z3, z4⟩, p5⟩ := zz)
 refine xy [(5, [0])] [(2, .int .i64 z1)] [(0, [.int .u64 (hiI z4), .int .u64 (loI z4)])] ?_
 refine SW_ret ?_
 refine xe ?_ (.tuple #[.int .i64 z1, .agg #[.int .u64 (hiI z4), .int .u64 (loI z4)]]) [0] ?_ ?_
 ·exact ⟨(z1, z4), p2.2, p5.2⟩
 ·rfl
 ·exact zs0
end Go.Proofs.YtdbnmdchecacdaaDoor.M
end
section
namespace Go.Proofs.YtdbnmdchecacdaaDoor.M
open Go.RowKit Go.Proofs.YtdbnmdchecacdaaDoor.G Go.Proofs.YtdbnmdchecacdaaDoorV.PrintWords Go.Proofs.YtdbnmdchecacdaaDoorV.PrintLast Go.Proofs.YtdbnmdchecacdaaDoor.X
set_option linter.unusedVariables false
set_option linter.unusedSimpArgs false
theorem p70 {x k n : Nat} (hx : x < 2 ^ k) : x * 2 ^ n + 1 < 2 ^ (k + (n + 1)) := by
 have h1 : 2 ^ (k + (n + 1)) = 2 ^ k * 2 ^ n * 2 := by rw [← Nat.add_assoc, Nat.pow_succ, Nat.pow_add]
 have h2 : (x + 1) * 2 ^ n ≤ 2 ^ k * 2 ^ n := Nat.mul_le_mul_right _ hx
 have h3 := Nat.pow_pos (n := n) (show 0 < 2 by decide)
 rw [Nat.add_mul, Nat.one_mul] at h2
 omega
theorem one70 {x n : Nat} (h : 0 < x) (hn : 1 ≤ n) : 1 < x * 2 ^ n := by
 have h1 : 2 ^ 1 ≤ 2 ^ n := Nat.pow_le_pow_right (by decide) hn
 have h2 : 1 * 2 ^ n ≤ x * 2 ^ n := Nat.mul_le_mul_right _ h
 omega
theorem ct_spec_DrawBounds (A : Option Addr) (c : Nat) (bt : List Int) (hx : bt.length ≤ 1048576) (dx : Dig 256 bt) :
  Ct Tryd.prog 40 [.slice A bt.length c] [Row .u8 A c bt] (γ := {p : Int × Nat // (-1000 ≤ p.1 ∧ p.1 ≤ 1000) ∧ p.2 < B128}) (fun p => .tuple #[.int .i64 p.1.1, .agg #[.int .u64 (hiI p.1.2), .int .u64 (loI p.1.2)]]) (fun _ => []) := by
 refine ct_of Tryd.func40 rfl (by kernel_rfl) (fun B w0 => ?_)
 refine xg ?_
 refine xn 1 [] [(2, .int .i64 0)] ?_
 refine xb 3 [.int .u64 0, .int .u64 0] 25 (fun g0 => ?_)
 refine xz [] [] ?_
 refine xg ?_
 refine xn 1 [] [(4, .slice A (List.length bt) c)] ?_
 (refine xck 5 (ct_spec_DrawUnpack (A) (c) (bt) hx dx) (zsS zi0 zs0) (fun zz => ?_); obtain ⟨⟨z0, z1⟩, p2⟩ := zz)
 refine xy [(5, [0])] [(2, .int .i64 z0)] [(0, [.int .u64 (hiI z1), .int .u64 (loI z1)])] ?_
 refine SW_ret ?_
 refine xe ?_ (.tuple #[.int .i64 z0, .agg #[.int .u64 (hiI z1), .int .u64 (loI z1)]]) [0] ?_ ?_
 ·exact ⟨(z0, z1), p2⟩
 ·rfl
 ·exact zs0
theorem bounds_both (f : Int) (x : Nat) (hx : x < B128) :
  (CtV Tryd.prog 25 [.int .i64 f, .agg #[.int .u64 (hiI x), .int .u64 (loI x)]] [] (.agg #[.slice none 0 0, .slice none 0 0, .slice none 0 0, .bool false, .bool false]) ∧
   CtV Tryd.prog 26 [.int .i64 f, .agg #[.int .u64 (hiI x), .int .u64 (loI x)]] [Tabled] (.agg #[.slice none 0 0, .slice none 0 0, .slice none 0 0, .bool false, .bool false])) ∨
  ∃ (P : Nat) (emin emax : Int) (W E : Nat) (ex : Bool) (c : Int) (neg : Bool) (S : Nat) (q : Int), FD f P emin emax W E ex ∧ unpN P emin emax W E ex x = (c, neg, hiI S, loI S, q) ∧ VP P emin emax c S q ∧ (c = 2 ∨ c = 3) := by
 rcases fd_or f with ⟨_, P, emin, emax, W, E, ex, d⟩ | ⟨_, hs, hl⟩
 ·have cs := ct_spec_Unpack d.h.toFmt f d.sf x hx
  have ci := ct_impl_Unpack d.h.toFmt f d.lf x hx
  rcases unp_form d.h x with hu | hu | ⟨c, neg, S, q, hu, hSl, hv⟩
  ·rw [hu, badP, prtV] at cs ci
   exact .inl ⟨ct_spec_Bounds0 (P := P) (emin := emin) (emax := emax) (W := W) (E := E) (ex := ex) 0 (by decide) _ _ _ _ _ _ cs, ct_impl_Bounds0 0 (by decide) _ _ _ _ _ _ _ _ _ _ _ _ _ (ct_impl_layoutOf f d.lf) ci⟩
  ·rw [hu, prtV] at cs ci
   exact .inl ⟨ct_spec_Bounds0 (P := P) (emin := emin) (emax := emax) (W := W) (E := E) (ex := ex) 5 (by decide) _ _ _ _ _ _ cs, ct_impl_Bounds0 5 (by decide) _ _ _ _ _ _ _ _ _ _ _ _ _ (ct_impl_layoutOf f d.lf) ci⟩
  ·by_cases hc : c = 2 ∨ c = 3
   ·exact .inr ⟨P, emin, emax, W, E, ex, c, neg, S, q, d, hu, hv, hc⟩
   ·rw [hu, prtV] at cs ci
    exact .inl ⟨ct_spec_Bounds0 (P := P) (emin := emin) (emax := emax) (W := W) (E := E) (ex := ex) c (by omega) _ _ _ _ _ _ cs, ct_impl_Bounds0 c (by omega) _ _ _ _ _ _ _ _ _ _ _ _ _ (ct_impl_layoutOf f d.lf) ci⟩
 ·have cs := ct_spec_Unpack' f hs (hiI x) (loI x)
  have ci := ct_impl_Unpack' f hl (hiI x) (loI x)
  exact .inl ⟨ct_spec_Bounds0 (P := 0) (emin := 0) (emax := 0) (W := 0) (E := 0) (ex := false) 0 (by decide) _ _ _ _ _ _ cs, ct_impl_Bounds0 0 (by decide) _ _ _ _ _ _ _ _ _ _ _ _ _ (ct_impl_layoutOf' f hl) ci⟩
theorem rr_word {P : Nat} {emin emax : Int} {W E : Nat} {ex : Bool} {f : Int} (d : FD f P emin emax W E ex) {c : Int} {S : Nat} {q : Int} (hv : VP P emin emax c S q) (hc : c = 2 ∨ c = 3) (X Y k : Nat) (hX : 0 < X) (hY : 0 < Y) (hX1 : X < 2 ^ k) (hY1 : Y < 2 ^ k) (hk : k ≤ 76800) (pw : Nat) (hp : (packR P emin emax W E ex c false S q).1 = pw) :
  ∃ (r : Nat) (fl : Int), (∀ A c A' c', CtV Tryd.prog 37 [.int .i64 f, .bool false, .slice A (ofN B64 X).length c, .slice A' (ofN B64 Y).length c'] [Tabled, Row .u64 A c (ofN B64 X), Row .u64 A' c' (ofN B64 Y)] (.agg #[.int .u64 (hiI r), .int .u64 (loI r), .int .i64 fl, .bool true])) ∧
   (((hiI r == hiI pw) && (loI r == loI pw)) = true ↔ inB (lo4 P emin S q) (hi4 S) S (rrN X q) (rrD Y q)) := by
 subst hp
 obtain ⟨m, hm⟩ := bits_ex X
 obtain ⟨n, hn⟩ := bits_ex Y
 have hm1 := (bits_lt hm).2 hX1
 have hn1 := (bits_lt hn).2 hY1
 have h := d.h
 have p0 := h.p0
 obtain ⟨⟨bS0, bS1⟩, bq0, bq1, bS2, bS3⟩ := vp_fin h d.x1 hv hc
 obtain ⟨f1, f2, f3⟩ := rrSQ_form (P := P) (emin := emin) hm hn hX hY (by omega)
 have e : roundN P emin emax W E ex false X Y m n = rrW P emin emax W E ex false (rrSQ P emin X Y m n) := if_neg (by omega)
 refine ⟨(roundN P emin emax W E ex false X Y m n).1, (roundN P emin emax W E ex false X Y m n).2, fun A c A' c' => ct_impl_RoundRatio d false X Y m n A A' c c' hY hm hn (by omega) (by omega), ?_⟩
 rw [hilo_eq, decide_eq_true_iff, e, word_iff h d.x1 hv hc f1 f2 f3]
 exact rr_iff h.p3 hm hn hX hY bS0 bS1 bq0 bS3
theorem ct_laws_FnBounds (A : Option Addr) (c : Nat) (bt : List Int) (dx : Dig 256 bt) :
  CtV Tryd.prog 10 [.slice A bt.length c] [Tabled, Row .u8 A c bt] (.bool true) := by
 by_cases hx : bt.length ≤ 1048576
 ·have z0 : decide ((bt.length : Int) > 1048576) = false := decide_eq_false (by omega)
  refine ct_of Tryd.func10 rfl (by kernel_rfl) (fun B w0 => ?_)
  have noweak := True.intro
  refine xr [] [(2, .bool false)] ?_
  refine SW_seq ?_
  refine xr [] [(20, .bool (decide ((((List.length bt) : Nat) : Int) > 1048576)))] ?_
  refine xsf z0 ?_
  refine SW_skip ?_
  refine xg ?_
  refine xn 1 [] [(22, .slice A (List.length bt) c)] ?_
  (refine xck 23 (ct_spec_DrawBounds (A) (c) (bt) hx dx) (zsS (ziS zi0) zs0) (fun zz => ?_); obtain ⟨⟨z1, z2⟩, p3⟩ := zz)
  refine xn 5 [] [(25, .agg #[.int .u64 (hiI z2), .int .u64 (loI z2)]), (24, .int .i64 z1)] ?_
  refine xb 4 [.int .u64 0, .int .u64 0] 25 (fun g0 => ?_)
  refine xy [(7, [0])] [(3, .int .i64 z1)] [(0, [.int .u64 (hiI z2), .int .u64 (loI z2)])] ?_
  refine xg ?_
  refine xn 2 [(1, [0])] [(27, .agg #[.int .u64 (hiI z2), .int .u64 (loI z2)]), (26, .int .i64 z1)] ?_
  rcases bounds_both z1 z2 p3.2 with ⟨ws, wi⟩ | ⟨P, emin, emax, W, E, ex, cc, neg, S, q, d, hu, hv, hc⟩
  ·refine xcv 28 wi (zsS zi0 zs0) ?_
   refine xb 5 [.slice none 0 0, .slice none 0 0, .slice none 0 0, .bool false, .bool false] 43 (fun g1 => ?_)
   refine xy [(4, [1])] [] [] ?_
   refine xg ?_
   refine xn 2 [(1, [0])] [(30, .agg #[.int .u64 (hiI z2), .int .u64 (loI z2)]), (29, .int .i64 z1)] ?_
   refine xcv 31 ws zs0 ?_
   refine xb 6 [.slice none 0 0, .slice none 0 0, .slice none 0 0, .bool false, .bool false] 43 (fun g2 => ?_)
   refine xy [(4, [2])] [] [] ?_
   refine SW_seq ?_
   refine xr [(1, [1]), (3, [2]), (7, [1]), (9, [2])] [(43, .bool false)] ?_
   refine xs0 ?_
   refine SW_skip ?_
   refine SW_seq ?_
   refine xr [(1, [2])] [(46, .bool true)] ?_
   refine xs1 ?_
   refine xr [(1, [1]), (6, [1]), (12, [1])] [(2, .bool true)] ?_
   refine SW_ret ?_
   refine xe () (.bool true) [] ?_ trivial
   rfl
  ·have h := d.h
   have hs := d.sf
   have b128 : 2 ^ P < B128 := Nat.pow_lt_pow_right (a := 2) (n := 128) (by decide) (by have := h.p1; omega)
   obtain ⟨⟨bS0, bS1⟩, bq0, bq1, bS2, bS3⟩ := vp_fin h d.x1 hv hc
   have bS : S < B128 := by omega
   have m0 := h.m0
   have m1 := h.m1
   have p1 := h.p1
   have zq : Zn q q := ⟨rfl, by omega, by omega⟩
   obtain ⟨k, hk, hlt, l1, l2, l3⟩ := bnd_sm h d.x1 hv hc
   obtain ⟨h1, h2, h3⟩ := hlt
   obtain ⟨n7, hn7⟩ : ∃ n : Nat, n = 70 := ⟨_, rfl⟩
   have h6 := six (P := P) (emin := emin) (q := q) bS0 n7 (by omega) _ _ _ rfl rfl rfl
   obtain ⟨u, hu2⟩ : ∃ u, bndN P emin S q = u := ⟨_, rfl⟩
   have ci := ct_impl_Bounds d z2 p3.2 cc neg S q hu hv hc u hu2
   have cs := ct_spec_Bounds d z2 p3.2 cc neg S q hu hv hc u hu2
   rw [hu2] at h1 h2 h3 l1 l2 l3 h6
   obtain ⟨lo, hi, dn⟩ := u
   dsimp only at h1 h2 h3 l1 l2 l3 h6
   have cu := ct_spec_Unpack h.toFmt z1 hs z2 p3.2
   rw [hu, prtV] at cu
   dsimp only at cu
   have cp := ct_spec_Pack' h z1 hs cc false (hiI S) (loI S) S ⟨rfl, rfl⟩ bS q q zq
   obtain ⟨pw, ep⟩ : ∃ r, (packR P emin emax W E ex cc false S q).1 = r := ⟨_, rfl⟩
   have hN7 : Nn 70 n7 := ⟨by rw [hn7]; rfl⟩
   have g70 : ∀ x, x < 2 ^ k → x * 2 ^ n7 + 1 < 2 ^ (k + (n7 + 1)) := fun x hx => p70 hx
   obtain ⟨K, hK, hK2⟩ : ∃ K, K = k + (n7 + 1) ∧ K ≤ 76800 := ⟨_, rfl, by omega⟩
   rw [← hK] at g70
   have a1 : 1 < lo * 2 ^ n7 := one70 l1 (by omega)
   have a2 : 1 < hi * 2 ^ n7 := one70 l2 (by omega)
   have a3 : 1 < dn * 2 ^ n7 := one70 l3 (by omega)
   have i1 := g70 lo h1
   have i2 := g70 hi h2
   have i3 := g70 dn h3
   clear hK
   obtain ⟨r1, f1, c1, e1⟩ := rr_word d hv hc (lo * 2 ^ n7) (dn * 2 ^ n7) K (Nat.lt_of_succ_lt a1) (Nat.lt_of_succ_lt a3) (Nat.lt_of_succ_lt i1) (Nat.lt_of_succ_lt i3) hK2 pw ep
   obtain ⟨r2, f2, c2, e2⟩ := rr_word d hv hc (hi * 2 ^ n7) (dn * 2 ^ n7) K (Nat.lt_of_succ_lt a2) (Nat.lt_of_succ_lt a3) (Nat.lt_of_succ_lt i2) (Nat.lt_of_succ_lt i3) hK2 pw ep
   obtain ⟨r3, f3, c3, e3⟩ := rr_word d hv hc (lo * 2 ^ n7 - 1) (dn * 2 ^ n7) K (Nat.sub_pos_of_lt a1) (Nat.lt_of_succ_lt a3) (Nat.lt_of_le_of_lt (Nat.sub_le _ _) (Nat.lt_of_succ_lt i1)) (Nat.lt_of_succ_lt i3) hK2 pw ep
   obtain ⟨r4, f4, c4, e4⟩ := rr_word d hv hc (lo * 2 ^ n7 + 1) (dn * 2 ^ n7) K (Nat.succ_pos _) (Nat.lt_of_succ_lt a3) (i1) (Nat.lt_of_succ_lt i3) hK2 pw ep
   obtain ⟨r5, f5, c5, e5⟩ := rr_word d hv hc (hi * 2 ^ n7 - 1) (dn * 2 ^ n7) K (Nat.sub_pos_of_lt a2) (Nat.lt_of_succ_lt a3) (Nat.lt_of_le_of_lt (Nat.sub_le _ _) (Nat.lt_of_succ_lt i2)) (Nat.lt_of_succ_lt i3) hK2 pw ep
   obtain ⟨r6, f6, c6, e6⟩ := rr_word d hv hc (hi * 2 ^ n7 + 1) (dn * 2 ^ n7) K (Nat.succ_pos _) (Nat.lt_of_succ_lt a3) (i2) (Nat.lt_of_succ_lt i3) hK2 pw ep
   obtain ⟨s1, s2, s3, s4, s5, s6⟩ := h6
   have y1 : (((hiI r1 == hiI pw) && (loI r1 == loI pw)) == decide (S % 2 = 0)) = true := by rw [beq_iff_eq, Bool.eq_iff_iff, e1, s1, decide_eq_true_iff]
   have y2 : (((hiI r2 == hiI pw) && (loI r2 == loI pw)) == decide (S % 2 = 0)) = true := by rw [beq_iff_eq, Bool.eq_iff_iff, e2, s2, decide_eq_true_iff]
   have y3 : (!((hiI r3 == hiI pw) && (loI r3 == loI pw))) = true := by
    rw [Bool.not_eq_true', ← Bool.not_eq_true, e3]
    exact s3
   have y4 := e4.2 s4
   have y5 := e5.2 s5
   have y6 : (!((hiI r6 == hiI pw) && (loI r6 == loI pw))) = true := by
    rw [Bool.not_eq_true', ← Bool.not_eq_true, e6]
    exact s6
   clear e1 e2 e3 e4 e5 e6 s1 s2 s3 s4 s5 s6 g70
   have dg := fun x => (ofN_spec B64_2 x).1
   have dv := fun x => (ofN_spec B64_2 x).2.2
   have d1 : Dig B64 [1] := Dig.cons (by unfold B64; omega) (Dig.nil _)
   have v1 : val B64 [1] = 1 := by rw [val_one]; rfl
   have q1 : (ofN B64 (lo * 2 ^ n7)).length ≤ 1200 := len1200 (m := K) (Nat.lt_of_succ_lt i1) hK2
   have q2 : (ofN B64 (hi * 2 ^ n7)).length ≤ 1200 := len1200 (m := K) (Nat.lt_of_succ_lt i2) hK2
   have n1 := fun A c g => ct_spec_NatSub (lo * 2 ^ n7) 1 _ [1] (dg _) d1 q1 (by decide) (dv _) v1 (Nat.le_of_lt a1) A (some ⟨g, 0, none⟩) c 1
   have n2 := fun A c g => ct_spec_NatSub (hi * 2 ^ n7) 1 _ [1] (dg _) d1 q2 (by decide) (dv _) v1 (Nat.le_of_lt a2) A (some ⟨g, 0, none⟩) c 1
   have n3 := fun A c g => ct_spec_NatAdd (lo * 2 ^ n7) 1 _ [1] (dg _) d1 q1 (by decide) (dv _) v1 A (some ⟨g, 0, none⟩) c 1
   have n4 := fun A c g => ct_spec_NatAdd (hi * 2 ^ n7) 1 _ [1] (dg _) d1 q2 (by decide) (dv _) v1 A (some ⟨g, 0, none⟩) c 1
   have hk2 : k ≤ 76800 := by omega
   rw [ep] at cp
   obtain ⟨cl, ecl⟩ : ∃ b, decide (S % 2 = 0) = b := ⟨_, rfl⟩
   rw [ecl] at ci cs y1 y2
   have zc : (!(cl == cl)) = false := by simp
   (refine xck 28 ci (zsS zi0 zs0) (fun zz => ?_); obtain ⟨⟨z4, z5⟩, ⟨⟨z6, z7⟩, ⟨z8, z9⟩⟩⟩ := zz)
   refine xb 5 [.slice none 0 0, .slice none 0 0, .slice none 0 0, .bool false, .bool false] 43 (fun g1 => ?_)
   refine xy [(4, [1])] [] [(1, [.slice z4 (List.length (ofN B64 lo)) z5, .slice z6 (List.length (ofN B64 hi)) z7, .slice z8 (List.length (ofN B64 dn)) z9, .bool cl, .bool true])] ?_
   refine xg ?_
   refine xn 2 [(1, [0])] [(30, .agg #[.int .u64 (hiI z2), .int .u64 (loI z2)]), (29, .int .i64 z1)] ?_
   (refine xck 31 cs zs0 (fun zz => ?_); obtain ⟨⟨z10, z11⟩, ⟨⟨z12, z13⟩, ⟨z14, z15⟩⟩⟩ := zz)
   refine xb 6 [.slice none 0 0, .slice none 0 0, .slice none 0 0, .bool false, .bool false] 43 (fun g2 => ?_)
   refine xy [(4, [2])] [] [(2, [.slice z10 (List.length (ofN B64 lo)) z11, .slice z12 (List.length (ofN B64 hi)) z13, .slice z14 (List.length (ofN B64 dn)) z15, .bool cl, .bool true])] ?_
   refine SW_seq ?_
   refine xr [(1, [1]), (3, [2]), (7, [1]), (9, [2])] [(43, .bool !cl == cl)] ?_
   refine xsf zc ?_
   refine SW_skip ?_
   refine SW_seq ?_
   refine xr [(1, [2])] [(46, .bool false)] ?_
   refine xs0 ?_
   refine SW_skip ?_
   refine xg ?_
   refine xn 2 [(1, [0])] [(64, .agg #[.int .u64 (hiI z2), .int .u64 (loI z2)]), (63, .int .i64 z1)] ?_
   refine xcv 65 cu zs0 ?_
   refine xb 7 [.int .i64 0, .bool false, .int .u64 0, .int .u64 0, .int .i64 0] 27 (fun g3 => ?_)
   refine xy [(4, [3])] [] [(3, [.int .i64 cc, .bool neg, .int .u64 (hiI S), .int .u64 (loI S), .int .i64 q])] ?_
   refine xq [(1, [3])] [] [(3, [.int .i64 cc, .bool false, .int .u64 (hiI S), .int .u64 (loI S), .int .i64 q])] ?_
   refine xg ?_
   refine xn 2 [(1, [3])] [(69, .agg #[.int .i64 cc, .bool false, .int .u64 (hiI S), .int .u64 (loI S), .int .i64 q]), (68, .int .i64 z1)] ?_
   refine xcv 70 cp zs0 ?_
   refine xn 6 [] [(72, .bool (Prod.snd (packR P emin emax W E ex cc false S q))), (71, .agg #[.int .u64 (hiI pw), .int .u64 (loI pw)])] ?_
   refine xb 8 [.int .u64 0, .int .u64 0] 25 (fun g4 => ?_)
   refine xy [(7, [4])] [] [(4, [.int .u64 (hiI pw), .int .u64 (loI pw)])] ?_
   refine xg ?_
   refine xn 2 [(1, [1])] [(74, .slice z8 (List.length (ofN B64 dn)) z9)] ?_
   refine xcr 75 (ct_spec_NatShift (dn) (n7) (k) (70) hN7 (by omega) (z8) (z9) h3 hk2) (zsS (ziS (ziS (ziS (ziS (ziS zi0))))) zs0) (fun A0 k0 => ?_)
   refine xz [] [(10, .slice A0 (List.length (ofN B64 (dn * 2 ^ n7))) k0)] ?_
   refine xg ?_
   refine xn 2 [(1, [1])] [(77, .slice z4 (List.length (ofN B64 lo)) z5)] ?_
   refine xcr 78 (ct_spec_NatShift (lo) (n7) (k) (70) hN7 (by omega) (z4) (z5) h1 hk2) (zsS (ziS (ziS (ziS (ziS zi0)))) zs0) (fun A1 k1 => ?_)
   refine xz [] [(11, .slice A1 (List.length (ofN B64 (lo * 2 ^ n7))) k1)] ?_
   refine xg ?_
   refine xn 2 [(1, [1])] [(80, .slice z6 (List.length (ofN B64 hi)) z7)] ?_
   refine xcr 81 (ct_spec_NatShift (hi) (n7) (k) (70) hN7 (by omega) (z6) (z7) h2 hk2) (zsS (ziS (ziS (ziS (ziS (ziS (ziS zi0)))))) zs0) (fun A2 k2 => ?_)
   refine xz [] [(12, .slice A2 (List.length (ofN B64 (hi * 2 ^ n7))) k2)] ?_
   refine xg ?_
   refine xbl 82 [.int .u64 1] 22 1 (fun g5 => ?_)
   refine xz [] [(13, .slice (some ⟨g5, 0, none⟩) 1 1)] ?_
   refine xg ?_
   refine xn 2 [] [(85, .slice (some ⟨g5, 0, none⟩) 1 1), (84, .slice A1 (List.length (ofN B64 (lo * 2 ^ n7))) k1)] ?_
   refine NW_fz 5 1 g5 .u64 [1] [] 22 (by simp) (by simp) ?_
   clear noweak
   refine xct 86 (n1 _ _ _) (zsS (ziS (ziS zi0)) (zsS zi0 zs0)) (fun A3 k3 => ?_)
   refine xz [] [(14, .slice A3 (List.length (ofN B64 (lo * 2 ^ n7 - 1))) k3)] ?_
   refine xg ?_
   refine xn 2 [] [(91, .slice (some ⟨g5, 0, none⟩) 1 1), (90, .slice A2 (List.length (ofN B64 (hi * 2 ^ n7))) k2)] ?_
   refine xct 92 (n2 _ _ _) (zsS (ziS (ziS zi0)) (zsS (ziS zi0) zs0)) (fun A4 k4 => ?_)
   refine xz [] [(16, .slice A4 (List.length (ofN B64 (hi * 2 ^ n7 - 1))) k4)] ?_
   refine xd (fun hB => ?_)
   refine xdk [(0, []), (1, []), (2, []), (5, [4]), (7, []), (8, [2])] [(103, .bool cl), (100, .agg #[.int .u64 (hiI pw), .int .u64 (loI pw)]), (97, .slice A0 (List.length (ofN B64 (dn * 2 ^ n7))) k0), (96, .slice A1 (List.length (ofN B64 (lo * 2 ^ n7))) k1), (95, .int .i64 z1)] hB ?_
   refine xdv 3 98 (c1 _ _ _ _) (zsS (ziS (ziS (ziS (ziS (ziS (ziS (ziS (ziS (ziS (ziS (ziS (ziS zi0)))))))))))) (zsS (ziS (ziS (ziS (ziS zi0)))) (zsS (ziS (ziS (ziS (ziS (ziS zi0))))) zs0))) ?_
   refine xdk [(4, [])] [(99, .agg #[.int .u64 (hiI r1), .int .u64 (loI r1)])] hB ?_
   refine xdw 6 101 (.bool ((hiI r1 == hiI pw) && (loI r1 == loI pw))) hB (fun w _ _ => run_eql rfl (by kernel_rfl) (by kernel_rfl) (by kernel_rfl) w (eq_word _ _ _ _ _ w)) ?_
   refine xdk [(9, []), (10, [])] [(105, .bool ((hiI r1 == hiI pw && loI r1 == loI pw) == cl))] hB ?_
   refine xdnt 105 y1 ?_
   refine xdk [(11, []), (12, []), (13, []), (16, [4]), (18, []), (19, [2])] [(114, .bool cl), (111, .agg #[.int .u64 (hiI pw), .int .u64 (loI pw)]), (108, .slice A0 (List.length (ofN B64 (dn * 2 ^ n7))) k0), (107, .slice A2 (List.length (ofN B64 (hi * 2 ^ n7))) k2), (106, .int .i64 z1)] hB ?_
   refine xdv 14 109 (c2 _ _ _ _) (zsS (ziS (ziS (ziS (ziS (ziS (ziS (ziS (ziS (ziS (ziS (ziS (ziS zi0)))))))))))) (zsS (ziS (ziS (ziS zi0))) (zsS (ziS (ziS (ziS (ziS (ziS zi0))))) zs0))) ?_
   refine xdk [(15, [])] [(110, .agg #[.int .u64 (hiI r2), .int .u64 (loI r2)])] hB ?_
   refine xdw 17 112 (.bool ((hiI r2 == hiI pw) && (loI r2 == loI pw))) hB (fun w _ _ => run_eql rfl (by kernel_rfl) (by kernel_rfl) (by kernel_rfl) w (eq_word _ _ _ _ _ w)) ?_
   refine xdk [(20, []), (21, []), (22, [])] [(117, .bool ((hiI r2 == hiI pw && loI r2 == loI pw) == cl))] hB ?_
   refine xdnt 117 y2 ?_
   refine xdk [(23, []), (24, []), (25, []), (28, [4])] [(123, .agg #[.int .u64 (hiI pw), .int .u64 (loI pw)]), (120, .slice A0 (List.length (ofN B64 (dn * 2 ^ n7))) k0), (119, .slice A3 (List.length (ofN B64 (lo * 2 ^ n7 - 1))) k3), (118, .int .i64 z1)] hB ?_
   refine xdv 26 121 (c3 _ _ _ _) (zsS (ziS (ziS (ziS (ziS (ziS (ziS (ziS (ziS (ziS (ziS (ziS (ziS zi0)))))))))))) (zsS (ziS zi0) (zsS (ziS (ziS (ziS (ziS (ziS zi0))))) zs0))) ?_
   refine xdk [(27, [])] [(122, .agg #[.int .u64 (hiI r3), .int .u64 (loI r3)])] hB ?_
   refine xdw 29 124 (.bool (!((hiI r3 == hiI pw) && (loI r3 == loI pw)))) hB (fun w _ _ => run_neq rfl (by kernel_rfl) (by kernel_rfl) (by kernel_rfl) w (eq_word _ _ _ _ _ w)) ?_
   refine xdk [(30, []), (31, [])] [(126, .bool !(hiI r3 == hiI pw && loI r3 == loI pw))] hB ?_
   refine xdnt 126 y3 ?_
   refine xdk [(32, []), (33, []), (34, []), (36, []), (39, [4])] [(134, .agg #[.int .u64 (hiI pw), .int .u64 (loI pw)]), (131, .slice A0 (List.length (ofN B64 (dn * 2 ^ n7))) k0), (129, .slice (some ⟨g5, 0, none⟩) 1 1), (128, .slice A1 (List.length (ofN B64 (lo * 2 ^ n7))) k1), (127, .int .i64 z1)] hB ?_
   refine xdr 35 130 (n3 _ _ _) (zsS (ziS (ziS (ziS (ziS zi0)))) (zsS (ziS (ziS zi0)) zs0)) (fun A5 k5 => ?_)
   refine xdv 37 132 (c4 _ _ _ _) (zsS (ziS (ziS (ziS (ziS (ziS (ziS (ziS (ziS (ziS (ziS (ziS (ziS (ziS zi0))))))))))))) (zsS zi0 (zsS (ziS (ziS (ziS (ziS (ziS (ziS zi0)))))) zs0))) ?_
   refine xdk [(38, [])] [(133, .agg #[.int .u64 (hiI r4), .int .u64 (loI r4)])] hB ?_
   refine xdw 40 135 (.bool ((hiI r4 == hiI pw) && (loI r4 == loI pw))) hB (fun w _ _ => run_eql rfl (by kernel_rfl) (by kernel_rfl) (by kernel_rfl) w (eq_word _ _ _ _ _ w)) ?_
   refine xdk [(41, []), (42, [])] [(137, .bool (hiI r4 == hiI pw && loI r4 == loI pw))] hB ?_
   refine xdnt 137 y4 ?_
   refine xdk [(43, []), (44, []), (45, []), (48, [4])] [(143, .agg #[.int .u64 (hiI pw), .int .u64 (loI pw)]), (140, .slice A0 (List.length (ofN B64 (dn * 2 ^ n7))) k0), (139, .slice A4 (List.length (ofN B64 (hi * 2 ^ n7 - 1))) k4), (138, .int .i64 z1)] hB ?_
   refine xdv 46 141 (c5 _ _ _ _) (zsS (ziS (ziS (ziS (ziS (ziS (ziS (ziS (ziS (ziS (ziS (ziS (ziS (ziS zi0))))))))))))) (zsS (ziS zi0) (zsS (ziS (ziS (ziS (ziS (ziS (ziS zi0)))))) zs0))) ?_
   refine xdk [(47, [])] [(142, .agg #[.int .u64 (hiI r5), .int .u64 (loI r5)])] hB ?_
   refine xdw 49 144 (.bool ((hiI r5 == hiI pw) && (loI r5 == loI pw))) hB (fun w _ _ => run_eql rfl (by kernel_rfl) (by kernel_rfl) (by kernel_rfl) w (eq_word _ _ _ _ _ w)) ?_
   refine xdk [(50, []), (51, [])] [(146, .bool (hiI r5 == hiI pw && loI r5 == loI pw))] hB ?_
   refine xdnt 146 y5 ?_
   refine xdk [(52, []), (53, []), (54, []), (56, []), (59, [4])] [(154, .agg #[.int .u64 (hiI pw), .int .u64 (loI pw)]), (151, .slice A0 (List.length (ofN B64 (dn * 2 ^ n7))) k0), (149, .slice (some ⟨g5, 0, none⟩) 1 1), (148, .slice A2 (List.length (ofN B64 (hi * 2 ^ n7))) k2), (147, .int .i64 z1)] hB ?_
   refine xdr 55 150 (n4 _ _ _) (zsS (ziS (ziS (ziS (ziS zi0)))) (zsS (ziS (ziS (ziS zi0))) zs0)) (fun A6 k6 => ?_)
   refine xdv 57 152 (c6 _ _ _ _) (zsS (ziS (ziS (ziS (ziS (ziS (ziS (ziS (ziS (ziS (ziS (ziS (ziS (ziS (ziS zi0)))))))))))))) (zsS zi0 (zsS (ziS (ziS (ziS (ziS (ziS (ziS (ziS zi0))))))) zs0))) ?_
   refine xdk [(58, [])] [(153, .agg #[.int .u64 (hiI r6), .int .u64 (loI r6)])] hB ?_
   refine xdw 60 155 (.bool (!((hiI r6 == hiI pw) && (loI r6 == loI pw)))) hB (fun w _ _ => run_neq rfl (by kernel_rfl) (by kernel_rfl) (by kernel_rfl) w (eq_word _ _ _ _ _ w)) ?_
   refine xdk [(61, []), (62, [])] [(2, .bool !(hiI r6 == hiI pw && loI r6 == loI pw))] hB ?_
   refine xdz ?_
   refine SW_ret ?_
   refine xe () (.bool !(hiI r6 == hiI pw && loI r6 == loI pw)) [] ?_ trivial
   rw [y6]
 ·have z0 : decide ((bt.length : Int) > 1048576) = true := decide_eq_true (by omega)
  refine ct_of Tryd.func10 rfl (by kernel_rfl) (fun B w0 => ?_)
  refine xr [] [(2, .bool false)] ?_
  refine SW_seq ?_
  refine xr [] [(20, .bool (decide ((((List.length bt) : Nat) : Int) > 1048576)))] ?_
  refine xst z0 ?_
  refine xr [] [(2, .bool true)] ?_
  refine SW_ret ?_
  refine xe () (.bool true) [] ?_ trivial
  rfl
end Go.Proofs.YtdbnmdchecacdaaDoor.M
end
