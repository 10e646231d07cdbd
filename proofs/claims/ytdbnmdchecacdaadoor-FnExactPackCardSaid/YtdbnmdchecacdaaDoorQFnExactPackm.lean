import Derived.Test.YtdbnmdchecacdaaDoorQFnExactPackl
section
namespace Go.Proofs.YtdbnmdchecacdaaDoor.M
open Go.RowKit Go.Proofs.YtdbnmdchecacdaaDoor.G Go.Proofs.YtdbnmdchecacdaaDoorV.PrintWords Go.Proofs.YtdbnmdchecacdaaDoorV.PrintLast Go.Proofs.YtdbnmdchecacdaaDoorV.PrintMore Go.Proofs.YtdbnmdchecacdaaDoor.PL Go.Proofs.YtdbnmdchecacdaaDoor.X
set_option linter.unusedVariables false
set_option linter.unusedSimpArgs false
theorem ct_spec_l2Top {P : Nat} {emin emax : Int} {W E : Nat} {ex : Bool} (h : Fmt2 P emin emax W E ex) : CtV Tryd.prog 79 [dscV P emin emax W E ex] [] (.int .i64 ((2 ^ E - 1 : Nat) : Int)) := by
  have m1 := h.m1
  refine ct_of Tryd.func79 rfl (by kernel_rfl) (fun B w0 => ?_)
  refine SW_seq ?_
  refine SW_region ?_
  refine nn 1 1 [.int .i64 ((P : Nat) : Int), .int .i64 emin, .int .i64 emax, .int .i64 ((W : Nat) : Int), .int .i64 ((E : Nat) : Int), .bool ex] 83 (fun g => by kernel_rfl) rfl (fun g0 => ?_)
  refine nr 2 [] [(2, .int .i64 0)] [] (by kernel_rfl) rfl ?_
  refine NW_nil 2 (by kernel_rfl) ?_
  refine SW_seq ?_
  refine SW_region ?_
  refine nr 5 [(1, [0])] [(2, .int .i64 (IntKind.wrap IntKind.i64 (IntKind.wrap IntKind.i64 (2 * emax) + 1))), (6, .int .i64 (IntKind.wrap IntKind.i64 (IntKind.wrap IntKind.i64 (2 * emax) + 1))), (5, .int .i64 (IntKind.wrap IntKind.i64 (2 * emax))), (4, .int .i64 emax), (3, .pointer (some ⟨g0, 2, none⟩))] [g0] (by kernel_rfl) rfl ?_
  refine NW_nil 5 (by kernel_rfl) ?_
  refine SW_ret ?_
  refine rkr (.int .i64 (IntKind.wrap IntKind.i64 (IntKind.wrap IntKind.i64 (2 * emax) + 1))) [] [] (by kernel_rfl) () ?_ trivial
  rw [wsi (x := 2 * emax) (by omega), wsi (by omega), h.top]
theorem ct_spec_Pack {P : Nat} {emin emax : Int} {W E : Nat} {ex : Bool} (h : Fmt2 P emin emax W E ex) (f : Int) (hf : spec_Describe.f f = some ((P : Int), emin, emax, (W : Int), (E : Int), ex)) (c : Int) (neg : Bool) (S : Nat) (hS : S < B128) (q : Int) (hq : -9223372036854775808 ≤ q ∧ q ≤ 9223372036854775807) :
    CtV Tryd.prog 21 [.int .i64 f, .agg #[.int .i64 c, .bool neg, .int .u64 (hiI S), .int .u64 (loI S), .int .i64 q]] [] (.tuple #[.agg #[.int .u64 (hiI (packR P emin emax W E ex c neg S q).1), .int .u64 (loI (packR P emin emax W E ex c neg S q).1)], .bool (packR P emin emax W E ex c neg S q).2]) := by
  have h1 := h.toFmt
  refine ct_of Tryd.func21 rfl (by kernel_rfl) (fun B w0 => ?_)
  have p3 := h.p3
  have p1 := h.p1
  refine SW_seq ?_
  refine SW_region ?_
  refine nn 1 3 [.int .i64 c, .bool neg, .int .u64 (hiI S), .int .u64 (loI S), .int .i64 q] 27 (fun g => by kernel_rfl) rfl (fun g0 => ?_)
  refine nn 2 4 [.int .u64 0, .int .u64 0] 25 (fun g => by kernel_rfl) rfl (fun g1 => ?_)
  refine nr 3 [] [(5, .bool false)] [] (by kernel_rfl) rfl ?_
  refine NW_nil 3 (by kernel_rfl) ?_
  refine SW_seq ?_
  refine SW_region ?_
  refine nr 1 [] [(10, .int .i64 f)] [] (by kernel_rfl) rfl ?_
  refine ncv 2 11 (ct_spec_Describe (f) hf) (by kernel_rfl) rfl zs0 ?_
  refine nn 3 6 [.int .i64 0, .int .i64 0, .int .i64 0, .int .i64 0, .int .i64 0, .bool false] 83 (fun g => by kernel_rfl) rfl (fun g2 => ?_)
  refine nq 4 [(3, [2])] [] [⟨g0, [.int .i64 c, .bool neg, .int .u64 (hiI S), .int .u64 (loI S), .int .i64 q], 27⟩, ⟨g1, [.int .u64 0, .int .u64 0], 25⟩, ⟨g2, [.int .i64 ((P : Nat) : Int), .int .i64 emin, .int .i64 emax, .int .i64 ((W : Nat) : Int), .int .i64 ((E : Nat) : Int), .bool ex], 83⟩] [g2, g2, g2, g2, g2, g2] (by kernel_rfl) rfl ?_
  refine NW_nil 4 (by kernel_rfl) ?_
  refine SW_seq ?_
  refine SW_seq ?_
  refine SW_region ?_
  refine nr 3 [(1, [2])] [(14, .bool (((P : Nat) : Int) == 0)), (13, .int .i64 ((P : Nat) : Int)), (12, .pointer (some ⟨g2, 0, none⟩))] [g2] (by kernel_rfl) rfl ?_
  refine NW_nil 3 (by kernel_rfl) ?_
  refine sc (((P : Nat) : Int) == 0) (by kernel_rfl) (fun q0 => ?_) (fun q0 => ?_)
  · exfalso
    have := beq_iff_eq.1 q0
    omega
  · refine SW_skip ?_
    refine SW_seq ?_
    refine SW_region ?_
    refine nr 1 [] [(16, .agg #[.int .u64 0, .int .u64 0])] [] (by kernel_rfl) rfl ?_
    refine nn 2 7 [.int .u64 0, .int .u64 0] 25 (fun g => by kernel_rfl) rfl (fun g3 => ?_)
    refine nq 3 [(2, [3])] [] [⟨g0, [.int .i64 c, .bool neg, .int .u64 (hiI S), .int .u64 (loI S), .int .i64 q], 27⟩, ⟨g1, [.int .u64 0, .int .u64 0], 25⟩, ⟨g2, [.int .i64 ((P : Nat) : Int), .int .i64 emin, .int .i64 emax, .int .i64 ((W : Nat) : Int), .int .i64 ((E : Nat) : Int), .bool ex], 83⟩, ⟨g3, [.int .u64 0, .int .u64 0], 25⟩] [g3, g3] (by kernel_rfl) rfl ?_
    refine NW_nil 3 (by kernel_rfl) ?_
    refine SW_seq ?_
    refine SW_region ?_
    refine nr 2 [(1, [0])] [(18, .agg #[.int .u64 (hiI S), .int .u64 (loI S)]), (17, .pointer (some ⟨g0, 2, none⟩))] [g0, g0] (by kernel_rfl) rfl ?_
    refine ncr 3 19 (ct_spec_l2Of (S) hS) (by kernel_rfl) rfl zs0 (fun A0 k0 => ?_)
    refine nr 4 [] [(8, .slice A0 (List.length (ofN B32 S)) k0)] [] (by kernel_rfl) rfl ?_
    refine NW_nil 4 (by kernel_rfl) ?_
    have e0 : 0 < 2 ^ E := Nat.pow_pos (by decide)
    have e1 : 2 ^ E - 1 < 2 ^ E := by omega
    have nP2 : Nn (IntKind.i64.wrap ((P : Int) - 2)) (P - 2) := Nn.wrap (by omega) (by omega)
    have r2 : 2 ^ (P - 2) < 2 ^ (P - 1) := Nat.pow_lt_pow_right (by decide) (by omega)
    have nP1 : Nn (IntKind.i64.wrap ((P : Int) - 1)) (P - 1) := Nn.wrap (by omega) (by omega)
    have hlow : S % 2 ^ (P - 1) < 2 ^ (P - 1) := Nat.mod_lt _ (Nat.pow_pos (by decide))
    have h128 : 2 ^ W ≤ B128 := Nat.pow_le_pow_right (n := 2) (by decide) h1.w2
    have mk : ∀ n l e r, e < 2 ^ E → r < 2 ^ (P - 1) → makeN P W ex n l e r < B128 := fun n l e r he hr => Nat.lt_of_lt_of_le (makeN_lt h1 n l e r he hr) h128
    have z0 : 0 < 2 ^ (P - 1) := Nat.pow_pos (by decide)
    obtain ⟨m, hm⟩ := bits_ex S
    have sS : Sm S := sm128 (Nat.lt_of_lt_of_le hS (by decide))
    refine SW_cut (fun s' => ∃ x, x < B128 ∧ packN P emax W E ex c neg S q = some x ∧ Weak s' ⟨[(0, .int .i64 f), (3, .pointer (some ⟨g0, 0, none⟩)), (4, .pointer (some ⟨g1, 0, none⟩)), (7, .pointer (some ⟨g3, 0, none⟩))], [⟨g0, [.int .i64 c, .bool neg, .int .u64 (hiI S), .int .u64 (loI S), .int .i64 q], 27⟩, ⟨g1, [.int .u64 0, .int .u64 0], 25⟩, ⟨g2, [.int .i64 (P : Int), .int .i64 emin, .int .i64 emax, .int .i64 (W : Int), .int .i64 (E : Int), .bool ex], 83⟩, ⟨g3, [.int .u64 (hiI x), .int .u64 (loI x)], 25⟩], []⟩) ?_ ?_
    · refine SW_seq ?_
      refine SW_region ?_
      refine nr 2 [(1, [0])] [(21, .int .i64 c), (20, .pointer (some ⟨g0, 0, none⟩))] [g0] (by kernel_rfl) rfl ?_
      refine NW_nil 2 (by kernel_rfl) ?_
      refine SW_block ?_
      refine SW_seq ?_
      refine SW_region ?_
      refine nr 2 [] [(23, .bool (c == 1)), (24, .bool (c == 1))] [] (by kernel_rfl) rfl ?_
      refine NW_nil 2 (by kernel_rfl) ?_
      refine sc (c == 1) (by kernel_rfl) (fun q1 => ?_) (fun q1 => ?_)
      · refine SW_region ?_
        refine nr 3 [(0, [2]), (2, [0])] [(27, .bool neg), (26, .pointer (some ⟨g0, 1, none⟩)), (25, .agg #[.int .i64 ((P : Nat) : Int), .int .i64 emin, .int .i64 emax, .int .i64 ((W : Nat) : Int), .int .i64 ((E : Nat) : Int), .bool ex])] [g2, g2, g2, g2, g2, g2, g0] (by kernel_rfl) rfl ?_
        refine ncv 4 28 (ct_spec_l2Make' h1 (neg) (false) (0) e0 (0) ⟨rfl⟩) (by kernel_rfl) rfl zs0 ?_
        refine nq 5 [(4, [3])] [] [⟨g0, [.int .i64 c, .bool neg, .int .u64 (hiI S), .int .u64 (loI S), .int .i64 q], 27⟩, ⟨g1, [.int .u64 0, .int .u64 0], 25⟩, ⟨g2, [.int .i64 ((P : Nat) : Int), .int .i64 emin, .int .i64 emax, .int .i64 ((W : Nat) : Int), .int .i64 ((E : Nat) : Int), .bool ex], 83⟩, ⟨g3, [.int .u64 (hiI (makeN P W ex neg false 0 0)), .int .u64 (loI (makeN P W ex neg false 0 0))], 25⟩] [g3, g3] (by kernel_rfl) rfl ?_
        refine NW_nil 5 (by kernel_rfl) ?_
        have hc : c = 1 := by simpa using q1
        exact ⟨_, mk neg false 0 0 e0 z0, by unfold packN; rw [if_pos hc], Weak.mk' (by kernel_rfl) rfl zs0⟩
      have hc1 : c ≠ 1 := by simpa using q1
      refine SW_seq ?_
      refine SW_region ?_
      refine nr 2 [] [(29, .bool (c == 4)), (30, .bool (c == 4))] [] (by kernel_rfl) rfl ?_
      refine NW_nil 2 (by kernel_rfl) ?_
      refine sc (c == 4) (by kernel_rfl) (fun q2 => ?_) (fun q2 => ?_)
      · refine SW_draw (true, [([], []), ([], []), ([1], [1]), ([], []), ([3], [3]), ([0, 2, 4, 4], [0, 2, 4]), ([5, 5, 0, 1, 2, 3, 4, 5], [5])]) [0, 0, 2, 0, 8, 31, 63] [6] [false, false, false, false, false, false, false] (by kernel_rfl) (by kernel_rfl) (by kernel_rfl) (by kernel_rfl) (fun hT hB => ?_)
        refine dr [(0, [2]), (1, []), (2, [0]), (3, [2])] [(34, .agg #[.int .i64 ((P : Nat) : Int), .int .i64 emin, .int .i64 emax, .int .i64 ((W : Nat) : Int), .int .i64 ((E : Nat) : Int), .bool ex]), (33, .bool neg), (32, .pointer (some ⟨g0, 1, none⟩)), (31, .agg #[.int .i64 ((P : Nat) : Int), .int .i64 emin, .int .i64 emax, .int .i64 ((W : Nat) : Int), .int .i64 ((E : Nat) : Int), .bool ex])] [true, true, true, true, false, false, false] [g2, g2, g2, g2, g2, g2, g0, g2, g2, g2, g2, g2, g2] (Calm.block_ (Calm.then_ RetK.calm _) _) hT hB (by kernel_rfl) ?_
        refine dcv [true, true, true, true, true, false, false] 4 35 hT (ct_spec_l2Top h) (by kernel_rfl) (by kernel_rfl) zs0 ?_
        refine dcv [true, true, true, true, true, true, false] 5 36 hT (ct_spec_l2Make' h1 (neg) (true) (2 ^ E - 1) e1 ((((2 ^ E - 1) : Nat) : Int)) ⟨rfl⟩) (by kernel_rfl) (by kernel_rfl) zs0 ?_
        refine dstore [true, true, true, true, true, true, true] 6 [3] [⟨g0, [.int .i64 c, .bool neg, .int .u64 (hiI S), .int .u64 (loI S), .int .i64 q], 27⟩, ⟨g1, [.int .u64 0, .int .u64 0], 25⟩, ⟨g2, [.int .i64 ((P : Nat) : Int), .int .i64 emin, .int .i64 emax, .int .i64 ((W : Nat) : Int), .int .i64 ((E : Nat) : Int), .bool ex], 83⟩, ⟨g3, [.int .u64 (hiI (makeN P W ex neg true (2 ^ E - 1) 0)), .int .u64 (loI (makeN P W ex neg true (2 ^ E - 1) 0))], 25⟩] [g3, g3] hT rfl rfl (by kernel_rfl) (by kernel_rfl) (by kernel_rfl) (by kernel_rfl) (by kernel_rfl) (by kernel_rfl) ?_
        refine RW_done hT (by kernel_rfl) ?_
        have hc : c = 4 := by simpa using q2
        exact ⟨_, mk neg true _ 0 e1 z0, by unfold packN; rw [if_neg hc1, if_pos hc], Weak.mk' (by kernel_rfl) rfl zs0⟩
      have hc4 : c ≠ 4 := by simpa using q2
      refine SW_seq ?_
      refine SW_region ?_
      refine nr 2 [] [(37, .bool (c == 5)), (38, .bool (c == 5))] [] (by kernel_rfl) rfl ?_
      refine NW_nil 2 (by kernel_rfl) ?_
      refine sc (c == 5) (by kernel_rfl) (fun q3 => ?_) (fun q3 => ?_)
      · refine SW_draw (true, [([], []), ([], []), ([1], [1]), ([], []), ([3], [3]), ([4], [4]), ([5, 2], [5]), ([0, 2, 6, 6], [0, 2, 6]), ([7, 7, 0, 1, 2, 3, 4, 5, 6, 7], [7])]) [0, 0, 2, 0, 8, 24, 62, 127, 255] [8] [false, false, false, false, false, false, false, false, false] (by kernel_rfl) (by kernel_rfl) (by kernel_rfl) (by kernel_rfl) (fun hT hB => ?_)
        refine dr [(0, [2]), (1, [2]), (3, []), (4, [2]), (5, [])] [(44, .int .i64 (IntKind.wrap IntKind.i64 (((P : Nat) : Int) - 2))), (43, .int .i64 ((P : Nat) : Int)), (42, .pointer (some ⟨g2, 0, none⟩)), (40, .agg #[.int .i64 ((P : Nat) : Int), .int .i64 emin, .int .i64 emax, .int .i64 ((W : Nat) : Int), .int .i64 ((E : Nat) : Int), .bool ex]), (39, .agg #[.int .i64 ((P : Nat) : Int), .int .i64 emin, .int .i64 emax, .int .i64 ((W : Nat) : Int), .int .i64 ((E : Nat) : Int), .bool ex])] [true, true, false, true, true, true, false, false, false] [g2, g2, g2, g2, g2, g2, g2, g2, g2, g2, g2, g2, g2] (Calm.block_ (Calm.then_ RetK.calm _) _) hT hB (by kernel_rfl) ?_
        refine dcv [true, true, true, true, true, true, false, false, false] 2 41 hT (ct_spec_l2Top h) (by kernel_rfl) (by kernel_rfl) zs0 ?_
        refine dcr [true, true, true, true, true, true, true, false, false] 6 45 hT (ct_spec_l2Two (IntKind.wrap IntKind.i64 (((P : Nat) : Int) - 2)) (P - 2) nP2 (by omega)) (by kernel_rfl) (by kernel_rfl) zs0 (fun A1 k1 => ?_)
        refine dcv [true, true, true, true, true, true, true, true, false] 7 46 hT (ct_spec_l2Make h1 (false) (true) (2 ^ E - 1) (2 ^ (P - 2)) e1 r2 ((((2 ^ E - 1) : Nat) : Int)) ⟨rfl⟩ (A1) (k1)) (by kernel_rfl) (by kernel_rfl) (zsS zi0 zs0) ?_
        refine dstore [true, true, true, true, true, true, true, true, true] 8 [3] [⟨g0, [.int .i64 c, .bool neg, .int .u64 (hiI S), .int .u64 (loI S), .int .i64 q], 27⟩, ⟨g1, [.int .u64 0, .int .u64 0], 25⟩, ⟨g2, [.int .i64 ((P : Nat) : Int), .int .i64 emin, .int .i64 emax, .int .i64 ((W : Nat) : Int), .int .i64 ((E : Nat) : Int), .bool ex], 83⟩, ⟨g3, [.int .u64 (hiI (makeN P W ex false true (2 ^ E - 1) (2 ^ (P - 2)))), .int .u64 (loI (makeN P W ex false true (2 ^ E - 1) (2 ^ (P - 2))))], 25⟩] [g3, g3] hT rfl rfl (by kernel_rfl) (by kernel_rfl) (by kernel_rfl) (by kernel_rfl) (by kernel_rfl) (by kernel_rfl) ?_
        refine RW_done hT (by kernel_rfl) ?_
        have hc : c = 5 := by simpa using q3
        exact ⟨_, mk false true _ _ e1 r2, by unfold packN; rw [if_neg hc1, if_neg hc4, if_pos hc], Weak.mk' (by kernel_rfl) rfl zs0⟩
      have hc5 : c ≠ 5 := by simpa using q3
      refine SW_seq ?_
      refine SW_region ?_
      refine nr 2 [] [(47, .bool (c == 2)), (48, .bool (c == 2))] [] (by kernel_rfl) rfl ?_
      refine NW_nil 2 (by kernel_rfl) ?_
      refine sc (c == 2) (by kernel_rfl) (fun q4 => ?_) (fun q4 => ?_)
      · have hc : c = 2 := by simpa using q4
        have hpk : packN P emax W E ex c neg S q = if S < 2 ^ (P - 1) then some (makeN P W ex neg false 0 S) else none := by unfold packN; rw [if_neg hc1, if_neg hc4, if_neg hc5, if_pos hc]
        have hb := bits_lt (k := P - 1) hm
        refine SW_seq ?_
        refine SW_seq ?_
        refine SW_draw (true, [([], []), ([0], [0]), ([], []), ([2], [2]), ([1, 3], [1, 3])]) [0, 1, 0, 4, 15] [] [false, false, false, false, false] (by kernel_rfl) (by kernel_rfl) (by kernel_rfl) (by kernel_rfl) (fun hT hB => ?_)
        refine dr [(0, []), (2, []), (3, [2])] [(52, .int .i64 ((P : Nat) : Int)), (51, .pointer (some ⟨g2, 0, none⟩)), (49, .slice A0 (List.length (ofN B32 S)) k0)] [true, false, true, true, false] [g2] (Calm.then_ (Calm.then_ (Calm.block_ (Calm.then_ RetK.calm _) _) _) _) hT hB (by kernel_rfl) ?_
        refine dcv [true, true, true, true, false] 1 50 hT (ct_spec_l1Bits (S) (A0) (k0) sS (m) hm) (by kernel_rfl) (by kernel_rfl) (zsS zi0 zs0) ?_
        refine dr [(4, [])] [(53, .bool (decide (((m : Nat) : Int) ≥ ((P : Nat) : Int))))] [true, true, true, true, true] [] (Calm.then_ (Calm.then_ (Calm.block_ (Calm.then_ RetK.calm _) _) _) _) hT hB (by kernel_rfl) ?_
        refine RW_done hT (by kernel_rfl) ?_
        refine sc (decide (((m : Nat) : Int) ≥ ((P : Nat) : Int))) (by kernel_rfl) (fun q5 => ?_) (fun q5 => ?_)
        · refine SW_seq ?_
          refine SW_region ?_
          refine nq 3 [(1, [1])] [(5, .bool false), (54, .agg #[.int .u64 0, .int .u64 0])] [⟨g0, [.int .i64 c, .bool neg, .int .u64 (hiI S), .int .u64 (loI S), .int .i64 q], 27⟩, ⟨g1, [.int .u64 0, .int .u64 0], 25⟩, ⟨g2, [.int .i64 ((P : Nat) : Int), .int .i64 emin, .int .i64 emax, .int .i64 ((W : Nat) : Int), .int .i64 ((E : Nat) : Int), .bool ex], 83⟩, ⟨g3, [.int .u64 0, .int .u64 0], 25⟩] [g1, g1] (by kernel_rfl) rfl ?_
          refine NW_nil 3 (by kernel_rfl) ?_
          refine SW_ret ?_
          refine rkr (.tuple #[.agg #[.int .u64 0, .int .u64 0], .bool false]) [1] [g1, g1] (by kernel_rfl) () ?_ trivial
          have hge : P ≤ m := by simpa using q5
          rw [packR_none (by rw [hpk, if_neg (by rw [← hb]; omega)])]
          rfl
        have hlt : m < P := by simpa using q5
        have hS2 : S < 2 ^ (P - 1) := hb.1 (by omega)
        refine SW_skip ?_
        refine SW_region ?_
        refine nr 4 [(0, [2]), (2, [0])] [(58, .slice A0 (List.length (ofN B32 S)) k0), (57, .bool neg), (56, .pointer (some ⟨g0, 1, none⟩)), (55, .agg #[.int .i64 ((P : Nat) : Int), .int .i64 emin, .int .i64 emax, .int .i64 ((W : Nat) : Int), .int .i64 ((E : Nat) : Int), .bool ex])] [g2, g2, g2, g2, g2, g2, g0] (by kernel_rfl) rfl ?_
        refine ncv 5 59 (ct_spec_l2Make h1 (neg) (false) (0) (S) e0 hS2 (0) ⟨rfl⟩ (A0) (k0)) (by kernel_rfl) rfl (zsS zi0 zs0) ?_
        refine nq 6 [(5, [3])] [] [⟨g0, [.int .i64 c, .bool neg, .int .u64 (hiI S), .int .u64 (loI S), .int .i64 q], 27⟩, ⟨g1, [.int .u64 0, .int .u64 0], 25⟩, ⟨g2, [.int .i64 ((P : Nat) : Int), .int .i64 emin, .int .i64 emax, .int .i64 ((W : Nat) : Int), .int .i64 ((E : Nat) : Int), .bool ex], 83⟩, ⟨g3, [.int .u64 (hiI (makeN P W ex neg false 0 S)), .int .u64 (loI (makeN P W ex neg false 0 S))], 25⟩] [g3, g3] (by kernel_rfl) rfl ?_
        refine NW_nil 6 (by kernel_rfl) ?_
        exact ⟨_, mk neg false 0 S e0 hS2, by rw [hpk, if_pos hS2], Weak.mk' (by kernel_rfl) rfl zs0⟩
      have hc2 : c ≠ 2 := by simpa using q4
      refine SW_seq ?_
      refine SW_region ?_
      refine nr 2 [] [(60, .bool (c == 3)), (61, .bool (c == 3))] [] (by kernel_rfl) rfl ?_
      refine NW_nil 2 (by kernel_rfl) ?_
      refine sc (c == 3) (by kernel_rfl) (fun q5 => ?_) (fun q5 => ?_)
      · have hc : c = 3 := by simpa using q5
        have hpk : packN P emax W E ex c neg S q = if (2 ^ (P - 1) ≤ S ∧ S < 2 ^ P) ∧ 1 ≤ q + emax + P - 1 ∧ q + emax + P - 1 < ((2 ^ E - 1 : Nat) : Int) then some (makeN P W ex neg true (q + emax + P - 1).toNat (S % 2 ^ (P - 1))) else none := by unfold packN; rw [if_neg hc1, if_neg hc4, if_neg hc5, if_neg hc2, if_pos hc]
        have m1 := h.m1
        have tp := h.top
        have wE := wrapE q emax P hq (by omega) m1.2 p1 (by omega)
        have hbP : m = P ↔ 2 ^ (P - 1) ≤ S ∧ S < 2 ^ P := ⟨fun e => by subst e; exact ⟨hm.2.resolve_left (by omega), hm.1⟩, fun e => hm.uniq ⟨e.2, .inr e.1⟩⟩
        have nope : ∀ x : Int, x = IntKind.i64.wrap (IntKind.i64.wrap (IntKind.i64.wrap (q + emax) + (P : Int)) - 1) → ¬ (m = P ∧ 1 ≤ x ∧ x < ((2 ^ E - 1 : Nat) : Int)) → packR P emin emax W E ex c neg S q = (0, false) := by
          intro x hx hn
          refine packR_none ?_
          rw [hpk, if_neg]
          intro hh
          rw [← hx] at wE
          refine hn ⟨hbP.2 hh.1, ?_⟩
          omega
        refine SW_seq ?_
        refine SW_region ?_
        refine nr 10 [(1, [0]), (3, [2]), (6, [2])] [(9, .int .i64 (IntKind.wrap IntKind.i64 (IntKind.wrap IntKind.i64 (IntKind.wrap IntKind.i64 (q + emax) + ((P : Nat) : Int)) - 1))), (70, .int .i64 (IntKind.wrap IntKind.i64 (IntKind.wrap IntKind.i64 (IntKind.wrap IntKind.i64 (q + emax) + ((P : Nat) : Int)) - 1))), (69, .int .i64 (IntKind.wrap IntKind.i64 (IntKind.wrap IntKind.i64 (q + emax) + ((P : Nat) : Int)))), (68, .int .i64 ((P : Nat) : Int)), (67, .pointer (some ⟨g2, 0, none⟩)), (66, .int .i64 (IntKind.wrap IntKind.i64 (q + emax))), (65, .int .i64 emax), (64, .pointer (some ⟨g2, 2, none⟩)), (63, .int .i64 q), (62, .pointer (some ⟨g0, 4, none⟩))] [g0, g2, g2] (by kernel_rfl) rfl ?_
        refine NW_nil 10 (by kernel_rfl) ?_
        refine SW_seq ?_
        refine SW_seq ?_
        refine SW_draw (true, [([], []), ([0], [0]), ([], []), ([2], [2]), ([1, 3], [1, 3]), ([4, 1], [4]), ([5], [5]), ([6, 5], [5, 6]), ([5, 7], [5, 7]), ([8, 5], [8]), ([9], [9]), ([9], [9]), ([11, 9, 9], [9, 11]), ([10, 12, 9], [9, 10, 12]), ([9, 13], [9, 13])]) [0, 1, 0, 4, 15, 31, 63, 127, 255, 511, 1023, 1023, 3071, 8191, 16383] [] [false, false, false, false, false, false, false, false, false, false, false, false, false, false, false] (by kernel_rfl) (by kernel_rfl) (by kernel_rfl) (by kernel_rfl) (fun hT hB => ?_)
        refine dr [(0, []), (2, []), (3, [2])] [(74, .int .i64 ((P : Nat) : Int)), (73, .pointer (some ⟨g2, 0, none⟩)), (71, .slice A0 (List.length (ofN B32 S)) k0)] [true, false, true, true, false, false, false, false, false, false, false, false, false, false, false] [g2] (Calm.then_ (Calm.then_ (Calm.block_ (Calm.then_ RetK.calm _) _) _) _) hT hB (by kernel_rfl) ?_
        refine dcv [true, true, true, true, false, false, false, false, false, false, false, false, false, false, false] 1 72 hT (ct_spec_l1Bits (S) (A0) (k0) sS (m) hm) (by kernel_rfl) (by kernel_rfl) (zsS zi0 zs0) ?_
        refine dr [(4, []), (5, [])] [(76, .bool (((m : Nat) : Int) != ((P : Nat) : Int))), (75, .bool (((m : Nat) : Int) != ((P : Nat) : Int)))] [true, true, true, true, true, true, false, false, false, false, false, false, false, false, false] [] (Calm.then_ (Calm.then_ (Calm.block_ (Calm.then_ RetK.calm _) _) _) _) hT hB (by kernel_rfl) ?_
        refine dcase 76 (((m : Nat) : Int) != ((P : Nat) : Int)) (by kernel_rfl) (fun q6 => ?_) (fun q6 => ?_)
        · refine dr [(6, []), (7, []), (8, []), (9, []), (10, []), (11, [2]), (12, []), (13, []), (14, [])] [(85, .bool true), (84, .tuple #[]), (83, .tuple #[]), (82, .tuple #[]), (81, .tuple #[]), (80, .bool true), (79, .bool true), (78, .tuple #[]), (77, .tuple #[])] [true, true, true, true, true, true, true, true, true, true, true, true, true, true, true] [] (Calm.then_ (Calm.then_ (Calm.block_ (Calm.then_ RetK.calm _) _) _) _) hT hB (by kernel_rfl) ?_
          refine RW_done hT (by kernel_rfl) ?_
          refine sct (by kernel_rfl) ?_
          refine SW_seq ?_
          refine SW_region ?_
          refine nq 3 [(1, [1])] [(5, .bool false), (86, .agg #[.int .u64 0, .int .u64 0])] [⟨g0, [.int .i64 c, .bool neg, .int .u64 (hiI S), .int .u64 (loI S), .int .i64 q], 27⟩, ⟨g1, [.int .u64 0, .int .u64 0], 25⟩, ⟨g2, [.int .i64 ((P : Nat) : Int), .int .i64 emin, .int .i64 emax, .int .i64 ((W : Nat) : Int), .int .i64 ((E : Nat) : Int), .bool ex], 83⟩, ⟨g3, [.int .u64 0, .int .u64 0], 25⟩] [g1, g1] (by kernel_rfl) rfl ?_
          refine NW_nil 3 (by kernel_rfl) ?_
          refine SW_ret ?_
          refine rkr (.tuple #[.agg #[.int .u64 0, .int .u64 0], .bool false]) [1] [g1, g1] (by kernel_rfl) () ?_ trivial
          rw [nope _ rfl (fun z => by rw [z.1] at q6; simp at q6)]
          rfl
        · have hmP : m = P := by
            have z : (m : Int) = P := by simpa using q6
            omega
          refine dr [(6, []), (7, []), (8, []), (9, [])] [(80, .bool (decide (IntKind.wrap IntKind.i64 (IntKind.wrap IntKind.i64 (IntKind.wrap IntKind.i64 (q + emax) + ((P : Nat) : Int)) - 1) < 1))), (79, .bool (decide (IntKind.wrap IntKind.i64 (IntKind.wrap IntKind.i64 (IntKind.wrap IntKind.i64 (q + emax) + ((P : Nat) : Int)) - 1) < 1))), (78, .bool (decide (IntKind.wrap IntKind.i64 (IntKind.wrap IntKind.i64 (IntKind.wrap IntKind.i64 (q + emax) + ((P : Nat) : Int)) - 1) < 1))), (77, .int .i64 (IntKind.wrap IntKind.i64 (IntKind.wrap IntKind.i64 (IntKind.wrap IntKind.i64 (q + emax) + ((P : Nat) : Int)) - 1)))] [true, true, true, true, true, true, true, true, true, true, false, false, false, false, false] [] (Calm.then_ (Calm.then_ (Calm.block_ (Calm.then_ RetK.calm _) _) _) _) hT hB (by kernel_rfl) ?_
          refine dcase 80 (decide (IntKind.wrap IntKind.i64 (IntKind.wrap IntKind.i64 (IntKind.wrap IntKind.i64 (q + emax) + ((P : Nat) : Int)) - 1) < 1)) (by kernel_rfl) (fun q7 => ?_) (fun q7 => ?_)
          · refine dr [(10, []), (11, [2]), (12, []), (13, []), (14, [])] [(85, .bool true), (84, .tuple #[]), (83, .tuple #[]), (82, .tuple #[]), (81, .tuple #[])] [true, true, true, true, true, true, true, true, true, true, true, true, true, true, true] [] (Calm.then_ (Calm.then_ (Calm.block_ (Calm.then_ RetK.calm _) _) _) _) hT hB (by kernel_rfl) ?_
            refine RW_done hT (by kernel_rfl) ?_
            refine sct (by kernel_rfl) ?_
            refine SW_seq ?_
            refine SW_region ?_
            refine nq 3 [(1, [1])] [(5, .bool false), (86, .agg #[.int .u64 0, .int .u64 0])] [⟨g0, [.int .i64 c, .bool neg, .int .u64 (hiI S), .int .u64 (loI S), .int .i64 q], 27⟩, ⟨g1, [.int .u64 0, .int .u64 0], 25⟩, ⟨g2, [.int .i64 ((P : Nat) : Int), .int .i64 emin, .int .i64 emax, .int .i64 ((W : Nat) : Int), .int .i64 ((E : Nat) : Int), .bool ex], 83⟩, ⟨g3, [.int .u64 0, .int .u64 0], 25⟩] [g1, g1] (by kernel_rfl) rfl ?_
            refine NW_nil 3 (by kernel_rfl) ?_
            refine SW_ret ?_
            refine rkr (.tuple #[.agg #[.int .u64 0, .int .u64 0], .bool false]) [1] [g1, g1] (by kernel_rfl) () ?_ trivial
            rw [nope _ rfl (fun z => by have := of_decide_eq_true q7; omega)]
            rfl
          · refine dr [(10, []), (11, [2])] [(82, .agg #[.int .i64 ((P : Nat) : Int), .int .i64 emin, .int .i64 emax, .int .i64 ((W : Nat) : Int), .int .i64 ((E : Nat) : Int), .bool ex]), (81, .int .i64 (IntKind.wrap IntKind.i64 (IntKind.wrap IntKind.i64 (IntKind.wrap IntKind.i64 (q + emax) + ((P : Nat) : Int)) - 1)))] [true, true, true, true, true, true, true, true, true, true, true, true, false, false, false] [g2, g2, g2, g2, g2, g2] (Calm.then_ (Calm.then_ (Calm.block_ (Calm.then_ RetK.calm _) _) _) _) hT hB (by kernel_rfl) ?_
            refine dcv [true, true, true, true, true, true, true, true, true, true, true, true, true, false, false] 12 83 hT (ct_spec_l2Top h) (by kernel_rfl) (by kernel_rfl) zs0 ?_
            refine dr [(13, []), (14, [])] [(85, .bool (decide (IntKind.wrap IntKind.i64 (IntKind.wrap IntKind.i64 (IntKind.wrap IntKind.i64 (q + emax) + ((P : Nat) : Int)) - 1) ≥ (((2 ^ E - 1) : Nat) : Int)))), (84, .bool (decide (IntKind.wrap IntKind.i64 (IntKind.wrap IntKind.i64 (IntKind.wrap IntKind.i64 (q + emax) + ((P : Nat) : Int)) - 1) ≥ (((2 ^ E - 1) : Nat) : Int))))] [true, true, true, true, true, true, true, true, true, true, true, true, true, true, true] [] (Calm.then_ (Calm.then_ (Calm.block_ (Calm.then_ RetK.calm _) _) _) _) hT hB (by kernel_rfl) ?_
            refine RW_done hT (by kernel_rfl) ?_
            refine sc (decide (IntKind.wrap IntKind.i64 (IntKind.wrap IntKind.i64 (IntKind.wrap IntKind.i64 (q + emax) + ((P : Nat) : Int)) - 1) ≥ (((2 ^ E - 1) : Nat) : Int))) (by kernel_rfl) (fun q8 => ?_) (fun q8 => ?_)
            · refine SW_seq ?_
              refine SW_region ?_
              refine nq 3 [(1, [1])] [(5, .bool false), (86, .agg #[.int .u64 0, .int .u64 0])] [⟨g0, [.int .i64 c, .bool neg, .int .u64 (hiI S), .int .u64 (loI S), .int .i64 q], 27⟩, ⟨g1, [.int .u64 0, .int .u64 0], 25⟩, ⟨g2, [.int .i64 ((P : Nat) : Int), .int .i64 emin, .int .i64 emax, .int .i64 ((W : Nat) : Int), .int .i64 ((E : Nat) : Int), .bool ex], 83⟩, ⟨g3, [.int .u64 0, .int .u64 0], 25⟩] [g1, g1] (by kernel_rfl) rfl ?_
              refine NW_nil 3 (by kernel_rfl) ?_
              refine SW_ret ?_
              refine rkr (.tuple #[.agg #[.int .u64 0, .int .u64 0], .bool false]) [1] [g1, g1] (by kernel_rfl) () ?_ trivial
              rw [nope _ rfl (fun z => by have := of_decide_eq_true q8; omega)]
              rfl
            · have a1 := of_decide_eq_false q7
              have a2 := of_decide_eq_false q8
              have wE2 : IntKind.i64.wrap (IntKind.i64.wrap (IntKind.i64.wrap (q + emax) + (P : Int)) - 1) = q + emax + P - 1 := by
                rcases wE with e | e
                · exact e
                · exact absurd e.1 a1
              rw [wE2] at a1 a2
              have nE : Nn (IntKind.i64.wrap (IntKind.i64.wrap (IntKind.i64.wrap (q + emax) + (P : Int)) - 1)) (q + emax + P - 1).toNat := ⟨by rw [wE2]; omega⟩
              have e3 : (q + emax + P - 1).toNat < 2 ^ E := by omega
              clear wE2 wE nope
              refine SW_skip ?_
              refine SW_draw (true, [([], []), ([], []), ([1], [1]), ([], []), ([], []), ([], []), ([5], [5]), ([6], [6]), ([4, 7], [4, 7]), ([0, 2, 3, 8, 8], [0, 2, 3, 8]), ([9, 9, 0, 1, 2, 3, 4, 5, 6, 7, 8, 9], [9])]) [0, 0, 2, 0, 0, 0, 32, 96, 240, 511, 1023] [10] [false, false, false, false, false, false, false, false, false, false, false] (by kernel_rfl) (by kernel_rfl) (by kernel_rfl) (by kernel_rfl) (fun hT hB => ?_)
              refine dr [(0, [2]), (1, []), (2, [0]), (3, []), (4, []), (5, []), (6, [2]), (7, [])] [(94, .int .i64 (IntKind.wrap IntKind.i64 (((P : Nat) : Int) - 1))), (93, .int .i64 ((P : Nat) : Int)), (92, .pointer (some ⟨g2, 0, none⟩)), (91, .slice A0 (List.length (ofN B32 S)) k0), (90, .int .i64 (IntKind.wrap IntKind.i64 (IntKind.wrap IntKind.i64 (IntKind.wrap IntKind.i64 (q + emax) + ((P : Nat) : Int)) - 1))), (89, .bool neg), (88, .pointer (some ⟨g0, 1, none⟩)), (87, .agg #[.int .i64 ((P : Nat) : Int), .int .i64 emin, .int .i64 emax, .int .i64 ((W : Nat) : Int), .int .i64 ((E : Nat) : Int), .bool ex])] [true, true, true, true, true, true, true, true, false, false, false] [g2, g2, g2, g2, g2, g2, g0, g2] (Calm.block_ (Calm.then_ RetK.calm _) _) hT hB (by kernel_rfl) ?_
              refine dcr [true, true, true, true, true, true, true, true, true, false, false] 8 95 hT (ct_spec_l2Low (S) (A0) (k0) (IntKind.wrap IntKind.i64 (((P : Nat) : Int) - 1)) (P - 1) nP1 (by omega) sS) (by kernel_rfl) (by kernel_rfl) (zsS zi0 zs0) (fun A1 k1 => ?_)
              refine dcv [true, true, true, true, true, true, true, true, true, true, false] 9 96 hT (ct_spec_l2Make h1 (neg) (true) (Int.toNat (q + emax + ((P : Nat) : Int) - 1)) (S % 2 ^ (P - 1)) e3 hlow (IntKind.wrap IntKind.i64 (IntKind.wrap IntKind.i64 (IntKind.wrap IntKind.i64 (q + emax) + ((P : Nat) : Int)) - 1)) nE (A1) (k1)) (by kernel_rfl) (by kernel_rfl) (zsS zi0 zs0) ?_
              refine dstore [true, true, true, true, true, true, true, true, true, true, true] 10 [3] [⟨g0, [.int .i64 c, .bool neg, .int .u64 (hiI S), .int .u64 (loI S), .int .i64 q], 27⟩, ⟨g1, [.int .u64 0, .int .u64 0], 25⟩, ⟨g2, [.int .i64 ((P : Nat) : Int), .int .i64 emin, .int .i64 emax, .int .i64 ((W : Nat) : Int), .int .i64 ((E : Nat) : Int), .bool ex], 83⟩, ⟨g3, [.int .u64 (hiI (makeN P W ex neg true (Int.toNat (q + emax + ((P : Nat) : Int) - 1)) (S % 2 ^ (P - 1)))), .int .u64 (loI (makeN P W ex neg true (Int.toNat (q + emax + ((P : Nat) : Int) - 1)) (S % 2 ^ (P - 1))))], 25⟩] [g3, g3] hT rfl rfl (by kernel_rfl) (by kernel_rfl) (by kernel_rfl) (by kernel_rfl) (by kernel_rfl) (by kernel_rfl) ?_
              refine RW_done hT (by kernel_rfl) ?_
              exact ⟨_, mk neg true _ _ e3 hlow, by rw [hpk, if_pos ⟨hbP.1 hmP, by omega, by omega⟩], Weak.mk' (by kernel_rfl) rfl zs0⟩
      · have hc3 : c ≠ 3 := by simpa using q5
        refine SW_seq ?_
        refine SW_region ?_
        refine nq 3 [(1, [1])] [(5, .bool false), (22, .agg #[.int .u64 0, .int .u64 0])] [⟨g0, [.int .i64 c, .bool neg, .int .u64 (hiI S), .int .u64 (loI S), .int .i64 q], 27⟩, ⟨g1, [.int .u64 0, .int .u64 0], 25⟩, ⟨g2, [.int .i64 ((P : Nat) : Int), .int .i64 emin, .int .i64 emax, .int .i64 ((W : Nat) : Int), .int .i64 ((E : Nat) : Int), .bool ex], 83⟩, ⟨g3, [.int .u64 0, .int .u64 0], 25⟩] [g1, g1] (by kernel_rfl) rfl ?_
        refine NW_nil 3 (by kernel_rfl) ?_
        refine SW_ret ?_
        refine rkr (.tuple #[.agg #[.int .u64 0, .int .u64 0], .bool false]) [1] [g1, g1] (by kernel_rfl) () ?_ trivial
        rw [packR_none (by unfold packN; rw [if_neg hc1, if_neg hc4, if_neg hc5, if_neg hc2, if_neg hc3])]
        rfl
    · rintro s' ⟨x, hx, hpk, hw⟩
      refine SW_weak hw ?_
      rw [packR_some hpk]
      refine SW_seq ?_
      refine SW_seq ?_
      refine SW_draw (true, [([], []), ([], []), ([0, 1], [0, 1]), ([], []), ([2, 3], [2, 3])]) [0, 0, 3, 0, 15] [] [false, false, false, false, false] (by kernel_rfl) (by kernel_rfl) (by kernel_rfl) (by kernel_rfl) (fun hT hB => ?_)
      refine dr [(0, []), (1, [3]), (3, [0])] [(100, .agg #[.int .i64 c, .bool neg, .int .u64 (hiI S), .int .u64 (loI S), .int .i64 q]), (98, .agg #[.int .u64 (hiI x), .int .u64 (loI x)]), (97, .int .i64 f)] [true, true, false, true, false] [g3, g3, g0, g0, g0, g0, g0] (Calm.then_ (Calm.then_ RetK.calm _) _) hT hB (by kernel_rfl) ?_
      refine dcv [true, true, true, true, false] 2 99 hT (ct_spec_Unpack h1 (f) hf (x) hx) (by kernel_rfl) (by kernel_rfl) zs0 ?_
      refine dv [true, true, true, true, true] 4 101 (.bool (!((Prod.fst (unpN P emin emax W E ex x) == c) && ((Prod.fst (Prod.snd (unpN P emin emax W E ex x)) == neg) && (((Prod.fst (Prod.snd (Prod.snd (unpN P emin emax W E ex x))) == hiI S) && (Prod.fst (Prod.snd (Prod.snd (Prod.snd (unpN P emin emax W E ex x)))) == loI S)) && (Prod.snd (Prod.snd (Prod.snd (Prod.snd (unpN P emin emax W E ex x)))) == q)))))) (Calm.then_ (Calm.then_ RetK.calm _) _) hT hB rfl (by kernel_rfl) (by kernel_rfl) rfl (by kernel_rfl) (by kernel_rfl) (fun w _ _ => run_neq rfl (by kernel_rfl) (by kernel_rfl) (by kernel_rfl) w (eq_parts _ _ _ _ _ _ _ _ _ _ _ w)) ?_
      refine RW_done hT (by kernel_rfl) ?_
      refine sc (!(Prod.fst (unpN P emin emax W E ex x) == c && (Prod.fst (Prod.snd (unpN P emin emax W E ex x)) == neg && (Prod.fst (Prod.snd (Prod.snd (unpN P emin emax W E ex x))) == hiI S && Prod.fst (Prod.snd (Prod.snd (Prod.snd (unpN P emin emax W E ex x)))) == loI S && Prod.snd (Prod.snd (Prod.snd (Prod.snd (unpN P emin emax W E ex x)))) == q)))) (by kernel_rfl) (fun q1 => ?_) (fun q1 => ?_)
      · refine SW_seq ?_
        refine SW_region ?_
        refine nq 3 [(1, [1])] [(5, .bool false), (102, .agg #[.int .u64 0, .int .u64 0])] [⟨g0, [.int .i64 c, .bool neg, .int .u64 (hiI S), .int .u64 (loI S), .int .i64 q], 27⟩, ⟨g1, [.int .u64 0, .int .u64 0], 25⟩, ⟨g2, [.int .i64 ((P : Nat) : Int), .int .i64 emin, .int .i64 emax, .int .i64 ((W : Nat) : Int), .int .i64 ((E : Nat) : Int), .bool ex], 83⟩, ⟨g3, [.int .u64 (hiI x), .int .u64 (loI x)], 25⟩] [g1, g1] (by kernel_rfl) rfl ?_
        refine NW_nil 3 (by kernel_rfl) ?_
        refine SW_ret ?_
        refine rkr (.tuple #[.agg #[.int .u64 0, .int .u64 0], .bool false]) [1] [g1, g1] (by kernel_rfl) () ?_ trivial
        rw [if_neg]
        · rfl
        · intro hu
          rw [hu] at q1
          simp at q1
      · refine SW_skip ?_
        refine SW_seq ?_
        refine SW_region ?_
        refine nq 3 [(0, [3]), (1, [1])] [(5, .bool true), (103, .agg #[.int .u64 (hiI x), .int .u64 (loI x)])] [⟨g0, [.int .i64 c, .bool neg, .int .u64 (hiI S), .int .u64 (loI S), .int .i64 q], 27⟩, ⟨g1, [.int .u64 (hiI x), .int .u64 (loI x)], 25⟩, ⟨g2, [.int .i64 ((P : Nat) : Int), .int .i64 emin, .int .i64 emax, .int .i64 ((W : Nat) : Int), .int .i64 ((E : Nat) : Int), .bool ex], 83⟩, ⟨g3, [.int .u64 (hiI x), .int .u64 (loI x)], 25⟩] [g3, g3, g1, g1] (by kernel_rfl) rfl ?_
        refine NW_nil 3 (by kernel_rfl) ?_
        refine SW_ret ?_
        refine rkr (.tuple #[.agg #[.int .u64 (hiI x), .int .u64 (loI x)], .bool true]) [1] [g1, g1] (by kernel_rfl) () ?_ trivial
        rw [if_pos]
        have hq : (!eqb (unpN P emin emax W E ex x) (c, neg, hiI S, loI S, q)) = false := q1
        exact (eqb_iff _ _).1 (by simpa using hq)
end Go.Proofs.YtdbnmdchecacdaaDoor.M
end
section
namespace Go.Proofs.YtdbnmdchecacdaaDoor.M
open Go.RowKit Go.Proofs.YtdbnmdchecacdaaDoor.G Go.Proofs.YtdbnmdchecacdaaDoorV.PrintWords Go.Proofs.YtdbnmdchecacdaaDoorV.PrintLast Go.Proofs.YtdbnmdchecacdaaDoorV.PrintMore Go.Proofs.YtdbnmdchecacdaaDoor.PL Go.Proofs.YtdbnmdchecacdaaDoor.X
set_option linter.unusedVariables false
set_option linter.unusedSimpArgs false
theorem ct_impl_Pack {P : Nat} {emin emax : Int} {W E : Nat} {ex : Bool} (h : Fmt2 P emin emax W E ex) (f : Int) (hf : impl_layoutOf.f f = some ((P : Int), emin, emax, (W : Int), (E : Int), ex, true)) (c : Int) (neg : Bool) (S : Nat) (hS : S < B128) (q : Int) (hq : -9223372036854775808 ≤ q ∧ q ≤ 9223372036854775807) :
    CtV Tryd.prog 23 [.int .i64 f, .agg #[.int .i64 c, .bool neg, .int .u64 (hiI S), .int .u64 (loI S), .int .i64 q]] [Tabled] (.tuple #[.agg #[.int .u64 (hiI (packR P emin emax W E ex c neg S q).1), .int .u64 (loI (packR P emin emax W E ex c neg S q).1)], .bool (packR P emin emax W E ex c neg S q).2]) := by
  have h1 := h.toFmt
  refine ct_of Tryd.func23 rfl (by kernel_rfl) (fun B w0 => ?_)
  have p3 := h.p3
  have p1 := h.p1
  have w1 := h1.w1
  have w2 := h1.w2
  have m1 := h.m1
  have tp := h.top
  have hF : fracN P ex ≤ P := by unfold fracN; split <;> omega
  have e0 : 0 < 2 ^ E := Nat.pow_pos (by decide)
  have hE15 : 2 ^ E ≤ 2 ^ 15 := Nat.pow_le_pow_right (by decide) h1.e1
  have nP1 : Nn (IntKind.i64.wrap ((P : Int) - 1)) (P - 1) := Nn.wrap (by omega) (by omega)
  have nP2 : Nn (IntKind.i64.wrap ((P : Int) - 2)) (P - 2) := Nn.wrap (by omega) (by omega)
  have nW1 : Nn (IntKind.i64.wrap ((W : Int) - 1)) (W - 1) := Nn.wrap (by omega) (by omega)
  have hp2 : ∀ i, i < 128 → 2 ^ i < B128 := fun i hi => Nat.pow_lt_pow_right (a := 2) (n := 128) (by decide) hi
  have b1 : 2 ^ (P - 1) < B128 := hp2 _ (by omega)
  have b2 : 2 ^ (P - 2) < B128 := hp2 _ (by omega)
  have b3 : 2 ^ (W - 1) < B128 := hp2 _ (by omega)
  have hlor : ∀ x y, x < B128 → y < B128 → x ||| y < B128 := fun x y hx hy => Nat.or_lt_two_pow (n := 128) hx hy
  have hsh : ∀ e, e < 2 ^ E → e * 2 ^ fracN P ex < B128 := by
    intro e he
    have e1 : 2 ^ (fracN P ex + E) = 2 ^ E * 2 ^ fracN P ex := by rw [← Nat.pow_add, Nat.add_comm]
    have e2 : e * 2 ^ fracN P ex < 2 ^ E * 2 ^ fracN P ex := Nat.mul_lt_mul_of_pos_right he (Nat.pow_pos (by decide))
    rw [← e1] at e2
    exact Nat.lt_trans e2 (hp2 _ (by omega))
  have hmod : ∀ e, e < 2 ^ E → e * 2 ^ fracN P ex % B128 = e * 2 ^ fracN P ex := fun e he => Nat.mod_eq_of_lt (hsh e he)
  have btop : (2 ^ E - 1) * 2 ^ fracN P ex < B128 := hsh _ (by omega)
  have wE := wrapE q emax P hq (by omega) m1.2 p1 (by omega)
  have wT : Wd 0 (IntKind.u64.wrap ((2 ^ E - 1 : Nat) : Int)) (2 ^ E - 1) := ⟨by unfold hiI; omega, by unfold loI; rw [wrap_u64_id (by omega)]; omega⟩
  have eT : 2 ^ E - 1 < B128 := Nat.lt_of_le_of_lt (by omega) (hp2 15 (by decide))
  refine SW_seq ?_
  refine SW_region ?_
  refine nn 1 3 [.int .i64 c, .bool neg, .int .u64 (hiI S), .int .u64 (loI S), .int .i64 q] 27 (fun g => by kernel_rfl) rfl (fun g0 => ?_)
  refine nn 2 4 [.int .u64 0, .int .u64 0] 25 (fun g => by kernel_rfl) rfl (fun g1 => ?_)
  refine nr 3 [] [(5, .bool false)] [] (by kernel_rfl) rfl ?_
  refine NW_nil 3 (by kernel_rfl) ?_
  refine SW_seq ?_
  refine SW_region ?_
  refine nr 1 [] [(12, .int .i64 f)] [] (by kernel_rfl) rfl ?_
  refine ncv 2 13 (ct_impl_layoutOf (f) hf) (by kernel_rfl) rfl (zsS zi0 zs0) ?_
  refine nr 5 [] [(15, .bool true), (14, .agg #[.int .i64 ((P : Nat) : Int), .int .i64 emin, .int .i64 emax, .int .i64 ((W : Nat) : Int), .int .i64 ((E : Nat) : Int), .bool ex]), (11, .tuple #[.agg #[.int .i64 ((P : Nat) : Int), .int .i64 emin, .int .i64 emax, .int .i64 ((W : Nat) : Int), .int .i64 ((E : Nat) : Int), .bool ex], .bool true])] [] (by kernel_rfl) rfl ?_
  refine nn 6 6 [.int .i64 0, .int .i64 0, .int .i64 0, .int .i64 0, .int .i64 0, .bool false] 91 (fun g => by kernel_rfl) rfl (fun g2 => ?_)
  refine nq 8 [(6, [2])] [(7, .bool true)] [⟨g0, [.int .i64 c, .bool neg, .int .u64 (hiI S), .int .u64 (loI S), .int .i64 q], 27⟩, ⟨g1, [.int .u64 0, .int .u64 0], 25⟩, ⟨g2, [.int .i64 ((P : Nat) : Int), .int .i64 emin, .int .i64 emax, .int .i64 ((W : Nat) : Int), .int .i64 ((E : Nat) : Int), .bool ex], 91⟩] [g2, g2, g2, g2, g2, g2] (by kernel_rfl) rfl ?_
  refine NW_nil 8 (by kernel_rfl) ?_
  refine SW_seq ?_
  refine SW_seq ?_
  refine SW_region ?_
  refine nr 2 [] [(17, .bool false), (16, .bool true)] [] (by kernel_rfl) rfl ?_
  refine NW_nil 2 (by kernel_rfl) ?_
  refine scf (by kernel_rfl) ?_
  refine SW_skip ?_
  refine SW_seq ?_
  refine SW_region ?_
  refine nr 1 [(0, [2])] [(19, .agg #[.int .i64 ((P : Nat) : Int), .int .i64 emin, .int .i64 emax, .int .i64 ((W : Nat) : Int), .int .i64 ((E : Nat) : Int), .bool ex])] [g2, g2, g2, g2, g2, g2] (by kernel_rfl) rfl ?_
  refine ncv 2 20 (ct_impl_layout_fracBits h1) (by kernel_rfl) rfl zs0 ?_
  refine nr 3 [] [(8, .int .i64 (((fracN P ex) : Nat) : Int))] [] (by kernel_rfl) rfl ?_
  refine NW_nil 3 (by kernel_rfl) ?_
  refine SW_seq ?_
  refine SW_region ?_
  refine nr 1 [] [(21, .agg #[.int .u64 0, .int .u64 0])] [] (by kernel_rfl) rfl ?_
  refine nn 2 9 [.int .u64 0, .int .u64 0] 25 (fun g => by kernel_rfl) rfl (fun g3 => ?_)
  refine nq 3 [(2, [3])] [] [⟨g0, [.int .i64 c, .bool neg, .int .u64 (hiI S), .int .u64 (loI S), .int .i64 q], 27⟩, ⟨g1, [.int .u64 0, .int .u64 0], 25⟩, ⟨g2, [.int .i64 ((P : Nat) : Int), .int .i64 emin, .int .i64 emax, .int .i64 ((W : Nat) : Int), .int .i64 ((E : Nat) : Int), .bool ex], 91⟩, ⟨g3, [.int .u64 0, .int .u64 0], 25⟩] [g3, g3] (by kernel_rfl) rfl ?_
  refine NW_nil 3 (by kernel_rfl) ?_
  refine SW_cut (fun s' => ∃ x, x < B128 ∧ packU P emax E ex c S q = some x ∧ Weak s' ⟨[(0, .int .i64 f), (3, .pointer (some ⟨g0, 0, none⟩)), (4, .pointer (some ⟨g1, 0, none⟩)), (6, .pointer (some ⟨g2, 0, none⟩)), (9, .pointer (some ⟨g3, 0, none⟩))], [⟨g0, [.int .i64 c, .bool neg, .int .u64 (hiI S), .int .u64 (loI S), .int .i64 q], 27⟩, ⟨g1, [.int .u64 0, .int .u64 0], 25⟩, ⟨g2, [.int .i64 (P : Int), .int .i64 emin, .int .i64 emax, .int .i64 (W : Int), .int .i64 (E : Int), .bool ex], 91⟩, ⟨g3, [.int .u64 (hiI x), .int .u64 (loI x)], 25⟩], [Tabled]⟩) ?_ ?_
  · have ltop : ∀ x, x < B128 → (if ex = true then ((2 ^ E - 1) * 2 ^ fracN P ex ||| 2 ^ (P - 1)) else (2 ^ E - 1) * 2 ^ fracN P ex) ||| x < B128 ∧ (if ex = true then ((2 ^ E - 1) * 2 ^ fracN P ex ||| 2 ^ (P - 1)) else (2 ^ E - 1) * 2 ^ fracN P ex) < B128 := by
      intro x hx
      have : (if ex = true then ((2 ^ E - 1) * 2 ^ fracN P ex ||| 2 ^ (P - 1)) else (2 ^ E - 1) * 2 ^ fracN P ex) < B128 := by
        split
        · exact hlor _ _ btop b1
        · exact btop
      exact ⟨hlor _ _ this hx, this⟩
    have mT : (2 ^ E - 1) * 2 ^ fracN P ex % B128 = (2 ^ E - 1) * 2 ^ fracN P ex := hmod _ (by omega)
    have bT : (2 ^ E - 1) * 2 ^ fracN P ex % B128 < B128 := Nat.mod_lt _ (by decide)
    have bT2 : (2 ^ E - 1) * 2 ^ fracN P ex % B128 ||| 2 ^ (P - 1) < B128 := hlor _ _ bT b1
    refine SW_seq ?_
    refine SW_region ?_
    refine nr 2 [(1, [0])] [(23, .int .i64 c), (22, .pointer (some ⟨g0, 0, none⟩))] [g0] (by kernel_rfl) rfl ?_
    refine NW_nil 2 (by kernel_rfl) ?_
    refine SW_block ?_
    refine SW_seq ?_
    refine SW_region ?_
    refine nr 2 [] [(24, .bool (c == 1)), (25, .bool (c == 1))] [] (by kernel_rfl) rfl ?_
    refine NW_nil 2 (by kernel_rfl) ?_
    refine sc (c == 1) (by kernel_rfl) (fun q0 => ?_) (fun q0 => ?_)
    · refine SW_skip ?_
      have hc : c = 1 := by simpa using q0
      exact ⟨0, by decide, by unfold packU; rw [if_pos hc], Weak.mk' (by kernel_rfl) rfl (zsS zi0 zs0)⟩
    have hc1 : c ≠ 1 := by simpa using q0
    refine SW_seq ?_
    refine SW_region ?_
    refine nr 2 [] [(26, .bool (c == 2)), (27, .bool (c == 2))] [] (by kernel_rfl) rfl ?_
    refine NW_nil 2 (by kernel_rfl) ?_
    refine sc (c == 2) (by kernel_rfl) (fun q1 => ?_) (fun q1 => ?_)
    · refine SW_region ?_
      refine nq 3 [(1, [0]), (2, [3])] [(29, .agg #[.int .u64 (hiI S), .int .u64 (loI S)]), (28, .pointer (some ⟨g0, 2, none⟩))] [⟨g0, [.int .i64 c, .bool neg, .int .u64 (hiI S), .int .u64 (loI S), .int .i64 q], 27⟩, ⟨g1, [.int .u64 0, .int .u64 0], 25⟩, ⟨g2, [.int .i64 ((P : Nat) : Int), .int .i64 emin, .int .i64 emax, .int .i64 ((W : Nat) : Int), .int .i64 ((E : Nat) : Int), .bool ex], 91⟩, ⟨g3, [.int .u64 (hiI S), .int .u64 (loI S)], 25⟩] [g0, g0, g3, g3] (by kernel_rfl) rfl ?_
      refine NW_nil 3 (by kernel_rfl) ?_
      have hc : c = 2 := by simpa using q1
      exact ⟨S, hS, by unfold packU; rw [if_neg hc1, if_pos hc], Weak.mk' (by kernel_rfl) rfl (zsS zi0 zs0)⟩
    have hc2 : c ≠ 2 := by simpa using q1
    refine SW_seq ?_
    refine SW_region ?_
    refine nr 2 [] [(30, .bool (c == 3)), (31, .bool (c == 3))] [] (by kernel_rfl) rfl ?_
    refine NW_nil 2 (by kernel_rfl) ?_
    refine sc (c == 3) (by kernel_rfl) (fun q2 => ?_) (fun q2 => ?_)
    · have hc : c = 3 := by simpa using q2
      have hpk : packU P emax E ex c S q = if 1 ≤ q + emax + P - 1 ∧ q + emax + P - 1 < ((2 ^ E - 1 : Nat) : Int) then some (S % 2 ^ fracN P ex ||| (q + emax + P - 1).toNat * 2 ^ fracN P ex) else none := by unfold packU; rw [if_neg hc1, if_neg hc2, if_pos hc]
      have nope : ¬ (1 ≤ q + emax + P - 1 ∧ q + emax + P - 1 < ((2 ^ E - 1 : Nat) : Int)) → packR P emin emax W E ex c neg S q = (0, false) := fun hn => packU_none h (by rw [hpk, if_neg hn])
      have nope2 : ∀ x : Int, x = IntKind.i64.wrap (IntKind.i64.wrap (IntKind.i64.wrap (q + emax) + (P : Int)) - 1) → ¬ (1 ≤ x ∧ x < ((2 ^ E - 1 : Nat) : Int)) → packR P emin emax W E ex c neg S q = (0, false) := by
        intro x hx hn
        refine nope (fun z => ?_)
        rw [← hx] at wE
        omega
      refine SW_seq ?_
      refine SW_region ?_
      refine nr 12 [(1, [0]), (4, [2]), (8, [2])] [(10, .int .i64 (IntKind.wrap IntKind.i64 (IntKind.wrap IntKind.i64 (IntKind.wrap IntKind.i64 (q + emax) + ((P : Nat) : Int)) - 1))), (42, .int .i64 (IntKind.wrap IntKind.i64 (IntKind.wrap IntKind.i64 (IntKind.wrap IntKind.i64 (q + emax) + ((P : Nat) : Int)) - 1))), (41, .int .i64 (IntKind.wrap IntKind.i64 (IntKind.wrap IntKind.i64 (q + emax) + ((P : Nat) : Int)))), (40, .int .i64 ((P : Nat) : Int)), (39, .pointer (some ⟨g2, 0, none⟩)), (38, .pointer (some ⟨g2, 0, none⟩)), (37, .int .i64 (IntKind.wrap IntKind.i64 (q + emax))), (36, .int .i64 emax), (35, .pointer (some ⟨g2, 2, none⟩)), (34, .pointer (some ⟨g2, 0, none⟩)), (33, .int .i64 q), (32, .pointer (some ⟨g0, 4, none⟩))] [g0, g2, g2] (by kernel_rfl) rfl ?_
      refine NW_nil 12 (by kernel_rfl) ?_
      refine SW_seq ?_
      refine SW_seq ?_
      refine SW_region ?_
      refine nr 4 [(1, [0])] [(46, .bool (decide (q < -1048576))), (45, .bool (decide (q < -1048576))), (44, .int .i64 q), (43, .pointer (some ⟨g0, 4, none⟩))] [g0] (by kernel_rfl) rfl ?_
      refine ncase 46 (decide (q < -1048576)) (by kernel_rfl) (fun q3 => ?_) (fun q3 => ?_)
      · refine nr 18 [(14, [2])] [(60, .bool true), (59, .tuple #[]), (58, .tuple #[]), (57, .tuple #[]), (56, .tuple #[]), (55, .bool true), (54, .bool true), (53, .tuple #[]), (52, .tuple #[]), (51, .bool true), (50, .bool true), (49, .tuple #[]), (48, .tuple #[]), (47, .tuple #[])] [] (by kernel_rfl) rfl ?_
        refine NW_nil 18 (by kernel_rfl) ?_
        refine sct (by kernel_rfl) ?_
        refine SW_seq ?_
        refine SW_region ?_
        refine nq 3 [(1, [1])] [(5, .bool false), (61, .agg #[.int .u64 0, .int .u64 0])] [⟨g0, [.int .i64 c, .bool neg, .int .u64 (hiI S), .int .u64 (loI S), .int .i64 q], 27⟩, ⟨g1, [.int .u64 0, .int .u64 0], 25⟩, ⟨g2, [.int .i64 ((P : Nat) : Int), .int .i64 emin, .int .i64 emax, .int .i64 ((W : Nat) : Int), .int .i64 ((E : Nat) : Int), .bool ex], 91⟩, ⟨g3, [.int .u64 0, .int .u64 0], 25⟩] [g1, g1] (by kernel_rfl) rfl ?_
        refine NW_nil 3 (by kernel_rfl) ?_
        refine SW_ret ?_
        refine rkr (.tuple #[.agg #[.int .u64 0, .int .u64 0], .bool false]) [1] [g1, g1] (by kernel_rfl) () ?_ trivial
        have := of_decide_eq_true q3
        rw [nope (by omega)]
        rfl
      · refine nr 9 [(5, [0])] [(51, .bool (decide (q > 1048576))), (50, .bool (decide (q > 1048576))), (49, .bool (decide (q > 1048576))), (48, .int .i64 q), (47, .pointer (some ⟨g0, 4, none⟩))] [g0] (by kernel_rfl) rfl ?_
        refine ncase 51 (decide (q > 1048576)) (by kernel_rfl) (fun q4 => ?_) (fun q4 => ?_)
        · refine nr 18 [(14, [2])] [(60, .bool true), (59, .tuple #[]), (58, .tuple #[]), (57, .tuple #[]), (56, .tuple #[]), (55, .bool true), (54, .bool true), (53, .tuple #[]), (52, .tuple #[])] [] (by kernel_rfl) rfl ?_
          refine NW_nil 18 (by kernel_rfl) ?_
          refine sct (by kernel_rfl) ?_
          refine SW_seq ?_
          refine SW_region ?_
          refine nq 3 [(1, [1])] [(5, .bool false), (61, .agg #[.int .u64 0, .int .u64 0])] [⟨g0, [.int .i64 c, .bool neg, .int .u64 (hiI S), .int .u64 (loI S), .int .i64 q], 27⟩, ⟨g1, [.int .u64 0, .int .u64 0], 25⟩, ⟨g2, [.int .i64 ((P : Nat) : Int), .int .i64 emin, .int .i64 emax, .int .i64 ((W : Nat) : Int), .int .i64 ((E : Nat) : Int), .bool ex], 91⟩, ⟨g3, [.int .u64 0, .int .u64 0], 25⟩] [g1, g1] (by kernel_rfl) rfl ?_
          refine NW_nil 3 (by kernel_rfl) ?_
          refine SW_ret ?_
          refine rkr (.tuple #[.agg #[.int .u64 0, .int .u64 0], .bool false]) [1] [g1, g1] (by kernel_rfl) () ?_ trivial
          have := of_decide_eq_true q4
          rw [nope (by omega)]
          rfl
        · refine nr 13 [] [(55, .bool (decide (IntKind.wrap IntKind.i64 (IntKind.wrap IntKind.i64 (IntKind.wrap IntKind.i64 (q + emax) + ((P : Nat) : Int)) - 1) < 1))), (54, .bool (decide (IntKind.wrap IntKind.i64 (IntKind.wrap IntKind.i64 (IntKind.wrap IntKind.i64 (q + emax) + ((P : Nat) : Int)) - 1) < 1))), (53, .bool (decide (IntKind.wrap IntKind.i64 (IntKind.wrap IntKind.i64 (IntKind.wrap IntKind.i64 (q + emax) + ((P : Nat) : Int)) - 1) < 1))), (52, .int .i64 (IntKind.wrap IntKind.i64 (IntKind.wrap IntKind.i64 (IntKind.wrap IntKind.i64 (q + emax) + ((P : Nat) : Int)) - 1)))] [] (by kernel_rfl) rfl ?_
          refine ncase 55 (decide (IntKind.wrap IntKind.i64 (IntKind.wrap IntKind.i64 (IntKind.wrap IntKind.i64 (q + emax) + ((P : Nat) : Int)) - 1) < 1)) (by kernel_rfl) (fun q5 => ?_) (fun q5 => ?_)
          · refine nr 18 [(14, [2])] [(60, .bool true), (59, .tuple #[]), (58, .tuple #[]), (57, .tuple #[]), (56, .tuple #[])] [] (by kernel_rfl) rfl ?_
            refine NW_nil 18 (by kernel_rfl) ?_
            refine sct (by kernel_rfl) ?_
            refine SW_seq ?_
            refine SW_region ?_
            refine nq 3 [(1, [1])] [(5, .bool false), (61, .agg #[.int .u64 0, .int .u64 0])] [⟨g0, [.int .i64 c, .bool neg, .int .u64 (hiI S), .int .u64 (loI S), .int .i64 q], 27⟩, ⟨g1, [.int .u64 0, .int .u64 0], 25⟩, ⟨g2, [.int .i64 ((P : Nat) : Int), .int .i64 emin, .int .i64 emax, .int .i64 ((W : Nat) : Int), .int .i64 ((E : Nat) : Int), .bool ex], 91⟩, ⟨g3, [.int .u64 0, .int .u64 0], 25⟩] [g1, g1] (by kernel_rfl) rfl ?_
            refine NW_nil 3 (by kernel_rfl) ?_
            refine SW_ret ?_
            refine rkr (.tuple #[.agg #[.int .u64 0, .int .u64 0], .bool false]) [1] [g1, g1] (by kernel_rfl) () ?_ trivial
            rw [nope2 _ rfl (fun z => by have := of_decide_eq_true q5; omega)]
            rfl
          · refine nr 15 [(14, [2])] [(57, .agg #[.int .i64 ((P : Nat) : Int), .int .i64 emin, .int .i64 emax, .int .i64 ((W : Nat) : Int), .int .i64 ((E : Nat) : Int), .bool ex]), (56, .int .i64 (IntKind.wrap IntKind.i64 (IntKind.wrap IntKind.i64 (IntKind.wrap IntKind.i64 (q + emax) + ((P : Nat) : Int)) - 1)))] [g2, g2, g2, g2, g2, g2] (by kernel_rfl) rfl ?_
            refine ncv 16 58 (ct_impl_layout_top h1) (by kernel_rfl) rfl zs0 ?_
            refine nr 18 [] [(60, .bool (decide (IntKind.wrap IntKind.i64 (IntKind.wrap IntKind.i64 (IntKind.wrap IntKind.i64 (q + emax) + ((P : Nat) : Int)) - 1) ≥ (((2 ^ E - 1) : Nat) : Int)))), (59, .bool (decide (IntKind.wrap IntKind.i64 (IntKind.wrap IntKind.i64 (IntKind.wrap IntKind.i64 (q + emax) + ((P : Nat) : Int)) - 1) ≥ (((2 ^ E - 1) : Nat) : Int))))] [] (by kernel_rfl) rfl ?_
            refine NW_nil 18 (by kernel_rfl) ?_
            refine sc (decide (IntKind.wrap IntKind.i64 (IntKind.wrap IntKind.i64 (IntKind.wrap IntKind.i64 (q + emax) + ((P : Nat) : Int)) - 1) ≥ (((2 ^ E - 1) : Nat) : Int))) (by kernel_rfl) (fun q6 => ?_) (fun q6 => ?_)
            · refine SW_seq ?_
              refine SW_region ?_
              refine nq 3 [(1, [1])] [(5, .bool false), (61, .agg #[.int .u64 0, .int .u64 0])] [⟨g0, [.int .i64 c, .bool neg, .int .u64 (hiI S), .int .u64 (loI S), .int .i64 q], 27⟩, ⟨g1, [.int .u64 0, .int .u64 0], 25⟩, ⟨g2, [.int .i64 ((P : Nat) : Int), .int .i64 emin, .int .i64 emax, .int .i64 ((W : Nat) : Int), .int .i64 ((E : Nat) : Int), .bool ex], 91⟩, ⟨g3, [.int .u64 0, .int .u64 0], 25⟩] [g1, g1] (by kernel_rfl) rfl ?_
              refine NW_nil 3 (by kernel_rfl) ?_
              refine SW_ret ?_
              refine rkr (.tuple #[.agg #[.int .u64 0, .int .u64 0], .bool false]) [1] [g1, g1] (by kernel_rfl) () ?_ trivial
              rw [nope2 _ rfl (fun z => by have := of_decide_eq_true q6; omega)]
              rfl
            · have a1 := of_decide_eq_false q5
              have a2 := of_decide_eq_false q6
              have wE2 : IntKind.i64.wrap (IntKind.i64.wrap (IntKind.i64.wrap (q + emax) + (P : Int)) - 1) = q + emax + P - 1 := by
                rcases wE with e | e
                · exact e
                · exact absurd e.1 a1
              rw [wE2] at a1 a2
              have e3 : (q + emax + P - 1).toNat < 2 ^ E := by omega
              have nE : Wd 0 (IntKind.u64.wrap (IntKind.i64.wrap (IntKind.i64.wrap (IntKind.i64.wrap (q + emax) + (P : Int)) - 1))) (q + emax + P - 1).toNat := ⟨by unfold hiI; omega, by rw [wE2, wrap_u64_id (by omega)]; unfold loI; omega⟩
              have e4 : (q + emax + P - 1).toNat < B128 := Nat.lt_trans e3 (Nat.lt_of_le_of_lt hE15 (by decide))
              have mE : (q + emax + P - 1).toNat * 2 ^ fracN P ex % B128 = (q + emax + P - 1).toNat * 2 ^ fracN P ex := hmod _ e3
              have bE : (q + emax + P - 1).toNat * 2 ^ fracN P ex % B128 < B128 := Nat.mod_lt _ (by decide)
              have bS : S % 2 ^ fracN P ex < B128 := Nat.lt_of_le_of_lt (Nat.mod_le _ _) hS
              clear wE2 wE nope nope2
              refine SW_skip ?_
              refine SW_region ?_
              refine nr 3 [(1, [0])] [(64, .int .i64 (((fracN P ex) : Nat) : Int)), (63, .agg #[.int .u64 (hiI S), .int .u64 (loI S)]), (62, .pointer (some ⟨g0, 2, none⟩))] [g0, g0] (by kernel_rfl) rfl ?_
              refine ncv 4 65 (ct_impl_Word_low (S) ((((fracN P ex) : Nat) : Int)) (fracN P ex) ⟨rfl⟩ (by omega) hS) (by kernel_rfl) rfl zs0 ?_
              refine nr 8 [] [(69, .int .i64 (((fracN P ex) : Nat) : Int)), (68, .agg #[.int .u64 0, .int .u64 (IntKind.wrap IntKind.u64 (IntKind.wrap IntKind.i64 (IntKind.wrap IntKind.i64 (IntKind.wrap IntKind.i64 (q + emax) + ((P : Nat) : Int)) - 1)))]), (67, .int .u64 (IntKind.wrap IntKind.u64 (IntKind.wrap IntKind.i64 (IntKind.wrap IntKind.i64 (IntKind.wrap IntKind.i64 (q + emax) + ((P : Nat) : Int)) - 1)))), (66, .int .i64 (IntKind.wrap IntKind.i64 (IntKind.wrap IntKind.i64 (IntKind.wrap IntKind.i64 (q + emax) + ((P : Nat) : Int)) - 1)))] [] (by kernel_rfl) rfl ?_
              refine ncv 9 70 (ct_impl_Word_left (0) (IntKind.wrap IntKind.u64 (IntKind.wrap IntKind.i64 (IntKind.wrap IntKind.i64 (IntKind.wrap IntKind.i64 (q + emax) + ((P : Nat) : Int)) - 1))) (Int.toNat (q + emax + ((P : Nat) : Int) - 1)) nE ((((fracN P ex) : Nat) : Int)) (fracN P ex) ⟨rfl⟩ (by omega) e4) (by kernel_rfl) rfl zs0 ?_
              refine ncv 10 71 (ct_impl_Word_or (hiI (S % 2 ^ fracN P ex)) (loI (S % 2 ^ fracN P ex)) (hiI (Int.toNat (q + emax + ((P : Nat) : Int) - 1) * 2 ^ fracN P ex % B128)) (loI (Int.toNat (q + emax + ((P : Nat) : Int) - 1) * 2 ^ fracN P ex % B128)) (S % 2 ^ fracN P ex) (Int.toNat (q + emax + ((P : Nat) : Int) - 1) * 2 ^ fracN P ex % B128) ⟨rfl, rfl⟩ ⟨rfl, rfl⟩ bS bE) (by kernel_rfl) rfl zs0 ?_
              refine nq 11 [(10, [3])] [] [⟨g0, [.int .i64 c, .bool neg, .int .u64 (hiI S), .int .u64 (loI S), .int .i64 q], 27⟩, ⟨g1, [.int .u64 0, .int .u64 0], 25⟩, ⟨g2, [.int .i64 ((P : Nat) : Int), .int .i64 emin, .int .i64 emax, .int .i64 ((W : Nat) : Int), .int .i64 ((E : Nat) : Int), .bool ex], 91⟩, ⟨g3, [.int .u64 (hiI (S % 2 ^ fracN P ex ||| Int.toNat (q + emax + ((P : Nat) : Int) - 1) * 2 ^ fracN P ex % B128)), .int .u64 (loI (S % 2 ^ fracN P ex ||| Int.toNat (q + emax + ((P : Nat) : Int) - 1) * 2 ^ fracN P ex % B128))], 25⟩] [g3, g3] (by kernel_rfl) rfl ?_
              refine NW_nil 11 (by kernel_rfl) ?_
              refine ⟨_, hlor _ _ bS bE, by rw [hpk, if_pos ⟨by omega, by omega⟩, mE], Weak.mk' (by kernel_rfl) rfl (zsS zi0 zs0)⟩
    have hc3 : c ≠ 3 := by simpa using q2
    refine SW_seq ?_
    refine SW_seq ?_
    refine SW_region ?_
    refine nr 2 [] [(72, .bool (c == 4)), (73, .bool (c == 4))] [] (by kernel_rfl) rfl ?_
    refine NW_nil 2 (by kernel_rfl) ?_
    refine sc (c == 4) (by kernel_rfl) (fun q3 => ?_) (fun q3 => ?_)
    · have hc : c = 4 := by simpa using q3
      have hpk : packU P emax E ex c S q = some (if ex = true then ((2 ^ E - 1) * 2 ^ fracN P ex ||| 2 ^ (P - 1)) else (2 ^ E - 1) * 2 ^ fracN P ex) := by unfold packU; rw [if_neg hc1, if_neg hc2, if_neg hc3, if_pos hc]
      refine SW_skip ?_
      refine sc (c == 4) (by kernel_rfl) (fun q4 => ?_) (fun q4 => ?_)
      · refine SW_seq ?_
        refine SW_region ?_
        refine nr 1 [(0, [2])] [(75, .agg #[.int .i64 ((P : Nat) : Int), .int .i64 emin, .int .i64 emax, .int .i64 ((W : Nat) : Int), .int .i64 ((E : Nat) : Int), .bool ex])] [g2, g2, g2, g2, g2, g2] (by kernel_rfl) rfl ?_
        refine ncv 2 76 (ct_impl_layout_top h1) (by kernel_rfl) rfl zs0 ?_
        refine nr 5 [] [(79, .int .i64 (((fracN P ex) : Nat) : Int)), (78, .agg #[.int .u64 0, .int .u64 (IntKind.wrap IntKind.u64 (((2 ^ E - 1) : Nat) : Int))]), (77, .int .u64 (IntKind.wrap IntKind.u64 (((2 ^ E - 1) : Nat) : Int)))] [] (by kernel_rfl) rfl ?_
        refine ncv 6 80 (ct_impl_Word_left (0) (IntKind.wrap IntKind.u64 (((2 ^ E - 1) : Nat) : Int)) (2 ^ E - 1) wT ((((fracN P ex) : Nat) : Int)) (fracN P ex) ⟨rfl⟩ (by omega) eT) (by kernel_rfl) rfl zs0 ?_
        refine nq 7 [(6, [3])] [] [⟨g0, [.int .i64 c, .bool neg, .int .u64 (hiI S), .int .u64 (loI S), .int .i64 q], 27⟩, ⟨g1, [.int .u64 0, .int .u64 0], 25⟩, ⟨g2, [.int .i64 ((P : Nat) : Int), .int .i64 emin, .int .i64 emax, .int .i64 ((W : Nat) : Int), .int .i64 ((E : Nat) : Int), .bool ex], 91⟩, ⟨g3, [.int .u64 (hiI ((2 ^ E - 1) * 2 ^ fracN P ex % B128)), .int .u64 (loI ((2 ^ E - 1) * 2 ^ fracN P ex % B128))], 25⟩] [g3, g3] (by kernel_rfl) rfl ?_
        refine NW_nil 7 (by kernel_rfl) ?_
        refine SW_seq ?_
        refine SW_seq ?_
        refine SW_region ?_
        refine nr 3 [(2, [2])] [(83, .bool ex), (82, .pointer (some ⟨g2, 5, none⟩)), (81, .pointer (some ⟨g2, 0, none⟩))] [g2] (by kernel_rfl) rfl ?_
        refine NW_nil 3 (by kernel_rfl) ?_
        refine sc (ex) (by kernel_rfl) (fun q5 => ?_) (fun q5 => ?_)
        · refine SW_draw (true, [([], []), ([], []), ([1], [1]), ([2], [2]), ([3], [3]), ([4], [4]), ([0, 5, 5], [0, 5]), ([6, 6, 0, 1, 2, 3, 4, 5, 6], [6])]) [0, 0, 2, 6, 14, 30, 63, 127] [7] [false, false, false, false, false, false, false, false] (by kernel_rfl) (by kernel_rfl) (by kernel_rfl) (by kernel_rfl) (fun hT hB => ?_)
          refine dr [(0, [3]), (1, []), (2, []), (3, [2]), (4, [])] [(88, .int .i64 (IntKind.wrap IntKind.i64 (((P : Nat) : Int) - 1))), (87, .int .i64 ((P : Nat) : Int)), (86, .pointer (some ⟨g2, 0, none⟩)), (85, .pointer (some ⟨g2, 0, none⟩)), (84, .agg #[.int .u64 (hiI ((2 ^ E - 1) * 2 ^ fracN P ex % B128)), .int .u64 (loI ((2 ^ E - 1) * 2 ^ fracN P ex % B128))])] [true, true, true, true, true, false, false, false] [g3, g3, g2] (Calm.then_ (Calm.block_ (Calm.then_ RetK.calm _) _) _) hT hB (by kernel_rfl) ?_
          refine dcv [true, true, true, true, true, true, false, false] 5 89 hT (ct_impl_one (IntKind.wrap IntKind.i64 (((P : Nat) : Int) - 1)) (P - 1) nP1 (by omega)) (by kernel_rfl) (by kernel_rfl) zs0 ?_
          refine dcv [true, true, true, true, true, true, true, false] 6 90 hT (ct_impl_Word_or (hiI ((2 ^ E - 1) * 2 ^ fracN P ex % B128)) (loI ((2 ^ E - 1) * 2 ^ fracN P ex % B128)) (hiI (2 ^ (P - 1))) (loI (2 ^ (P - 1))) ((2 ^ E - 1) * 2 ^ fracN P ex % B128) (2 ^ (P - 1)) ⟨rfl, rfl⟩ ⟨rfl, rfl⟩ bT b1) (by kernel_rfl) (by kernel_rfl) zs0 ?_
          refine dstore [true, true, true, true, true, true, true, true] 7 [3] [⟨g0, [.int .i64 c, .bool neg, .int .u64 (hiI S), .int .u64 (loI S), .int .i64 q], 27⟩, ⟨g1, [.int .u64 0, .int .u64 0], 25⟩, ⟨g2, [.int .i64 ((P : Nat) : Int), .int .i64 emin, .int .i64 emax, .int .i64 ((W : Nat) : Int), .int .i64 ((E : Nat) : Int), .bool ex], 91⟩, ⟨g3, [.int .u64 (hiI ((2 ^ E - 1) * 2 ^ fracN P ex % B128 ||| 2 ^ (P - 1))), .int .u64 (loI ((2 ^ E - 1) * 2 ^ fracN P ex % B128 ||| 2 ^ (P - 1)))], 25⟩] [g3, g3] hT rfl rfl (by kernel_rfl) (by kernel_rfl) (by kernel_rfl) (by kernel_rfl) (by kernel_rfl) (by kernel_rfl) ?_
          refine RW_done hT (by kernel_rfl) ?_
          refine SW_seq ?_
          refine SW_region ?_
          refine nr 3 [(1, [0])] [(93, .bool (c == 5)), (92, .int .i64 c), (91, .pointer (some ⟨g0, 0, none⟩))] [g0] (by kernel_rfl) rfl ?_
          refine NW_nil 3 (by kernel_rfl) ?_
          refine sc (c == 5) (by kernel_rfl) (fun q6 => ?_) (fun q6 => ?_)
          · exfalso
            have : c = 5 := by simpa using q6
            omega
          · refine SW_skip ?_
            exact ⟨_, bT2, by rw [hpk, if_pos q5, mT], Weak.mk' (by kernel_rfl) rfl (zsS zi0 zs0)⟩
        · refine SW_skip ?_
          refine SW_seq ?_
          refine SW_region ?_
          refine nr 3 [(1, [0])] [(93, .bool (c == 5)), (92, .int .i64 c), (91, .pointer (some ⟨g0, 0, none⟩))] [g0] (by kernel_rfl) rfl ?_
          refine NW_nil 3 (by kernel_rfl) ?_
          refine sc (c == 5) (by kernel_rfl) (fun q6 => ?_) (fun q6 => ?_)
          · exfalso
            have : c = 5 := by simpa using q6
            omega
          · refine SW_skip ?_
            exact ⟨_, bT, by rw [hpk, if_neg (by rw [q5]; decide), mT], Weak.mk' (by kernel_rfl) rfl (zsS zi0 zs0)⟩
      · rw [q3] at q4
        cases q4
    have hc4 : c ≠ 4 := by simpa using q3
    refine SW_region ?_
    refine nr 2 [] [(72, .bool (c == 5)), (74, .bool (c == 5))] [] (by kernel_rfl) rfl ?_
    refine NW_nil 2 (by kernel_rfl) ?_
    refine sc (c == 5) (by kernel_rfl) (fun q4 => ?_) (fun q4 => ?_)
    · have hc : c = 5 := by simpa using q4
      have hpk : packU P emax E ex c S q = some ((if ex = true then ((2 ^ E - 1) * 2 ^ fracN P ex ||| 2 ^ (P - 1)) else (2 ^ E - 1) * 2 ^ fracN P ex) ||| 2 ^ (P - 2)) := by unfold packU; rw [if_neg hc1, if_neg hc2, if_neg hc3, if_neg hc4, if_pos hc]
      refine SW_seq ?_
      refine SW_region ?_
      refine nr 1 [(0, [2])] [(75, .agg #[.int .i64 ((P : Nat) : Int), .int .i64 emin, .int .i64 emax, .int .i64 ((W : Nat) : Int), .int .i64 ((E : Nat) : Int), .bool ex])] [g2, g2, g2, g2, g2, g2] (by kernel_rfl) rfl ?_
      refine ncv 2 76 (ct_impl_layout_top h1) (by kernel_rfl) rfl zs0 ?_
      refine nr 5 [] [(79, .int .i64 (((fracN P ex) : Nat) : Int)), (78, .agg #[.int .u64 0, .int .u64 (IntKind.wrap IntKind.u64 (((2 ^ E - 1) : Nat) : Int))]), (77, .int .u64 (IntKind.wrap IntKind.u64 (((2 ^ E - 1) : Nat) : Int)))] [] (by kernel_rfl) rfl ?_
      refine ncv 6 80 (ct_impl_Word_left (0) (IntKind.wrap IntKind.u64 (((2 ^ E - 1) : Nat) : Int)) (2 ^ E - 1) wT ((((fracN P ex) : Nat) : Int)) (fracN P ex) ⟨rfl⟩ (by omega) eT) (by kernel_rfl) rfl zs0 ?_
      refine nq 7 [(6, [3])] [] [⟨g0, [.int .i64 c, .bool neg, .int .u64 (hiI S), .int .u64 (loI S), .int .i64 q], 27⟩, ⟨g1, [.int .u64 0, .int .u64 0], 25⟩, ⟨g2, [.int .i64 ((P : Nat) : Int), .int .i64 emin, .int .i64 emax, .int .i64 ((W : Nat) : Int), .int .i64 ((E : Nat) : Int), .bool ex], 91⟩, ⟨g3, [.int .u64 (hiI ((2 ^ E - 1) * 2 ^ fracN P ex % B128)), .int .u64 (loI ((2 ^ E - 1) * 2 ^ fracN P ex % B128))], 25⟩] [g3, g3] (by kernel_rfl) rfl ?_
      refine NW_nil 7 (by kernel_rfl) ?_
      refine SW_seq ?_
      refine SW_seq ?_
      refine SW_region ?_
      refine nr 3 [(2, [2])] [(83, .bool ex), (82, .pointer (some ⟨g2, 5, none⟩)), (81, .pointer (some ⟨g2, 0, none⟩))] [g2] (by kernel_rfl) rfl ?_
      refine NW_nil 3 (by kernel_rfl) ?_
      refine sc (ex) (by kernel_rfl) (fun q5 => ?_) (fun q5 => ?_)
      · refine SW_draw (true, [([], []), ([], []), ([1], [1]), ([2], [2]), ([3], [3]), ([4], [4]), ([0, 5, 5], [0, 5]), ([6, 6, 0, 1, 2, 3, 4, 5, 6], [6])]) [0, 0, 2, 6, 14, 30, 63, 127] [7] [false, false, false, false, false, false, false, false] (by kernel_rfl) (by kernel_rfl) (by kernel_rfl) (by kernel_rfl) (fun hT hB => ?_)
        refine dr [(0, [3]), (1, []), (2, []), (3, [2]), (4, [])] [(88, .int .i64 (IntKind.wrap IntKind.i64 (((P : Nat) : Int) - 1))), (87, .int .i64 ((P : Nat) : Int)), (86, .pointer (some ⟨g2, 0, none⟩)), (85, .pointer (some ⟨g2, 0, none⟩)), (84, .agg #[.int .u64 (hiI ((2 ^ E - 1) * 2 ^ fracN P ex % B128)), .int .u64 (loI ((2 ^ E - 1) * 2 ^ fracN P ex % B128))])] [true, true, true, true, true, false, false, false] [g3, g3, g2] (Calm.then_ (Calm.block_ (Calm.then_ RetK.calm _) _) _) hT hB (by kernel_rfl) ?_
        refine dcv [true, true, true, true, true, true, false, false] 5 89 hT (ct_impl_one (IntKind.wrap IntKind.i64 (((P : Nat) : Int) - 1)) (P - 1) nP1 (by omega)) (by kernel_rfl) (by kernel_rfl) zs0 ?_
        refine dcv [true, true, true, true, true, true, true, false] 6 90 hT (ct_impl_Word_or (hiI ((2 ^ E - 1) * 2 ^ fracN P ex % B128)) (loI ((2 ^ E - 1) * 2 ^ fracN P ex % B128)) (hiI (2 ^ (P - 1))) (loI (2 ^ (P - 1))) ((2 ^ E - 1) * 2 ^ fracN P ex % B128) (2 ^ (P - 1)) ⟨rfl, rfl⟩ ⟨rfl, rfl⟩ bT b1) (by kernel_rfl) (by kernel_rfl) zs0 ?_
        refine dstore [true, true, true, true, true, true, true, true] 7 [3] [⟨g0, [.int .i64 c, .bool neg, .int .u64 (hiI S), .int .u64 (loI S), .int .i64 q], 27⟩, ⟨g1, [.int .u64 0, .int .u64 0], 25⟩, ⟨g2, [.int .i64 ((P : Nat) : Int), .int .i64 emin, .int .i64 emax, .int .i64 ((W : Nat) : Int), .int .i64 ((E : Nat) : Int), .bool ex], 91⟩, ⟨g3, [.int .u64 (hiI ((2 ^ E - 1) * 2 ^ fracN P ex % B128 ||| 2 ^ (P - 1))), .int .u64 (loI ((2 ^ E - 1) * 2 ^ fracN P ex % B128 ||| 2 ^ (P - 1)))], 25⟩] [g3, g3] hT rfl rfl (by kernel_rfl) (by kernel_rfl) (by kernel_rfl) (by kernel_rfl) (by kernel_rfl) (by kernel_rfl) ?_
        refine RW_done hT (by kernel_rfl) ?_
        refine SW_seq ?_
        refine SW_region ?_
        refine nr 3 [(1, [0])] [(93, .bool (c == 5)), (92, .int .i64 c), (91, .pointer (some ⟨g0, 0, none⟩))] [g0] (by kernel_rfl) rfl ?_
        refine NW_nil 3 (by kernel_rfl) ?_
        refine sc (c == 5) (by kernel_rfl) (fun q6 => ?_) (fun q6 => ?_)
        · refine SW_draw (true, [([], []), ([], []), ([1], [1]), ([2], [2]), ([3], [3]), ([4], [4]), ([0, 5, 5], [0, 5]), ([6, 6, 0, 1, 2, 3, 4, 5, 6], [6])]) [0, 0, 2, 6, 14, 30, 63, 127] [7] [false, false, false, false, false, false, false, false] (by kernel_rfl) (by kernel_rfl) (by kernel_rfl) (by kernel_rfl) (fun hT hB => ?_)
          refine dr [(0, [3]), (1, []), (2, []), (3, [2]), (4, [])] [(98, .int .i64 (IntKind.wrap IntKind.i64 (((P : Nat) : Int) - 2))), (97, .int .i64 ((P : Nat) : Int)), (96, .pointer (some ⟨g2, 0, none⟩)), (95, .pointer (some ⟨g2, 0, none⟩)), (94, .agg #[.int .u64 (hiI ((2 ^ E - 1) * 2 ^ fracN P ex % B128 ||| 2 ^ (P - 1))), .int .u64 (loI ((2 ^ E - 1) * 2 ^ fracN P ex % B128 ||| 2 ^ (P - 1)))])] [true, true, true, true, true, false, false, false] [g3, g3, g2] (Calm.block_ (Calm.then_ RetK.calm _) _) hT hB (by kernel_rfl) ?_
          refine dcv [true, true, true, true, true, true, false, false] 5 99 hT (ct_impl_one (IntKind.wrap IntKind.i64 (((P : Nat) : Int) - 2)) (P - 2) nP2 (by omega)) (by kernel_rfl) (by kernel_rfl) zs0 ?_
          refine dcv [true, true, true, true, true, true, true, false] 6 100 hT (ct_impl_Word_or (hiI ((2 ^ E - 1) * 2 ^ fracN P ex % B128 ||| 2 ^ (P - 1))) (loI ((2 ^ E - 1) * 2 ^ fracN P ex % B128 ||| 2 ^ (P - 1))) (hiI (2 ^ (P - 2))) (loI (2 ^ (P - 2))) ((2 ^ E - 1) * 2 ^ fracN P ex % B128 ||| 2 ^ (P - 1)) (2 ^ (P - 2)) ⟨rfl, rfl⟩ ⟨rfl, rfl⟩ bT2 b2) (by kernel_rfl) (by kernel_rfl) zs0 ?_
          refine dstore [true, true, true, true, true, true, true, true] 7 [3] [⟨g0, [.int .i64 c, .bool neg, .int .u64 (hiI S), .int .u64 (loI S), .int .i64 q], 27⟩, ⟨g1, [.int .u64 0, .int .u64 0], 25⟩, ⟨g2, [.int .i64 ((P : Nat) : Int), .int .i64 emin, .int .i64 emax, .int .i64 ((W : Nat) : Int), .int .i64 ((E : Nat) : Int), .bool ex], 91⟩, ⟨g3, [.int .u64 (hiI ((2 ^ E - 1) * 2 ^ fracN P ex % B128 ||| 2 ^ (P - 1) ||| 2 ^ (P - 2))), .int .u64 (loI ((2 ^ E - 1) * 2 ^ fracN P ex % B128 ||| 2 ^ (P - 1) ||| 2 ^ (P - 2)))], 25⟩] [g3, g3] hT rfl rfl (by kernel_rfl) (by kernel_rfl) (by kernel_rfl) (by kernel_rfl) (by kernel_rfl) (by kernel_rfl) ?_
          refine RW_done hT (by kernel_rfl) ?_
          exact ⟨_, hlor _ _ bT2 b2, by rw [hpk, if_pos q5, mT], Weak.mk' (by kernel_rfl) rfl (zsS zi0 zs0)⟩
        · rw [q4] at q6
          cases q6
      · refine SW_skip ?_
        refine SW_seq ?_
        refine SW_region ?_
        refine nr 3 [(1, [0])] [(93, .bool (c == 5)), (92, .int .i64 c), (91, .pointer (some ⟨g0, 0, none⟩))] [g0] (by kernel_rfl) rfl ?_
        refine NW_nil 3 (by kernel_rfl) ?_
        refine sc (c == 5) (by kernel_rfl) (fun q6 => ?_) (fun q6 => ?_)
        · refine SW_draw (true, [([], []), ([], []), ([1], [1]), ([2], [2]), ([3], [3]), ([4], [4]), ([0, 5, 5], [0, 5]), ([6, 6, 0, 1, 2, 3, 4, 5, 6], [6])]) [0, 0, 2, 6, 14, 30, 63, 127] [7] [false, false, false, false, false, false, false, false] (by kernel_rfl) (by kernel_rfl) (by kernel_rfl) (by kernel_rfl) (fun hT hB => ?_)
          refine dr [(0, [3]), (1, []), (2, []), (3, [2]), (4, [])] [(98, .int .i64 (IntKind.wrap IntKind.i64 (((P : Nat) : Int) - 2))), (97, .int .i64 ((P : Nat) : Int)), (96, .pointer (some ⟨g2, 0, none⟩)), (95, .pointer (some ⟨g2, 0, none⟩)), (94, .agg #[.int .u64 (hiI ((2 ^ E - 1) * 2 ^ fracN P ex % B128)), .int .u64 (loI ((2 ^ E - 1) * 2 ^ fracN P ex % B128))])] [true, true, true, true, true, false, false, false] [g3, g3, g2] (Calm.block_ (Calm.then_ RetK.calm _) _) hT hB (by kernel_rfl) ?_
          refine dcv [true, true, true, true, true, true, false, false] 5 99 hT (ct_impl_one (IntKind.wrap IntKind.i64 (((P : Nat) : Int) - 2)) (P - 2) nP2 (by omega)) (by kernel_rfl) (by kernel_rfl) zs0 ?_
          refine dcv [true, true, true, true, true, true, true, false] 6 100 hT (ct_impl_Word_or (hiI ((2 ^ E - 1) * 2 ^ fracN P ex % B128)) (loI ((2 ^ E - 1) * 2 ^ fracN P ex % B128)) (hiI (2 ^ (P - 2))) (loI (2 ^ (P - 2))) ((2 ^ E - 1) * 2 ^ fracN P ex % B128) (2 ^ (P - 2)) ⟨rfl, rfl⟩ ⟨rfl, rfl⟩ bT b2) (by kernel_rfl) (by kernel_rfl) zs0 ?_
          refine dstore [true, true, true, true, true, true, true, true] 7 [3] [⟨g0, [.int .i64 c, .bool neg, .int .u64 (hiI S), .int .u64 (loI S), .int .i64 q], 27⟩, ⟨g1, [.int .u64 0, .int .u64 0], 25⟩, ⟨g2, [.int .i64 ((P : Nat) : Int), .int .i64 emin, .int .i64 emax, .int .i64 ((W : Nat) : Int), .int .i64 ((E : Nat) : Int), .bool ex], 91⟩, ⟨g3, [.int .u64 (hiI ((2 ^ E - 1) * 2 ^ fracN P ex % B128 ||| 2 ^ (P - 2))), .int .u64 (loI ((2 ^ E - 1) * 2 ^ fracN P ex % B128 ||| 2 ^ (P - 2)))], 25⟩] [g3, g3] hT rfl rfl (by kernel_rfl) (by kernel_rfl) (by kernel_rfl) (by kernel_rfl) (by kernel_rfl) (by kernel_rfl) ?_
          refine RW_done hT (by kernel_rfl) ?_
          exact ⟨_, hlor _ _ bT b2, by rw [hpk, if_neg (by rw [q5]; decide), mT], Weak.mk' (by kernel_rfl) rfl (zsS zi0 zs0)⟩
        · rw [q4] at q6
          cases q6
    have hc5 : c ≠ 5 := by simpa using q4
    refine SW_skip ?_
    exact ⟨0, by decide, by unfold packU; rw [if_neg hc1, if_neg hc2, if_neg hc3, if_neg hc4, if_neg hc5], Weak.mk' (by kernel_rfl) rfl (zsS zi0 zs0)⟩
  · rintro s' ⟨u, hu, hpu, hw⟩
    refine SW_weak hw ?_
    rw [packU_some h hpu]
    refine SW_cut (fun s' => Weak s' ⟨[(0, .int .i64 f), (3, .pointer (some ⟨g0, 0, none⟩)), (4, .pointer (some ⟨g1, 0, none⟩)), (9, .pointer (some ⟨g3, 0, none⟩))], [⟨g0, [.int .i64 c, .bool neg, .int .u64 (hiI S), .int .u64 (loI S), .int .i64 q], 27⟩, ⟨g1, [.int .u64 0, .int .u64 0], 25⟩, ⟨g2, [.int .i64 (P : Int), .int .i64 emin, .int .i64 emax, .int .i64 (W : Int), .int .i64 (E : Int), .bool ex], 91⟩, ⟨g3, [.int .u64 (hiI (if neg = true then u ||| 2 ^ (W - 1) else u)), .int .u64 (loI (if neg = true then u ||| 2 ^ (W - 1) else u))], 25⟩], [Tabled]⟩) ?_ ?_
    · refine SW_seq ?_
      refine SW_region ?_
      refine nr 2 [(1, [0])] [(102, .bool neg), (101, .pointer (some ⟨g0, 1, none⟩))] [g0] (by kernel_rfl) rfl ?_
      refine NW_nil 2 (by kernel_rfl) ?_
      refine sc (neg) (by kernel_rfl) (fun q0 => ?_) (fun q0 => ?_)
      · refine SW_draw (true, [([], []), ([], []), ([1], [1]), ([2], [2]), ([3], [3]), ([4], [4]), ([0, 5, 5], [0, 5]), ([6, 6, 0, 1, 2, 3, 4, 5, 6], [6])]) [0, 0, 2, 6, 14, 30, 63, 127] [7] [false, false, false, false, false, false, false, false] (by kernel_rfl) (by kernel_rfl) (by kernel_rfl) (by kernel_rfl) (fun hT hB => ?_)
        refine dr [(0, [3]), (1, []), (2, []), (3, [2]), (4, [])] [(107, .int .i64 (IntKind.wrap IntKind.i64 (((W : Nat) : Int) - 1))), (106, .int .i64 ((W : Nat) : Int)), (105, .pointer (some ⟨g2, 3, none⟩)), (104, .pointer (some ⟨g2, 0, none⟩)), (103, .agg #[.int .u64 (hiI u), .int .u64 (loI u)])] [true, true, true, true, true, false, false, false] [g3, g3, g2] (Calm.then_ RetK.calm _) hT hB (by kernel_rfl) ?_
        refine dcv [true, true, true, true, true, true, false, false] 5 108 hT (ct_impl_one (IntKind.wrap IntKind.i64 (((W : Nat) : Int) - 1)) (W - 1) nW1 (by omega)) (by kernel_rfl) (by kernel_rfl) zs0 ?_
        refine dcv [true, true, true, true, true, true, true, false] 6 109 hT (ct_impl_Word_or (hiI u) (loI u) (hiI (2 ^ (W - 1))) (loI (2 ^ (W - 1))) (u) (2 ^ (W - 1)) ⟨rfl, rfl⟩ ⟨rfl, rfl⟩ hu b3) (by kernel_rfl) (by kernel_rfl) zs0 ?_
        refine dstore [true, true, true, true, true, true, true, true] 7 [3] [⟨g0, [.int .i64 c, .bool neg, .int .u64 (hiI S), .int .u64 (loI S), .int .i64 q], 27⟩, ⟨g1, [.int .u64 0, .int .u64 0], 25⟩, ⟨g2, [.int .i64 ((P : Nat) : Int), .int .i64 emin, .int .i64 emax, .int .i64 ((W : Nat) : Int), .int .i64 ((E : Nat) : Int), .bool ex], 91⟩, ⟨g3, [.int .u64 (hiI (u ||| 2 ^ (W - 1))), .int .u64 (loI (u ||| 2 ^ (W - 1)))], 25⟩] [g3, g3] hT rfl rfl (by kernel_rfl) (by kernel_rfl) (by kernel_rfl) (by kernel_rfl) (by kernel_rfl) (by kernel_rfl) ?_
        refine RW_done hT (by kernel_rfl) ?_
        rw [if_pos q0]
        exact Weak.mk' (by kernel_rfl) rfl (zsS zi0 zs0)
      · refine SW_skip ?_
        rw [if_neg (by rw [q0]; decide)]
        exact Weak.mk' (by kernel_rfl) rfl (zsS zi0 zs0)
    · intro s' hw
      refine SW_weak hw ?_
      have hx : (if neg = true then u ||| 2 ^ (W - 1) else u) < B128 := by
        split
        · exact hlor _ _ hu b3
        · exact hu
      generalize (if neg = true then u ||| 2 ^ (W - 1) else u) = x at hx ⊢
      refine SW_seq ?_
      refine SW_seq ?_
      refine SW_draw (true, [([], []), ([], []), ([0, 1], [0, 1]), ([], []), ([2, 3], [2, 3])]) [0, 0, 3, 0, 15] [] [false, false, false, false, false] (by kernel_rfl) (by kernel_rfl) (by kernel_rfl) (by kernel_rfl) (fun hT hB => ?_)
      refine dr [(0, []), (1, [3]), (3, [0])] [(113, .agg #[.int .i64 c, .bool neg, .int .u64 (hiI S), .int .u64 (loI S), .int .i64 q]), (111, .agg #[.int .u64 (hiI x), .int .u64 (loI x)]), (110, .int .i64 f)] [true, true, false, true, false] [g3, g3, g0, g0, g0, g0, g0] (Calm.then_ (Calm.then_ RetK.calm _) _) hT hB (by kernel_rfl) ?_
      refine dcv [true, true, true, true, false] 2 112 hT (ct_impl_Unpack h1 (f) hf (x) hx) (by kernel_rfl) (by kernel_rfl) (zsS zi0 zs0) ?_
      refine dv [true, true, true, true, true] 4 114 (.bool (!((Prod.fst (unpN P emin emax W E ex x) == c) && ((Prod.fst (Prod.snd (unpN P emin emax W E ex x)) == neg) && (((Prod.fst (Prod.snd (Prod.snd (unpN P emin emax W E ex x))) == hiI S) && (Prod.fst (Prod.snd (Prod.snd (Prod.snd (unpN P emin emax W E ex x)))) == loI S)) && (Prod.snd (Prod.snd (Prod.snd (Prod.snd (unpN P emin emax W E ex x)))) == q)))))) (Calm.then_ (Calm.then_ RetK.calm _) _) hT hB rfl (by kernel_rfl) (by kernel_rfl) rfl (by kernel_rfl) (by kernel_rfl) (fun w _ _ => run_neq rfl (by kernel_rfl) (by kernel_rfl) (by kernel_rfl) w (eq_parts _ _ _ _ _ _ _ _ _ _ _ w)) ?_
      refine RW_done hT (by kernel_rfl) ?_
      refine sc (!(Prod.fst (unpN P emin emax W E ex x) == c && (Prod.fst (Prod.snd (unpN P emin emax W E ex x)) == neg && (Prod.fst (Prod.snd (Prod.snd (unpN P emin emax W E ex x))) == hiI S && Prod.fst (Prod.snd (Prod.snd (Prod.snd (unpN P emin emax W E ex x)))) == loI S && Prod.snd (Prod.snd (Prod.snd (Prod.snd (unpN P emin emax W E ex x)))) == q)))) (by kernel_rfl) (fun q0 => ?_) (fun q0 => ?_)
      · refine SW_seq ?_
        refine SW_region ?_
        refine nq 3 [(1, [1])] [(5, .bool false), (115, .agg #[.int .u64 0, .int .u64 0])] [⟨g0, [.int .i64 c, .bool neg, .int .u64 (hiI S), .int .u64 (loI S), .int .i64 q], 27⟩, ⟨g1, [.int .u64 0, .int .u64 0], 25⟩, ⟨g2, [.int .i64 ((P : Nat) : Int), .int .i64 emin, .int .i64 emax, .int .i64 ((W : Nat) : Int), .int .i64 ((E : Nat) : Int), .bool ex], 91⟩, ⟨g3, [.int .u64 (hiI x), .int .u64 (loI x)], 25⟩] [g1, g1] (by kernel_rfl) rfl ?_
        refine NW_nil 3 (by kernel_rfl) ?_
        refine SW_ret ?_
        refine rkr (.tuple #[.agg #[.int .u64 0, .int .u64 0], .bool false]) [1] [g1, g1] (by kernel_rfl) () ?_ trivial
        rw [if_neg]
        · rfl
        · intro hu
          rw [hu] at q0
          simp at q0
      · refine SW_skip ?_
        refine SW_seq ?_
        refine SW_region ?_
        refine nq 3 [(0, [3]), (1, [1])] [(5, .bool true), (116, .agg #[.int .u64 (hiI x), .int .u64 (loI x)])] [⟨g0, [.int .i64 c, .bool neg, .int .u64 (hiI S), .int .u64 (loI S), .int .i64 q], 27⟩, ⟨g1, [.int .u64 (hiI x), .int .u64 (loI x)], 25⟩, ⟨g2, [.int .i64 ((P : Nat) : Int), .int .i64 emin, .int .i64 emax, .int .i64 ((W : Nat) : Int), .int .i64 ((E : Nat) : Int), .bool ex], 91⟩, ⟨g3, [.int .u64 (hiI x), .int .u64 (loI x)], 25⟩] [g3, g3, g1, g1] (by kernel_rfl) rfl ?_
        refine NW_nil 3 (by kernel_rfl) ?_
        refine SW_ret ?_
        refine rkr (.tuple #[.agg #[.int .u64 (hiI x), .int .u64 (loI x)], .bool true]) [1] [g1, g1] (by kernel_rfl) () ?_ trivial
        rw [if_pos]
        have hq : (!eqb (unpN P emin emax W E ex x) (c, neg, hiI S, loI S, q)) = false := q0
        exact (eqb_iff _ _).1 (by simpa using hq)
end Go.Proofs.YtdbnmdchecacdaaDoor.M
end
section
namespace Go.Proofs.YtdbnmdchecacdaaDoor.M
open Go.RowKit Go.Proofs.YtdbnmdchecacdaaDoor.G Go.Proofs.YtdbnmdchecacdaaDoorV.PrintWords Go.Proofs.YtdbnmdchecacdaaDoorV.PrintLast Go.Proofs.YtdbnmdchecacdaaDoorV.PrintMore Go.Proofs.YtdbnmdchecacdaaDoor.PL Go.Proofs.YtdbnmdchecacdaaDoor.X
set_option linter.unusedVariables false
set_option linter.unusedSimpArgs false
theorem ct_spec_Describe' (f : Int) (hf : spec_Describe.f f = some (0, 0, 0, 0, 0, false)) : CtV Tryd.prog 57 [.int .i64 f] [] (.agg #[.int .i64 0, .int .i64 0, .int .i64 0, .int .i64 0, .int .i64 0, .bool false]) :=
  ctV0 (fun w => spec_Describe.calls _ _ _ _ _ _ _ w hf)
theorem ct_impl_layoutOf' (f : Int) (hf : impl_layoutOf.f f = some (0, 0, 0, 0, 0, false, false)) : CtV Tryd.prog 65 [.int .i64 f] [Tabled] (.tuple #[.agg #[.int .i64 0, .int .i64 0, .int .i64 0, .int .i64 0, .int .i64 0, .bool false], .bool false]) :=
  ctV1 (fun w h1 => impl_layoutOf.calls _ _ _ _ _ _ _ _ w h1 hf)
theorem ct_spec_Pack0 (f : Int) (hf : spec_Describe.f f = some (0, 0, 0, 0, 0, false)) (c : Int) (neg : Bool) (h l : Int) (q : Int) :
    CtV Tryd.prog 21 [.int .i64 f, .agg #[.int .i64 c, .bool neg, .int .u64 h, .int .u64 l, .int .i64 q]] [] (.tuple #[.agg #[.int .u64 0, .int .u64 0], .bool false]) := by
  refine ct_of Tryd.func21 rfl (by kernel_rfl) (fun B w0 => ?_)
  refine SW_seq ?_
  refine SW_region ?_
  refine nn 1 3 [.int .i64 c, .bool neg, .int .u64 h, .int .u64 l, .int .i64 q] 27 (fun g => by kernel_rfl) rfl (fun g0 => ?_)
  refine nn 2 4 [.int .u64 0, .int .u64 0] 25 (fun g => by kernel_rfl) rfl (fun g1 => ?_)
  refine nr 3 [] [(5, .bool false)] [] (by kernel_rfl) rfl ?_
  refine NW_nil 3 (by kernel_rfl) ?_
  refine SW_seq ?_
  refine SW_region ?_
  refine nr 1 [] [(10, .int .i64 f)] [] (by kernel_rfl) rfl ?_
  refine ncv 2 11 (ct_spec_Describe' (f) hf) (by kernel_rfl) rfl zs0 ?_
  refine nn 3 6 [.int .i64 0, .int .i64 0, .int .i64 0, .int .i64 0, .int .i64 0, .bool false] 83 (fun g => by kernel_rfl) rfl (fun g2 => ?_)
  refine nq 4 [(3, [2])] [] [⟨g0, [.int .i64 c, .bool neg, .int .u64 h, .int .u64 l, .int .i64 q], 27⟩, ⟨g1, [.int .u64 0, .int .u64 0], 25⟩, ⟨g2, [.int .i64 0, .int .i64 0, .int .i64 0, .int .i64 0, .int .i64 0, .bool false], 83⟩] [g2, g2, g2, g2, g2, g2] (by kernel_rfl) rfl ?_
  refine NW_nil 4 (by kernel_rfl) ?_
  refine SW_seq ?_
  refine SW_seq ?_
  refine SW_region ?_
  refine nr 3 [(1, [2])] [(14, .bool true), (13, .int .i64 0), (12, .pointer (some ⟨g2, 0, none⟩))] [g2] (by kernel_rfl) rfl ?_
  refine NW_nil 3 (by kernel_rfl) ?_
  refine sct (by kernel_rfl) ?_
  refine SW_seq ?_
  refine SW_region ?_
  refine nq 3 [(1, [1])] [(5, .bool false), (15, .agg #[.int .u64 0, .int .u64 0])] [⟨g0, [.int .i64 c, .bool neg, .int .u64 h, .int .u64 l, .int .i64 q], 27⟩, ⟨g1, [.int .u64 0, .int .u64 0], 25⟩, ⟨g2, [.int .i64 0, .int .i64 0, .int .i64 0, .int .i64 0, .int .i64 0, .bool false], 83⟩] [g1, g1] (by kernel_rfl) rfl ?_
  refine NW_nil 3 (by kernel_rfl) ?_
  refine SW_ret ?_
  refine rkr (.tuple #[.agg #[.int .u64 0, .int .u64 0], .bool false]) [1] [g1, g1] (by kernel_rfl) () ?_ trivial
  rfl
theorem ct_impl_Pack0 (f : Int) (hf : impl_layoutOf.f f = some (0, 0, 0, 0, 0, false, false)) (c : Int) (neg : Bool) (h l : Int) (q : Int) :
    CtV Tryd.prog 23 [.int .i64 f, .agg #[.int .i64 c, .bool neg, .int .u64 h, .int .u64 l, .int .i64 q]] [Tabled] (.tuple #[.agg #[.int .u64 0, .int .u64 0], .bool false]) := by
  refine ct_of Tryd.func23 rfl (by kernel_rfl) (fun B w0 => ?_)
  refine SW_seq ?_
  refine SW_region ?_
  refine nn 1 3 [.int .i64 c, .bool neg, .int .u64 h, .int .u64 l, .int .i64 q] 27 (fun g => by kernel_rfl) rfl (fun g0 => ?_)
  refine nn 2 4 [.int .u64 0, .int .u64 0] 25 (fun g => by kernel_rfl) rfl (fun g1 => ?_)
  refine nr 3 [] [(5, .bool false)] [] (by kernel_rfl) rfl ?_
  refine NW_nil 3 (by kernel_rfl) ?_
  refine SW_seq ?_
  refine SW_region ?_
  refine nr 1 [] [(12, .int .i64 f)] [] (by kernel_rfl) rfl ?_
  refine ncv 2 13 (ct_impl_layoutOf' (f) hf) (by kernel_rfl) rfl (zsS zi0 zs0) ?_
  refine nr 5 [] [(15, .bool false), (14, .agg #[.int .i64 0, .int .i64 0, .int .i64 0, .int .i64 0, .int .i64 0, .bool false]), (11, .tuple #[.agg #[.int .i64 0, .int .i64 0, .int .i64 0, .int .i64 0, .int .i64 0, .bool false], .bool false])] [] (by kernel_rfl) rfl ?_
  refine nn 6 6 [.int .i64 0, .int .i64 0, .int .i64 0, .int .i64 0, .int .i64 0, .bool false] 91 (fun g => by kernel_rfl) rfl (fun g2 => ?_)
  refine nq 8 [(6, [2])] [(7, .bool false)] [⟨g0, [.int .i64 c, .bool neg, .int .u64 h, .int .u64 l, .int .i64 q], 27⟩, ⟨g1, [.int .u64 0, .int .u64 0], 25⟩, ⟨g2, [.int .i64 0, .int .i64 0, .int .i64 0, .int .i64 0, .int .i64 0, .bool false], 91⟩] [g2, g2, g2, g2, g2, g2] (by kernel_rfl) rfl ?_
  refine NW_nil 8 (by kernel_rfl) ?_
  refine SW_seq ?_
  refine SW_seq ?_
  refine SW_region ?_
  refine nr 2 [] [(17, .bool true), (16, .bool false)] [] (by kernel_rfl) rfl ?_
  refine NW_nil 2 (by kernel_rfl) ?_
  refine sct (by kernel_rfl) ?_
  refine SW_seq ?_
  refine SW_region ?_
  refine nq 3 [(1, [1])] [(5, .bool false), (18, .agg #[.int .u64 0, .int .u64 0])] [⟨g0, [.int .i64 c, .bool neg, .int .u64 h, .int .u64 l, .int .i64 q], 27⟩, ⟨g1, [.int .u64 0, .int .u64 0], 25⟩, ⟨g2, [.int .i64 0, .int .i64 0, .int .i64 0, .int .i64 0, .int .i64 0, .bool false], 91⟩] [g1, g1] (by kernel_rfl) rfl ?_
  refine NW_nil 3 (by kernel_rfl) ?_
  refine SW_ret ?_
  refine rkr (.tuple #[.agg #[.int .u64 0, .int .u64 0], .bool false]) [1] [g1, g1] (by kernel_rfl) () ?_ trivial
  rfl
theorem pack_both (f : Int) (c : Int) (neg : Bool) (S : Nat) (hS : S < B128) (q : Int) (hq : -9223372036854775808 ≤ q ∧ q ≤ 9223372036854775807) : ∃ (h l : Int) (b : Bool),
    CtV Tryd.prog 21 [.int .i64 f, .agg #[.int .i64 c, .bool neg, .int .u64 (hiI S), .int .u64 (loI S), .int .i64 q]] [] (.tuple #[.agg #[.int .u64 h, .int .u64 l], .bool b]) ∧
    CtV Tryd.prog 23 [.int .i64 f, .agg #[.int .i64 c, .bool neg, .int .u64 (hiI S), .int .u64 (loI S), .int .i64 q]] [Tabled] (.tuple #[.agg #[.int .u64 h, .int .u64 l], .bool b]) := by
  by_cases h0 : f = 0
  · subst h0; exact ⟨_, _, _, ct_spec_Pack fmt2_0 0 rfl c neg S hS q hq, ct_impl_Pack fmt2_0 0 rfl c neg S hS q hq⟩
  by_cases h1 : f = 1
  · subst h1; exact ⟨_, _, _, ct_spec_Pack fmt2_1 1 rfl c neg S hS q hq, ct_impl_Pack fmt2_1 1 rfl c neg S hS q hq⟩
  by_cases h2 : f = 2
  · subst h2; exact ⟨_, _, _, ct_spec_Pack fmt2_2 2 rfl c neg S hS q hq, ct_impl_Pack fmt2_2 2 rfl c neg S hS q hq⟩
  by_cases h3 : f = 3
  · subst h3; exact ⟨_, _, _, ct_spec_Pack fmt2_3 3 rfl c neg S hS q hq, ct_impl_Pack fmt2_3 3 rfl c neg S hS q hq⟩
  refine ⟨0, 0, false, ct_spec_Pack0 f ?_ c neg _ _ q, ct_impl_Pack0 f ?_ c neg _ _ q⟩
  · unfold spec_Describe.f
    rw [if_neg h0, if_neg h1, if_neg h2, if_neg h3]
  · unfold impl_layoutOf.f
    rw [if_neg h0, if_neg h1, if_neg h2, if_neg h3]
theorem ct_laws_toParts (c : Int) (neg : Bool) (h l : Int) (q : Int) : CtV Tryd.prog 22 [.agg #[.int .i64 c, .bool neg, .int .u64 h, .int .u64 l, .int .i64 q]] [] (.agg #[.int .i64 c, .bool neg, .int .u64 h, .int .u64 l, .int .i64 q]) :=
  ctV0 (fun w => laws_toParts.calls _ _ _ _ _ _ _ _ _ _ w rfl)
theorem ct_laws_eqWord (h l : Int) : CtV Tryd.prog 24 [.agg #[.int .u64 h, .int .u64 l], .agg #[.int .u64 h, .int .u64 l]] [] (.bool true) :=
  ctV0 (fun w => laws_eqWord.calls _ _ _ _ _ w (by unfold laws_eqWord.f; rw [if_pos rfl]; simp))
theorem ct_laws_FnExactPack (f : Int) (c : Int) (neg : Bool) (S : Nat) (hS : S < B128) (q : Int) (hq : -9223372036854775808 ≤ q ∧ q ≤ 9223372036854775807) :
    CtV Tryd.prog 5 [.int .i64 f, .agg #[.int .i64 c, .bool neg, .int .u64 (hiI S), .int .u64 (loI S), .int .i64 q]] [Tabled] (.bool true) := by
  obtain ⟨h, l, b, hs, hi⟩ := pack_both f c neg S hS q hq
  refine ct_of Tryd.func5 rfl (by kernel_rfl) (fun B w0 => ?_)
  refine SW_seq ?_
  refine SW_region ?_
  refine nn 1 3 [.int .i64 c, .bool neg, .int .u64 (hiI S), .int .u64 (loI S), .int .i64 q] 35 (fun g => by kernel_rfl) rfl (fun g0 => ?_)
  refine nr 2 [] [(4, .bool false)] [] (by kernel_rfl) rfl ?_
  refine NW_nil 2 (by kernel_rfl) ?_
  refine SW_seq ?_
  refine SW_region ?_
  refine nr 2 [(1, [0])] [(11, .agg #[.int .i64 c, .bool neg, .int .u64 (hiI S), .int .u64 (loI S), .int .i64 q]), (10, .int .i64 f)] [g0, g0, g0, g0, g0] (by kernel_rfl) rfl ?_
  refine ncv 3 12 (ct_laws_toParts (c) (neg) (hiI S) (loI S) (q)) (by kernel_rfl) rfl zs0 ?_
  refine ncv 4 13 hs (by kernel_rfl) rfl zs0 ?_
  refine nr 7 [] [(15, .bool b), (14, .agg #[.int .u64 h, .int .u64 l]), (9, .tuple #[.agg #[.int .u64 h, .int .u64 l], .bool b])] [] (by kernel_rfl) rfl ?_
  refine nn 8 5 [.int .u64 0, .int .u64 0] 25 (fun g => by kernel_rfl) rfl (fun g1 => ?_)
  refine nq 10 [(8, [1])] [(6, .bool b)] [⟨g0, [.int .i64 c, .bool neg, .int .u64 (hiI S), .int .u64 (loI S), .int .i64 q], 35⟩, ⟨g1, [.int .u64 h, .int .u64 l], 25⟩] [g1, g1] (by kernel_rfl) rfl ?_
  refine NW_nil 10 (by kernel_rfl) ?_
  refine SW_seq ?_
  refine SW_region ?_
  refine nr 2 [(1, [0])] [(18, .agg #[.int .i64 c, .bool neg, .int .u64 (hiI S), .int .u64 (loI S), .int .i64 q]), (17, .int .i64 f)] [g0, g0, g0, g0, g0] (by kernel_rfl) rfl ?_
  refine ncv 3 19 (ct_laws_toParts (c) (neg) (hiI S) (loI S) (q)) (by kernel_rfl) rfl zs0 ?_
  refine ncv 4 20 hi (by kernel_rfl) rfl (zsS zi0 zs0) ?_
  refine nr 7 [] [(22, .bool b), (21, .agg #[.int .u64 h, .int .u64 l]), (16, .tuple #[.agg #[.int .u64 h, .int .u64 l], .bool b])] [] (by kernel_rfl) rfl ?_
  refine nn 8 7 [.int .u64 0, .int .u64 0] 25 (fun g => by kernel_rfl) rfl (fun g2 => ?_)
  refine nq 10 [(8, [2])] [(8, .bool b)] [⟨g0, [.int .i64 c, .bool neg, .int .u64 (hiI S), .int .u64 (loI S), .int .i64 q], 35⟩, ⟨g1, [.int .u64 h, .int .u64 l], 25⟩, ⟨g2, [.int .u64 h, .int .u64 l], 25⟩] [g2, g2] (by kernel_rfl) rfl ?_
  refine NW_nil 10 (by kernel_rfl) ?_
  refine SW_seq ?_
  refine SW_seq ?_
  refine SW_region ?_
  refine nr 2 [(0, [2]), (1, [1])] [(24, .agg #[.int .u64 h, .int .u64 l]), (23, .agg #[.int .u64 h, .int .u64 l])] [g2, g2, g1, g1] (by kernel_rfl) rfl ?_
  refine ncv 3 25 (ct_laws_eqWord (h) (l)) (by kernel_rfl) rfl zs0 ?_
  refine nr 9 [] [(31, .bool !b == b), (30, .bool !b == b), (29, .bool b), (28, .bool b), (27, .bool false), (26, .bool false)] [] (by kernel_rfl) rfl ?_
  refine NW_nil 9 (by kernel_rfl) ?_
  refine sc (!b == b) (by kernel_rfl) (fun q0 => ?_) (fun q0 => ?_)
  · exfalso
    cases b <;> simp at q0
  · refine SW_skip ?_
    refine SW_seq ?_
    refine SW_region ?_
    refine nr 1 [] [(4, .bool true)] [] (by kernel_rfl) rfl ?_
    refine NW_nil 1 (by kernel_rfl) ?_
    refine SW_ret ?_
    refine rkr (.bool true) [] [] (by kernel_rfl) () ?_ trivial
    rfl
end Go.Proofs.YtdbnmdchecacdaaDoor.M
end
