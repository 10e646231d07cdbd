import Derived.Laws.ResultCell
import Derived.Test.YtlfpjlfmjojimaaQFnExactScalek
section
namespace Go.Proofs.Ytlfpjlfmjojimaa.M
open Go.RowKit Go.Proofs.Ytlfpjlfmjojimaa.G Go.Proofs.YtlfpjlfmjojimaaV.PrintWords Go.Proofs.YtlfpjlfmjojimaaV.PrintLast Go.Proofs.Ytlfpjlfmjojimaa.X
set_option linter.unusedVariables false
set_option linter.unusedSimpArgs false
theorem half_ve (k : Nat) : Ve (shf .i64 (k : Int) 1) ((k / 2 : Nat) : Int) := ⟨by
 unfold shf
 rw [show min (Int.toNat 1) IntKind.i64.bits = 1 from rfl, Int.fdiv_eq_ediv_of_nonneg _ (Int.pow_nonneg (by decide))]
 omega⟩
theorem pow_step {a b k V : Nat} (h : a * b ^ k = V) (hk : k % 2 = 1) : a * b * (b * b) ^ (k / 2) = V := by
 rw [← h, pow_half b k, hk, Nat.pow_one, Nat.mul_assoc]
theorem pow_step0 {a b k V : Nat} (h : a * b ^ k = V) (hk : k % 2 = 0) : a * (b * b) ^ (k / 2) = V := by
 rw [← h, pow_half b k, hk, Nat.pow_zero, Nat.one_mul]
theorem pow_small {a b k V : Nat} (ha : 0 < a) (hb : 0 < b) (h : a * b ^ k = V) : a ≤ V ∧ (0 < k → b ≤ V) := by
 have hp : 0 < b ^ k := Nat.pow_pos hb
 refine ⟨by rw [← h]; exact Nat.le_mul_of_pos_right _ hp, fun hk => ?_⟩
 have h1 : b ^ 1 ≤ b ^ k := Nat.pow_le_pow_right hb hk
 rw [Nat.pow_one] at h1
 rw [← h]
 exact Nat.le_trans h1 (Nat.le_mul_of_pos_left _ ha)
theorem ct_impl_pow_rows (a : List Int) (A : Option Addr) (c : Nat) (da : Dig B64 a) (na : Norm a) (h0 : 0 < val B64 a) (E : Int) (e : Nat) (hE : Nn E e) (he : e ≤ 20000) (L : Nat) (hL1 : L ≤ 500000) (hL : val B64 a ^ e < B64 ^ L) : ∀ r, Dig B64 r → Norm r → val B64 r = val B64 a ^ e → CtR Try.prog 43 [.slice A a.length c, .int .i64 E] [Row .u64 A c a] .u64 r := by
 intro r dr nr vr
 obtain ⟨rfl⟩ := hE
 refine ct_of Try.func43 rfl (by kernel_rfl) (fun B w0 => ?_)
 obtain ⟨w1, d1, n1, v1⟩ := exists_nat 1
 have cw := ct_impl_word_rows 1 1 ⟨rfl⟩ (by unfold B64; decide) w1 d1 n1 v1
 refine xr [] [(4, .slice none 0 0)] ?_
 refine xg ?_
 refine xcr 6 cw zs0 (fun A0 k0 => ?_)
 refine xz [] [(5, .slice A0 (List.length w1) k0)] ?_
 refine SW_cut (fun s' => ∃ (Ac : Option Addr) (cc : Nat), Weak s' ⟨[(5, .slice Ac r.length cc)], [], [Row .u64 Ac cc r]⟩) ?_ ?_
 ·refine SW_block ?_
  refine SW_loopn (fun k s' => ∃ (x y : List Int) (Ax Ay : Option Addr) (cx cy : Nat), Dig B64 x ∧ Norm x ∧ Dig B64 y ∧ Norm y ∧ 0 < val B64 x ∧ 0 < val B64 y ∧ k ≤ e ∧ val B64 x * val B64 y ^ k = val B64 a ^ e ∧ Weak s' ⟨[(0, .slice Ay y.length cy), (1, .int .i64 (k : Int)), (5, .slice Ax x.length cx)], [], [Row .u64 Ax cx x, Row .u64 Ay cy y]⟩) e ⟨w1, a, A0, A, k0, c, d1, n1, da, na, by rw [v1]; decide, h0, Nat.le_refl _, by rw [v1, Nat.one_mul], ?_⟩ (fun k s' hI => ?_)
  ·exact xw (zsS zi0 (zsS (ziS zi0) zs0))
  ·obtain ⟨x, y, Ax, Ay, cx, cy, i1, i2, i3, i4, i5, i6, i7, i8, hw⟩ := hI
   refine SW_weak hw ?_
   clear hw
   obtain ⟨b1, b2⟩ := pow_small i5 i6 i8
   by_cases hk : 0 < k
   ·have z1 : decide ((k : Int) > 0) = true := decide_eq_true (by omega)
    have vh := half_ve k
    have va : Ve (bits .and .i64 (k : Int) 1) ((k % 2 : Nat) : Int) := ⟨and_one k (by omega)⟩
    have lx : x.length ≤ L := len_le_of_val i1 i2 (Nat.lt_of_le_of_lt b1 hL)
    have ly : y.length ≤ L := len_le_of_val i3 i4 (Nat.lt_of_le_of_lt (b2 hk) hL)
    clear b1 b2
    obtain ⟨yy, d3, n3, v3⟩ := exists_nat (val B64 y * val B64 y)
    have cyy := ct_impl_nat_mul_rows y y Ay Ay cy cy i3 i3 (by omega) (by omega) yy d3 n3 v3
    have py : 0 < val B64 yy := by rw [v3]; exact Nat.mul_pos i6 i6
    by_cases ho : k % 2 = 1
    ·have z2 : (((k % 2 : Nat) : Int) == 1) = true := beq_iff_eq.2 (by omega)
     obtain ⟨xy, d2, n2, v2⟩ := exists_nat (val B64 x * val B64 y)
     have cxy := ct_impl_nat_mul_rows x y Ax Ay cx cy i1 i3 (by omega) (by omega) xy d2 n2 v2
     have px : 0 < val B64 xy := by rw [v2]; exact Nat.mul_pos i5 i6
     have hst := pow_step i8 ho
     rw [← v2, ← v3] at hst
     by_cases h1 : 1 < k
     ·have z3 : decide ((k : Int) > 1) = true := decide_eq_true (by omega)
      refine SW_seq ?_
      refine xr [] [(8, .bool (decide ((k : Int) > 0)))] ?_
      refine xst z1 ?_
      refine SW_skip ?_
      refine SW_seq ?_
      refine SW_block ?_
      refine SW_seq ?_
      refine xg ?_
      refine xn 1 [] [(11, .int .i64 (k : Int))] ?_
      refine xve 12 IntKind.i64 (bits BinOp.and IntKind.i64 (k : Int) 1) ((((k % 2) : Nat) : Int)) va ?_
      refine xz [] [(13, .bool ((((k % 2) : Nat) : Int) == 1))] ?_
      refine xst z2 ?_
      refine SW_region ?_
      refine xn 2 [] [(15, .slice Ay (List.length y) cy), (14, .slice Ax (List.length x) cx)] ?_
      refine xcr 16 cxy (zsS zi0 (zsS (ziS zi0) zs0)) (fun A1 k1 => ?_)
      refine xz [] [(5, .slice A1 (List.length xy) k1)] ?_
      refine xr [] [(18, .bool (decide ((k : Int) > 1)))] ?_
      refine xst z3 ?_
      refine SW_region ?_
      refine xn 2 [] [(20, .slice Ay (List.length y) cy), (19, .slice Ay (List.length y) cy)] ?_
      refine xcr 21 cyy (zsS (ziS (ziS zi0)) (zsS (ziS (ziS zi0)) zs0)) (fun A2 k2 => ?_)
      refine xz [] [(0, .slice A2 (List.length yy) k2)] ?_
      refine SW_region ?_
      refine xn 1 [] [(9, .int .i64 (k : Int))] ?_
      refine xve 10 IntKind.i64 (shf IntKind.i64 (k : Int) 1) ((((k / 2) : Nat) : Int)) vh ?_
      refine xz [] [(1, .int .i64 (((k / 2) : Nat) : Int))] ?_
      refine ⟨k / 2, by omega, xy, yy, A1, A2, k1, k2, d2, n2, d3, n3, px, py, by omega, hst, ?_⟩
      exact xw (zsS (ziS zi0) (zsS zi0 zs0))
     ·have z3 : decide ((k : Int) > 1) = false := decide_eq_false (by omega)
      obtain rfl : k = 1 := by omega
      have vh1 : Ve (shf .i64 ((1 : Nat) : Int) 1) ((0 : Nat) : Int) := vh
      refine SW_seq ?_
      refine xr [] [(8, .bool true)] ?_
      refine xs1 ?_
      refine SW_skip ?_
      refine SW_seq ?_
      refine SW_block ?_
      refine SW_seq ?_
      refine xr [] [(13, .bool true)] ?_
      refine xs1 ?_
      refine SW_region ?_
      refine xn 2 [] [(15, .slice Ay (List.length y) cy), (14, .slice Ax (List.length x) cx)] ?_
      refine xcr 16 cxy (zsS zi0 (zsS (ziS zi0) zs0)) (fun A1 k1 => ?_)
      refine xz [] [(5, .slice A1 (List.length xy) k1)] ?_
      refine xr [] [(18, .bool false)] ?_
      refine xs0 ?_
      refine SW_skip ?_
      refine xrl [] [(1, .int .i64 0)] ?_
      refine ⟨0, by omega, xy, y, A1, Ay, k1, cy, d2, n2, i3, i4, px, i6, by omega, by rw [Nat.pow_zero, v2]; rw [Nat.pow_one] at i8; omega, ?_⟩
      exact xw (zsS zi0 (zsS (ziS (ziS zi0)) zs0))
    ·have z2 : (((k % 2 : Nat) : Int) == 1) = false := by rw [beq_eq_false_iff_ne]; omega
     have z3 : decide ((k : Int) > 1) = true := decide_eq_true (by omega)
     have hst := pow_step0 i8 (by omega)
     rw [← v3] at hst
     refine SW_seq ?_
     refine xr [] [(8, .bool (decide ((k : Int) > 0)))] ?_
     refine xst z1 ?_
     refine SW_skip ?_
     refine SW_seq ?_
     refine SW_block ?_
     refine SW_seq ?_
     refine xg ?_
     refine xn 1 [] [(11, .int .i64 (k : Int))] ?_
     refine xve 12 IntKind.i64 (bits BinOp.and IntKind.i64 (k : Int) 1) ((((k % 2) : Nat) : Int)) va ?_
     refine xz [] [(13, .bool ((((k % 2) : Nat) : Int) == 1))] ?_
     refine xsf z2 ?_
     refine SW_skip ?_
     refine xr [] [(18, .bool (decide ((k : Int) > 1)))] ?_
     refine xst z3 ?_
     refine SW_region ?_
     refine xn 2 [] [(20, .slice Ay (List.length y) cy), (19, .slice Ay (List.length y) cy)] ?_
     refine xcr 21 cyy (zsS (ziS zi0) (zsS (ziS zi0) zs0)) (fun A1 k1 => ?_)
     refine xz [] [(0, .slice A1 (List.length yy) k1)] ?_
     refine SW_region ?_
     refine xn 1 [] [(9, .int .i64 (k : Int))] ?_
     refine xve 10 IntKind.i64 (shf IntKind.i64 (k : Int) 1) ((((k / 2) : Nat) : Int)) vh ?_
     refine xz [] [(1, .int .i64 (((k / 2) : Nat) : Int))] ?_
     refine ⟨k / 2, by omega, x, yy, Ax, A1, cx, k1, i1, i2, d3, n3, i5, py, by omega, hst, ?_⟩
     exact xw (zsS (ziS zi0) (zsS zi0 zs0))
   ·have z1 : decide ((k : Int) > 0) = false := decide_eq_false (by omega)
    obtain rfl : k = 0 := by omega
    rw [Nat.pow_zero, Nat.mul_one] at i8
    have er : x = r := norm_inj B64_pos i1 dr i2 nr (by rw [vr, i8])
    rw [← er]
    refine SW_seq ?_
    refine xr [] [(8, .bool false)] ?_
    refine xs0 ?_
    refine SW_exit ?_
    refine ⟨Ax, cx, ?_⟩
    exact xw (zsS zi0 zs0)
 ·rintro s' ⟨Ac, cc, hw⟩
  refine SW_weak hw ?_
  clear hw
  refine xr [] [(4, .slice Ac (List.length r) cc)] ?_
  refine SW_ret ?_
  refine xe (Ac, cc) (.slice Ac (List.length r) cc) [] ?_ (zsS zi0 zs0)
  rfl
theorem ct_impl_ten_rows (E : Int) (e : Nat) (hE : Nn E e) (he : e ≤ 20000) : ∀ r, Dig B64 r → Norm r → val B64 r = 10 ^ e → CtR Try.prog 73 [.int .i64 E] [] .u64 r := by
 intro r dr nr vr
 obtain ⟨rfl⟩ := hE
 refine ct_of Try.func73 rfl (by kernel_rfl) (fun B w0 => ?_)
 obtain ⟨w1, d1, n1, v1⟩ := exists_nat 10
 have cw := ct_impl_word_rows 10 10 ⟨rfl⟩ (by unfold B64; decide) w1 d1 n1 v1
 have h1 : 0 < val B64 w1 := by rw [v1]; decide
 have hL : val B64 w1 ^ e < B64 ^ (e + 1) := by
  rw [v1]
  refine Nat.lt_of_lt_of_le (Nat.lt_of_le_of_lt (Nat.pow_le_pow_left (show 10 ≤ B64 by unfold B64; decide) e) ?_) (Nat.le_refl _)
  exact Nat.pow_lt_pow_right (by unfold B64; decide) (Nat.lt_succ_self e)
 have vr' : val B64 r = val B64 w1 ^ e := by rw [v1]; exact vr
 have hL1 : e + 1 ≤ 500000 := by omega
 clear vr
 refine xr [] [(2, .slice none 0 0)] ?_
 refine xg ?_
 refine xcr 3 cw zs0 (fun A0 k0 => ?_)
 refine xn 2 [] [(4, .int .i64 (e : Int))] ?_
 refine xcr 5 (ct_impl_pow_rows (w1) (A0) (k0) d1 n1 h1 ((e : Int)) (e) ⟨rfl⟩ he (e + 1) hL1 hL (r) dr nr vr') (zsS zi0 zs0) (fun A1 k1 => ?_)
 refine xz [] [(2, .slice A1 (List.length r) k1)] ?_
 refine SW_ret ?_
 refine xe (A1, k1) (.slice A1 (List.length r) k1) [] ?_ (zsS zi0 zs0)
 rfl
end Go.Proofs.Ytlfpjlfmjojimaa.M
end
section
namespace Go.Proofs.Ytlfpjlfmjojimaa.M
open Go.RowKit Go.Proofs.Ytlfpjlfmjojimaa.G Go.Proofs.YtlfpjlfmjojimaaV.PrintWords Go.Proofs.YtlfpjlfmjojimaaV.PrintLast Go.Proofs.Ytlfpjlfmjojimaa.X
set_option linter.unusedVariables false
set_option linter.unusedSimpArgs false
theorem ct_spec_l1Trim (l : List Int) (A : Option Addr) (c : Nat) (hl : l.length ≤ 1000000000000) : CtR Try.prog 57 [.slice A l.length c] [Row .u64 A c l] .u64 (trimL l) := by
 refine ct_of Try.func57 rfl (by kernel_rfl) (fun B w0 => ?_)
 refine SW_know zi0 (fun w h => h.2) (fun hc => ?_)
 refine xr [] [(2, .slice none 0 0)] ?_
 refine xr [] [(3, .int .i64 (((List.length l) : Nat) : Int))] ?_
 refine SW_cut (fun s' => ∃ m : Nat, m ≤ l.length ∧ trimL l = l.take m ∧ Weak s' ⟨[(0, .slice A l.length c), (3, .int .i64 (m : Int))], [], [Row .u64 A c l]⟩) ?_ ?_
 ·refine SW_block ?_
  refine SW_loopn (fun m s => m ≤ l.length ∧ (∀ i : Nat, m ≤ i → rd l i = 0) ∧ Weak s ⟨[(0, .slice A l.length c), (3, .int .i64 (m : Int))], [], [Row .u64 A c l]⟩) l.length ⟨Nat.le_refl _, fun i hi => rd_of_ge l i (by simpa using hi), ?_⟩ (fun m s hI => ?_)
  ·exact xw (zsS zi0 zs0)
  ·obtain ⟨h1, h2, hw⟩ := hI
   refine SW_weak hw ?_
   clear hw
   by_cases h0 : m = 0
   ·have z0 : decide ((m : Int) > 0) = false := decide_eq_false (by omega)
    have e := trimL_take _ rfl h1 h2 (fun z => absurd h0 (by omega))
    refine SW_seq ?_
    refine xg ?_
    refine xn 3 [] [(9, .bool (decide ((m : Int) > 0)))] ?_
    refine xkf 9 z0 ?_
    refine xz [] [(16, .bool false)] ?_
    refine xs0 ?_
    refine SW_exit ?_
    refine ⟨m, h1, e, ?_⟩
    exact xw (zsS zi0 zs0)
   ·have z0 : decide ((m : Int) > 0) = true := decide_eq_true (by omega)
    refine SW_know zi0 (fun w h => row_at h (by omega)) (fun ⟨ad, e⟩ => ?_)
    subst e
    have wi : Ve (IntKind.i64.wrap ((m : Int) - 1)) ((m - 1 : Nat) : Int) := veI (by omega) (by omega)
    by_cases hz : rd l ((m - 1 : Nat) : Int) = 0
    ·have z1 : (rd l ((m - 1 : Nat) : Int) == 0) = true := beq_iff_eq.2 hz
     refine SW_seq ?_
     refine xg ?_
     refine xn 3 [] [(9, .bool (decide ((m : Int) > 0)))] ?_
     refine xkt 9 z0 ?_
     refine xn 5 [] [(11, .int .i64 (m : Int)), (10, .slice (some ad) (List.length l) c)] ?_
     refine xve 12 IntKind.i64 (IntKind.wrap IntKind.i64 ((m : Int) - 1)) ((((m - 1) : Nat) : Int)) wi ?_
     refine xfi 13 22 (ad) (List.length l) (c) (m - 1) IntKind.i64 ((((m - 1) : Nat) : Int)) ⟨rfl⟩ (by omega) ?_
     refine xfl 14 zi0 (m - 1) (by omega) ?_
     refine xz [] [(16, .bool (rd l (((m - 1) : Nat) : Int) == 0))] ?_
     refine xst z1 ?_
     refine SW_skip ?_
     refine SW_block ?_
     refine SW_region ?_
     refine xn 1 [] [(17, .int .i64 (m : Int))] ?_
     refine xve 18 IntKind.i64 (IntKind.wrap IntKind.i64 ((m : Int) - 1)) ((((m - 1) : Nat) : Int)) wi ?_
     refine xz [] [(3, .int .i64 (((m - 1) : Nat) : Int))] ?_
     refine ⟨m - 1, by omega, by omega, fun i hi => ?_, ?_⟩
     ·rcases Nat.eq_or_lt_of_le hi with h | h
      ·rw [← h]; exact hz
      ·exact h2 i (by omega)
     ·exact xw (zsS zi0 zs0)
    ·have z1 : (rd l ((m - 1 : Nat) : Int) == 0) = false := by rw [beq_eq_false_iff_ne]; exact hz
     have e := trimL_take _ rfl h1 h2 (fun _ => hz)
     refine SW_seq ?_
     refine xg ?_
     refine xn 3 [] [(9, .bool (decide ((m : Int) > 0)))] ?_
     refine xkt 9 z0 ?_
     refine xn 5 [] [(11, .int .i64 (m : Int)), (10, .slice (some ad) (List.length l) c)] ?_
     refine xve 12 IntKind.i64 (IntKind.wrap IntKind.i64 ((m : Int) - 1)) ((((m - 1) : Nat) : Int)) wi ?_
     refine xfi 13 22 (ad) (List.length l) (c) (m - 1) IntKind.i64 ((((m - 1) : Nat) : Int)) ⟨rfl⟩ (by omega) ?_
     refine xfl 14 zi0 (m - 1) (by omega) ?_
     refine xz [] [(16, .bool (rd l (((m - 1) : Nat) : Int) == 0))] ?_
     refine xsf z1 ?_
     refine SW_exit ?_
     refine ⟨m, h1, e, ?_⟩
     exact xw (zsS zi0 zs0)
 ·rintro s' ⟨m, h1, e, hw⟩
  refine SW_weak hw ?_
  clear hw
  rw [e]
  obtain ⟨y, hy⟩ : ∃ y, l.take m = y := ⟨_, rfl⟩
  obtain rfl : m = y.length := by rw [← hy, List.length_take]; omega
  have hz : y ++ (List.replicate y.length 0).drop y.length = y := by simp
  refine SW_fact (G := Row .u64 A c y) zi0 (fun w h => by have := row_take y.length c (by omega) h; rwa [hy] at this) ?_
  rw [hy]
  clear e
  refine xg ?_
  refine xn 1 [] [(19, .int .i64 (((List.length y) : Nat) : Int))] ?_
  refine xma 20 22 (List.length y) IntKind.u64 8 ((((List.length y) : Nat) : Int)) ⟨rfl⟩ (by omega) (fun g0 => ?_)
  refine xz [] [(4, .slice (some ⟨g0, 0, none⟩) (List.length y) (List.length y))] ?_
  refine xg ?_
  refine xn 3 [] [(23, .int .i64 (((List.length y) : Nat) : Int)), (22, .slice A (List.length l) c), (21, .slice (some ⟨g0, 0, none⟩) (List.length y) (List.length y))] ?_
  refine xsh 24 22 (A) (List.length l) (c) (List.length y) IntKind.i64 ((((List.length y) : Nat) : Int)) ⟨rfl⟩ (by omega) ?_
  refine xcq 25 0 22 (g0) (List.length y) (List.length y) (c) (List.replicate (List.length y) 0) ([]) zi0 (by first | rfl | (simp <;> omega)) (by first | omega | (simp <;> omega)) hz ?_
  refine xz [] [] ?_
  refine xr [] [(2, .slice (some ⟨g0, 0, none⟩) (List.length y) (List.length y))] ?_
  refine SW_fz 0 (List.length y) (g0) IntKind.u64 (y) ([]) 22 (by first | omega | (simp <;> omega)) (by first | omega | (simp <;> omega)) ?_
  refine SW_ret ?_
  refine xe (some ⟨g0, 0, none⟩, List.length y) (.slice (some ⟨g0, 0, none⟩) (List.length y) (List.length y)) [] ?_ (zsS zi0 zs0)
  rfl
theorem nat_rd32 {l : List Int} (d : Dig B32 l) (i : Nat) : ∃ x : Nat, rd l (i : Int) = (x : Int) ∧ x < 4294967296 := ⟨(rd l i).toNat, by have := (d.rd B32_pos i).1; omega, by have := d.rd B32_pos i; unfold B32 at this; omega⟩
theorem ct_spec_l1At (l : List Int) (A : Option Addr) (c : Nat) (N : Int) (n : Nat) (hN : Nn N n) (x : Int) (hx : Ve (rd l (n : Int)) x) (hl : l.length ≤ 1000000000000) : CtV Try.prog 59 [.slice A l.length c, .int .i64 N] [Row .u64 A c l] (.int .u64 x) := by
 obtain ⟨rfl⟩ := hN
 obtain ⟨rfl⟩ := hx
 refine ct_of Try.func59 rfl (by kernel_rfl) (fun B w0 => ?_)
 by_cases h : n < l.length
 ·have z : decide ((n : Int) < (l.length : Int)) = true := decide_eq_true (by omega)
  refine SW_know zi0 (fun w h => row_at h (by omega)) (fun ⟨ad, e⟩ => ?_)
  subst e
  refine xr [] [(4, .int .u64 0)] ?_
  refine SW_seq ?_
  refine xr [] [(8, .bool (decide ((n : Int) < (((List.length l) : Nat) : Int))))] ?_
  refine xst z ?_
  refine xg ?_
  refine xn 2 [] [(10, .int .i64 (n : Int)), (9, .slice (some ad) (List.length l) c)] ?_
  refine xfi 11 22 (ad) (List.length l) (c) (n) IntKind.i64 ((n : Int)) ⟨rfl⟩ (by omega) ?_
  refine xfl 12 zi0 (n) (by omega) ?_
  refine xz [] [(4, .int .u64 (rd l (n : Int)))] ?_
  refine SW_ret ?_
  refine xe () (.int .u64 (rd l (n : Int))) [] ?_ trivial
  rfl
 ·have z : decide ((n : Int) < (l.length : Int)) = false := decide_eq_false (by omega)
  rw [rd_of_ge l n (by simpa using h)]
  refine xr [] [(4, .int .u64 0)] ?_
  refine SW_seq ?_
  refine xr [] [(8, .bool (decide ((n : Int) < (((List.length l) : Nat) : Int))))] ?_
  refine xsf z ?_
  refine SW_skip ?_
  refine xr [] [(4, .int .u64 0)] ?_
  refine SW_ret ?_
  refine xe () (.int .u64 0) [] ?_ trivial
  rfl
theorem add32_step {a b O : List Int} {i x y cy : Nat} (hx : rd a (i : Int) = (x : Int)) (hy : rd b (i : Int) = (y : Int)) (hl : O.length = i) (hv : val B32 O + B32 ^ i * cy = val B32 (a.take i) + val B32 (b.take i)) :
  val B32 (O ++ [(((x + y + cy) % 4294967296 : Nat) : Int)]) + B32 ^ (i + 1) * ((x + y + cy) / 4294967296) = val B32 (a.take (i + 1)) + val B32 (b.take (i + 1)) := by
 rw [val_snoc, val_take_succ, val_take_succ, hl, hx, hy, Nat.pow_succ, Nat.mul_assoc]
 simp only [Int.toNat_natCast]
 have h := congrArg (B32 ^ i * ·) (Nat.mod_add_div (x + y + cy) 4294967296)
 rw [show B32 * ((x + y + cy) / 4294967296) = 4294967296 * ((x + y + cy) / 4294967296) from rfl]
 generalize (x + y + cy) % 4294967296 = m at *
 generalize 4294967296 * ((x + y + cy) / 4294967296) = q at *
 generalize B32 ^ i = P at *
 simp only [Nat.mul_add] at h ⊢
 omega
theorem cast_dig32 {n : Nat} (h : n < 4294967296) : 0 ≤ (n : Int) ∧ (n : Int) < (B32 : Int) := by unfold B32; omega
theorem val_lt_len {B : Nat} (hB : 0 < B) {l : List Int} (h : Dig B l) {n : Nat} (hn : l.length ≤ n) : val B l < B ^ n := Nat.lt_of_lt_of_le (val_lt h) (Nat.pow_le_pow_right hB hn)
theorem ct_spec_l1Add_rows (a b : List Int) (A A' : Option Addr) (c c' : Nat) (da : Dig B32 a) (db : Dig B32 b) (hla : a.length ≤ 1000000000) (hlb : b.length ≤ 1000000000) : ∀ r, Dig B32 r → Norm r → val B32 r = val B32 a + val B32 b → CtR Try.prog 50 [.slice A a.length c, .slice A' b.length c'] [Row .u64 A c a, Row .u64 A' c' b] .u64 r := by
 intro r dr nr vr
 refine ct_of Try.func50 rfl (by kernel_rfl) (fun B w0 => ?_)
 obtain ⟨n, hn, hn1, hn2, hn3⟩ : ∃ n, n = max a.length b.length ∧ a.length ≤ n ∧ b.length ≤ n ∧ n ≤ 1000000000 := ⟨_, rfl, by omega, by omega, by omega⟩
 refine xr [] [(4, .slice none 0 0)] ?_
 refine xr [] [(5, .int .i64 (((List.length a) : Nat) : Int))] ?_
 refine SW_cut (fun s' => Weak s' ⟨[(0, .slice A a.length c), (1, .slice A' b.length c'), (5, .int .i64 (n : Int))], [], [Row .u64 A c a, Row .u64 A' c' b]⟩) ?_ ?_
 ·by_cases h : b.length > a.length
  ·have z : decide ((b.length : Int) > (a.length : Int)) = true := decide_eq_true (by omega)
   obtain rfl : n = b.length := by omega
   refine xr [] [(15, .bool (decide ((((List.length b) : Nat) : Int) > (((List.length a) : Nat) : Int))))] ?_
   refine xst z ?_
   refine xrl [] [(5, .int .i64 (((List.length b) : Nat) : Int))] ?_
   exact xw (zsS zi0 (zsS (ziS zi0) zs0))
  ·have z : decide ((b.length : Int) > (a.length : Int)) = false := decide_eq_false (by omega)
   obtain rfl : n = a.length := by omega
   refine xr [] [(15, .bool (decide ((((List.length b) : Nat) : Int) > (((List.length a) : Nat) : Int))))] ?_
   refine xsf z ?_
   refine SW_skip ?_
   exact xw (zsS zi0 (zsS (ziS zi0) zs0))
 ·rintro s' hw
  refine SW_weak hw ?_
  clear hw
  refine xr [] [(6, .slice none 0 0)] ?_
  refine xr [] [(7, .int .u64 0)] ?_
  refine SW_seq ?_
  refine xr [] [(8, .int .i64 0)] ?_
  refine SW_then (fun s' => ∃ (sl : Value) (bs : List Box) (O : List Int), Own 22 .u64 sl bs O ∧ Dig B32 O ∧ O.length = n + 1 ∧ val B32 O = val B32 a + val B32 b ∧ Weak s' ⟨[(6, sl)], bs, []⟩) ?_ ?_
  ·refine SW_block ?_
   refine SW_loopn (fun m s' => ∃ (sl : Value) (bs : List Box) (O : List Int) (i cy : Nat), m + i = n + 1 ∧ Own 22 .u64 sl bs O ∧ Dig B32 O ∧ O.length = i ∧ cy ≤ 1 ∧ val B32 O + B32 ^ i * cy = val B32 (a.take i) + val B32 (b.take i) ∧ Weak s' ⟨[(0, .slice A a.length c), (1, .slice A' b.length c'), (5, .int .i64 (n : Int)), (6, sl), (7, .int .u64 (cy : Int)), (8, .int .i64 (i : Int))], bs, [Row .u64 A c a, Row .u64 A' c' b]⟩) (n + 1) ⟨_, _, [], 0, 0, rfl, Own.nil 22 .u64, Dig.nil _, rfl, by decide, rfl, ?_⟩ (fun m s' hI => ?_)
   ·exact xw (zsS zi0 (zsS (ziS zi0) zs0))
   ·obtain ⟨sl0, bs0, O, i, cy, k1, hO0, k3, k4, k5, k6, hw⟩ := hI
    refine SW_weak hw ?_
    clear hw
    by_cases hi : i ≤ n
    ·have z : decide ((i : Int) ≤ (n : Int)) = true := decide_eq_true (by omega)
     obtain ⟨m, rfl⟩ : ∃ m', m = m' + 1 := ⟨m - 1, by omega⟩
     obtain ⟨x, hx, hxB⟩ := nat_rd32 da i
     obtain ⟨y, hy, hyB⟩ := nat_rd32 db i
     have v1 : Ve (rd a (i : Int)) (x : Int) := ⟨hx⟩
     have v2 : Ve (rd b (i : Int)) (y : Int) := ⟨hy⟩
     have v3 : Ve (IntKind.u64.wrap ((x : Int) + (y : Int))) ((x + y : Nat) : Int) := veU (by omega) (by omega)
     have v4 : Ve (IntKind.u64.wrap (((x + y : Nat) : Int) + (cy : Int))) ((x + y + cy : Nat) : Int) := veU (by omega) (by omega)
     have v5 := low_ve (x + y + cy) (by omega)
     have v6 := high_ve (x + y + cy)
     have v7 : Ve (IntKind.i64.wrap ((i : Int) + 1)) ((i + 1 : Nat) : Int) := veI (by omega) (by omega)
     have hst := add32_step hx hy k4 k6
     refine SW_seq ?_
     refine xr [] [(20, .bool (decide ((i : Int) ≤ (n : Int))))] ?_
     refine xst z ?_
     refine SW_skip ?_
     refine SW_seq ?_
     refine SW_block ?_
     refine xg ?_
     refine xn 2 [] [(24, .int .i64 (i : Int)), (23, .slice A (List.length a) c)] ?_
     refine xcv 25 (ct_spec_l1At (a) (A) (c) ((i : Int)) (i) ⟨rfl⟩ ((x : Int)) v1 (by omega)) (zsS zi0 zs0) ?_
     refine xn 5 [] [(27, .int .i64 (i : Int)), (26, .slice A' (List.length b) c')] ?_
     refine xcv 28 (ct_spec_l1At (b) (A') (c') ((i : Int)) (i) ⟨rfl⟩ ((y : Int)) v2 (by omega)) (zsS (ziS zi0) zs0) ?_
     refine xve 29 IntKind.u64 (IntKind.wrap IntKind.u64 ((x : Int) + (y : Int))) ((((x + y) : Nat) : Int)) v3 ?_
     refine xn 8 [] [(30, .int .u64 (cy : Int))] ?_
     refine xve 31 IntKind.u64 (IntKind.wrap IntKind.u64 ((((x + y) : Nat) : Int) + (cy : Int))) ((((x + y + cy) : Nat) : Int)) v4 ?_
     refine xz [] [(9, .int .u64 (((x + y + cy) : Nat) : Int))] ?_
     refine xg ?_
     refine xn 2 [] [(33, .int .u64 (((x + y + cy) : Nat) : Int)), (32, sl0)] ?_
     refine xve 34 IntKind.u64 (bits BinOp.and IntKind.u64 (((x + y + cy) : Nat) : Int) 4294967295) (((((x + y + cy) % 4294967296) : Nat) : Int)) v5 ?_
     refine xbl 35 [.int .u64 ((((x + y + cy) % 4294967296) : Nat) : Int)] 22 1 (fun g0 => ?_)
     refine xow 36 8 (g0) (1) [((((x + y + cy) % 4294967296) : Nat) : Int)] hO0 (by first | omega | (simp <;> omega)) (fun sl1 bs1 hO1 => ?_)
     refine xz [] [(6, sl1)] ?_
     refine SW_region ?_
     refine xn 1 [] [(37, .int .u64 (((x + y + cy) : Nat) : Int))] ?_
     refine xve 38 IntKind.u64 (shf IntKind.u64 (((x + y + cy) : Nat) : Int) 32) (((((x + y + cy) / 4294967296) : Nat) : Int)) v6 ?_
     refine xz [] [(7, .int .u64 ((((x + y + cy) / 4294967296) : Nat) : Int))] ?_
     refine SW_region ?_
     refine xn 1 [] [(21, .int .i64 (i : Int))] ?_
     refine xve 22 IntKind.i64 (IntKind.wrap IntKind.i64 ((i : Int) + 1)) ((((i + 1) : Nat) : Int)) v7 ?_
     refine xz [] [(8, .int .i64 (((i + 1) : Nat) : Int))] ?_
     refine ⟨m, by omega, sl1, bs1, _, i + 1, (x + y + cy) / 4294967296, by omega, hO1, k3.snoc (cast_dig32 (Nat.mod_lt _ (by decide))), by rw [List.length_append, k4]; rfl, by omega, hst, ?_⟩
     exact xw (zsS zi0 (zsS (ziS zi0) zs0))
    ·have z : decide ((i : Int) ≤ (n : Int)) = false := decide_eq_false (by omega)
     obtain rfl : i = n + 1 := by omega
     rw [List.take_of_length_le (by omega), List.take_of_length_le (by omega)] at k6
     have hcy : cy = 0 := by
      have h1 := val_lt_len B32_pos da hn1
      have h2 := val_lt_len B32_pos db hn2
      rcases Nat.lt_or_ge cy 1 with h | h
      ·omega
      ·obtain rfl : cy = 1 := by omega
       rw [Nat.pow_succ, Nat.mul_one] at k6
       have h3 : B32 ^ n * 2 ≤ B32 ^ n * B32 := Nat.mul_le_mul_left _ (by unfold B32; decide)
       omega
     rw [hcy, Nat.mul_zero, Nat.add_zero] at k6
     refine SW_seq ?_
     refine xr [] [(20, .bool (decide ((((n + 1) : Nat) : Int) ≤ (n : Int))))] ?_
     refine xsf z ?_
     refine SW_exit ?_
     refine ⟨sl0, bs0, O, hO0, k3, k4, k6, ?_⟩
     exact xw zs0
  ·rintro s' ⟨sl, bs, O, hO, dO, lO, vO, hw⟩
   refine SW_weak hw ?_
   clear hw
   refine SW_own hO (by omega) (fun Ao co e => ?_)
   subst e
   have er : trimL O = r := norm_inj B32_pos dO.trim dr (norm_trim _) nr (by rw [val_trim, vO, vr])
   have ct := ct_spec_l1Trim O Ao co (by omega)
   rw [er] at ct
   refine xg ?_
   refine xn 1 [] [(39, .slice Ao (List.length O) co)] ?_
   refine xcr 40 ct (zsS zi0 zs0) (fun A0 k0 => ?_)
   refine xz [] [(4, .slice A0 (List.length r) k0)] ?_
   refine SW_ret ?_
   refine xe (A0, k0) (.slice A0 (List.length r) k0) [] ?_ (zsS zi0 zs0)
   rfl
end Go.Proofs.Ytlfpjlfmjojimaa.M
end
section
namespace Go.Proofs.Ytlfpjlfmjojimaa.M
open Go.RowKit Go.Proofs.Ytlfpjlfmjojimaa.G Go.Proofs.YtlfpjlfmjojimaaV.PrintWords Go.Proofs.YtlfpjlfmjojimaaV.PrintLast Go.Proofs.Ytlfpjlfmjojimaa.X
set_option linter.unusedVariables false
set_option linter.unusedSimpArgs false
theorem rd_cons0 (x : Int) (l : List Int) : rd (x :: l) ((0 : Nat) : Int) = x := rfl
theorem rd_consS (x : Int) (l : List Int) (i : Nat) : rd (x :: l) ((i + 1 : Nat) : Int) = rd l (i : Int) := by rw [rd_nat, rd_nat]; simp [List.getD_eq_getElem?_getD]
theorem val_rd0 {B : Nat} : ∀ {b : List Int}, (∀ i : Nat, rd b (i : Int) = 0) → val B b = 0
 | [], _ => rfl
 | x :: l, h => by
  rw [val_cons, val_rd0 (fun i => by rw [← rd_consS x l i]; exact h (i + 1)), ← rd_cons0 x l, h 0]
  rfl
theorem val_congr {B : Nat} : ∀ {a b : List Int}, (∀ i : Nat, rd a (i : Int) = rd b (i : Int)) → val B a = val B b
 | [], b, h => (val_rd0 (fun i => by rw [← h i]; exact rd_of_ge [] i (Nat.zero_le _))).symm
 | x :: l, [], h => val_rd0 (fun i => by rw [h i]; exact rd_of_ge [] i (Nat.zero_le _))
 | x :: l, y :: m, h => by
  have h0 := h 0
  rw [rd_cons0, rd_cons0] at h0
  rw [val_cons, val_cons, h0, val_congr (a := l) (b := m) (fun i => by have := h (i + 1); rwa [rd_consS, rd_consS] at this)]
theorem rd_drop (l : List Int) (k i : Nat) : rd (l.drop k) (i : Int) = rd l ((k + i : Nat) : Int) := by rw [rd_nat, rd_nat]; simp [List.getD_eq_getElem?_getD, List.getElem?_drop]
theorem val_cut (B : Nat) (l : List Int) (k : Nat) : val B l = val B (l.take k) + B ^ k * val B (l.drop k) := by
 rcases Nat.le_total k l.length with h | h
 ·exact val_split B l k h
 ·rw [List.take_of_length_le h, List.drop_eq_nil_of_le h]
  simp [val]
theorem val_less {B : Nat} (hB : 0 < B) {a b : List Int} (da : Dig B a) (db : Dig B b) {k : Nat} (hd : ∀ i : Nat, k < i → rd a (i : Int) = rd b (i : Int)) (hr : rd a (k : Int) < rd b (k : Int)) : val B a < val B b := by
 have e : val B (a.drop (k + 1)) = val B (b.drop (k + 1)) := val_congr (fun i => by rw [rd_drop, rd_drop]; exact hd _ (by omega))
 rw [val_cut B a (k + 1), val_cut B b (k + 1), e, val_take_succ, val_take_succ]
 have h1 : val B (a.take k) < B ^ k := val_lt_len hB (da.take k) (by rw [List.length_take]; omega)
 have h2 : (rd a (k : Int)).toNat + 1 ≤ (rd b (k : Int)).toNat := by have := (da.rd hB k).1; omega
 have h3 := Nat.mul_le_mul_left (B ^ k) h2
 rw [Nat.mul_add, Nat.mul_one] at h3
 omega
theorem ct_spec_l1Cmp_rows (a b : List Int) (A A' : Option Addr) (c c' : Nat) (da : Dig B32 a) (db : Dig B32 b) (hla : a.length ≤ 1000000000) (hlb : b.length ≤ 1000000000) : CtV Try.prog 35 [.slice A a.length c, .slice A' b.length c'] [Row .u64 A c a, Row .u64 A' c' b] (.int .i64 (cmpN (val B32 a) (val B32 b))) := by
 refine ct_of Try.func35 rfl (by kernel_rfl) (fun B w0 => ?_)
 obtain ⟨n, hn, hn1, hn2, hn3⟩ : ∃ n, n = max a.length b.length ∧ a.length ≤ n ∧ b.length ≤ n ∧ n ≤ 1000000000 := ⟨_, rfl, by omega, by omega, by omega⟩
 refine xr [] [(4, .int .i64 0)] ?_
 refine xr [] [(5, .int .i64 (((List.length a) : Nat) : Int))] ?_
 refine SW_cut (fun s' => Weak s' ⟨[(0, .slice A a.length c), (1, .slice A' b.length c'), (5, .int .i64 (n : Int))], [], [Row .u64 A c a, Row .u64 A' c' b]⟩) ?_ ?_
 ·by_cases h : b.length > a.length
  ·have z : decide ((b.length : Int) > (a.length : Int)) = true := decide_eq_true (by omega)
   obtain rfl : n = b.length := by omega
   refine xr [] [(12, .bool (decide ((((List.length b) : Nat) : Int) > (((List.length a) : Nat) : Int))))] ?_
   refine xst z ?_
   refine xrl [] [(5, .int .i64 (((List.length b) : Nat) : Int))] ?_
   exact xw (zsS zi0 (zsS (ziS zi0) zs0))
  ·have z : decide ((b.length : Int) > (a.length : Int)) = false := decide_eq_false (by omega)
   obtain rfl : n = a.length := by omega
   refine xr [] [(12, .bool (decide ((((List.length b) : Nat) : Int) > (((List.length a) : Nat) : Int))))] ?_
   refine xsf z ?_
   refine SW_skip ?_
   exact xw (zsS zi0 (zsS (ziS zi0) zs0))
 ·rintro s' hw
  refine SW_weak hw ?_
  clear hw
  have v0 : Ve (IntKind.i64.wrap ((n : Int) - 1)) ((n : Int) - 1) := ⟨wrap_i64 (by omega)⟩
  refine SW_seq ?_
  refine xg ?_
  refine xn 1 [] [(15, .int .i64 (n : Int))] ?_
  refine xve 16 IntKind.i64 (IntKind.wrap IntKind.i64 ((n : Int) - 1)) ((n : Int) - 1) v0 ?_
  refine xz [] [(6, .int .i64 ((n : Int) - 1))] ?_
  refine SW_then (fun s' => val B32 a = val B32 b ∧ Weak s' ⟨[], [], []⟩) ?_ ?_
  ·refine SW_block ?_
   refine SW_loopn (fun m s' => (∀ i : Nat, m ≤ i → rd a (i : Int) = rd b (i : Int)) ∧ m ≤ n ∧ Weak s' ⟨[(0, .slice A a.length c), (1, .slice A' b.length c'), (6, .int .i64 ((m : Int) - 1))], [], [Row .u64 A c a, Row .u64 A' c' b]⟩) n ⟨fun i hi => by rw [rd_of_ge a i (by simp; omega), rd_of_ge b i (by simp; omega)], Nat.le_refl _, ?_⟩ (fun m s' hI => ?_)
   ·exact xw (zsS zi0 (zsS (ziS zi0) zs0))
   ·obtain ⟨h1, h2, hw⟩ := hI
    refine SW_weak hw ?_
    clear hw
    match m, h1, h2 with
    | 0, h1, h2 =>
     have z : decide (((0 : Nat) : Int) - 1 ≥ 0) = false := rfl
     have e := val_congr (B := B32) (a := a) (b := b) (fun i => h1 i (Nat.zero_le _))
     refine SW_seq ?_
     refine xr [] [(18, .bool false)] ?_
     refine xs0 ?_
     refine SW_exit ?_
     refine ⟨e, ?_⟩
     exact xw zs0
    | m + 1, h1, h2 =>
     rw [show ((m + 1 : Nat) : Int) - 1 = (m : Int) by omega]
     have z : decide ((m : Int) ≥ 0) = true := decide_eq_true (by omega)
     obtain ⟨x, hx, hxB⟩ := nat_rd32 da m
     obtain ⟨y, hy, hyB⟩ := nat_rd32 db m
     have v1 : Ve (rd a (m : Int)) (x : Int) := ⟨hx⟩
     have v2 : Ve (rd b (m : Int)) (y : Int) := ⟨hy⟩
     have v3 : Ve (IntKind.i64.wrap ((m : Int) - 1)) ((m : Int) - 1) := ⟨wrap_i64 (by omega)⟩
     by_cases hlt : x < y
     ·have z1 : decide ((x : Int) < (y : Int)) = true := decide_eq_true (by omega)
      have hv := val_less B32_pos da db (k := m) (fun i hi => h1 i hi) (by rw [hx, hy]; omega)
      rw [cmpN, if_pos hv]
      refine SW_seq ?_
      refine xr [] [(18, .bool (decide ((m : Int) ≥ 0)))] ?_
      refine xst z ?_
      refine SW_skip ?_
      refine SW_seq ?_
      refine SW_block ?_
      refine SW_seq ?_
      refine xg ?_
      refine xn 2 [] [(22, .int .i64 (m : Int)), (21, .slice A (List.length a) c)] ?_
      refine xcv 23 (ct_spec_l1At (a) (A) (c) ((m : Int)) (m) ⟨rfl⟩ ((x : Int)) v1 (by omega)) (zsS zi0 zs0) ?_
      refine xn 5 [] [(25, .int .i64 (m : Int)), (24, .slice A' (List.length b) c')] ?_
      refine xcv 26 (ct_spec_l1At (b) (A') (c') ((m : Int)) (m) ⟨rfl⟩ ((y : Int)) v2 (by omega)) (zsS (ziS zi0) zs0) ?_
      refine xz [] [(27, .bool (decide ((x : Int) < (y : Int))))] ?_
      refine xst z1 ?_
      refine xr [] [(4, .int .i64 (-1))] ?_
      refine SW_ret ?_
      refine xe () (.int .i64 (-1)) [] ?_ trivial
      rfl
     ·have z1 : decide ((x : Int) < (y : Int)) = false := decide_eq_false (by omega)
      by_cases hgt : y < x
      ·have z2 : decide ((x : Int) > (y : Int)) = true := decide_eq_true (by omega)
       have hv := val_less B32_pos db da (k := m) (fun i hi => (h1 i hi).symm) (by rw [hx, hy]; omega)
       rw [cmpN, if_neg (by omega), if_pos hv]
       refine SW_seq ?_
       refine xr [] [(18, .bool (decide ((m : Int) ≥ 0)))] ?_
       refine xst z ?_
       refine SW_skip ?_
       refine SW_seq ?_
       refine SW_block ?_
       refine SW_seq ?_
       refine xg ?_
       refine xn 2 [] [(22, .int .i64 (m : Int)), (21, .slice A (List.length a) c)] ?_
       refine xcv 23 (ct_spec_l1At (a) (A) (c) ((m : Int)) (m) ⟨rfl⟩ ((x : Int)) v1 (by omega)) (zsS zi0 zs0) ?_
       refine xn 5 [] [(25, .int .i64 (m : Int)), (24, .slice A' (List.length b) c')] ?_
       refine xcv 26 (ct_spec_l1At (b) (A') (c') ((m : Int)) (m) ⟨rfl⟩ ((y : Int)) v2 (by omega)) (zsS (ziS zi0) zs0) ?_
       refine xz [] [(27, .bool (decide ((x : Int) < (y : Int))))] ?_
       refine xsf z1 ?_
       refine SW_skip ?_
       refine xg ?_
       refine xn 2 [] [(29, .int .i64 (m : Int)), (28, .slice A (List.length a) c)] ?_
       refine xcv 30 (ct_spec_l1At (a) (A) (c) ((m : Int)) (m) ⟨rfl⟩ ((x : Int)) v1 (by omega)) (zsS zi0 zs0) ?_
       refine xn 5 [] [(32, .int .i64 (m : Int)), (31, .slice A' (List.length b) c')] ?_
       refine xcv 33 (ct_spec_l1At (b) (A') (c') ((m : Int)) (m) ⟨rfl⟩ ((y : Int)) v2 (by omega)) (zsS (ziS zi0) zs0) ?_
       refine xz [] [(34, .bool (decide ((x : Int) > (y : Int))))] ?_
       refine xst z2 ?_
       refine xr [] [(4, .int .i64 1)] ?_
       refine SW_ret ?_
       refine xe () (.int .i64 1) [] ?_ trivial
       rfl
      ·have z2 : decide ((x : Int) > (y : Int)) = false := decide_eq_false (by omega)
       refine SW_seq ?_
       refine xr [] [(18, .bool (decide ((m : Int) ≥ 0)))] ?_
       refine xst z ?_
       refine SW_skip ?_
       refine SW_seq ?_
       refine SW_block ?_
       refine SW_seq ?_
       refine xg ?_
       refine xn 2 [] [(22, .int .i64 (m : Int)), (21, .slice A (List.length a) c)] ?_
       refine xcv 23 (ct_spec_l1At (a) (A) (c) ((m : Int)) (m) ⟨rfl⟩ ((x : Int)) v1 (by omega)) (zsS zi0 zs0) ?_
       refine xn 5 [] [(25, .int .i64 (m : Int)), (24, .slice A' (List.length b) c')] ?_
       refine xcv 26 (ct_spec_l1At (b) (A') (c') ((m : Int)) (m) ⟨rfl⟩ ((y : Int)) v2 (by omega)) (zsS (ziS zi0) zs0) ?_
       refine xz [] [(27, .bool (decide ((x : Int) < (y : Int))))] ?_
       refine xsf z1 ?_
       refine SW_skip ?_
       refine xg ?_
       refine xn 2 [] [(29, .int .i64 (m : Int)), (28, .slice A (List.length a) c)] ?_
       refine xcv 30 (ct_spec_l1At (a) (A) (c) ((m : Int)) (m) ⟨rfl⟩ ((x : Int)) v1 (by omega)) (zsS zi0 zs0) ?_
       refine xn 5 [] [(32, .int .i64 (m : Int)), (31, .slice A' (List.length b) c')] ?_
       refine xcv 33 (ct_spec_l1At (b) (A') (c') ((m : Int)) (m) ⟨rfl⟩ ((y : Int)) v2 (by omega)) (zsS (ziS zi0) zs0) ?_
       refine xz [] [(34, .bool (decide ((x : Int) > (y : Int))))] ?_
       refine xsf z2 ?_
       refine SW_skip ?_
       refine SW_region ?_
       refine xn 1 [] [(19, .int .i64 (m : Int))] ?_
       refine xve 20 IntKind.i64 (IntKind.wrap IntKind.i64 ((m : Int) - 1)) ((m : Int) - 1) v3 ?_
       refine xz [] [(6, .int .i64 ((m : Int) - 1))] ?_
       refine ⟨m, by omega, fun i hi => ?_, by omega, ?_⟩
       ·rcases Nat.eq_or_lt_of_le hi with h | h
        ·rw [← h, hx, hy]; omega
        ·exact h1 i h
       ·exact xw (zsS zi0 (zsS (ziS zi0) zs0))
  ·rintro s' ⟨e, hw⟩
   refine SW_weak hw ?_
   rw [e, cmpN, if_neg (by omega), if_neg (by omega)]
   refine xr [] [(4, .int .i64 0)] ?_
   refine SW_ret ?_
   refine xe () (.int .i64 0) [] ?_ trivial
   rfl
theorem ct_spec_l1Of_rows (X : Int) (x : Nat) (hX : Nn X x) (hx : x < 18446744073709551616) : ∀ r, Dig B32 r → Norm r → val B32 r = x → CtR Try.prog 24 [.int .u64 X] [] .u64 r := by
 intro r dr nr vr
 obtain ⟨rfl⟩ := hX
 refine ct_of Try.func24 rfl (by kernel_rfl) (fun B w0 => ?_)
 have v5 := low_ve x hx
 have v6 := high_ve x
 have e : trimL [((x % 4294967296 : Nat) : Int), ((x / 4294967296 : Nat) : Int)] = r := norm_inj B32_pos (Dig.trim (Dig.cons (cast_dig32 (Nat.mod_lt _ (by decide))) (Dig.cons (cast_dig32 (by omega)) (Dig.nil _)))) dr (norm_trim _) nr (by
  rw [val_trim, vr]
  simp only [val_cons, Int.toNat_natCast]
  unfold B32
  simp only [val]
  omega)
 refine xr [] [(2, .slice none 0 0)] ?_
 refine xg ?_
 refine xn 1 [] [(3, .int .u64 (x : Int))] ?_
 refine xve 4 IntKind.u64 (bits BinOp.and IntKind.u64 (x : Int) 4294967295) ((((x % 4294967296) : Nat) : Int)) v5 ?_
 refine xn 3 [] [(5, .int .u64 (x : Int))] ?_
 refine xve 6 IntKind.u64 (shf IntKind.u64 (x : Int) 32) ((((x / 4294967296) : Nat) : Int)) v6 ?_
 refine xbl 7 [.int .u64 (((x % 4294967296) : Nat) : Int), .int .u64 (((x / 4294967296) : Nat) : Int)] 22 2 (fun g0 => ?_)
 refine NW_fz 0 2 g0 .u64 [((x % 4294967296 : Nat) : Int), ((x / 4294967296 : Nat) : Int)] [] 22 (by simp) (by simp) ?_
 have ct : CtR Try.prog 57 [.slice (some ⟨g0, 0, none⟩) 2 2] [Row .u64 (some ⟨g0, 0, none⟩) 2 [((x % 4294967296 : Nat) : Int), ((x / 4294967296 : Nat) : Int)]] .u64 r := by
  rw [← e]
  exact ct_spec_l1Trim _ _ 2 (by simp)
 refine xcr 8 ct (zsS zi0 zs0) (fun A0 k0 => ?_)
 refine xz [] [(2, .slice A0 (List.length r) k0)] ?_
 refine SW_ret ?_
 refine xe (A0, k0) (.slice A0 (List.length r) k0) [] ?_ (zsS zi0 zs0)
 rfl
theorem in_step {l O : List Int} {i x : Nat} (hx : rd l (i : Int) = (x : Int)) (hl : O.length = 2 * i) (hv : val B32 O = val B64 (l.take i)) : val B32 (O ++ [((x % 4294967296 : Nat) : Int), ((x / 4294967296 : Nat) : Int)]) = val B64 (l.take (i + 1)) := by
 rw [val_append, val_take_succ, hx, hv, hl, Nat.pow_mul, show B32 ^ 2 = B64 from rfl]
 congr 2
 simp only [val_cons, Int.toNat_natCast]
 unfold B32
 simp only [val]
 omega
theorem ct_spec_l1In_rows (l : List Int) (A : Option Addr) (c : Nat) (dl : Dig B64 l) (hl : l.length ≤ 1000000000) : ∀ r, Dig B32 r → Norm r → val B32 r = val B64 l → CtR Try.prog 36 [.slice A l.length c] [Row .u64 A c l] .u64 r := by
 intro r dr nr vr
 refine ct_of Try.func36 rfl (by kernel_rfl) (fun B w0 => ?_)
 refine xr [] [(2, .slice none 0 0)] ?_
 refine xr [] [(3, .slice none 0 0)] ?_
 refine SW_seq ?_
 refine xr [] [(8, .int .i64 0), (7, .int .i64 (((List.length l) : Nat) : Int)), (6, .slice A (List.length l) c)] ?_
 refine SW_then (fun s' => ∃ (sl : Value) (bs : List Box) (O : List Int), Own 22 .u64 sl bs O ∧ Dig B32 O ∧ O.length = 2 * l.length ∧ val B32 O = val B64 l ∧ Weak s' ⟨[(3, sl)], bs, []⟩) ?_ ?_
 ·refine SW_block ?_
  refine SW_loopn (fun m s' => ∃ (sl : Value) (bs : List Box) (O : List Int) (i : Nat), m + i = l.length ∧ Own 22 .u64 sl bs O ∧ Dig B32 O ∧ O.length = 2 * i ∧ val B32 O = val B64 (l.take i) ∧ Weak s' ⟨[(3, sl), (6, .slice A l.length c), (7, .int .i64 (l.length : Int)), (8, .int .i64 (i : Int))], bs, [Row .u64 A c l]⟩) l.length ⟨_, _, [], 0, rfl, Own.nil 22 .u64, Dig.nil _, rfl, rfl, ?_⟩ (fun m s' hI => ?_)
  ·exact xw (zsS zi0 zs0)
  ·obtain ⟨sl0, bs0, O, i, k1, hO0, k3, k4, k6, hw⟩ := hI
   refine SW_weak hw ?_
   clear hw
   by_cases hi : i < l.length
   ·have z : decide ((i : Int) < (l.length : Int)) = true := decide_eq_true (by omega)
    obtain ⟨m, rfl⟩ : ∃ m', m = m' + 1 := ⟨m - 1, by omega⟩
    refine SW_know zi0 (fun w h => row_at h (by omega)) (fun ⟨ad, e⟩ => ?_)
    subst e
    obtain ⟨x, hx, hxB⟩ := nat_rd dl i
    have v1 : Ve (rd l (i : Int)) (x : Int) := ⟨hx⟩
    have v5 := low_ve x hxB
    have v6 := high_ve x
    have v7 : Ve (IntKind.i64.wrap ((i : Int) + 1)) ((i + 1 : Nat) : Int) := veI (by omega) (by omega)
    have hst := in_step hx k4 k6
    refine xr [] [(9, .bool (decide ((i : Int) < (((List.length l) : Nat) : Int))))] ?_
    refine SW_seq ?_
    refine xst z ?_
    refine SW_skip ?_
    refine SW_seq ?_
    refine SW_block ?_
    refine xg ?_
    refine xfi 10 22 (ad) (List.length l) (c) (i) IntKind.i64 ((i : Int)) ⟨rfl⟩ (by omega) ?_
    refine xfle 11 zi0 (i) ((x : Int)) v1 (by omega) ?_
    refine xz [] [(5, .int .u64 (x : Int))] ?_
    refine SW_region ?_
    refine xn 2 [] [(13, .int .u64 (x : Int)), (12, sl0)] ?_
    refine xve 14 IntKind.u64 (bits BinOp.and IntKind.u64 (x : Int) 4294967295) ((((x % 4294967296) : Nat) : Int)) v5 ?_
    refine xn 4 [] [(15, .int .u64 (x : Int))] ?_
    refine xve 16 IntKind.u64 (shf IntKind.u64 (x : Int) 32) ((((x / 4294967296) : Nat) : Int)) v6 ?_
    refine xbl 17 [.int .u64 (((x % 4294967296) : Nat) : Int), .int .u64 (((x / 4294967296) : Nat) : Int)] 22 2 (fun g0 => ?_)
    refine xow 18 8 (g0) (2) [(((x % 4294967296) : Nat) : Int), (((x / 4294967296) : Nat) : Int)] hO0 (by first | omega | (simp <;> omega)) (fun sl1 bs1 hO1 => ?_)
    refine xz [] [(3, sl1)] ?_
    refine SW_region ?_
    refine xve 19 IntKind.i64 (IntKind.wrap IntKind.i64 ((i : Int) + 1)) ((((i + 1) : Nat) : Int)) v7 ?_
    refine xz [] [(8, .int .i64 (((i + 1) : Nat) : Int))] ?_
    refine ⟨m, by omega, sl1, bs1, _, i + 1, by omega, hO1, k3.append (Dig.cons (cast_dig32 (Nat.mod_lt _ (by decide))) (Dig.cons (cast_dig32 (by omega)) (Dig.nil _))), by rw [List.length_append, k4]; simp; omega, hst, ?_⟩
    exact xw (zsS zi0 zs0)
   ·have z : decide ((i : Int) < (l.length : Int)) = false := decide_eq_false (by omega)
    obtain rfl : i = l.length := by omega
    rw [List.take_length] at k6
    refine xr [] [(9, .bool (decide ((((List.length l) : Nat) : Int) < (((List.length l) : Nat) : Int))))] ?_
    refine SW_seq ?_
    refine xsf z ?_
    refine SW_exit ?_
    refine ⟨sl0, bs0, O, hO0, k3, k4, k6, ?_⟩
    exact xw zs0
 ·rintro s' ⟨sl, bs, O, hO, dO, lO, vO, hw⟩
  refine SW_weak hw ?_
  clear hw
  refine SW_own hO (by omega) (fun Ao co e => ?_)
  subst e
  have er : trimL O = r := norm_inj B32_pos dO.trim dr (norm_trim _) nr (by rw [val_trim, vO, vr])
  have ct := ct_spec_l1Trim O Ao co (by omega)
  rw [er] at ct
  refine xg ?_
  refine xn 1 [] [(20, .slice Ao (List.length O) co)] ?_
  refine xcr 21 ct (zsS zi0 zs0) (fun A0 k0 => ?_)
  refine xz [] [(2, .slice A0 (List.length r) k0)] ?_
  refine SW_ret ?_
  refine xe (A0, k0) (.slice A0 (List.length r) k0) [] ?_ (zsS zi0 zs0)
  rfl
end Go.Proofs.Ytlfpjlfmjojimaa.M
end
section
namespace Go.Proofs.Ytlfpjlfmjojimaa.M
open Go.RowKit Go.Proofs.Ytlfpjlfmjojimaa.G Go.Proofs.YtlfpjlfmjojimaaV.PrintWords Go.Proofs.YtlfpjlfmjojimaaV.PrintLast Go.Proofs.Ytlfpjlfmjojimaa.X
set_option linter.unusedVariables false
set_option linter.unusedSimpArgs false
theorem drop_two {l : List Int} {i : Nat} (h : i + 1 < l.length) : l.drop i = rd l (i : Int) :: rd l ((i + 1 : Nat) : Int) :: l.drop (i + 2) := by
 have e1 := rd_some (xs := l) (i := i) (by omega)
 have e2 := rd_some (xs := l) (i := i + 1) h
 rw [List.getElem?_eq_getElem (by omega)] at e1 e2
 rw [List.drop_eq_getElem_cons (show i < l.length by omega), List.drop_eq_getElem_cons h, Option.some.inj e1, Option.some.inj e2]
theorem drop_one {l : List Int} {i : Nat} (h : i + 1 = l.length) : l.drop i = [rd l (i : Int)] := by
 have e1 := rd_some (xs := l) (i := i) (by omega)
 rw [List.getElem?_eq_getElem (by omega)] at e1
 rw [List.drop_eq_getElem_cons (show i < l.length by omega), Option.some.inj e1, List.drop_eq_nil_of_le (by omega)]
theorem ct_spec_l1Out_own (l : List Int) (A : Option Addr) (c : Nat) (dl : Dig B32 l) (nl : Norm l) (hl : l.length ≤ 1000000000) : ∀ r, Dig B64 r → Norm r → val B64 r = val B32 l → CtW Try.prog 37 [.slice A l.length c] [Row .u64 A c l] 22 .u64 r := by
 intro r dr nr vr
 have er : outL l = r := norm_inj B64_pos (outL_dig dl) dr (outL_norm dl nl) nr (by rw [outL_val dl, vr])
 refine ctW_of Try.func37 rfl (by kernel_rfl) (fun B w0 => ?_)
 refine xr [] [(2, .slice none 0 0)] ?_
 refine xr [] [(3, .slice none 0 0)] ?_
 refine SW_seq ?_
 refine xr [] [(4, .int .i64 0)] ?_
 refine SW_then (fun s' => ∃ (sl : Value) (bs : List Box), Own 22 .u64 sl bs r ∧ Weak s' ⟨[(3, sl)], bs, []⟩) ?_ ?_
 ·refine SW_block ?_
  refine SW_loopn (fun m s' => ∃ (sl : Value) (bs : List Box) (O : List Int) (i : Nat), (m + i = l.length ∨ (m = 0 ∧ i = l.length + 1)) ∧ Own 22 .u64 sl bs O ∧ O.length ≤ i ∧ O ++ outL (l.drop i) = r ∧ Weak s' ⟨[(0, .slice A l.length c), (3, sl), (4, .int .i64 (i : Int))], bs, [Row .u64 A c l]⟩) l.length ⟨_, _, [], 0, .inl rfl, Own.nil 22 .u64, Nat.le_refl _, er, ?_⟩ (fun m s' hI => ?_)
  ·exact xw (zsS zi0 zs0)
  ·obtain ⟨sl0, bs0, O, i, k1, hO0, k3, k4, hw⟩ := hI
   refine SW_weak hw ?_
   clear hw
   by_cases hi : i < l.length
   ·have z : decide ((i : Int) < (l.length : Int)) = true := decide_eq_true (by omega)
    refine SW_know zi0 (fun w h => row_at h (by omega)) (fun ⟨ad, e⟩ => ?_)
    subst e
    obtain ⟨x, hx, hxB⟩ := nat_rd32 dl i
    have v1 : Ve (rd l (i : Int)) (x : Int) := ⟨hx⟩
    have v2 : Ve (IntKind.i64.wrap ((i : Int) + 1)) ((i + 1 : Nat) : Int) := veI (by omega) (by omega)
    have v3 : Ve (IntKind.i64.wrap ((i : Int) + 2)) ((i + 2 : Nat) : Int) := veI (by omega) (by omega)
    by_cases h2 : i + 1 < l.length
    ·have z2 : decide (((i + 1 : Nat) : Int) < (l.length : Int)) = true := decide_eq_true (by omega)
     obtain ⟨y, hy, hyB⟩ := nat_rd32 dl (i + 1)
     have v4 : Ve (rd l ((i + 1 : Nat) : Int)) (y : Int) := ⟨hy⟩
     have v5 : Ve (shl .u64 (y : Int) 32) ((y * 4294967296 : Nat) : Int) := ⟨by have := shl_nat y 32 (by omega); rw [show ((32 : Nat) : Int) = 32 from rfl] at this; rw [this]; omega⟩
     have v6 : Ve (bits .or .u64 (x : Int) ((y * 4294967296 : Nat) : Int)) ((x + y * 4294967296 : Nat) : Int) := ⟨or_nat' 32 (y * 4294967296) x (by omega) (by omega) (Nat.dvd_mul_left _ _) hxB⟩
     rw [drop_two h2, outL, hx, hy] at k4
     refine SW_seq ?_
     refine xr [] [(9, .bool (decide ((i : Int) < (((List.length l) : Nat) : Int))))] ?_
     refine xst z ?_
     refine SW_skip ?_
     refine SW_seq ?_
     refine SW_block ?_
     refine xg ?_
     refine xn 2 [] [(13, .int .i64 (i : Int)), (12, .slice (some ad) (List.length l) c)] ?_
     refine xfi 14 22 (ad) (List.length l) (c) (i) IntKind.i64 ((i : Int)) ⟨rfl⟩ (by omega) ?_
     refine xfle 15 zi0 (i) ((x : Int)) v1 (by omega) ?_
     refine xz [] [(5, .int .u64 (x : Int))] ?_
     refine SW_seq ?_
     refine xg ?_
     refine xn 1 [] [(16, .int .i64 (i : Int))] ?_
     refine xve 17 IntKind.i64 (IntKind.wrap IntKind.i64 ((i : Int) + 1)) ((((i + 1) : Nat) : Int)) v2 ?_
     refine xz [] [(20, .bool (decide ((((i + 1) : Nat) : Int) < (((List.length l) : Nat) : Int))))] ?_
     refine xst z2 ?_
     refine SW_region ?_
     refine xn 3 [] [(23, .int .i64 (i : Int)), (22, .slice (some ad) (List.length l) c), (21, .int .u64 (x : Int))] ?_
     refine xve 24 IntKind.i64 (IntKind.wrap IntKind.i64 ((i : Int) + 1)) ((((i + 1) : Nat) : Int)) v2 ?_
     refine xfi 25 22 (ad) (List.length l) (c) (i + 1) IntKind.i64 ((((i + 1) : Nat) : Int)) ⟨rfl⟩ (by omega) ?_
     refine xfle 26 zi0 (i + 1) ((y : Int)) v4 (by omega) ?_
     refine xve 27 IntKind.u64 (shl IntKind.u64 (y : Int) 32) ((((y * 4294967296) : Nat) : Int)) v5 ?_
     refine xve 28 IntKind.u64 (bits BinOp.or IntKind.u64 (x : Int) (((y * 4294967296) : Nat) : Int)) ((((x + y * 4294967296) : Nat) : Int)) v6 ?_
     refine xz [] [(5, .int .u64 (((x + y * 4294967296) : Nat) : Int))] ?_
     refine SW_region ?_
     refine xn 2 [] [(30, .int .u64 (((x + y * 4294967296) : Nat) : Int)), (29, sl0)] ?_
     refine xbl 31 [.int .u64 (((x + y * 4294967296) : Nat) : Int)] 22 1 (fun g0 => ?_)
     refine xow 32 8 (g0) (1) [(((x + y * 4294967296) : Nat) : Int)] hO0 (by first | omega | (simp <;> omega)) (fun sl1 bs1 hO1 => ?_)
     refine xz [] [(3, sl1)] ?_
     refine SW_region ?_
     refine xn 1 [] [(10, .int .i64 (i : Int))] ?_
     refine xve 11 IntKind.i64 (IntKind.wrap IntKind.i64 ((i : Int) + 2)) ((((i + 2) : Nat) : Int)) v3 ?_
     refine xz [] [(4, .int .i64 (((i + 2) : Nat) : Int))] ?_
     refine ⟨m - 2, by omega, sl1, bs1, _, i + 2, by omega, hO1, by rw [List.length_append]; simp; omega, ?_, ?_⟩
     ·rw [List.append_assoc, ← k4]
      congr 1
     ·exact xw (zsS zi0 zs0)
    ·have z2 : decide (((i + 1 : Nat) : Int) < (l.length : Int)) = false := decide_eq_false (by omega)
     rw [drop_one (by omega), outL, hx] at k4
     refine SW_seq ?_
     refine xr [] [(9, .bool (decide ((i : Int) < (((List.length l) : Nat) : Int))))] ?_
     refine xst z ?_
     refine SW_skip ?_
     refine SW_seq ?_
     refine SW_block ?_
     refine xg ?_
     refine xn 2 [] [(13, .int .i64 (i : Int)), (12, .slice (some ad) (List.length l) c)] ?_
     refine xfi 14 22 (ad) (List.length l) (c) (i) IntKind.i64 ((i : Int)) ⟨rfl⟩ (by omega) ?_
     refine xfle 15 zi0 (i) ((x : Int)) v1 (by omega) ?_
     refine xz [] [(5, .int .u64 (x : Int))] ?_
     refine SW_seq ?_
     refine xg ?_
     refine xn 1 [] [(16, .int .i64 (i : Int))] ?_
     refine xve 17 IntKind.i64 (IntKind.wrap IntKind.i64 ((i : Int) + 1)) ((((i + 1) : Nat) : Int)) v2 ?_
     refine xz [] [(20, .bool (decide ((((i + 1) : Nat) : Int) < (((List.length l) : Nat) : Int))))] ?_
     refine xsf z2 ?_
     refine SW_skip ?_
     refine SW_region ?_
     refine xn 2 [] [(30, .int .u64 (x : Int)), (29, sl0)] ?_
     refine xbl 31 [.int .u64 (x : Int)] 22 1 (fun g0 => ?_)
     refine xow 32 8 (g0) (1) [(x : Int)] hO0 (by first | omega | (simp <;> omega)) (fun sl1 bs1 hO1 => ?_)
     refine xz [] [(3, sl1)] ?_
     refine SW_region ?_
     refine xn 1 [] [(10, .int .i64 (i : Int))] ?_
     refine xve 11 IntKind.i64 (IntKind.wrap IntKind.i64 ((i : Int) + 2)) ((((i + 2) : Nat) : Int)) v3 ?_
     refine xz [] [(4, .int .i64 (((i + 2) : Nat) : Int))] ?_
     refine ⟨0, by omega, sl1, bs1, _, i + 2, by omega, hO1, by rw [List.length_append]; simp; omega, ?_, ?_⟩
     ·rw [List.drop_eq_nil_of_le (by omega), outL, List.append_nil, ← k4]
     ·exact xw (zsS zi0 zs0)
   ·have z : decide ((i : Int) < (l.length : Int)) = false := decide_eq_false (by omega)
    rw [List.drop_eq_nil_of_le (by omega), outL, List.append_nil] at k4
    subst k4
    refine SW_seq ?_
    refine xr [] [(9, .bool (decide ((i : Int) < (((List.length l) : Nat) : Int))))] ?_
    refine xsf z ?_
    refine SW_exit ?_
    refine ⟨sl0, bs0, hO0, ?_⟩
    exact xw zs0
 ·rintro s' ⟨sl, bs, hO, hw⟩
  refine SW_weak hw ?_
  clear hw
  refine xr [] [(2, sl)] ?_
  refine SW_ret ?_
  exact ⟨sl, [], [], by kernel_rfl, hO⟩
theorem ct_spec_l1Out_rows (l : List Int) (A : Option Addr) (c : Nat) (dl : Dig B32 l) (nl : Norm l) (hl : l.length ≤ 1000000000) : ∀ r, Dig B64 r → Norm r → val B64 r = val B32 l → CtR Try.prog 37 [.slice A l.length c] [Row .u64 A c l] .u64 r := fun r dr nr vr => ctR_of_W (by
 have er : outL l = r := norm_inj B64_pos (outL_dig dl) dr (outL_norm dl nl) nr (by rw [outL_val dl, vr])
 have := outL_length l
 rw [← er]
 omega) (ct_spec_l1Out_own l A c dl nl hl r dr nr vr)
end Go.Proofs.Ytlfpjlfmjojimaa.M
end
section
namespace Go.Proofs.Ytlfpjlfmjojimaa.M
open Go.RowKit Go.Proofs.Ytlfpjlfmjojimaa.G Go.Proofs.YtlfpjlfmjojimaaV.PrintWords Go.Proofs.YtlfpjlfmjojimaaV.PrintLast Go.Proofs.Ytlfpjlfmjojimaa.X
set_option linter.unusedVariables false
set_option linter.unusedSimpArgs false
theorem sub32_step {a b O : List Int} {i x y bo D bo' : Nat} (hx : rd a (i : Int) = (x : Int)) (hy : rd b (i : Int) = (y : Int)) (hl : O.length = i) (hD : D + y + bo = 4294967296 + x) (hb : bo' + D / 4294967296 = 1) (hv : val B32 O + val B32 (b.take i) = val B32 (a.take i) + B32 ^ i * bo) :
  val B32 (O ++ [((D % 4294967296 : Nat) : Int)]) + val B32 (b.take (i + 1)) = val B32 (a.take (i + 1)) + B32 ^ (i + 1) * bo' := by
 rw [val_snoc, val_take_succ, val_take_succ, hl, hx, hy, Nat.pow_succ, Nat.mul_assoc]
 simp only [Int.toNat_natCast]
 rw [show B32 * bo' = 4294967296 * bo' from rfl]
 have h : D % 4294967296 + y + bo = x + 4294967296 * bo' := by omega
 have h2 := congrArg (B32 ^ i * ·) h
 generalize D % 4294967296 = m at *
 generalize 4294967296 * bo' = q at *
 generalize B32 ^ i = P at *
 simp only [Nat.mul_add] at h2 ⊢
 omega
theorem ct_spec_l1Sub_rows (a b : List Int) (A A' : Option Addr) (c c' : Nat) (da : Dig B32 a) (db : Dig B32 b) (hla : a.length ≤ 1000000000) (hlb : b.length ≤ 1000000000) : ∀ r, Dig B32 r → Norm r → val B32 r + val B32 b = val B32 a → CtR Try.prog 60 [.slice A a.length c, .slice A' b.length c'] [Row .u64 A c a, Row .u64 A' c' b] .u64 r := by
 intro r dr nr vr
 refine ct_of Try.func60 rfl (by kernel_rfl) (fun B w0 => ?_)
 refine xr [] [(4, .slice none 0 0)] ?_
 refine xr [] [(5, .slice none 0 0)] ?_
 refine xr [] [(6, .int .u64 0)] ?_
 refine SW_seq ?_
 refine xr [] [(7, .int .i64 0)] ?_
 refine SW_then (fun s' => ∃ (sl : Value) (bs : List Box) (O : List Int), Own 22 .u64 sl bs O ∧ Dig B32 O ∧ O.length = a.length ∧ val B32 O = val B32 r ∧ Weak s' ⟨[(5, sl)], bs, []⟩) ?_ ?_
 ·refine SW_block ?_
  refine SW_loopn (fun m s' => ∃ (sl : Value) (bs : List Box) (O : List Int) (i bo : Nat), m + i = a.length ∧ Own 22 .u64 sl bs O ∧ Dig B32 O ∧ O.length = i ∧ bo ≤ 1 ∧ val B32 O + val B32 (b.take i) = val B32 (a.take i) + B32 ^ i * bo ∧ Weak s' ⟨[(0, .slice A a.length c), (1, .slice A' b.length c'), (5, sl), (6, .int .u64 (bo : Int)), (7, .int .i64 (i : Int))], bs, [Row .u64 A c a, Row .u64 A' c' b]⟩) a.length ⟨_, _, [], 0, 0, rfl, Own.nil 22 .u64, Dig.nil _, rfl, by decide, rfl, ?_⟩ (fun m s' hI => ?_)
  ·exact xw (zsS zi0 (zsS (ziS zi0) zs0))
  ·obtain ⟨sl0, bs0, O, i, bo, k1, hO0, k3, k4, k5, k6, hw⟩ := hI
   refine SW_weak hw ?_
   clear hw
   by_cases hi : i < a.length
   ·have z : decide ((i : Int) < (a.length : Int)) = true := decide_eq_true (by omega)
    obtain ⟨m, rfl⟩ : ∃ m', m = m' + 1 := ⟨m - 1, by omega⟩
    refine SW_know zi0 (fun w h => row_at h (by omega)) (fun ⟨ad, e⟩ => ?_)
    subst e
    obtain ⟨x, hx, hxB⟩ := nat_rd32 da i
    obtain ⟨y, hy, hyB⟩ := nat_rd32 db i
    obtain ⟨D, hD⟩ : ∃ D, D + y + bo = 4294967296 + x := ⟨4294967296 + x - y - bo, by omega⟩
    have v1 : Ve (rd a (i : Int)) (x : Int) := ⟨hx⟩
    have v2 : Ve (rd b (i : Int)) (y : Int) := ⟨hy⟩
    have v3 : Ve (IntKind.u64.wrap (4294967296 + (x : Int))) ((4294967296 + x : Nat) : Int) := veU (by omega) (by omega)
    have v4 : Ve (IntKind.u64.wrap (((4294967296 + x : Nat) : Int) - (y : Int))) ((4294967296 + x - y : Nat) : Int) := veU (by omega) (by omega)
    have v4' : Ve (IntKind.u64.wrap (((4294967296 + x - y : Nat) : Int) - (bo : Int))) (D : Int) := veU (by omega) (by omega)
    have v5 := low_ve D (by omega)
    have v6 := high_ve D
    obtain ⟨bo', hbo⟩ : ∃ bo', bo' + D / 4294967296 = 1 := ⟨1 - D / 4294967296, by omega⟩
    have v8 : Ve (IntKind.u64.wrap (1 - ((D / 4294967296 : Nat) : Int))) (bo' : Int) := veU (by omega) (by omega)
    have v7 : Ve (IntKind.i64.wrap ((i : Int) + 1)) ((i + 1 : Nat) : Int) := veI (by omega) (by omega)
    have hst := sub32_step hx hy k4 hD hbo k6
    refine SW_seq ?_
    refine xr [] [(12, .bool (decide ((i : Int) < (((List.length a) : Nat) : Int))))] ?_
    refine xst z ?_
    refine SW_skip ?_
    refine SW_seq ?_
    refine SW_block ?_
    refine xd (fun hB => ?_)
    refine xdk [(0, []), (1, []), (5, []), (6, []), (9, [])] [(24, .int .u64 (bo : Int)), (21, .int .i64 (i : Int)), (20, .slice A' (List.length b) c'), (16, .int .i64 (i : Int)), (15, .slice (some ad) (List.length a) c)] hB ?_
    refine xdfi 2 hB 17 22 (ad) (List.length a) (c) (i) IntKind.i64 ((i : Int)) ⟨rfl⟩ (by omega) ?_
    refine xdfle 3 hB 18 zi0 (i) ((x : Int)) v1 (by omega) ?_
    refine xdve 4 hB 19 IntKind.u64 (IntKind.wrap IntKind.u64 (4294967296 + (x : Int))) ((((4294967296 + x) : Nat) : Int)) v3 ?_
    refine xdv 7 22 (ct_spec_l1At (b) (A') (c') ((i : Int)) (i) ⟨rfl⟩ ((y : Int)) v2 (by omega)) (zsS (ziS zi0) zs0) ?_
    refine xdve 8 hB 23 IntKind.u64 (IntKind.wrap IntKind.u64 ((((4294967296 + x) : Nat) : Int) - (y : Int))) ((((4294967296 + x - y) : Nat) : Int)) v4 ?_
    refine xdve 10 hB 25 IntKind.u64 (IntKind.wrap IntKind.u64 ((((4294967296 + x - y) : Nat) : Int) - (bo : Int))) ((D : Int)) v4' ?_
    refine xdk [(11, [])] [(8, .int .u64 (D : Int))] hB ?_
    refine xdz ?_
    refine xg ?_
    refine xn 2 [] [(27, .int .u64 (D : Int)), (26, sl0)] ?_
    refine xve 28 IntKind.u64 (bits BinOp.and IntKind.u64 (D : Int) 4294967295) ((((D % 4294967296) : Nat) : Int)) v5 ?_
    refine xbl 29 [.int .u64 (((D % 4294967296) : Nat) : Int)] 22 1 (fun g0 => ?_)
    refine xow 30 8 (g0) (1) [(((D % 4294967296) : Nat) : Int)] hO0 (by first | omega | (simp <;> omega)) (fun sl1 bs1 hO1 => ?_)
    refine xz [] [(5, sl1)] ?_
    refine SW_region ?_
    refine xn 1 [] [(31, .int .u64 (D : Int))] ?_
    refine xve 32 IntKind.u64 (shf IntKind.u64 (D : Int) 32) ((((D / 4294967296) : Nat) : Int)) v6 ?_
    refine xve 33 IntKind.u64 (IntKind.wrap IntKind.u64 (1 - (((D / 4294967296) : Nat) : Int))) (((bo' : Nat) : Int)) v8 ?_
    refine xz [] [(6, .int .u64 ((bo' : Nat) : Int))] ?_
    refine SW_region ?_
    refine xn 1 [] [(13, .int .i64 (i : Int))] ?_
    refine xve 14 IntKind.i64 (IntKind.wrap IntKind.i64 ((i : Int) + 1)) ((((i + 1) : Nat) : Int)) v7 ?_
    refine xz [] [(7, .int .i64 (((i + 1) : Nat) : Int))] ?_
    refine ⟨m, by omega, sl1, bs1, _, i + 1, bo', by omega, hO1, k3.snoc (cast_dig32 (Nat.mod_lt _ (by decide))), by rw [List.length_append, k4]; rfl, by omega, hst, ?_⟩
    exact xw (zsS zi0 (zsS (ziS zi0) zs0))
   ·have z : decide ((i : Int) < (a.length : Int)) = false := decide_eq_false (by omega)
    obtain rfl : i = a.length := by omega
    rw [List.take_length] at k6
    have hO := val_lt_len B32_pos k3 (Nat.le_of_eq k4)
    have hA := val_lt da
    have hb := val_cut B32 b a.length
    have hd : val B32 (b.drop a.length) = 0 := by
     rcases Nat.eq_zero_or_pos (val B32 (b.drop a.length)) with h | h
     ·exact h
     ·have := Nat.mul_le_mul_left (B32 ^ a.length) h
      omega
    rw [hd, Nat.mul_zero, Nat.add_zero] at hb
    have hbo : bo = 0 := by
     rcases Nat.lt_or_ge bo 1 with h | h
     ·omega
     ·obtain rfl : bo = 1 := by omega
      omega
    rw [hbo, Nat.mul_zero, Nat.add_zero] at k6
    have hval : val B32 O = val B32 r := by omega
    refine SW_seq ?_
    refine xr [] [(12, .bool (decide ((((List.length a) : Nat) : Int) < (((List.length a) : Nat) : Int))))] ?_
    refine xsf z ?_
    refine SW_exit ?_
    refine ⟨sl0, bs0, O, hO0, k3, k4, hval, ?_⟩
    exact xw zs0
 ·rintro s' ⟨sl, bs, O, hO, dO, lO, vO, hw⟩
  refine SW_weak hw ?_
  clear hw
  refine SW_own hO (by omega) (fun Ao co e => ?_)
  subst e
  have er : trimL O = r := norm_inj B32_pos dO.trim dr (norm_trim _) nr (by rw [val_trim, vO])
  have ct := ct_spec_l1Trim O Ao co (by omega)
  rw [er] at ct
  refine xg ?_
  refine xn 1 [] [(34, .slice Ao (List.length O) co)] ?_
  refine xcr 35 ct (zsS zi0 zs0) (fun A0 k0 => ?_)
  refine xz [] [(4, .slice A0 (List.length r) k0)] ?_
  refine SW_ret ?_
  refine xe (A0, k0) (.slice A0 (List.length r) k0) [] ?_ (zsS zi0 zs0)
  rfl
end Go.Proofs.Ytlfpjlfmjojimaa.M
end
section
namespace Go.Proofs.Ytlfpjlfmjojimaa.M
open Go.RowKit Go.Proofs.Ytlfpjlfmjojimaa.G Go.Proofs.YtlfpjlfmjojimaaV.PrintWords Go.Proofs.YtlfpjlfmjojimaaV.PrintLast Go.Proofs.Ytlfpjlfmjojimaa.X
set_option linter.unusedVariables false
set_option linter.unusedSimpArgs false
theorem ct_spec_l1Mul_rows (a b : List Int) (A A' : Option Addr) (c c' : Nat) (da : Dig B32 a) (db : Dig B32 b) (hla : a.length ≤ 1000000000) (hlb : b.length ≤ 1000000000) : ∀ r, Dig B32 r → Norm r → val B32 r = val B32 a * val B32 b → CtR Try.prog 48 [.slice A a.length c, .slice A' b.length c'] [Row .u64 A c a, Row .u64 A' c' b] .u64 r := by
 intro r dr nr vr
 refine ct_of Try.func48 rfl (by kernel_rfl) (fun B w0 => ?_)
 refine xr [] [(4, .slice none 0 0)] ?_
 refine xg ?_
 refine xn 6 [] [(15, .int .i64 (IntKind.wrap IntKind.i64 (IntKind.wrap IntKind.i64 ((((List.length a) : Nat) : Int) + (((List.length b) : Nat) : Int)) + 1)))] ?_
 refine xma 16 22 (((List.length a) + (List.length b)) + 1) IntKind.u64 8 (IntKind.wrap IntKind.i64 (IntKind.wrap IntKind.i64 ((((List.length a) : Nat) : Int) + (((List.length b) : Nat) : Int)) + 1)) (Nn.w (Nn.add (Nn.w (Nn.add ⟨rfl⟩ ⟨rfl⟩) (by omega)) ⟨rfl⟩) (by omega)) (by omega) (fun g0 => ?_)
 refine xz [] [(5, .slice (some ⟨g0, 0, none⟩) (List.length a + List.length b + 1) (List.length a + List.length b + 1))] ?_
 refine SW_seq ?_
 refine xr [] [(6, .int .i64 0)] ?_
 refine SW_block ?_
 refine SW_loopn (fun m s => ∃ (i : Nat) (O : List Int), m + i = a.length ∧ O.length = a.length + b.length + 1 ∧ Dig B32 O ∧ Clear O (i + b.length) ∧ val B32 O = val B32 (a.take i) * val B32 b ∧ Weak s ⟨[(0, .slice A a.length c), (1, .slice A' b.length c'), (5, .slice (some ⟨g0, 0, none⟩) (a.length + b.length + 1) (a.length + b.length + 1)), (6, .int .i64 (i : Int))], [⟨g0, cl .u64 O [], 22⟩], [Row .u64 A c a, Row .u64 A' c' b]⟩) a.length ⟨0, List.replicate (a.length + b.length + 1) 0, rfl, by simp, Dig.zeros B32_pos _, Clear.zeros _ _, by rw [val_zeros]; simp [val], ?_⟩ (fun m s hI => ?_)
 ·exact xw (zsS zi0 (zsS (ziS zi0) zs0))
 ·obtain ⟨i, O, h1, h2, h3, h4, h5, hw⟩ := hI
  refine SW_weak hw ?_
  clear hw
  by_cases hi : i < a.length
  ·have z1 : decide ((i : Int) < (a.length : Int)) = true := decide_eq_true (by omega)
   refine SW_know zi0 (fun w h => row_at h (by omega)) (fun ⟨ad, e⟩ => ?_)
   subst e
   obtain ⟨m, rfl⟩ : ∃ m', m = m' + 1 := ⟨m - 1, by omega⟩
   obtain ⟨x, hx, hxB⟩ := nat_rd32 da i
   have v1 : Ve (rd a (i : Int)) (x : Int) := ⟨hx⟩
   have vi : Ve (IntKind.i64.wrap ((i : Int) + 1)) ((i + 1 : Nat) : Int) := veI (by omega) (by omega)
   have vn : Ve (IntKind.i64.wrap ((i : Int) + (b.length : Int))) ((i + b.length : Nat) : Int) := veI (by omega) (by omega)
   refine SW_seq ?_
   refine xr [] [(20, .bool (decide ((i : Int) < (((List.length a) : Nat) : Int))))] ?_
   refine xst z1 ?_
   refine SW_skip ?_
   refine SW_seq ?_
   refine SW_block ?_
   refine xr [] [(7, .int .u64 0)] ?_
   refine SW_seq ?_
   refine xr [] [(8, .int .i64 0)] ?_
   refine SW_then (fun s' => ∃ (O : List Int) (cy : Nat), O.length = a.length + b.length + 1 ∧ Dig B32 O ∧ Clear O (i + b.length) ∧ cy < 4294967296 ∧ val B32 O + B32 ^ (i + b.length) * ((cy : Nat) : Int).toNat = val B32 (a.take i) * val B32 b + B32 ^ i * ((x : Int).toNat * val B32 (b.take b.length)) ∧ Weak s' ⟨[(0, .slice (some ad) a.length c), (1, .slice A' b.length c'), (5, .slice (some ⟨g0, 0, none⟩) (a.length + b.length + 1) (a.length + b.length + 1)), (6, .int .i64 (i : Int)), (7, .int .u64 (cy : Int))], [⟨g0, cl .u64 O [], 22⟩], [Row .u64 (some ad) c a, Row .u64 A' c' b]⟩) ?_ ?_
   ·refine SW_block ?_
    refine SW_loopn (fun k s => ∃ (j : Nat) (O : List Int) (cy : Nat), k + j = b.length ∧ O.length = a.length + b.length + 1 ∧ Dig B32 O ∧ Clear O (i + b.length) ∧ cy < 4294967296 ∧ val B32 O + B32 ^ (i + j) * ((cy : Nat) : Int).toNat = val B32 (a.take i) * val B32 b + B32 ^ i * ((x : Int).toNat * val B32 (b.take j)) ∧ Weak s ⟨[(0, .slice (some ad) a.length c), (1, .slice A' b.length c'), (5, .slice (some ⟨g0, 0, none⟩) (a.length + b.length + 1) (a.length + b.length + 1)), (6, .int .i64 (i : Int)), (7, .int .u64 (cy : Int)), (8, .int .i64 (j : Int))], [⟨g0, cl .u64 O [], 22⟩], [Row .u64 (some ad) c a, Row .u64 A' c' b]⟩) b.length ⟨0, O, 0, rfl, h2, h3, h4, by decide, by simp [val, h5], ?_⟩ (fun k s hI => ?_)
    ·exact xw (zsS zi0 (zsS (ziS zi0) zs0))
    ·clear h2 h3 h4 h5
     obtain ⟨j, O, cy, k1, k2, k3, k4, k5, k6, hw⟩ := hI
     refine SW_weak hw ?_
     clear hw
     by_cases hj : j < b.length
     ·have z2 : decide ((j : Int) < (b.length : Int)) = true := decide_eq_true (by omega)
      refine SW_know (ziS zi0) (fun w h => row_at h (by omega)) (fun ⟨ad', e⟩ => ?_)
      subst e
      obtain ⟨k, rfl⟩ : ∃ k', k = k' + 1 := ⟨k - 1, by omega⟩
      obtain ⟨y, hy, hyB⟩ := nat_rd32 db j
      obtain ⟨o, ho, hoB⟩ := nat_rd32 k3 (i + j)
      have v2 : Ve (rd b (j : Int)) (y : Int) := ⟨hy⟩
      have v3 : Ve (rd O ((i + j : Nat) : Int)) (o : Int) := ⟨ho⟩
      have vj : Ve (IntKind.i64.wrap ((j : Int) + 1)) ((j + 1 : Nat) : Int) := veI (by omega) (by omega)
      have vij : Ve (IntKind.i64.wrap ((i : Int) + (j : Int))) ((i + j : Nat) : Int) := veI (by omega) (by omega)
      have hP : x * y ≤ 4294967295 * 4294967295 := Nat.mul_le_mul (by omega) (by omega)
      obtain ⟨p, hp⟩ : ∃ p, x * y = p := ⟨_, rfl⟩
      rw [hp] at hP
      have v4 : Ve (IntKind.u64.wrap ((x : Int) * (y : Int))) (p : Int) := veU (by rw [← Int.natCast_mul, hp]) (by omega)
      have v5 : Ve (IntKind.u64.wrap ((p : Int) + (o : Int))) ((p + o : Nat) : Int) := veU (by omega) (by omega)
      have v6 : Ve (IntKind.u64.wrap (((p + o : Nat) : Int) + (cy : Int))) ((p + o + cy : Nat) : Int) := veU (by omega) (by omega)
      have v7 := low_ve (p + o + cy) (by omega)
      have v8 := high_ve (p + o + cy)
      have hst := mul_step (B := B32) (a := a) (b := b) (out := O) (i := i) (j := j) (ai := (x : Int)) (c := (cy : Int)) (x := (((p + o + cy) % 4294967296 : Nat) : Int)) (c' := (((p + o + cy) / 4294967296 : Nat) : Int)) (by omega) k6 (by
       rw [hy, ho]
       simp only [Int.toNat_natCast]
       rw [hp]
       unfold B32
       omega)
      refine SW_seq ?_
      refine xr [] [(26, .bool (decide ((j : Int) < (((List.length b) : Nat) : Int))))] ?_
      refine xst z2 ?_
      refine SW_skip ?_
      refine SW_seq ?_
      refine SW_block ?_
      refine xd (fun hB => ?_)
      refine xdk [(0, []), (1, []), (4, []), (5, []), (9, []), (10, []), (11, []), (16, [])] [(45, .int .u64 (cy : Int)), (40, .int .i64 (j : Int)), (39, .int .i64 (i : Int)), (38, .slice (some ⟨g0, 0, none⟩) (List.length a + List.length b + 1) (List.length a + List.length b + 1)), (34, .int .i64 (j : Int)), (33, .slice (some ad') (List.length b) c'), (30, .int .i64 (i : Int)), (29, .slice (some ad) (List.length a) c)] hB ?_
      refine xdve 12 hB 41 IntKind.i64 (IntKind.wrap IntKind.i64 ((i : Int) + (j : Int))) ((((i + j) : Nat) : Int)) vij ?_
      refine xdfi 2 hB 31 22 (ad) (List.length a) (c) (i) IntKind.i64 ((i : Int)) ⟨rfl⟩ (by omega) ?_
      refine xdfle 3 hB 32 zi0 (i) ((x : Int)) v1 (by omega) ?_
      refine xdfi 6 hB 35 22 (ad') (List.length b) (c') (j) IntKind.i64 ((j : Int)) ⟨rfl⟩ (by omega) ?_
      refine xdfle 7 hB 36 (ziS zi0) (j) ((y : Int)) v2 (by omega) ?_
      refine xdve 8 hB 37 IntKind.u64 (IntKind.wrap IntKind.u64 ((x : Int) * (y : Int))) ((p : Int)) v4 ?_
      refine xdoi 13 hB 42 22 (g0) (List.length a + List.length b + 1) (List.length a + List.length b + 1) (i + j) IntKind.i64 ((((i + j) : Nat) : Int)) ⟨rfl⟩ (by omega) ?_
      refine xdole 14 hB 43 0 (g0) (i + j) IntKind.u64 (O) ([]) 22 ((o : Int)) v3 (by first | omega | (simp <;> omega)) ?_
      refine xdve 15 hB 44 IntKind.u64 (IntKind.wrap IntKind.u64 ((p : Int) + (o : Int))) ((((p + o) : Nat) : Int)) v5 ?_
      refine xdve 17 hB 46 IntKind.u64 (IntKind.wrap IntKind.u64 ((((p + o) : Nat) : Int) + (cy : Int))) ((((p + o + cy) : Nat) : Int)) v6 ?_
      refine xdk [(18, [])] [(9, .int .u64 (((p + o + cy) : Nat) : Int))] hB ?_
      refine xdz ?_
      refine xg ?_
      refine xn 3 [] [(49, .int .i64 (j : Int)), (48, .int .i64 (i : Int)), (47, .slice (some ⟨g0, 0, none⟩) (List.length a + List.length b + 1) (List.length a + List.length b + 1))] ?_
      refine xve 50 IntKind.i64 (IntKind.wrap IntKind.i64 ((i : Int) + (j : Int))) ((((i + j) : Nat) : Int)) vij ?_
      refine xn 5 [] [(51, .int .u64 (((p + o + cy) : Nat) : Int))] ?_
      refine xve 52 IntKind.u64 (bits BinOp.and IntKind.u64 (((p + o + cy) : Nat) : Int) 4294967295) (((((p + o + cy) % 4294967296) : Nat) : Int)) v7 ?_
      refine xoi 53 22 (g0) (List.length a + List.length b + 1) (List.length a + List.length b + 1) (i + j) IntKind.i64 ((((i + j) : Nat) : Int)) ⟨rfl⟩ (by omega) ?_
      refine xos 0 (g0) (i + j) IntKind.u64 (O) ([]) 22 (((((p + o + cy) % 4294967296) : Nat) : Int)) (by first | omega | (simp <;> omega)) ?_
      refine xz [] [] ?_
      refine SW_region ?_
      refine xn 1 [] [(54, .int .u64 (((p + o + cy) : Nat) : Int))] ?_
      refine xve 55 IntKind.u64 (shf IntKind.u64 (((p + o + cy) : Nat) : Int) 32) (((((p + o + cy) / 4294967296) : Nat) : Int)) v8 ?_
      refine xz [] [(7, .int .u64 ((((p + o + cy) / 4294967296) : Nat) : Int))] ?_
      refine SW_region ?_
      refine xn 1 [] [(27, .int .i64 (j : Int))] ?_
      refine xve 28 IntKind.i64 (IntKind.wrap IntKind.i64 ((j : Int) + 1)) ((((j + 1) : Nat) : Int)) vj ?_
      refine xz [] [(8, .int .i64 (((j + 1) : Nat) : Int))] ?_
      refine ⟨k, by omega, j + 1, _, _, by omega, by rw [List.length_set]; exact k2, k3.set _ (cast_dig32 (Nat.mod_lt _ (by decide))), k4.set (by omega), by omega, hst, ?_⟩
      exact xw (zsS zi0 (zsS (ziS zi0) zs0))
     ·have z2 : decide ((j : Int) < (b.length : Int)) = false := decide_eq_false (by omega)
      obtain rfl : j = b.length := by omega
      refine SW_seq ?_
      refine xr [] [(26, .bool (decide ((((List.length b) : Nat) : Int) < (((List.length b) : Nat) : Int))))] ?_
      refine xsf z2 ?_
      refine SW_exit ?_
      refine ⟨O, cy, k2, k3, k4, k5, k6, ?_⟩
      exact xw (zsS zi0 (zsS (ziS zi0) zs0))
   ·clear h2 h3 h4 h5
    rintro s' ⟨O, cy, k2, k3, k4, k5, k6, hw⟩
    refine SW_weak hw ?_
    clear hw
    have hend := mul_end (B := B32) (a := a) (b := b) (out := O) (i := i) (c := (cy : Int)) (by omega) (k4 _ (Nat.le_refl _)) (by rw [hx]; exact k6)
    refine SW_region ?_
    refine xn 4 [] [(59, .int .i64 (((List.length b) : Nat) : Int)), (57, .int .i64 (i : Int)), (56, .slice (some ⟨g0, 0, none⟩) (List.length a + List.length b + 1) (List.length a + List.length b + 1))] ?_
    refine xve 60 IntKind.i64 (IntKind.wrap IntKind.i64 ((i : Int) + (((List.length b) : Nat) : Int))) ((((i + List.length b) : Nat) : Int)) vn ?_
    refine xn 6 [] [(61, .int .u64 (cy : Int))] ?_
    refine xoi 62 22 (g0) (List.length a + List.length b + 1) (List.length a + List.length b + 1) (i + List.length b) IntKind.i64 ((((i + List.length b) : Nat) : Int)) ⟨rfl⟩ (by omega) ?_
    refine xos 0 (g0) (i + List.length b) IntKind.u64 (O) ([]) 22 ((cy : Int)) (by first | omega | (simp <;> omega)) ?_
    refine xz [] [] ?_
    refine SW_region ?_
    refine xn 1 [] [(21, .int .i64 (i : Int))] ?_
    refine xve 22 IntKind.i64 (IntKind.wrap IntKind.i64 ((i : Int) + 1)) ((((i + 1) : Nat) : Int)) vi ?_
    refine xz [] [(6, .int .i64 (((i + 1) : Nat) : Int))] ?_
    refine ⟨m, by omega, i + 1, _, by omega, by rw [List.length_set]; exact k2, k3.set _ (cast_dig32 k5), ?_, hend, ?_⟩
    ·have := k4.more (cy : Int)
     rwa [show i + b.length + 1 = i + 1 + b.length by omega] at this
    ·exact xw (zsS zi0 (zsS (ziS zi0) zs0))
  ·have z1 : decide ((i : Int) < (a.length : Int)) = false := decide_eq_false (by omega)
   obtain rfl : i = a.length := by omega
   rw [List.take_length] at h5
   have er : trimL O = r := norm_inj B32_pos h3.trim dr (norm_trim _) nr (by rw [val_trim, h5, vr])
   have ct := ct_spec_l1Trim O (some ⟨g0, 0, none⟩) O.length (by omega)
   rw [er] at ct
   refine SW_seq ?_
   refine xr [] [(20, .bool (decide ((((List.length a) : Nat) : Int) < (((List.length a) : Nat) : Int))))] ?_
   refine xsf z1 ?_
   refine SW_exit ?_
   refine xg ?_
   refine xn 1 [] [(63, .slice (some ⟨g0, 0, none⟩) (List.length a + List.length b + 1) (List.length a + List.length b + 1))] ?_
   refine NW_fz 0 (a.length + b.length + 1) g0 .u64 O [] 22 (by omega) (by omega) ?_
   rw [← h2]
   refine xcr 64 ct (zsS zi0 zs0) (fun A0 k0 => ?_)
   refine xz [] [(4, .slice A0 (List.length r) k0)] ?_
   refine SW_ret ?_
   refine xe (A0, k0) (.slice A0 (List.length r) k0) [] ?_ (zsS zi0 zs0)
   rfl
theorem half_veU (x : Nat) : Ve (shf .u64 (x : Int) 1) ((x / 2 : Nat) : Int) := ⟨by have := shf_nat x 1 (by decide); rw [show ((1 : Nat) : Int) = 1 from rfl] at this; rw [this]⟩
theorem IsBits.half {v k : Nat} (h : IsBits v (k + 1)) : IsBits (v / 2) k := by
 obtain ⟨h1, h2⟩ := h
 rw [Nat.pow_succ] at h1
 refine ⟨by omega, ?_⟩
 rcases h2 with h2 | h2
 ·omega
 ·rw [Nat.add_sub_cancel] at h2
  rcases Nat.eq_zero_or_pos k with h | h
  ·exact .inl h
  ·right
   rw [show k = (k - 1) + 1 by omega, Nat.pow_succ] at h2
   omega
theorem bits_top {B w : Nat} (hB : B = 2 ^ w) {l : List Int} (dl : Dig B l) (h : 0 < l.length) {m : Nat} (ht : IsBits (rd l ((l.length - 1 : Nat) : Int)).toNat m) (h0 : 0 < (rd l ((l.length - 1 : Nat) : Int)).toNat) : IsBits (val B l) (w * (l.length - 1) + m) := by
 have hp : 0 < B := by rw [hB]; exact Nat.pow_pos (by decide)
 have hv := val_mid B (l := l) (p := l.length - 1) (by omega)
 rw [show l.length - 1 + 1 = l.length by omega, List.drop_length] at hv
 have hlo := val_lt (dl.take (l.length - 1))
 rw [List.length_take, Nat.min_eq_left (by omega)] at hlo
 refine IsBits.up (s := w * (l.length - 1)) ?_ ?_
 ·rw [Nat.pow_mul, ← hB, hv]
  simp only [val, Nat.mul_zero, Nat.add_zero]
  rw [Nat.add_mul_div_left _ _ (Nat.pow_pos hp), Nat.div_eq_of_lt hlo, Nat.zero_add]
  exact ht
 ·rw [Nat.pow_mul, ← hB, hv]
  simp only [val, Nat.mul_zero, Nat.add_zero]
  rw [Nat.add_mul_div_left _ _ (Nat.pow_pos hp), Nat.div_eq_of_lt hlo, Nat.zero_add]
  exact h0
theorem ct_spec_l1Bits_rows (l : List Int) (A : Option Addr) (c : Nat) (dl : Dig B32 l) (nl : Norm l) (hl : l.length ≤ 1000000000) (m : Nat) (hm : IsBits (val B32 l) m) : CtV Try.prog 56 [.slice A l.length c] [Row .u64 A c l] (.int .i64 (m : Int)) := by
 refine ct_of Try.func56 rfl (by kernel_rfl) (fun B w0 => ?_)
 by_cases h0 : l.length = 0
 ·have z : ((l.length : Int) == 0) = true := beq_iff_eq.2 (by omega)
  obtain rfl := List.eq_nil_of_length_eq_zero h0
  obtain rfl : m = 0 := hm.uniq IsBits.zero
  refine xr [] [(2, .int .i64 0)] ?_
  refine SW_seq ?_
  refine xr [] [(7, .bool true)] ?_
  refine xs1 ?_
  refine xr [] [(2, .int .i64 0)] ?_
  refine SW_ret ?_
  refine xe () (.int .i64 0) [] ?_ trivial
  rfl
 ·have z : ((l.length : Int) == 0) = false := by rw [beq_eq_false_iff_ne]; omega
  refine SW_know zi0 (fun w h => row_at h (by omega)) (fun ⟨ad, e⟩ => ?_)
  subst e
  obtain ⟨t, ht, htB⟩ := nat_rd32 dl (l.length - 1)
  have ht0 : 0 < t := by
   have h := norm_last nl (by omega)
   rw [show ((l.length : Int) - 1) = ((l.length - 1 : Nat) : Int) by omega, ht] at h
   omega
  obtain ⟨k, hk, hk64⟩ := bits_of t (by omega)
  obtain rfl : m = 32 * (l.length - 1) + k := hm.uniq (bits_top B32_pow dl (by omega) (by rw [ht]; exact hk) (by rw [ht]; exact ht0))
  have v1 : Ve (rd l ((l.length - 1 : Nat) : Int)) (t : Int) := ⟨ht⟩
  have v2 : Ve (IntKind.i64.wrap ((l.length : Int) - 1)) ((l.length - 1 : Nat) : Int) := veI (by omega) (by omega)
  have v3 : Ve (IntKind.i64.wrap (32 * ((l.length - 1 : Nat) : Int))) ((32 * (l.length - 1) : Nat) : Int) := veI (by omega) (by omega)
  obtain ⟨T, hT⟩ : ∃ T, 32 * (l.length - 1) = T := ⟨_, rfl⟩
  have hT1 : T ≤ 32000000000 := by omega
  rw [hT] at v3
  rw [hT]
  refine xr [] [(2, .int .i64 0)] ?_
  refine SW_seq ?_
  refine xr [] [(7, .bool ((((List.length l) : Nat) : Int) == 0))] ?_
  refine xsf z ?_
  refine SW_skip ?_
  refine xg ?_
  refine xn 2 [] [(9, .int .i64 (((List.length l) : Nat) : Int))] ?_
  refine xve 10 IntKind.i64 (IntKind.wrap IntKind.i64 ((((List.length l) : Nat) : Int) - 1)) ((((List.length l - 1) : Nat) : Int)) v2 ?_
  refine xve 11 IntKind.i64 (IntKind.wrap IntKind.i64 (32 * (((List.length l - 1) : Nat) : Int))) ((T : Int)) v3 ?_
  refine xz [] [(3, .int .i64 (T : Int))] ?_
  refine SW_seq ?_
  refine xg ?_
  refine xn 3 [] [(14, .int .i64 (((List.length l) : Nat) : Int)), (12, .slice (some ad) (List.length l) c)] ?_
  refine xve 15 IntKind.i64 (IntKind.wrap IntKind.i64 ((((List.length l) : Nat) : Int) - 1)) ((((List.length l - 1) : Nat) : Int)) v2 ?_
  refine xfi 16 22 (ad) (List.length l) (c) (List.length l - 1) IntKind.i64 ((((List.length l - 1) : Nat) : Int)) ⟨rfl⟩ (by omega) ?_
  refine xfle 17 zi0 (List.length l - 1) ((t : Int)) v1 (by omega) ?_
  refine xz [] [(4, .int .u64 (t : Int))] ?_
  refine SW_then (fun s' => Weak s' ⟨[(3, .int .i64 ((T + k : Nat) : Int))], [], []⟩) ?_ ?_
  ·refine SW_block ?_
   refine SW_loopn (fun n s' => ∃ u i : Nat, IsBits u n ∧ u < 4294967296 ∧ i + n = T + k ∧ n ≤ 64 ∧ Weak s' ⟨[(3, .int .i64 (i : Int)), (4, .int .u64 (u : Int))], [], []⟩) k ⟨t, T, hk, htB, rfl, hk64, ?_⟩ (fun n s' hI => ?_)
   ·exact xw zs0
   ·obtain ⟨u, i, i1, i2, i3, i4, hw⟩ := hI
    refine SW_weak hw ?_
    clear hw
    by_cases hu : 0 < u
    ·have z1 : decide ((u : Int) > 0) = true := decide_eq_true (by omega)
     have hn := i1.pos hu
     obtain ⟨n, rfl⟩ : ∃ n', n = n' + 1 := ⟨n - 1, by omega⟩
     have v4 := half_veU u
     have v5 : Ve (IntKind.i64.wrap ((i : Int) + 1)) ((i + 1 : Nat) : Int) := veI (by omega) (by omega)
     refine SW_seq ?_
     refine xr [] [(19, .bool (decide ((u : Int) > 0)))] ?_
     refine xst z1 ?_
     refine SW_skip ?_
     refine SW_seq ?_
     refine SW_block ?_
     refine SW_region ?_
     refine xn 1 [] [(22, .int .i64 (i : Int))] ?_
     refine xve 23 IntKind.i64 (IntKind.wrap IntKind.i64 ((i : Int) + 1)) ((((i + 1) : Nat) : Int)) v5 ?_
     refine xz [] [(3, .int .i64 (((i + 1) : Nat) : Int))] ?_
     refine SW_region ?_
     refine xn 1 [] [(20, .int .u64 (u : Int))] ?_
     refine xve 21 IntKind.u64 (shf IntKind.u64 (u : Int) 1) ((((u / 2) : Nat) : Int)) v4 ?_
     refine xz [] [(4, .int .u64 (((u / 2) : Nat) : Int))] ?_
     refine ⟨n, by omega, u / 2, i + 1, i1.half, by omega, by omega, by omega, ?_⟩
     exact xw zs0
    ·have z1 : decide ((u : Int) > 0) = false := decide_eq_false (by omega)
     obtain rfl : u = 0 := by omega
     obtain rfl : n = 0 := i1.uniq IsBits.zero
     obtain rfl : i = T + k := by omega
     refine SW_seq ?_
     refine xr [] [(19, .bool false)] ?_
     refine xs0 ?_
     refine SW_exit ?_
     exact xw zs0
  ·rintro s' hw
   refine SW_weak hw ?_
   refine xr [] [(2, .int .i64 (((T + k) : Nat) : Int))] ?_
   refine SW_ret ?_
   refine xe () (.int .i64 (((T + k) : Nat) : Int)) [] ?_ trivial
   rfl
end Go.Proofs.Ytlfpjlfmjojimaa.M
end
section
namespace Go.Proofs.Ytlfpjlfmjojimaa.M
open Go.RowKit Go.Proofs.Ytlfpjlfmjojimaa.G Go.Proofs.YtlfpjlfmjojimaaV.PrintWords Go.Proofs.YtlfpjlfmjojimaaV.PrintLast Go.Proofs.Ytlfpjlfmjojimaa.X
set_option linter.unusedVariables false
set_option linter.unusedSimpArgs false
theorem quo32 (n : Nat) (h : n ≤ 9223372036854775807) : Ve (IntKind.i64.wrap (Int.tdiv (n : Int) 32)) ((n / 32 : Nat) : Int) := ⟨(Nn.w (Nn.div ⟨rfl⟩ ⟨rfl⟩ : Nn (Int.tdiv (n : Int) 32) (n / 32)) (by omega)).out⟩
theorem rem32 (n : Nat) : Ve (Int.tmod (n : Int) 32) ((n % 32 : Nat) : Int) := ⟨(Nn.mod ⟨rfl⟩ ⟨rfl⟩ : Nn (Int.tmod (n : Int) 32) (n % 32)).out⟩
theorem conv32 (n : Nat) : Ve (IntKind.u64.wrap ((n % 32 : Nat) : Int)) ((n % 32 : Nat) : Int) := veU rfl (by omega)
theorem left32 {a O : List Int} {i x p cy : Nat} (hx : rd a (i : Int) = (x : Int)) (hl : O.length = i) (hv : val B32 O + B32 ^ i * cy = val B32 (a.take i) * 2 ^ p) :
  val B32 (O ++ [(((x * 2 ^ p + cy) % 4294967296 : Nat) : Int)]) + B32 ^ (i + 1) * ((x * 2 ^ p + cy) / 4294967296) = val B32 (a.take (i + 1)) * 2 ^ p := by
 rw [val_snoc, val_take_succ, hl, hx, Nat.pow_succ, Nat.mul_assoc, Nat.add_mul, ← hv, Nat.mul_assoc]
 simp only [Int.toNat_natCast]
 rw [show B32 * ((x * 2 ^ p + cy) / 4294967296) = 4294967296 * ((x * 2 ^ p + cy) / 4294967296) from rfl]
 have h := congrArg (B32 ^ i * ·) (Nat.mod_add_div (x * 2 ^ p + cy) 4294967296)
 generalize (x * 2 ^ p + cy) % 4294967296 = m at *
 generalize 4294967296 * ((x * 2 ^ p + cy) / 4294967296) = q at *
 generalize B32 ^ i = P at *
 simp only [Nat.mul_add] at h ⊢
 omega
theorem ct_spec_l1Left_rows (a : List Int) (A : Option Addr) (c : Nat) (da : Dig B32 a) (hla : a.length ≤ 1000000000) (N : Int) (n : Nat) (hN : Nn N n) (hn : n ≤ 100000000000) : ∀ r, Dig B32 r → Norm r → val B32 r = val B32 a * 2 ^ n → CtR Try.prog 26 [.slice A a.length c, .int .i64 N] [Row .u64 A c a] .u64 r := by
 intro r dr nr vr
 obtain ⟨rfl⟩ := hN
 refine ct_of Try.func26 rfl (by kernel_rfl) (fun B w0 => ?_)
 have v2 := quo32 n (by omega)
 have v3 := rem32 n
 have v3' := conv32 n
 obtain ⟨q, hq⟩ : ∃ q, n / 32 = q := ⟨_, rfl⟩
 have hp : n % 32 < 32 := Nat.mod_lt _ (by decide)
 obtain ⟨p, hpe⟩ : ∃ p, n % 32 = p := ⟨_, rfl⟩
 have hsp : val B32 a * 2 ^ n = B32 ^ q * (val B32 a * 2 ^ p) := by rw [pow_mul_mod _ 32 n, hq, hpe, ← B32_pow]
 have hq1 : q ≤ 10000000000 := by omega
 rw [hq] at v2
 rw [hpe] at v3 v3' hp
 clear hq hpe
 have hP : 0 < 2 ^ p := Nat.pow_pos (by decide)
 have hP1 : 2 ^ p ≤ 2147483648 := by
  have : 2 ^ p ≤ 2 ^ 31 := Nat.pow_le_pow_right (by decide) (by omega)
  exact this
 refine xr [] [(4, .slice none 0 0)] ?_
 refine xg ?_
 refine xn 1 [] [(9, .int .i64 (n : Int))] ?_
 refine xve 10 IntKind.i64 (IntKind.wrap IntKind.i64 (Int.tdiv (n : Int) 32)) ((q : Int)) v2 ?_
 refine xma 11 22 (q) IntKind.u64 8 ((q : Int)) ⟨rfl⟩ (by omega) (fun g0 => ?_)
 refine xz [] [(5, .slice (some ⟨g0, 0, none⟩) q q)] ?_
 refine xr [] [(6, .int .u64 0)] ?_
 refine SW_seq ?_
 refine xr [] [(7, .int .i64 0)] ?_
 refine SW_then (fun s' => ∃ (sl : Value) (bs : List Box) (O : List Int), Own 22 .u64 sl bs (List.replicate q 0 ++ O) ∧ Dig B32 O ∧ O.length = a.length + 1 ∧ val B32 O = val B32 a * 2 ^ p ∧ Weak s' ⟨[(5, sl)], bs, []⟩) ?_ ?_
 ·refine SW_block ?_
  refine SW_loopn (fun m s' => ∃ (sl : Value) (bs : List Box) (O : List Int) (i cy : Nat), m + i = a.length + 1 ∧ Own 22 .u64 sl bs (List.replicate q 0 ++ O) ∧ Dig B32 O ∧ O.length = i ∧ cy < 2 ^ p ∧ val B32 O + B32 ^ i * cy = val B32 (a.take i) * 2 ^ p ∧ Weak s' ⟨[(0, .slice A a.length c), (1, .int .i64 (n : Int)), (5, sl), (6, .int .u64 (cy : Int)), (7, .int .i64 (i : Int))], bs, [Row .u64 A c a]⟩) (a.length + 1) ⟨.slice (some ⟨g0, 0, none⟩) q q, [⟨g0, cl .u64 (List.replicate q 0) [], 22⟩], [], 0, 0, rfl, .inr ⟨g0, [], q, by simp, by simp, by rw [List.append_nil]; rfl⟩, Dig.nil _, rfl, hP, by simp [val], ?_⟩ (fun m s' hI => ?_)
  ·exact xw (zsS zi0 zs0)
  ·obtain ⟨sl0, bs0, O, i, cy, k1, hO0, k3, k4, k5, k6, hw⟩ := hI
   refine SW_weak hw ?_
   clear hw
   by_cases hi : i ≤ a.length
   ·have z : decide ((i : Int) ≤ (a.length : Int)) = true := decide_eq_true (by omega)
    obtain ⟨m, rfl⟩ : ∃ m', m = m' + 1 := ⟨m - 1, by omega⟩
    obtain ⟨x, hx, hxB⟩ := nat_rd32 da i
    have v1 : Ve (rd a (i : Int)) (x : Int) := ⟨hx⟩
    have hmx : x * 2 ^ p ≤ 4294967295 * 2 ^ p := Nat.mul_le_mul_right _ (by omega)
    have v4 : Ve (shl .u64 (x : Int) (p : Int)) ((x * 2 ^ p : Nat) : Int) := ⟨by rw [shl_nat x p (by omega), Nat.mod_eq_of_lt (by omega)]⟩
    have v5 : Ve (bits .or .u64 ((x * 2 ^ p : Nat) : Int) (cy : Int)) ((x * 2 ^ p + cy : Nat) : Int) := ⟨or_nat p (x * 2 ^ p) cy (by omega) (by omega) (Nat.dvd_mul_left _ _) k5⟩
    have v6 := low_ve (x * 2 ^ p + cy) (by omega)
    have v7 := high_ve (x * 2 ^ p + cy)
    have v8 : Ve (IntKind.i64.wrap ((i : Int) + 1)) ((i + 1 : Nat) : Int) := veI (by omega) (by omega)
    have hst := left32 hx k4 k6
    refine SW_seq ?_
    refine xr [] [(15, .bool (decide ((i : Int) ≤ (((List.length a) : Nat) : Int))))] ?_
    refine xst z ?_
    refine SW_skip ?_
    refine SW_seq ?_
    refine SW_block ?_
    refine xg ?_
    refine xn 2 [] [(19, .int .i64 (i : Int)), (18, .slice A (List.length a) c)] ?_
    refine xcv 20 (ct_spec_l1At (a) (A) (c) ((i : Int)) (i) ⟨rfl⟩ ((x : Int)) v1 (by omega)) (zsS zi0 zs0) ?_
    refine xn 4 [] [(21, .int .i64 (n : Int))] ?_
    refine xve 22 IntKind.i64 (Int.tmod (n : Int) 32) ((p : Int)) v3 ?_
    refine xve 23 IntKind.u64 (IntKind.wrap IntKind.u64 (p : Int)) ((p : Int)) v3' ?_
    refine xve 24 IntKind.u64 (shl IntKind.u64 (x : Int) (p : Int)) ((((x * 2 ^ p) : Nat) : Int)) v4 ?_
    refine xn 8 [] [(25, .int .u64 (cy : Int))] ?_
    refine xve 26 IntKind.u64 (bits BinOp.or IntKind.u64 (((x * 2 ^ p) : Nat) : Int) (cy : Int)) ((((x * 2 ^ p + cy) : Nat) : Int)) v5 ?_
    refine xz [] [(8, .int .u64 (((x * 2 ^ p + cy) : Nat) : Int))] ?_
    refine xg ?_
    refine xn 2 [] [(28, .int .u64 (((x * 2 ^ p + cy) : Nat) : Int)), (27, sl0)] ?_
    refine xve 29 IntKind.u64 (bits BinOp.and IntKind.u64 (((x * 2 ^ p + cy) : Nat) : Int) 4294967295) (((((x * 2 ^ p + cy) % 4294967296) : Nat) : Int)) v6 ?_
    refine xbl 30 [.int .u64 ((((x * 2 ^ p + cy) % 4294967296) : Nat) : Int)] 22 1 (fun g1 => ?_)
    refine xow 31 8 (g1) (1) [((((x * 2 ^ p + cy) % 4294967296) : Nat) : Int)] hO0 (by first | omega | (simp <;> omega)) (fun sl1 bs1 hO1 => ?_)
    refine xz [] [(5, sl1)] ?_
    refine SW_region ?_
    refine xn 1 [] [(32, .int .u64 (((x * 2 ^ p + cy) : Nat) : Int))] ?_
    refine xve 33 IntKind.u64 (shf IntKind.u64 (((x * 2 ^ p + cy) : Nat) : Int) 32) (((((x * 2 ^ p + cy) / 4294967296) : Nat) : Int)) v7 ?_
    refine xz [] [(6, .int .u64 ((((x * 2 ^ p + cy) / 4294967296) : Nat) : Int))] ?_
    refine SW_region ?_
    refine xn 1 [] [(16, .int .i64 (i : Int))] ?_
    refine xve 17 IntKind.i64 (IntKind.wrap IntKind.i64 ((i : Int) + 1)) ((((i + 1) : Nat) : Int)) v8 ?_
    refine xz [] [(7, .int .i64 (((i + 1) : Nat) : Int))] ?_
    refine ⟨m, by omega, sl1, bs1, O ++ [(((x * 2 ^ p + cy) % 4294967296 : Nat) : Int)], i + 1, (x * 2 ^ p + cy) / 4294967296, by omega, by rw [← List.append_assoc]; exact hO1, k3.snoc (cast_dig32 (Nat.mod_lt _ (by decide))), by rw [List.length_append, k4]; rfl, by omega, hst, ?_⟩
    exact xw (zsS zi0 zs0)
   ·have z : decide ((i : Int) ≤ (a.length : Int)) = false := decide_eq_false (by omega)
    obtain rfl : i = a.length + 1 := by omega
    rw [List.take_of_length_le (by omega)] at k6
    have hcy : cy = 0 := by
     rcases Nat.eq_zero_or_pos cy with h | h
     ·exact h
     ·have h1 := val_lt da
      have h2 := Nat.mul_le_mul (Nat.le_of_lt h1) hP1
      have h3 := Nat.mul_le_mul_left (B32 ^ (a.length + 1)) h
      rw [Nat.pow_succ] at h3 k6
      have h4 : B32 ^ a.length * 2147483648 < B32 ^ a.length * B32 := Nat.mul_lt_mul_of_pos_left (by unfold B32; decide) (Nat.pow_pos B32_pos)
      omega
    rw [hcy, Nat.mul_zero, Nat.add_zero] at k6
    refine SW_seq ?_
    refine xr [] [(15, .bool (decide ((((List.length a + 1) : Nat) : Int) ≤ (((List.length a) : Nat) : Int))))] ?_
    refine xsf z ?_
    refine SW_exit ?_
    refine ⟨sl0, bs0, O, hO0, k3, k4, k6, ?_⟩
    exact xw zs0
 ·rintro s' ⟨sl, bs, O, hO, dO, lO, vO, hw⟩
  refine SW_weak hw ?_
  clear hw
  have lQ : (List.replicate q 0 ++ O).length = q + a.length + 1 := by rw [List.length_append, List.length_replicate, lO]; omega
  have dQ : Dig B32 (List.replicate q 0 ++ O) := (Dig.zeros B32_pos q).append dO
  have vQ : val B32 (List.replicate q 0 ++ O) = val B32 r := by rw [val_append, val_zeros, List.length_replicate, Nat.zero_add, vO, vr, hsp]
  obtain ⟨Q, hQ⟩ : ∃ Q, List.replicate q 0 ++ O = Q := ⟨_, rfl⟩
  rw [hQ] at hO lQ dQ vQ
  refine SW_own hO (by omega) (fun Ao co e => ?_)
  subst e
  have er : trimL Q = r := norm_inj B32_pos dQ.trim dr (norm_trim _) nr (by rw [val_trim, vQ])
  have ct := ct_spec_l1Trim Q Ao co (by omega)
  rw [er] at ct
  refine xg ?_
  refine xn 1 [] [(34, .slice Ao (List.length Q) co)] ?_
  refine xcr 35 ct (zsS zi0 zs0) (fun A0 k0 => ?_)
  refine xz [] [(4, .slice A0 (List.length r) k0)] ?_
  refine SW_ret ?_
  refine xe (A0, k0) (.slice A0 (List.length r) k0) [] ?_ (zsS zi0 zs0)
  rfl
theorem ct_spec_l1Right_rows (a : List Int) (A : Option Addr) (c : Nat) (da : Dig B32 a) (hla : a.length ≤ 1000000000) (N : Int) (n : Nat) (hN : Nn N n) (hn : n ≤ 100000000000) : ∀ r, Dig B32 r → Norm r → val B32 r = val B32 a / 2 ^ n → CtR Try.prog 38 [.slice A a.length c, .int .i64 N] [Row .u64 A c a] .u64 r := by
 intro r dr nr vr
 obtain ⟨rfl⟩ := hN
 refine ct_of Try.func38 rfl (by kernel_rfl) (fun B w0 => ?_)
 have v2 := quo32 n (by omega)
 have v3 := rem32 n
 have v3' := conv32 n
 obtain ⟨q, hq⟩ : ∃ q, n / 32 = q := ⟨_, rfl⟩
 have hp : n % 32 < 32 := Nat.mod_lt _ (by decide)
 obtain ⟨p, hpe⟩ : ∃ p, n % 32 = p := ⟨_, rfl⟩
 have hsp : val B32 a / 2 ^ n = val B32 a / B32 ^ q / 2 ^ p := by rw [pow_div_mod _ 32 n, hq, hpe, ← B32_pow]
 have hq1 : q ≤ 10000000000 := by omega
 rw [hq] at v2
 rw [hpe] at v3 v3' hp
 clear hq hpe
 have hP : 0 < 2 ^ p := Nat.pow_pos (by decide)
 obtain ⟨l, hl⟩ : ∃ l, a.drop q = l := ⟨_, rfl⟩
 have ll : l.length = a.length - q := by rw [← hl]; exact List.length_drop ..
 have dl : Dig B32 l := by rw [← hl]; exact da.drop q
 have vl : val B32 l = val B32 a / B32 ^ q := by rw [← hl]; exact val_drop B32 B32_pos da q
 have rl : ∀ k : Nat, rd a ((q + k : Nat) : Int) = rd l (k : Int) := fun k => by rw [← hl, rd_drop]
 have lsr : (sr B32 (2 ^ p) l).length = l.length := sr_length _ _ l
 refine xr [] [(4, .slice none 0 0)] ?_
 refine xr [] [(5, .slice none 0 0)] ?_
 refine SW_seq ?_
 refine xg ?_
 refine xn 1 [] [(8, .int .i64 (n : Int))] ?_
 refine xve 9 IntKind.i64 (IntKind.wrap IntKind.i64 (Int.tdiv (n : Int) 32)) ((q : Int)) v2 ?_
 refine xz [] [(6, .int .i64 (q : Int))] ?_
 refine SW_then (fun s' => ∃ (sl : Value) (bs : List Box), Own 22 .u64 sl bs (sr B32 (2 ^ p) l) ∧ Weak s' ⟨[(5, sl)], bs, []⟩) ?_ ?_
 ·refine SW_block ?_
  refine SW_loopn (fun m s' => ∃ (sl : Value) (bs : List Box) (k : Nat), m + k = l.length ∧ Own 22 .u64 sl bs ((sr B32 (2 ^ p) l).take k) ∧ Weak s' ⟨[(0, .slice A a.length c), (1, .int .i64 (n : Int)), (5, sl), (6, .int .i64 ((q + k : Nat) : Int))], bs, [Row .u64 A c a]⟩) l.length ⟨_, _, 0, rfl, Own.nil 22 .u64, ?_⟩ (fun m s' hI => ?_)
  ·exact xw (zsS zi0 zs0)
  ·obtain ⟨sl0, bs0, k, k1, hO0, hw⟩ := hI
   refine SW_weak hw ?_
   clear hw
   by_cases hi : k < l.length
   ·have z : decide (((q + k : Nat) : Int) < (a.length : Int)) = true := decide_eq_true (by omega)
    obtain ⟨m, rfl⟩ : ∃ m', m = m' + 1 := ⟨m - 1, by omega⟩
    obtain ⟨x, hx, hxB⟩ := nat_rd32 dl k
    obtain ⟨y, hy, hyB⟩ := nat_rd32 dl (k + 1)
    have v1 : Ve (rd a ((q + k : Nat) : Int)) (x : Int) := ⟨by rw [rl, hx]⟩
    have v1' : Ve (rd a ((q + k + 1 : Nat) : Int)) (y : Int) := ⟨by rw [Nat.add_assoc, rl, hy]⟩
    have v4 : Ve (shl .u64 (y : Int) 32) ((y * 4294967296 : Nat) : Int) := ⟨by have := shl_nat y 32 (by omega); rw [show ((32 : Nat) : Int) = 32 from rfl] at this; rw [this]; omega⟩
    have v5 : Ve (bits .or .u64 (x : Int) ((y * 4294967296 : Nat) : Int)) ((x + y * 4294967296 : Nat) : Int) := ⟨or_nat' 32 (y * 4294967296) x (by omega) (by omega) (Nat.dvd_mul_left _ _) hxB⟩
    have v6 : Ve (shf .u64 ((x + y * 4294967296 : Nat) : Int) (p : Int)) (((x + y * 4294967296) / 2 ^ p : Nat) : Int) := ⟨shf_nat _ p (by omega)⟩
    have v7 := low_ve ((x + y * 4294967296) / 2 ^ p) (by have := Nat.div_le_self (x + y * 4294967296) (2 ^ p); omega)
    have v8 : Ve (IntKind.i64.wrap (((q + k : Nat) : Int) + 1)) ((q + k + 1 : Nat) : Int) := veI (by omega) (by omega)
    have hs := sr_take (B := B32) (P := 2 ^ p) hi (y := (((x + y * 4294967296) / 2 ^ p % 4294967296 : Nat) : Int)) (by
     rw [hx, hy, Int.toNat_natCast, Int.toNat_natCast, ← div_split hP (show x < B32 from hxB), Nat.mul_comm y]
     rfl)
    refine SW_seq ?_
    refine xr [] [(13, .bool (decide ((((q + k) : Nat) : Int) < (((List.length a) : Nat) : Int))))] ?_
    refine xst z ?_
    refine SW_skip ?_
    refine SW_seq ?_
    refine SW_block ?_
    refine xg ?_
    refine xn 2 [] [(17, .int .i64 (((q + k) : Nat) : Int)), (16, .slice A (List.length a) c)] ?_
    refine xcv 18 (ct_spec_l1At (a) (A) (c) ((((q + k) : Nat) : Int)) (q + k) ⟨rfl⟩ ((x : Int)) v1 (by omega)) (zsS zi0 zs0) ?_
    refine xn 5 [] [(20, .int .i64 (((q + k) : Nat) : Int)), (19, .slice A (List.length a) c)] ?_
    refine xve 21 IntKind.i64 (IntKind.wrap IntKind.i64 ((((q + k) : Nat) : Int) + 1)) ((((q + k + 1) : Nat) : Int)) v8 ?_
    refine xcv 22 (ct_spec_l1At (a) (A) (c) ((((q + k + 1) : Nat) : Int)) (q + k + 1) ⟨rfl⟩ ((y : Int)) v1' (by omega)) (zsS zi0 zs0) ?_
    refine xve 23 IntKind.u64 (shl IntKind.u64 (y : Int) 32) ((((y * 4294967296) : Nat) : Int)) v4 ?_
    refine xve 24 IntKind.u64 (bits BinOp.or IntKind.u64 (x : Int) (((y * 4294967296) : Nat) : Int)) ((((x + y * 4294967296) : Nat) : Int)) v5 ?_
    refine xz [] [(7, .int .u64 (((x + y * 4294967296) : Nat) : Int))] ?_
    refine SW_region ?_
    refine xn 3 [] [(27, .int .i64 (n : Int)), (26, .int .u64 (((x + y * 4294967296) : Nat) : Int)), (25, sl0)] ?_
    refine xve 28 IntKind.i64 (Int.tmod (n : Int) 32) ((p : Int)) v3 ?_
    refine xve 29 IntKind.u64 (IntKind.wrap IntKind.u64 (p : Int)) ((p : Int)) v3' ?_
    refine xve 30 IntKind.u64 (shf IntKind.u64 (((x + y * 4294967296) : Nat) : Int) (p : Int)) (((((x + y * 4294967296) / 2 ^ p) : Nat) : Int)) v6 ?_
    refine xve 31 IntKind.u64 (bits BinOp.and IntKind.u64 ((((x + y * 4294967296) / 2 ^ p) : Nat) : Int) 4294967295) (((((x + y * 4294967296) / 2 ^ p % 4294967296) : Nat) : Int)) v7 ?_
    refine xbl 32 [.int .u64 ((((x + y * 4294967296) / 2 ^ p % 4294967296) : Nat) : Int)] 22 1 (fun g0 => ?_)
    refine xow 33 8 (g0) (1) [((((x + y * 4294967296) / 2 ^ p % 4294967296) : Nat) : Int)] hO0 (by first | omega | (simp <;> omega)) (fun sl1 bs1 hO1 => ?_)
    refine xz [] [(5, sl1)] ?_
    refine SW_region ?_
    refine xn 1 [] [(14, .int .i64 (((q + k) : Nat) : Int))] ?_
    refine xve 15 IntKind.i64 (IntKind.wrap IntKind.i64 ((((q + k) : Nat) : Int) + 1)) ((((q + k + 1) : Nat) : Int)) v8 ?_
    refine xz [] [(6, .int .i64 (((q + k + 1) : Nat) : Int))] ?_
    rw [hs] at hO1
    refine ⟨m, by omega, sl1, bs1, k + 1, by omega, hO1, ?_⟩
    exact xw (zsS zi0 zs0)
   ·have z : decide (((q + k : Nat) : Int) < (a.length : Int)) = false := decide_eq_false (by omega)
    rw [List.take_of_length_le (by omega)] at hO0
    refine SW_seq ?_
    refine xr [] [(13, .bool (decide ((((q + k) : Nat) : Int) < (((List.length a) : Nat) : Int))))] ?_
    refine xsf z ?_
    refine SW_exit ?_
    refine ⟨sl0, bs0, hO0, ?_⟩
    exact xw zs0
 ·rintro s' ⟨sl, bs, hO, hw⟩
  refine SW_weak hw ?_
  clear hw
  have er : trimL (sr B32 (2 ^ p) l) = r := norm_inj B32_pos (sr_dig hP l dl).trim dr (norm_trim _) nr (by rw [val_trim, sr_val hP (by rw [B32_pow]; exact Nat.pow_dvd_pow 2 (by omega)), vl, vr, hsp])
  obtain ⟨Q, hQ⟩ : ∃ Q, sr B32 (2 ^ p) l = Q := ⟨_, rfl⟩
  rw [hQ] at hO er lsr
  refine SW_own hO (by omega) (fun Ao co e => ?_)
  subst e
  have ct := ct_spec_l1Trim Q Ao co (by omega)
  rw [er] at ct
  refine xg ?_
  refine xn 1 [] [(34, .slice Ao (List.length Q) co)] ?_
  refine xcr 35 ct (zsS zi0 zs0) (fun A0 k0 => ?_)
  refine xz [] [(4, .slice A0 (List.length r) k0)] ?_
  refine SW_ret ?_
  refine xe (A0, k0) (.slice A0 (List.length r) k0) [] ?_ (zsS zi0 zs0)
  rfl
end Go.Proofs.Ytlfpjlfmjojimaa.M
end
section
namespace Go.Proofs.Ytlfpjlfmjojimaa.M
open Go.RowKit Go.Proofs.Ytlfpjlfmjojimaa.G Go.Proofs.YtlfpjlfmjojimaaV.PrintWords Go.Proofs.YtlfpjlfmjojimaaV.PrintLast Go.Proofs.Ytlfpjlfmjojimaa.X
set_option linter.unusedVariables false
set_option linter.unusedSimpArgs false
theorem bits_any (v : Nat) : ∃ m : Nat, IsBits v m := by
 by_cases h0 : v = 0
 ·subst h0
  exact ⟨0, IsBits.zero⟩
 ·exact ⟨v.log2 + 1, Nat.lt_log2_self, .inr (by rw [Nat.add_sub_cancel]; exact Nat.log2_self_le h0)⟩
theorem len_le32 {l : List Int} (hd : Dig B32 l) (hn : Norm l) {m : Nat} (h : val B32 l < B32 ^ m) : l.length ≤ m := by
 rcases Nat.lt_or_ge m l.length with h1 | h1
 ·have h2 := val_ge hd hn (by omega)
  have h3 : B32 ^ m ≤ B32 ^ (l.length - 1) := Nat.pow_le_pow_right B32_pos (by omega)
  omega
 ·exact h1
theorem len_less {x y : List Int} (dx : Dig B32 x) (nx : Norm x) (dy : Dig B32 y) (h : val B32 x ≤ val B32 y) : x.length ≤ y.length := len_le32 dx nx (Nat.lt_of_le_of_lt h (val_lt dy))
theorem exists_n32 (v : Nat) : ∃ l, Dig B32 l ∧ Norm l ∧ val B32 l = v := exists_num B32 (by unfold B32; omega) v v (Nat.le_refl _)
theorem ct_spec_l1Div_rows (a b : List Int) (A A' : Option Addr) (c c' : Nat) (da : Dig B32 a) (db : Dig B32 b) (na : Norm a) (nb : Norm b) (hla : a.length ≤ 1000000) (hlb : b.length ≤ 1000000) (h0 : 0 < val B32 b) : ∀ q r, Dig B32 q → Norm q → val B32 q = val B32 a / val B32 b → Dig B32 r → Norm r → val B32 r = val B32 a % val B32 b → CtRR Try.prog 27 [.slice A a.length c, .slice A' b.length c'] [Row .u64 A c a, Row .u64 A' c' b] .u64 q r := by
 intro q r dq nq vq dr nr vr
 refine ct_of Try.func27 rfl (by kernel_rfl) (fun B w0 => ?_)
 obtain ⟨m, bm⟩ := bits_any (val B32 a)
 obtain ⟨n, bn⟩ := bits_any (val B32 b)
 have hm1 : m ≤ 32 * a.length := bm.le (by rw [Nat.pow_mul, ← B32_pow]; exact val_lt da)
 have hn1 : n ≤ 32 * b.length := bn.le (by rw [Nat.pow_mul, ← B32_pow]; exact val_lt db)
 have hta : trimL a = a := norm_inj B32_pos da.trim da (norm_trim _) na (val_trim _ _)
 by_cases h : m < n
 ·have hlt : val B32 a < val B32 b := by
   have h1 : 2 ^ m ≤ 2 ^ (n - 1) := Nat.pow_le_pow_right (by decide) (by omega)
   have h2 := bm.1
   rcases bn.2 with h3 | h3 <;> omega
  have z : decide ((m : Int) - (n : Int) < 0) = true := decide_eq_true (by omega)
  have v1 : Ve (IntKind.i64.wrap ((m : Int) - (n : Int))) ((m : Int) - (n : Int)) := ⟨wrap_i64 (by omega)⟩
  obtain rfl : q = [] := (norm_inj B32_pos (Dig.nil _) dq rfl nq (by rw [vq, Nat.div_eq_of_lt hlt]; rfl)).symm
  obtain rfl : r = a := norm_inj B32_pos dr da nr na (by rw [vr, Nat.mod_eq_of_lt hlt])
  have ct := ct_spec_l1Trim r A c (by omega)
  rw [hta] at ct
  refine xr [] [(5, .slice none 0 0), (4, .slice none 0 0)] ?_
  refine xg ?_
  refine xn 1 [] [(11, .slice A (List.length r) c)] ?_
  refine xcv 12 (ct_spec_l1Bits_rows (r) (A) (c) da na (by omega) (m) bm) (zsS zi0 zs0) ?_
  refine xn 3 [] [(13, .slice A' (List.length b) c')] ?_
  refine xcv 14 (ct_spec_l1Bits_rows (b) (A') (c') db nb (by omega) (n) bn) (zsS (ziS zi0) zs0) ?_
  refine xve 15 IntKind.i64 (IntKind.wrap IntKind.i64 ((m : Int) - (n : Int))) ((m : Int) - (n : Int)) v1 ?_
  refine xz [] [(6, .int .i64 ((m : Int) - (n : Int)))] ?_
  refine SW_seq ?_
  refine xr [] [(17, .bool (decide ((m : Int) - (n : Int) < 0)))] ?_
  refine xst z ?_
  refine xg ?_
  refine xn 1 [] [(18, .slice A (List.length r) c)] ?_
  refine xcr 19 ct (zsS zi0 zs0) (fun A0 k0 => ?_)
  refine xz [] [(5, .slice A0 (List.length r) k0), (4, .slice none 0 0)] ?_
  refine SW_tru (Row_nil .u64 0) ?_
  refine SW_ret ?_
  refine xe ((none, 0), A0, k0) (.tuple #[.slice none 0 0, .slice A0 (List.length r) k0]) [] ?_ (zsS zi0 (zsS (ziS zi0) zs0))
  rfl
 ·obtain ⟨d, hd⟩ : ∃ d, m = n + d := ⟨m - n, by omega⟩
  have z : decide ((d : Int) < 0) = false := decide_eq_false (by omega)
  have v1 : Ve (IntKind.i64.wrap ((m : Int) - (n : Int))) (d : Int) := veI (by omega) (by omega)
  have v2 := quo32 d (by omega)
  have v3 : Ve (IntKind.i64.wrap (((d / 32 : Nat) : Int) + 1)) ((d / 32 + 1 : Nat) : Int) := veI (by omega) (by omega)
  obtain ⟨s, ds, ns, vs⟩ := exists_n32 (val B32 b * 2 ^ d)
  have ls : s.length ≤ 3000000 := by
   have h1 : s.length ≤ b.length + (d / 32 + 1) := len_le32 ds ns (by
    rw [vs, Nat.pow_add]
    have h1 := val_lt db
    have h2 : 2 ^ d ≤ B32 ^ (d / 32 + 1) := by rw [B32_pow, ← Nat.pow_mul]; exact Nat.pow_le_pow_right (by decide) (by omega)
    exact Nat.lt_of_lt_of_le (Nat.mul_lt_mul_of_pos_right h1 (Nat.pow_pos (by decide))) (Nat.mul_le_mul_left _ h2))
   omega
  have hlt : val B32 a < val B32 b * 2 ^ (d + 1) := by
   have hn0 := bn.pos h0
   have h1 : 2 ^ (n - 1) ≤ val B32 b := by
    rcases bn.2 with h3 | h3
    ·omega
    ·exact h3
   have h2 := Nat.mul_le_mul_right (2 ^ (d + 1)) h1
   rw [← Nat.pow_add, show n - 1 + (d + 1) = m by omega] at h2
   have := bm.1
   omega
  have ct := ct_spec_l1Trim a A c (by omega)
  rw [hta] at ct
  have clf := ct_spec_l1Left_rows b A' c' db (by omega) (d : Int) d ⟨rfl⟩ (by omega) s ds ns vs
  have hd9 : d ≤ 32000000 := by omega
  refine xr [] [(5, .slice none 0 0), (4, .slice none 0 0)] ?_
  refine xg ?_
  refine xn 1 [] [(11, .slice A (List.length a) c)] ?_
  refine xcv 12 (ct_spec_l1Bits_rows (a) (A) (c) da na (by omega) (m) bm) (zsS zi0 zs0) ?_
  refine xn 3 [] [(13, .slice A' (List.length b) c')] ?_
  refine xcv 14 (ct_spec_l1Bits_rows (b) (A') (c') db nb (by omega) (n) bn) (zsS (ziS zi0) zs0) ?_
  refine xve 15 IntKind.i64 (IntKind.wrap IntKind.i64 ((m : Int) - (n : Int))) ((d : Int)) v1 ?_
  refine xz [] [(6, .int .i64 (d : Int))] ?_
  refine SW_seq ?_
  refine xr [] [(17, .bool (decide ((d : Int) < 0)))] ?_
  refine xsf z ?_
  refine SW_skip ?_
  refine xg ?_
  refine xn 1 [] [(20, .slice A (List.length a) c)] ?_
  refine xcr 21 ct (zsS zi0 zs0) (fun A0 k0 => ?_)
  refine xz [] [(7, .slice A0 (List.length a) k0)] ?_
  refine xg ?_
  refine xn 1 [] [(22, .int .i64 (d : Int))] ?_
  refine xve 23 IntKind.i64 (IntKind.wrap IntKind.i64 (Int.tdiv (d : Int) 32)) ((((d / 32) : Nat) : Int)) v2 ?_
  refine xve 24 IntKind.i64 (IntKind.wrap IntKind.i64 ((((d / 32) : Nat) : Int) + 1)) ((((d / 32 + 1) : Nat) : Int)) v3 ?_
  refine xma 25 22 (d / 32 + 1) IntKind.u64 8 ((((d / 32 + 1) : Nat) : Int)) ⟨rfl⟩ (by omega) (fun g0 => ?_)
  refine xz [] [(8, .slice (some ⟨g0, 0, none⟩) (d / 32 + 1) (d / 32 + 1))] ?_
  refine xg ?_
  refine xn 2 [] [(27, .int .i64 (d : Int)), (26, .slice A' (List.length b) c')] ?_
  refine xcr 28 clf (zsS (ziS (ziS zi0)) zs0) (fun A1 k1 => ?_)
  refine xz [] [(9, .slice A1 (List.length s) k1)] ?_
  refine SW_seq ?_
  refine xr [] [(10, .int .i64 (d : Int))] ?_
  refine SW_then (fun s' => ∃ (Q : List Int) (Ar : Option Addr) (cr : Nat), Dig B32 Q ∧ Q.length = d / 32 + 1 ∧ val B32 Q = val B32 a / val B32 b ∧ Weak s' ⟨[(7, .slice Ar r.length cr), (8, .slice (some ⟨g0, 0, none⟩) (d / 32 + 1) (d / 32 + 1))], [⟨g0, cl .u64 Q [], 22⟩], [Row .u64 Ar cr r]⟩) ?_ ?_
  ·refine SW_block ?_
   refine SW_loopn (fun m s' => ∃ (Q R S : List Int) (Ar As : Option Addr) (cr cs : Nat), m ≤ d + 1 ∧ Dig B32 Q ∧ Q.length = d / 32 + 1 ∧ Dig B32 R ∧ Norm R ∧ R.length ≤ 1000000 ∧ Dig B32 S ∧ Norm S ∧ S.length ≤ 3000000 ∧ val B32 S = val B32 b * 2 ^ m / 2 ∧ val B32 Q * val B32 b + val B32 R = val B32 a ∧ val B32 R < val B32 b * 2 ^ m ∧ 2 ^ m ∣ val B32 Q ∧ Weak s' ⟨[(7, .slice Ar R.length cr), (8, .slice (some ⟨g0, 0, none⟩) (d / 32 + 1) (d / 32 + 1)), (9, .slice As S.length cs), (10, .int .i64 ((m : Int) - 1))], [⟨g0, cl .u64 Q [], 22⟩], [Row .u64 Ar cr R, Row .u64 As cs S]⟩) (d + 1) ⟨List.replicate (d / 32 + 1) 0, a, s, A0, A1, k0, k1, Nat.le_refl _, Dig.zeros B32_pos _, by simp, da, na, hla, ds, ns, ls, by rw [vs, Nat.pow_succ, ← Nat.mul_assoc, Nat.mul_div_cancel _ (by decide)], by rw [val_zeros]; omega, hlt, by rw [val_zeros]; exact Nat.dvd_zero _, ?_⟩ (fun m s' hI => ?_)
   ·rw [show ((d + 1 : Nat) : Int) - 1 = (d : Int) by omega]
    exact xw (zsS (ziS zi0) (zsS zi0 zs0))
   ·clear ct clf ds ns vs ls hlt hm1 hn1 bm bn v1 v2 v3
    obtain ⟨Q, R, S, Ar, As, cr, cs, i1, i2, i3, i4, i5, i6, i7, i8, i9, i10, i11, i12, i13, hw⟩ := hI
    refine SW_weak hw ?_
    clear hw
    match m, i1, i10, i12, i13 with
    | 0, i1, i10, i12, i13 =>
     have z1 : decide (((0 : Nat) : Int) - 1 ≥ 0) = false := rfl
     rw [Nat.pow_zero, Nat.mul_one] at i12
     obtain ⟨e1, e2⟩ := quot_of (show val B32 R + val B32 Q * val B32 b = val B32 a by omega) i12
     obtain rfl : r = R := norm_inj B32_pos dr i4 nr i5 (by rw [vr, e2])
     refine SW_seq ?_
     refine xr [] [(31, .bool false)] ?_
     refine xs0 ?_
     refine SW_exit ?_
     refine ⟨Q, Ar, cr, i2, i3, e1, ?_⟩
     exact xw (zsS zi0 zs0)
    | k + 1, i1, i10, i12, i13 =>
     rw [show ((k + 1 : Nat) : Int) - 1 = (k : Int) by omega]
     have z1 : decide ((k : Int) ≥ 0) = true := decide_eq_true (by omega)
     rw [Nat.pow_succ, ← Nat.mul_assoc, Nat.mul_div_cancel _ (by decide)] at i10
     obtain ⟨S', d1, n1, e1⟩ := exists_n32 (val B32 b * 2 ^ k / 2)
     have l1 : S'.length ≤ S.length := len_less d1 n1 i7 (by rw [e1, i10]; exact Nat.div_le_self _ _)
     have cS := ct_spec_l1Right_rows S As cs i7 (by omega) 1 1 ⟨rfl⟩ (by omega) S' d1 n1 (by rw [e1, i10])
     have vk : Ve (IntKind.i64.wrap ((k : Int) - 1)) ((k : Int) - 1) := ⟨wrap_i64 (by omega)⟩
     have hbp : val B32 b * 2 ^ (k + 1) = val B32 b * 2 ^ k + val B32 b * 2 ^ k := by rw [Nat.pow_succ, ← Nat.mul_assoc]; omega
     by_cases hc : val B32 S ≤ val B32 R
     ·have z2 : decide (cmpN (val B32 R) (val B32 S) ≥ 0) = true := decide_eq_true (cmpN_ge hc)
      obtain ⟨R', d2, n2, e2⟩ := exists_n32 (val B32 R - val B32 S)
      have l2 : R'.length ≤ R.length := len_less d2 n2 i4 (by rw [e2]; exact Nat.sub_le _ _)
      have cR := ct_spec_l1Sub_rows R S Ar As cr cs i4 i7 (by omega) (by omega) R' d2 n2 (by omega)
      have hi32 : k / 32 < Q.length := by omega
      obtain ⟨b1, b2⟩ := bit_set i2 hi32 i13
      have hset := val_set B32 Q (k / 32) (((rd Q ((k / 32 : Nat) : Int)).toNat + 2 ^ (k % 32) : Nat) : Int) hi32
      obtain ⟨w, hw, hwB⟩ := nat_rd32 i2 (k / 32)
      rw [hw, Int.toNat_natCast] at b1 b2 hset
      have hvq : val B32 (Q.set (k / 32) ((w + 2 ^ (k % 32) : Nat) : Int)) = val B32 Q + 2 ^ k := by
       rw [Int.toNat_natCast, Nat.mul_add] at hset
       have e4 : B32 ^ (k / 32) * 2 ^ (k % 32) = 2 ^ k := by rw [B32_pow, ← Nat.pow_mul, ← Nat.pow_add]; congr 1; omega
       omega
      have dQ' := i2.set (k / 32) (cast_dig b2)
      have hexp : (val B32 Q + 2 ^ k) * val B32 b = val B32 Q * val B32 b + val B32 b * 2 ^ k := by rw [Nat.add_mul, Nat.mul_comm (2 ^ k)]
      have v1 : Ve (rd Q ((k / 32 : Nat) : Int)) (w : Int) := ⟨hw⟩
      have v2 := quo32 k (by omega)
      have v3 := rem32 k
      have v3' := conv32 k
      have v4 : Ve (bits .or .u64 (w : Int) (shl .u64 1 ((k % 32 : Nat) : Int))) ((w + 2 ^ (k % 32) : Nat) : Int) := ⟨b1⟩
      refine SW_seq ?_
      refine xr [] [(31, .bool (decide ((k : Int) ≥ 0)))] ?_
      refine xst z1 ?_
      refine SW_skip ?_
      refine SW_seq ?_
      refine SW_block ?_
      refine SW_seq ?_
      refine xg ?_
      refine xn 2 [] [(35, .slice As (List.length S) cs), (34, .slice Ar (List.length R) cr)] ?_
      refine xcv 36 (ct_spec_l1Cmp_rows (R) (S) (Ar) (As) (cr) (cs) i4 i7 (by omega) (by omega)) (zsS zi0 (zsS (ziS zi0) zs0)) ?_
      refine xz [] [(37, .bool (decide (cmpN (val B32 R) (val B32 S) ≥ 0)))] ?_
      refine xst z2 ?_
      refine xg ?_
      refine xn 2 [] [(39, .slice As (List.length S) cs), (38, .slice Ar (List.length R) cr)] ?_
      refine xcr 40 cR (zsS zi0 (zsS (ziS zi0) zs0)) (fun A2 k2 => ?_)
      refine xz [] [(7, .slice A2 (List.length R') k2)] ?_
      refine SW_region ?_
      refine xn 2 [] [(42, .int .i64 (k : Int)), (41, .slice (some ⟨g0, 0, none⟩) (d / 32 + 1) (d / 32 + 1))] ?_
      refine xve 43 IntKind.i64 (IntKind.wrap IntKind.i64 (Int.tdiv (k : Int) 32)) ((((k / 32) : Nat) : Int)) v2 ?_
      refine xoi 44 22 (g0) (d / 32 + 1) (d / 32 + 1) (k / 32) IntKind.i64 ((((k / 32) : Nat) : Int)) ⟨rfl⟩ (by omega) ?_
      refine xole 45 0 (g0) (k / 32) IntKind.u64 (Q) ([]) 22 ((w : Int)) v1 (by first | omega | (simp <;> omega)) ?_
      refine xn 6 [] [(46, .int .i64 (k : Int))] ?_
      refine xve 47 IntKind.i64 (Int.tmod (k : Int) 32) ((((k % 32) : Nat) : Int)) v3 ?_
      refine xve 48 IntKind.u64 (IntKind.wrap IntKind.u64 (((k % 32) : Nat) : Int)) ((((k % 32) : Nat) : Int)) v3' ?_
      refine xn 9 [] [(49, .int .u64 (IntKind.wrap IntKind.u64 (1 * 2 ^ min (Int.toNat (((k % 32) : Nat) : Int)) (IntKind.bits IntKind.u64))))] ?_
      refine xve 50 IntKind.u64 (bits BinOp.or IntKind.u64 (w : Int) (shl IntKind.u64 1 (((k % 32) : Nat) : Int))) ((((w + 2 ^ (k % 32)) : Nat) : Int)) v4 ?_
      refine xoi 51 22 (g0) (d / 32 + 1) (d / 32 + 1) (k / 32) IntKind.i64 ((((k / 32) : Nat) : Int)) ⟨rfl⟩ (by omega) ?_
      refine xos 0 (g0) (k / 32) IntKind.u64 (Q) ([]) 22 ((((w + 2 ^ (k % 32)) : Nat) : Int)) (by first | omega | (simp <;> omega)) ?_
      refine xz [] [] ?_
      refine SW_region ?_
      refine xn 1 [] [(52, .slice As (List.length S) cs)] ?_
      refine xcr 53 cS (zsS (ziS (ziS zi0)) zs0) (fun A3 k3 => ?_)
      refine xz [] [(9, .slice A3 (List.length S') k3)] ?_
      refine SW_region ?_
      refine xn 1 [] [(32, .int .i64 (k : Int))] ?_
      refine xve 33 IntKind.i64 (IntKind.wrap IntKind.i64 ((k : Int) - 1)) ((k : Int) - 1) vk ?_
      refine xz [] [(10, .int .i64 ((k : Int) - 1))] ?_
      refine ⟨k, by omega, _, R', S', A2, A3, k2, k3, by omega, dQ', by rw [List.length_set]; exact i3, d2, n2, by omega, d1, n1, by omega, e1, by rw [hvq, hexp]; omega, by omega, by rw [hvq]; exact Nat.dvd_add (Nat.dvd_trans (by rw [Nat.pow_succ]; exact Nat.dvd_mul_right _ _) i13) (Nat.dvd_refl _), ?_⟩
      exact xw (zsS (ziS zi0) (zsS zi0 zs0))
     ·have z2 : decide (cmpN (val B32 R) (val B32 S) ≥ 0) = false := decide_eq_false (cmpN_lt (Nat.lt_of_not_le hc))
      refine SW_seq ?_
      refine xr [] [(31, .bool (decide ((k : Int) ≥ 0)))] ?_
      refine xst z1 ?_
      refine SW_skip ?_
      refine SW_seq ?_
      refine SW_block ?_
      refine SW_seq ?_
      refine xg ?_
      refine xn 2 [] [(35, .slice As (List.length S) cs), (34, .slice Ar (List.length R) cr)] ?_
      refine xcv 36 (ct_spec_l1Cmp_rows (R) (S) (Ar) (As) (cr) (cs) i4 i7 (by omega) (by omega)) (zsS zi0 (zsS (ziS zi0) zs0)) ?_
      refine xz [] [(37, .bool (decide (cmpN (val B32 R) (val B32 S) ≥ 0)))] ?_
      refine xsf z2 ?_
      refine SW_skip ?_
      refine SW_region ?_
      refine xn 1 [] [(52, .slice As (List.length S) cs)] ?_
      refine xcr 53 cS (zsS (ziS zi0) zs0) (fun A2 k2 => ?_)
      refine xz [] [(9, .slice A2 (List.length S') k2)] ?_
      refine SW_region ?_
      refine xn 1 [] [(32, .int .i64 (k : Int))] ?_
      refine xve 33 IntKind.i64 (IntKind.wrap IntKind.i64 ((k : Int) - 1)) ((k : Int) - 1) vk ?_
      refine xz [] [(10, .int .i64 ((k : Int) - 1))] ?_
      refine ⟨k, by omega, Q, R, S', Ar, A2, cr, k2, by omega, i2, i3, i4, i5, i6, d1, n1, by omega, e1, i11, by omega, Nat.dvd_trans (Nat.pow_dvd_pow 2 (by omega)) i13, ?_⟩
      exact xw (zsS (ziS zi0) (zsS zi0 zs0))
  ·rintro s' ⟨Q, Ar, cr, dQ, lQ, vQ, hw⟩
   refine SW_weak hw ?_
   clear hw
   have er : trimL Q = q := norm_inj B32_pos dQ.trim dq (norm_trim _) nq (by rw [val_trim, vQ, vq])
   have ctq := ct_spec_l1Trim Q (some ⟨g0, 0, none⟩) Q.length (by omega)
   rw [er] at ctq
   rw [← lQ]
   refine SW_fz 0 Q.length g0 .u64 Q [] 22 (by omega) (by omega) ?_
   refine xg ?_
   refine xn 1 [] [(54, .slice (some ⟨g0, 0, none⟩) (List.length Q) (List.length Q))] ?_
   refine xcr 55 ctq (zsS zi0 zs0) (fun A2 k2 => ?_)
   refine xz [] [(5, .slice Ar (List.length r) cr), (4, .slice A2 (List.length q) k2)] ?_
   refine SW_ret ?_
   refine xe ((A2, k2), Ar, cr) (.tuple #[.slice A2 (List.length q) k2, .slice Ar (List.length r) cr]) [] ?_ (zsS zi0 (zsS (ziS (ziS zi0)) zs0))
   rfl
end Go.Proofs.Ytlfpjlfmjojimaa.M
end
section
namespace Go.Proofs.Ytlfpjlfmjojimaa.M
open Go.RowKit Go.Proofs.Ytlfpjlfmjojimaa.G Go.Proofs.YtlfpjlfmjojimaaV.PrintWords Go.Proofs.YtlfpjlfmjojimaaV.PrintLast Go.Proofs.Ytlfpjlfmjojimaa.X
set_option linter.unusedVariables false
set_option linter.unusedSimpArgs false
theorem digits_exist {B : Nat} (hB : 2 ≤ B) (n : Nat) : ∃ l, Dig B l ∧ Norm l ∧ val B l = n := by
  induction n using Nat.strongRecOn with
  | _ n ih =>
    by_cases h0 : n = 0
    · exact ⟨[], Dig.nil _, norm_nil, by rw [h0]; rfl⟩
    · obtain ⟨l, h1, h2, h3⟩ := ih (n / B) (Nat.div_lt_self (by omega) hB)
      have hm : n % B < B := Nat.mod_lt _ (by omega)
      have hv : val B (((n % B : Nat) : Int) :: l) = n := by
        rw [val_cons, h3, Int.toNat_natCast]
        exact Nat.mod_add_div n B
      refine ⟨((n % B : Nat) : Int) :: l, Dig.cons ⟨by omega, by omega⟩ h1, ?_, hv⟩
      rcases Nat.eq_zero_or_pos l.length with hl | hl
      · have : l = [] := List.eq_nil_of_length_eq_zero hl
        subst this
        have h4 : n / B = 0 := by rw [← h3]; rfl
        have h5 : n % B = n := Nat.mod_eq_of_lt (by
          rcases Nat.lt_or_ge n B with h | h
          · exact h
          · have := Nat.div_pos h (by omega); omega)
        have : ((((n % B : Nat) : Int)) :: ([] : List Int)) = [] ++ [((n % B : Nat) : Int)] := rfl
        rw [this, norm_snoc, h5]
        omega
      · obtain ⟨a, y, rfl⟩ := snoc_of hl
        have : (((n % B : Nat) : Int)) :: (a ++ [y]) = (((n % B : Nat) : Int) :: a) ++ [y] := rfl
        rw [this, norm_snoc]
        exact norm_snoc.1 h2
noncomputable def ofN (B n : Nat) : List Int := @dite _ (∃ l, Dig B l ∧ Norm l ∧ val B l = n) (Classical.propDecidable _) (fun h => Classical.choose h) (fun _ => [])
theorem ofN_spec {B : Nat} (hB : 2 ≤ B) (n : Nat) : Dig B (ofN B n) ∧ Norm (ofN B n) ∧ val B (ofN B n) = n := by
  unfold ofN
  rw [dif_pos (digits_exist hB n)]
  exact Classical.choose_spec (digits_exist hB n)
theorem B32_2 : 2 ≤ B32 := by unfold B32; omega
theorem B64_2 : 2 ≤ B64 := by unfold B64; omega
theorem ofN_zero {B : Nat} (hB : 2 ≤ B) (n : Nat) : (ofN B n).length = 0 ↔ n = 0 := by
  obtain ⟨k1, k2, k3⟩ := ofN_spec hB n
  have := norm_zero (by omega) k1 k2
  rw [k3] at this
  rw [← this]
  exact ⟨fun h => List.eq_nil_of_length_eq_zero h, fun h => by rw [h]; rfl⟩
theorem ofN_len {B : Nat} (hB : 2 ≤ B) {n k : Nat} (h : n < B ^ k) : (ofN B n).length ≤ k := by
  obtain ⟨k1, k2, k3⟩ := ofN_spec hB n
  rcases Nat.lt_or_ge k (ofN B n).length with hk | hk
  · have h1 := val_ge k1 k2 (by omega)
    rw [k3] at h1
    have h2 := Nat.pow_le_pow_right (n := B) (by omega) (show k ≤ (ofN B n).length - 1 by omega)
    omega
  · exact hk
def capL : Nat := 100000
def Sm (n : Nat) : Prop := n < B32 ^ capL
theorem capL_le : capL ≤ 100000 := Nat.le_refl _
theorem Sm.len {n : Nat} (h : Sm n) : (ofN B32 n).length ≤ 100000 := by
  unfold Sm at h
  exact Nat.le_trans (ofN_len B32_2 h) capL_le
theorem pow_base {n : Nat} : B32 ^ n = 2 ^ (32 * n) := by rw [show B32 = 2 ^ 32 from rfl, ← Nat.pow_mul]
theorem Sm.of {n k : Nat} (h : n < 2 ^ k) (hk : k ≤ 3200000) : Sm n := by
  unfold Sm
  rw [pow_base]
  exact Nat.lt_of_lt_of_le h (Nat.pow_le_pow_right (by decide) (by unfold capL; omega))
theorem Sm.mono {n m : Nat} (h : Sm m) (hn : n ≤ m) : Sm n := Nat.lt_of_le_of_lt hn h
theorem B64_sq : B64 = B32 ^ 2 := by decide
def capH : Nat := 50000
theorem capL_half : capL = 2 * capH := by unfold capL capH; rfl
theorem capH_le : capH ≤ 50000 := Nat.le_refl _
theorem Sm.len64 {n : Nat} (h : Sm n) : (ofN B64 n).length ≤ 50000 := by
  unfold Sm at h
  rw [capL_half, Nat.pow_mul, ← B64_sq] at h
  exact Nat.le_trans (ofN_len B64_2 h) capH_le
section
theorem ct_spec_l1Of (a : Int) (n : Nat) (ha : Nn a n) (hn : n < 18446744073709551616) : CtR Try.prog 24 [.int .u64 a] [] .u64 (ofN B32 n) := by
  obtain ⟨d, m, v⟩ := ofN_spec B32_2 n
  exact ct_spec_l1Of_rows a n ha hn _ d m v
theorem ct_spec_l1Bits (x : Nat) (A : Option Addr) (c : Nat) (hx : Sm x) (m : Nat) (hm : IsBits x m) : CtV Try.prog 56 [.slice A (ofN B32 x).length c] [Row .u64 A c (ofN B32 x)] (.int .i64 m) := by
  obtain ⟨d, n, v⟩ := ofN_spec B32_2 x
  have hl := hx.len
  exact ct_spec_l1Bits_rows _ A c d n (by omega) m (by rw [v]; exact hm)
theorem ct_spec_l1Left (x : Nat) (A : Option Addr) (c : Nat) (a : Int) (i : Nat) (ha : Nn a i) (hi : i ≤ 100000000000) (hx : Sm x) : CtR Try.prog 26 [.slice A (ofN B32 x).length c, .int .i64 a] [Row .u64 A c (ofN B32 x)] .u64 (ofN B32 (x * 2 ^ i)) := by
  obtain ⟨d, n, v⟩ := ofN_spec B32_2 x
  obtain ⟨d2, n2, v2⟩ := ofN_spec B32_2 (x * 2 ^ i)
  have hl := hx.len
  exact ct_spec_l1Left_rows _ A c d (by omega) a i ha hi _ d2 n2 (by rw [v2, v])
theorem ct_spec_l1Add (x y : Nat) (A A' : Option Addr) (c c' : Nat) (hx : Sm x) (hy : Sm y) : CtR Try.prog 50 [.slice A (ofN B32 x).length c, .slice A' (ofN B32 y).length c'] [Row .u64 A c (ofN B32 x), Row .u64 A' c' (ofN B32 y)] .u64 (ofN B32 (x + y)) := by
  obtain ⟨d, n, v⟩ := ofN_spec B32_2 x
  obtain ⟨d', n', v'⟩ := ofN_spec B32_2 y
  obtain ⟨d2, n2, v2⟩ := ofN_spec B32_2 (x + y)
  have hl := hx.len
  have hl' := hy.len
  exact ct_spec_l1Add_rows _ _ A A' c c' d d' (by omega) (by omega) _ d2 n2 (by rw [v2, v, v'])
theorem ct_spec_l1Mul (x y : Nat) (A A' : Option Addr) (c c' : Nat) (hx : Sm x) (hy : Sm y) : CtR Try.prog 48 [.slice A (ofN B32 x).length c, .slice A' (ofN B32 y).length c'] [Row .u64 A c (ofN B32 x), Row .u64 A' c' (ofN B32 y)] .u64 (ofN B32 (x * y)) := by
  obtain ⟨d, n, v⟩ := ofN_spec B32_2 x
  obtain ⟨d', n', v'⟩ := ofN_spec B32_2 y
  obtain ⟨d2, n2, v2⟩ := ofN_spec B32_2 (x * y)
  have hl := hx.len
  have hl' := hy.len
  exact ct_spec_l1Mul_rows _ _ A A' c c' d d' (by omega) (by omega) _ d2 n2 (by rw [v2, v, v'])
theorem ct_spec_l1Div (x y : Nat) (A A' : Option Addr) (c c' : Nat) (hx : Sm x) (hy : Sm y) (h0 : 0 < y) : CtRR Try.prog 27 [.slice A (ofN B32 x).length c, .slice A' (ofN B32 y).length c'] [Row .u64 A c (ofN B32 x), Row .u64 A' c' (ofN B32 y)] .u64 (ofN B32 (x / y)) (ofN B32 (x % y)) := by
  obtain ⟨d, n, v⟩ := ofN_spec B32_2 x
  obtain ⟨d', n', v'⟩ := ofN_spec B32_2 y
  obtain ⟨d2, n2, v2⟩ := ofN_spec B32_2 (x / y)
  obtain ⟨d3, n3, v3⟩ := ofN_spec B32_2 (x % y)
  have hl := hx.len
  have hl' := hy.len
  exact ct_spec_l1Div_rows _ _ A A' c c' d d' n n' (by omega) (by omega) (by rw [v']; exact h0) _ _ d2 n2 (by rw [v2, v, v']) d3 n3 (by rw [v3, v, v'])
theorem ct_spec_l1Out (x : Nat) (A : Option Addr) (c : Nat) (hx : Sm x) : CtR Try.prog 37 [.slice A (ofN B32 x).length c] [Row .u64 A c (ofN B32 x)] .u64 (ofN B64 x) := by
  obtain ⟨d, n, v⟩ := ofN_spec B32_2 x
  obtain ⟨d2, n2, v2⟩ := ofN_spec B64_2 x
  have hl := hx.len
  exact ct_spec_l1Out_rows _ A c d n (by omega) _ d2 n2 (by rw [v2, v])
theorem ct_impl_word (a : Int) (n : Nat) (ha : Nn a n) (hn : n < 18446744073709551616) : CtR Try.prog 44 [.int .u64 a] [] .u64 (ofN B64 n) := by
  obtain ⟨d, m, v⟩ := ofN_spec B64_2 n
  exact ct_impl_word_rows a n ha hn _ d m v
theorem ct_impl_nat_add (x y : Nat) (A A' : Option Addr) (c c' : Nat) (hx : Sm x) (hy : Sm y) : CtR Try.prog 41 [.slice A (ofN B64 x).length c, .slice A' (ofN B64 y).length c'] [Row .u64 A c (ofN B64 x), Row .u64 A' c' (ofN B64 y)] .u64 (ofN B64 (x + y)) := by
  obtain ⟨d, n, v⟩ := ofN_spec B64_2 x
  obtain ⟨d', n', v'⟩ := ofN_spec B64_2 y
  obtain ⟨d2, n2, v2⟩ := ofN_spec B64_2 (x + y)
  have hl := hx.len64
  have hl' := hy.len64
  exact ct_impl_nat_add_rows _ _ A A' c c' d d' (by omega) (by omega) _ d2 n2 (by rw [v2, v, v'])
theorem ct_impl_nat_left (x : Nat) (A : Option Addr) (c : Nat) (a : Int) (i : Nat) (ha : Nn a i) (hi : i ≤ 1000000) (hx : Sm x) : CtR Try.prog 68 [.slice A (ofN B64 x).length c, .int .i64 a] [Row .u64 A c (ofN B64 x)] .u64 (ofN B64 (x * 2 ^ i)) := by
  obtain ⟨d, n, v⟩ := ofN_spec B64_2 x
  obtain ⟨d2, n2, v2⟩ := ofN_spec B64_2 (x * 2 ^ i)
  have hl := hx.len64
  exact ct_impl_nat_left_rows _ A c d (by omega) a i ha hi _ d2 n2 (by rw [v2, v])
theorem ct_impl_nat_right (x : Nat) (A : Option Addr) (c : Nat) (a : Int) (i : Nat) (ha : Nn a i) (hi : i ≤ 1000000000) (hx : Sm x) : CtR Try.prog 67 [.slice A (ofN B64 x).length c, .int .i64 a] [Row .u64 A c (ofN B64 x)] .u64 (ofN B64 (x / 2 ^ i)) := by
  obtain ⟨d, n, v⟩ := ofN_spec B64_2 x
  obtain ⟨d2, n2, v2⟩ := ofN_spec B64_2 (x / 2 ^ i)
  have hl := hx.len64
  exact ct_impl_nat_right_rows _ A c d (by omega) a i ha hi _ d2 n2 (by rw [v2, v])
theorem ct_impl_nat_bits (x : Nat) (A : Option Addr) (c : Nat) (hx : Sm x) (m : Nat) (hm : IsBits x m) : CtV Try.prog 84 [.slice A (ofN B64 x).length c] [Row .u64 A c (ofN B64 x)] (.int .i64 m) := by
  obtain ⟨d, n, v⟩ := ofN_spec B64_2 x
  have hl := hx.len64
  exact ct_impl_nat_bits_rows _ A c d n (by omega) m (by rw [v]; exact hm)
theorem ct_impl_nat_cmp (x y : Nat) (A A' : Option Addr) (c c' : Nat) (hx : Sm x) (hy : Sm y) : CtV Try.prog 47 [.slice A (ofN B64 x).length c, .slice A' (ofN B64 y).length c'] [Row .u64 A c (ofN B64 x), Row .u64 A' c' (ofN B64 y)] (.int .i64 (cmpN x y)) := by
  obtain ⟨d, n, v⟩ := ofN_spec B64_2 x
  obtain ⟨d', n', v'⟩ := ofN_spec B64_2 y
  have hl := hx.len64
  have hl' := hy.len64
  have := ct_impl_nat_cmp_rows _ _ A A' c c' d d' n n' (by omega) (by omega)
  rwa [v, v'] at this
theorem ct_impl_nat_div (x y : Nat) (A A' : Option Addr) (c c' : Nat) (hx : Sm x) (hy : Sm y) (h0 : 0 < y) : CtRR Try.prog 75 [.slice A (ofN B64 x).length c, .slice A' (ofN B64 y).length c'] [Row .u64 A c (ofN B64 x), Row .u64 A' c' (ofN B64 y)] .u64 (ofN B64 (x / y)) (ofN B64 (x % y)) := by
  obtain ⟨d, n, v⟩ := ofN_spec B64_2 x
  obtain ⟨d', n', v'⟩ := ofN_spec B64_2 y
  obtain ⟨d2, n2, v2⟩ := ofN_spec B64_2 (x / y)
  obtain ⟨d3, n3, v3⟩ := ofN_spec B64_2 (x % y)
  have hl := hx.len64
  have hl' := hy.len64
  exact ct_impl_nat_div_rows _ _ A A' c c' d d' n n' (by omega) (by omega) (by rw [v']; exact h0) _ _ d2 n2 (by rw [v2, v, v']) d3 n3 (by rw [v3, v, v'])
end
end Go.Proofs.Ytlfpjlfmjojimaa.M
end
section
namespace Go.Proofs.Ytlfpjlfmjojimaa.M
open Go.RowKit Go.Proofs.Ytlfpjlfmjojimaa.G Go.Proofs.YtlfpjlfmjojimaaV.PrintWords Go.Proofs.YtlfpjlfmjojimaaV.PrintLast Go.Proofs.Ytlfpjlfmjojimaa.X
set_option linter.unusedVariables false
set_option linter.unusedSimpArgs false
theorem two_val {x : Nat} (hx : x < B128) : Dig B64 [loI x, hiI x] ∧ val B64 [loI x, hiI x] = x := by
 have h1 := hi_lt hx
 have h2 := lo_lt x
 refine ⟨Dig.cons (by unfold loI B64; omega) (Dig.cons (by unfold hiI B64; omega) (Dig.nil _)), ?_⟩
 rw [val_cons, val_one]
 unfold hiI loI B64
 rw [Int.toNat_natCast, Int.toNat_natCast]
 omega
theorem ct_spec_l2Of (x : Nat) (hx : x < B128) : CtR Try.prog 49 [.agg #[.int .u64 (hiI x), .int .u64 (loI x)]] [] .u64 (ofN B32 x) := by
 refine ct_of Try.func49 rfl (by kernel_rfl) (fun B w0 => ?_)
 obtain ⟨d, v⟩ := two_val hx
 obtain ⟨d2, n2, v2⟩ := ofN_spec B32_2 x
 refine xg ?_
 refine xb 1 [.int .u64 (hiI x), .int .u64 (loI x)] 24 (fun g0 => ?_)
 refine xz [] [(2, .slice none 0 0)] ?_
 refine xg ?_
 refine xn 4 [(1, [0]), (3, [0])] [(6, .int .u64 (hiI x)), (4, .int .u64 (loI x))] ?_
 refine xbl 7 [.int .u64 (loI x), .int .u64 (hiI x)] 22 2 (fun g1 => ?_)
 refine NW_fz 1 2 g1 .u64 [loI x, hiI x] [] 22 (by simp) (by simp) ?_
 have ct : CtR Try.prog 36 [.slice (some ⟨g1, 0, none⟩) 2 2] [Row .u64 (some ⟨g1, 0, none⟩) 2 [loI x, hiI x]] .u64 (ofN B32 x) := ct_spec_l1In_rows [loI x, hiI x] _ 2 d (by simp) _ d2 n2 (by rw [v2, v])
 refine xcr 8 ct (zsS zi0 zs0) (fun A0 k0 => ?_)
 refine xz [] [(2, .slice A0 (List.length (ofN B32 x)) k0)] ?_
 refine SW_ret ?_
 refine xe (A0, k0) (.slice A0 (List.length (ofN B32 x)) k0) [] ?_ (zsS zi0 zs0)
 rfl
theorem ct_impl_Word_nat (x : Nat) (hx : x < B128) : CtR Try.prog 69 [.agg #[.int .u64 (hiI x), .int .u64 (loI x)]] [] .u64 (ofN B64 x) := by
 refine ct_of Try.func69 rfl (by kernel_rfl) (fun B w0 => ?_)
 obtain ⟨d, v⟩ := two_val hx
 obtain ⟨d2, n2, v2⟩ := ofN_spec B64_2 x
 have e : trimL [loI x, hiI x] = ofN B64 x := norm_inj B64_pos d.trim d2 (norm_trim _) n2 (by rw [val_trim, v2, v])
 refine xg ?_
 refine xb 1 [.int .u64 (hiI x), .int .u64 (loI x)] 24 (fun g0 => ?_)
 refine xz [] [(2, .slice none 0 0)] ?_
 refine xg ?_
 refine xn 4 [(1, [0]), (3, [0])] [(6, .int .u64 (hiI x)), (4, .int .u64 (loI x))] ?_
 refine xbl 7 [.int .u64 (loI x), .int .u64 (hiI x)] 22 2 (fun g1 => ?_)
 refine NW_fz 1 2 g1 .u64 [loI x, hiI x] [] 22 (by simp) (by simp) ?_
 have ct : CtR Try.prog 40 [.slice (some ⟨g1, 0, none⟩) 2 2] [Row .u64 (some ⟨g1, 0, none⟩) 2 [loI x, hiI x]] .u64 (ofN B64 x) := by
  rw [← e]
  exact ct_impl_trimmed [loI x, hiI x] _ 2 (by simp)
 refine xcr 8 ct (zsS zi0 zs0) (fun A0 k0 => ?_)
 refine xz [] [(2, .slice A0 (List.length (ofN B64 x)) k0)] ?_
 refine SW_ret ?_
 refine xe (A0, k0) (.slice A0 (List.length (ofN B64 x)) k0) [] ?_ (zsS zi0 zs0)
 rfl
theorem ct_spec_l2Word (x : Nat) (A : Option Addr) (c : Nat) (hx : x < B128) : CtV Try.prog 28 [.slice A (ofN B32 x).length c] [Row .u64 A c (ofN B32 x)] (.agg #[.int .u64 (hiI x), .int .u64 (loI x)]) := by
 refine ct_of Try.func28 rfl (by kernel_rfl) (fun B w0 => ?_)
 obtain ⟨d, n, v⟩ := ofN_spec B32_2 x
 obtain ⟨d2, n2, v2⟩ := ofN_spec B64_2 x
 have hl : (ofN B32 x).length ≤ 4 := ofN_len B32_2 (show x < B32 ^ 4 from hx)
 have ct := ct_spec_l1Out_own _ A c d n (by omega) _ d2 n2 (by rw [v2, v])
 have hl2 : (ofN B64 x).length ≤ 2 := ofN_len B64_2 hx
 obtain ⟨t1, t2, t3⟩ := two_digits (ofN B64 x) d2 hl2
 rw [v2] at t1 t2
 generalize ofN B64 x = y at *
 have w1 : Ve (rd (y ++ [0, 0]) ((1 : Nat) : Int)) (hiI x) := ⟨t2⟩
 have w0' : Ve (rd (y ++ [0, 0]) ((0 : Nat) : Int)) (loI x) := ⟨t1⟩
 have ly : 2 ≤ (y ++ [0, 0]).length := by simp
 refine xg ?_
 refine xb 2 [.int .u64 0, .int .u64 0] 24 (fun g0 => ?_)
 refine xz [] [] ?_
 refine xg ?_
 refine xn 1 [] [(4, .slice A (List.length (ofN B32 x)) c)] ?_
 refine xcu 5 ct (zsS zi0 zs0) (fun sl0 bs0 hO0 => ?_)
 refine xbl 6 [.int .u64 0, .int .u64 0] 22 2 (fun g1 => ?_)
 refine xow2 7 8 (g1) (2) [0, 0] hO0 (by first | omega | (simp <;> omega)) (fun sl1 bs1 hO1 => ?_)
 refine xz [] [(3, sl1)] ?_
 refine xd (fun hB => ?_)
 refine xdk [(0, []), (3, [])] [(11, sl1), (8, sl1)] hB ?_
 rcases hO1 with ⟨rfl, h1, rfl⟩ | ⟨g, r', c', hc, rfl, rfl⟩
 ·rw [h1] at ly
  exact absurd ly (by decide)
 ·refine xdoi 1 hB 9 22 (g) (List.length (y ++ [0, 0])) (c') 1 IntKind.i64 (1) ⟨rfl⟩ (by omega) ?_
  refine xdole 2 hB 10 1 (g) (1) IntKind.u64 (y ++ [0, 0]) (r') 22 (hiI x) w1 (by first | omega | (simp <;> omega)) ?_
  refine xdoi 4 hB 12 22 (g) (List.length (y ++ [0, 0])) (c') 0 IntKind.i64 (0) ⟨rfl⟩ (by omega) ?_
  refine xdole 5 hB 13 1 (g) (0) IntKind.u64 (y ++ [0, 0]) (r') 22 (loI x) w0' (by first | omega | (simp <;> omega)) ?_
  refine xdk [(6, [])] [(14, .agg #[.int .u64 (hiI x), .int .u64 (loI x)])] hB ?_
  refine xds 7 [0] [(0, [.int .u64 (hiI x), .int .u64 (loI x)])] ?_
  refine xdz ?_
  refine SW_ret ?_
  refine xe () (.agg #[.int .u64 (hiI x), .int .u64 (loI x)]) [0] ?_ trivial
  rfl
end Go.Proofs.Ytlfpjlfmjojimaa.M
end
section
namespace Go.Proofs.Ytlfpjlfmjojimaa.M
open Go.RowKit Go.Proofs.Ytlfpjlfmjojimaa.G Go.Proofs.YtlfpjlfmjojimaaV.PrintWords Go.Proofs.YtlfpjlfmjojimaaV.PrintLast Go.Proofs.Ytlfpjlfmjojimaa.X
set_option linter.unusedVariables false
set_option linter.unusedSimpArgs false
theorem ct_laws_toWord (h l : Int) : CtV Try.prog 51 [.agg #[.int .u64 h, .int .u64 l]] [] (.agg #[.int .u64 h, .int .u64 l]) := by
 refine ct_of Try.func51 rfl (by kernel_rfl) (fun B w0 => ?_)
 refine xg ?_
 refine xb 1 [.int .u64 h, .int .u64 l] 39 (fun g0 => ?_)
 refine xb 2 [.int .u64 0, .int .u64 0] 24 (fun g1 => ?_)
 refine xz [] [] ?_
 refine xg ?_
 refine xb 3 [.int .u64 0, .int .u64 0] 24 (fun g2 => ?_)
 refine xz [] [] ?_
 refine xq [(1, [0]), (3, [2])] [] [(2, [.int .u64 h, .int .u64 0])] ?_
 refine xq [(1, [0]), (3, [2])] [] [(2, [.int .u64 h, .int .u64 l])] ?_
 refine xq [(0, [2]), (1, [1])] [] [(1, [.int .u64 h, .int .u64 l])] ?_
 refine SW_ret ?_
 refine xe () (.agg #[.int .u64 h, .int .u64 l]) [1] ?_ trivial
 rfl
end Go.Proofs.Ytlfpjlfmjojimaa.M
end
section
namespace Go.Proofs.Ytlfpjlfmjojimaa.M
open Go.RowKit Go.Proofs.Ytlfpjlfmjojimaa.G Go.Proofs.YtlfpjlfmjojimaaV.PrintWords Go.Proofs.YtlfpjlfmjojimaaV.PrintLast Go.Proofs.Ytlfpjlfmjojimaa.X
set_option linter.unusedVariables false
set_option linter.unusedSimpArgs false
theorem ct_laws_eqUint64S (a : List Int) (A A' : Option Addr) (c c' : Nat) (hl : a.length ≤ 1000000000) : CtV Try.prog 53 [.slice A a.length c, .slice A' a.length c'] [Row .u64 A c a, Row .u64 A' c' a] (.bool true) := by
 refine ct_of Try.func53 rfl (by kernel_rfl) (fun B w0 => ?_)
 have z0 : ((a.length : Int) != (a.length : Int)) = false := by simp
 refine xr [] [(4, .bool false)] ?_
 refine SW_seq ?_
 refine xr [] [(10, .bool ((((List.length a) : Nat) : Int) != (((List.length a) : Nat) : Int)))] ?_
 refine xsf z0 ?_
 refine SW_skip ?_
 refine SW_seq ?_
 refine xr [] [(5, .int .i64 0)] ?_
 refine SW_block ?_
 refine SW_loopn (fun m s => ∃ i : Nat, m + i = a.length ∧ Weak s ⟨[(0, .slice A a.length c), (1, .slice A' a.length c'), (5, .int .i64 (i : Int))], [], [Row .u64 A c a, Row .u64 A' c' a]⟩) a.length ⟨0, rfl, ?_⟩ (fun m s hI => ?_)
 ·exact xw (zsS zi0 (zsS (ziS zi0) zs0))
 ·obtain ⟨i, h1, hw⟩ := hI
  refine SW_weak hw ?_
  clear hw
  by_cases hi : i < a.length
  ·have z : decide ((i : Int) < (a.length : Int)) = true := decide_eq_true (by omega)
   obtain ⟨m, rfl⟩ : ∃ m', m = m' + 1 := ⟨m - 1, by omega⟩
   refine SW_know zi0 (fun w h => row_at h (by omega)) (fun ⟨ad, e⟩ => ?_)
   subst e
   refine SW_know (ziS zi0) (fun w h => row_at h (by omega)) (fun ⟨ad', e⟩ => ?_)
   subst e
   have vi : Ve (IntKind.i64.wrap ((i : Int) + 1)) ((i + 1 : Nat) : Int) := veI (by omega) (by omega)
   have z2 : (rd a (i : Int) != rd a (i : Int)) = false := by simp
   refine SW_seq ?_
   refine xr [] [(14, .bool (decide ((i : Int) < (((List.length a) : Nat) : Int))))] ?_
   refine xst z ?_
   refine SW_skip ?_
   refine SW_seq ?_
   refine SW_block ?_
   refine xd (fun hB => ?_)
   refine xdk [(0, []), (1, []), (4, []), (5, [])] [(22, .int .i64 (i : Int)), (21, .slice (some ad') (List.length a) c'), (18, .int .i64 (i : Int)), (17, .slice (some ad) (List.length a) c)] hB ?_
   refine xdfi 2 hB 19 22 (ad) (List.length a) (c) (i) IntKind.i64 ((i : Int)) ⟨rfl⟩ (by omega) ?_
   refine xdfl 3 hB 20 zi0 (i) (by omega) ?_
   refine xdfi 6 hB 23 22 (ad') (List.length a) (c') (i) IntKind.i64 ((i : Int)) ⟨rfl⟩ (by omega) ?_
   refine xdfl 7 hB 24 (ziS zi0) (i) (by omega) ?_
   refine xdk [(8, [])] [(25, .bool (rd a (i : Int) != rd a (i : Int)))] hB ?_
   refine xdz ?_
   refine xsf z2 ?_
   refine SW_skip ?_
   refine SW_region ?_
   refine xn 1 [] [(15, .int .i64 (i : Int))] ?_
   refine xve 16 IntKind.i64 (IntKind.wrap IntKind.i64 ((i : Int) + 1)) ((((i + 1) : Nat) : Int)) vi ?_
   refine xz [] [(5, .int .i64 (((i + 1) : Nat) : Int))] ?_
   refine ⟨m, by omega, i + 1, by omega, ?_⟩
   exact xw (zsS zi0 (zsS (ziS zi0) zs0))
  ·have z : decide ((i : Int) < (a.length : Int)) = false := decide_eq_false (by omega)
   refine SW_seq ?_
   refine xr [] [(14, .bool (decide ((i : Int) < (((List.length a) : Nat) : Int))))] ?_
   refine xsf z ?_
   refine SW_exit ?_
   refine xr [] [(4, .bool true)] ?_
   refine SW_ret ?_
   refine xe () (.bool true) [] ?_ trivial
   rfl
end Go.Proofs.Ytlfpjlfmjojimaa.M
end
section
namespace Go.Proofs.Ytlfpjlfmjojimaa.M
open Go.RowKit Go.Proofs.Ytlfpjlfmjojimaa.G Go.Proofs.YtlfpjlfmjojimaaV.PrintWords Go.Proofs.YtlfpjlfmjojimaaV.PrintLast Go.Proofs.Ytlfpjlfmjojimaa.X
set_option linter.unusedVariables false
set_option linter.unusedSimpArgs false
def mkL (K : IntKind) (k n : Nat) : List Int := (List.range n).map fun i => K.wrap ((k + i : Nat) : Int)
theorem mkL_len (K : IntKind) (k n : Nat) : (mkL K k n).length = n := by simp [mkL]
theorem mkL_succ (K : IntKind) (k n : Nat) : mkL K k (n + 1) = mkL K k n ++ [K.wrap ((k + n : Nat) : Int)] := by simp [mkL, List.range_succ]
theorem mkL_set (K : IntKind) (k i : Nat) (xs : List Int) (h : i < xs.length) : (mkL K k i ++ xs.drop i).set i (K.wrap ((k + i : Nat) : Int)) = mkL K k (i + 1) ++ xs.drop (i + 1) := by
 rw [mkL_succ, List.set_append_right _ _ (by rw [mkL_len]; exact Nat.le_refl _), mkL_len, Nat.sub_self, List.drop_eq_getElem_cons h, List.append_assoc]
 rfl
theorem mkL_rd (K : IntKind) (k n i : Nat) (h : i < n) : rd (mkL K k n) (i : Int) = K.wrap ((k + i : Nat) : Int) := by
 simp [rd, mkL, h]
theorem ct_laws_markUint64S (g k n c : Nat) (xs : List Int) (r : List Value) (hn : xs.length = n) (hk : n + k ≤ 2000000000) : CtM Try.prog 54 [.slice (some ⟨g, 0, none⟩) n c, .int .i64 (k : Int)] [⟨g, cl .u64 xs r, 22⟩] [] (γ := Unit) (fun _ => .int .i64 ((k + n : Nat) : Int)) (fun _ => [⟨g, cl .u64 (mkL .u64 k n) r, 22⟩]) (fun _ => []) := by
 subst hn
 refine cm_of Try.func54 rfl (by kernel_rfl) (fun B w0 => ?_)
 refine xr [] [(4, .int .i64 0)] ?_
 refine SW_seq ?_
 refine xr [] [(5, .int .i64 0)] ?_
 refine SW_block ?_
 refine SW_loopn (fun m s => ∃ i : Nat, m + i = xs.length ∧ Weak s ⟨[(0, .slice (some ⟨g, 0, none⟩) xs.length c), (1, .int .i64 ((k + i : Nat) : Int)), (5, .int .i64 (i : Int))], [⟨g, cl .u64 (mkL .u64 k i ++ xs.drop i) r, 22⟩], []⟩) xs.length ⟨0, rfl, ?_⟩ (fun m s hI => ?_)
 ·exact xw zs0
 ·obtain ⟨i, h1, hw⟩ := hI
  refine SW_weak hw ?_
  clear hw
  by_cases hi : i < xs.length
  ·have z : decide ((i : Int) < (xs.length : Int)) = true := decide_eq_true (by omega)
   obtain ⟨m, rfl⟩ : ∃ m', m = m' + 1 := ⟨m - 1, by omega⟩
   have vi : Ve (IntKind.i64.wrap ((i : Int) + 1)) ((i + 1 : Nat) : Int) := ⟨by rw [wrap_i64 (by omega)]; omega⟩
   have vk : Ve (IntKind.i64.wrap (((k + i : Nat) : Int) + 1)) ((k + (i + 1) : Nat) : Int) := ⟨by rw [wrap_i64 (by omega)]; omega⟩
   have hl : (mkL .u64 k i ++ xs.drop i).length = xs.length := by rw [List.length_append, mkL_len, List.length_drop]; omega
   refine SW_seq ?_
   refine xr [] [(9, .bool (decide ((i : Int) < (((List.length xs) : Nat) : Int))))] ?_
   refine xst z ?_
   refine SW_skip ?_
   refine SW_seq ?_
   refine SW_block ?_
   refine xg ?_
   refine xn 4 [] [(15, .int .u64 (IntKind.wrap IntKind.u64 (((k + i) : Nat) : Int))), (13, .int .i64 (i : Int)), (12, .slice (some ⟨g, 0, none⟩) (List.length xs) c)] ?_
   refine xoi 16 22 (g) (List.length xs) (c) (i) IntKind.i64 ((i : Int)) ⟨rfl⟩ (by omega) ?_
   refine xos 0 (g) (i) IntKind.u64 (mkL IntKind.u64 k i ++ List.drop i xs) (r) 22 (IntKind.wrap IntKind.u64 (((k + i) : Nat) : Int)) (by first | omega | (simp <;> omega)) ?_
   refine xz [] [] ?_
   refine SW_region ?_
   refine xn 1 [] [(17, .int .i64 (((k + i) : Nat) : Int))] ?_
   refine xve 18 IntKind.i64 (IntKind.wrap IntKind.i64 ((((k + i) : Nat) : Int) + 1)) ((((k + (i + 1)) : Nat) : Int)) vk ?_
   refine xz [] [(1, .int .i64 (((k + (i + 1)) : Nat) : Int))] ?_
   refine SW_region ?_
   refine xn 1 [] [(10, .int .i64 (i : Int))] ?_
   refine xve 11 IntKind.i64 (IntKind.wrap IntKind.i64 ((i : Int) + 1)) ((((i + 1) : Nat) : Int)) vi ?_
   refine xz [] [(5, .int .i64 (((i + 1) : Nat) : Int))] ?_
   rw [mkL_set _ _ _ _ hi]
   refine ⟨m, by omega, i + 1, by omega, ?_⟩
   exact xw zs0
  ·have z : decide ((i : Int) < (xs.length : Int)) = false := decide_eq_false (by omega)
   obtain rfl : m = 0 := by omega
   obtain rfl : i = xs.length := by omega
   rw [List.drop_length, List.append_nil]
   refine SW_seq ?_
   refine xr [] [(9, .bool (decide ((((List.length xs) : Nat) : Int) < (((List.length xs) : Nat) : Int))))] ?_
   refine xsf z ?_
   refine SW_exit ?_
   refine xr [] [(4, .int .i64 (((k + List.length xs) : Nat) : Int))] ?_
   refine SW_ret ?_
   refine xmeg (.int .i64 (((k + List.length xs) : Nat) : Int)) [] ?_
   exact ⟨(), [true], rfl, rfl, zs0⟩
theorem ct_laws_heldUint64S (g k n c : Nat) (r : List Value) (hk : n + k ≤ 2000000000) : CtM Try.prog 55 [.slice (some ⟨g, 0, none⟩) n c, .int .i64 (k : Int)] [⟨g, cl .u64 (mkL .u64 k n) r, 22⟩] [] (γ := Unit) (fun _ => .int .i64 ((k + n : Nat) : Int)) (fun _ => [⟨g, cl .u64 (mkL .u64 k n) r, 22⟩]) (fun _ => []) := by
 refine cm_of Try.func55 rfl (by kernel_rfl) (fun B w0 => ?_)
 have hl := mkL_len .u64 k n
 refine xr [] [(4, .int .i64 0)] ?_
 refine SW_seq ?_
 refine xr [] [(5, .int .i64 0)] ?_
 refine SW_block ?_
 refine SW_loopn (fun m s => ∃ i : Nat, m + i = n ∧ Weak s ⟨[(0, .slice (some ⟨g, 0, none⟩) n c), (1, .int .i64 ((k + i : Nat) : Int)), (5, .int .i64 (i : Int))], [⟨g, cl .u64 (mkL .u64 k n) r, 22⟩], []⟩) n ⟨0, rfl, ?_⟩ (fun m s hI => ?_)
 ·exact xw zs0
 ·obtain ⟨i, h1, hw⟩ := hI
  refine SW_weak hw ?_
  clear hw
  by_cases hi : i < n
  ·have z : decide ((i : Int) < (n : Int)) = true := decide_eq_true (by omega)
   obtain ⟨m, rfl⟩ : ∃ m', m = m' + 1 := ⟨m - 1, by omega⟩
   have vi : Ve (IntKind.i64.wrap ((i : Int) + 1)) ((i + 1 : Nat) : Int) := ⟨by rw [wrap_i64 (by omega)]; omega⟩
   have vk : Ve (IntKind.i64.wrap (((k + i : Nat) : Int) + 1)) ((k + (i + 1) : Nat) : Int) := ⟨by rw [wrap_i64 (by omega)]; omega⟩
   have z2 : (rd (mkL .u64 k n) (i : Int) != IntKind.u64.wrap ((k + i : Nat) : Int)) = false := by rw [mkL_rd _ _ _ _ hi]; simp
   refine SW_seq ?_
   refine xr [] [(9, .bool (decide ((i : Int) < (n : Int))))] ?_
   refine xst z ?_
   refine SW_skip ?_
   refine SW_seq ?_
   refine SW_block ?_
   refine SW_seq ?_
   refine xg ?_
   refine xn 2 [] [(13, .int .i64 (i : Int)), (12, .slice (some ⟨g, 0, none⟩) n c)] ?_
   refine xoi 14 22 (g) (n) (c) (i) IntKind.i64 ((i : Int)) ⟨rfl⟩ (by omega) ?_
   refine xol 15 0 (g) (i) IntKind.u64 (mkL IntKind.u64 k n) (r) 22 (by first | omega | (simp <;> omega)) ?_
   refine xz [] [(18, .bool (rd (mkL IntKind.u64 k n) (i : Int) != IntKind.wrap IntKind.u64 (((k + i) : Nat) : Int)))] ?_
   refine xsf z2 ?_
   refine SW_skip ?_
   refine SW_region ?_
   refine xn 1 [] [(19, .int .i64 (((k + i) : Nat) : Int))] ?_
   refine xve 20 IntKind.i64 (IntKind.wrap IntKind.i64 ((((k + i) : Nat) : Int) + 1)) ((((k + (i + 1)) : Nat) : Int)) vk ?_
   refine xz [] [(1, .int .i64 (((k + (i + 1)) : Nat) : Int))] ?_
   refine SW_region ?_
   refine xn 1 [] [(10, .int .i64 (i : Int))] ?_
   refine xve 11 IntKind.i64 (IntKind.wrap IntKind.i64 ((i : Int) + 1)) ((((i + 1) : Nat) : Int)) vi ?_
   refine xz [] [(5, .int .i64 (((i + 1) : Nat) : Int))] ?_
   refine ⟨m, by omega, i + 1, by omega, ?_⟩
   exact xw zs0
  ·have z : decide ((i : Int) < (n : Int)) = false := decide_eq_false (by omega)
   obtain rfl : m = 0 := by omega
   obtain rfl : i = n := by omega
   refine SW_seq ?_
   refine xr [] [(9, .bool (decide ((i : Int) < (i : Int))))] ?_
   refine xsf z ?_
   refine SW_exit ?_
   refine xr [] [(4, .int .i64 (((k + i) : Nat) : Int))] ?_
   refine SW_ret ?_
   refine xmeg (.int .i64 (((k + i) : Nat) : Int)) [] ?_
   exact ⟨(), [true], rfl, rfl, zs0⟩
theorem ct_laws_markUint64S' (k : Int) (c : Nat) : CtV Try.prog 54 [.slice none 0 c, .int .i64 k] [] (.int .i64 k) := by
 refine ct_of Try.func54 rfl (by kernel_rfl) (fun B w0 => ?_)
 refine xr [] [(4, .int .i64 0)] ?_
 refine SW_seq ?_
 refine xr [] [(5, .int .i64 0)] ?_
 refine SW_block ?_
 refine SW_unroll ?_
 refine LW_step ?_
 refine SW_seq ?_
 refine xr [] [(9, .bool false)] ?_
 refine xs0 ?_
 refine SW_exit ?_
 refine xr [] [(4, .int .i64 k)] ?_
 refine SW_ret ?_
 refine xe () (.int .i64 k) [] ?_ trivial
 rfl
theorem ct_laws_heldUint64S' (k : Int) (c : Nat) : CtV Try.prog 55 [.slice none 0 c, .int .i64 k] [] (.int .i64 k) := by
 refine ct_of Try.func55 rfl (by kernel_rfl) (fun B w0 => ?_)
 refine xr [] [(4, .int .i64 0)] ?_
 refine SW_seq ?_
 refine xr [] [(5, .int .i64 0)] ?_
 refine SW_block ?_
 refine SW_unroll ?_
 refine LW_step ?_
 refine SW_seq ?_
 refine xr [] [(9, .bool false)] ?_
 refine xs0 ?_
 refine SW_exit ?_
 refine xr [] [(4, .int .i64 k)] ?_
 refine SW_ret ?_
 refine xe () (.int .i64 k) [] ?_ trivial
 rfl
theorem ct_laws_eqUint64S' (g c : Nat) (a : List Int) (r : List Value) (A' : Option Addr) (c' : Nat) (hl : a.length ≤ 1000000000) (hc : a.length ≤ c) : CtM Try.prog 53 [.slice (some ⟨g, 0, none⟩) a.length c, .slice A' a.length c'] [⟨g, cl .u64 a r, 22⟩] [Row .u64 A' c' a] (γ := Unit) (fun _ => .bool true) (fun _ => [⟨g, cl .u64 a r, 22⟩]) (fun _ => []) :=
 ctM_look (by omega) hc (ct_laws_eqUint64S a (some ⟨g, 0, none⟩) A' c c' hl)
end Go.Proofs.Ytlfpjlfmjojimaa.M
end
section
namespace Go.Proofs.Ytlfpjlfmjojimaa.M
open Go.RowKit Go.Proofs.Ytlfpjlfmjojimaa.G Go.Proofs.YtlfpjlfmjojimaaV.PrintWords Go.Proofs.YtlfpjlfmjojimaaV.PrintLast Go.Proofs.Ytlfpjlfmjojimaa.X
set_option linter.unusedVariables false
set_option linter.unusedSimpArgs false
theorem isBits_ex (v : Nat) : ∃ n, IsBits v n := by
 by_cases h : v = 0
 ·exact ⟨0, h ▸ IsBits.zero⟩
 ·exact ⟨Nat.log2 v + 1, Nat.lt_log2_self, .inr (Nat.log2_self_le h)⟩
theorem fits_bits {a : List Int} (d : Dig B64 a) (h : a.length ≤ 1200) : ∃ m, IsBits (val B64 a) m ∧ m ≤ 76800 := by
 obtain ⟨m, hm⟩ := isBits_ex (val B64 a)
 have h1 := val_lt d
 rw [show B64 = 2 ^ 64 from rfl, ← Nat.pow_mul] at h1
 have h2 := hm.le (w := 64 * a.length) h1
 exact ⟨m, hm, by omega⟩
theorem len1200 {x m : Nat} (hm : x < 2 ^ m) (h : m ≤ 76800) : (ofN B64 x).length ≤ 1200 := by
 obtain ⟨k, hk⟩ : ∃ k : Nat, k = 1200 := ⟨_, rfl⟩
 have h1 : x < B64 ^ k := by
  rw [show B64 = 2 ^ 64 from rfl, ← Nat.pow_mul]
  exact Nat.lt_of_lt_of_le hm (Nat.pow_le_pow_right (by decide) (by omega))
 have := ofN_len B64_2 h1
 omega
end Go.Proofs.Ytlfpjlfmjojimaa.M
end
section
namespace Go.Proofs.Ytlfpjlfmjojimaa.M
open Go.RowKit Go.Proofs.Ytlfpjlfmjojimaa.G Go.Proofs.YtlfpjlfmjojimaaV.PrintWords Go.Proofs.YtlfpjlfmjojimaaV.PrintLast Go.Proofs.Ytlfpjlfmjojimaa.X
set_option linter.unusedVariables false
set_option linter.unusedSimpArgs false
theorem times32_step {a O : List Int} {i x y cy D : Nat} (hx : rd a (i : Int) = (x : Int)) (hl : O.length = i) (hD : D = x * y + cy) (hv : val B32 O + B32 ^ i * cy = val B32 (a.take i) * y) :
  val B32 (O ++ [((D % 4294967296 : Nat) : Int)]) + B32 ^ (i + 1) * (D / 4294967296) = val B32 (a.take (i + 1)) * y := by
 rw [val_snoc, val_take_succ, hl, hx, Nat.pow_succ, Nat.mul_assoc]
 simp only [Int.toNat_natCast]
 rw [show B32 * (D / 4294967296) = 4294967296 * (D / 4294967296) from rfl]
 have h : D % 4294967296 + 4294967296 * (D / 4294967296) = x * y + cy := by omega
 have h2 := congrArg (B32 ^ i * ·) h
 have h3 : B32 ^ i * x * y = B32 ^ i * (x * y) := Nat.mul_assoc _ _ _
 generalize D % 4294967296 = m at *
 generalize 4294967296 * (D / 4294967296) = q at *
 generalize x * y = xy at *
 rw [Nat.add_mul, h3]
 generalize B32 ^ i = P at *
 simp only [Nat.mul_add] at h2 ⊢
 omega
theorem ct_spec_l1Times_rows (a : List Int) (A : Option Addr) (c : Nat) (y : Nat) (Y : Int) (hY : Nn Y y) (hy : y < 4294967296) (da : Dig B32 a) (hla : a.length ≤ 1000000000) : ∀ r, Dig B32 r → Norm r → val B32 r = val B32 a * y → CtR Try.prog 58 [.slice A a.length c, .int .u64 Y] [Row .u64 A c a] .u64 r := by
 intro r dr nr vr
 obtain ⟨rfl⟩ := hY
 refine ct_of Try.func58 rfl (by kernel_rfl) (fun B w0 => ?_)
 refine xr [] [(4, .slice none 0 0)] ?_
 refine xr [] [(5, .slice none 0 0)] ?_
 refine xr [] [(6, .int .u64 0)] ?_
 refine SW_seq ?_
 refine xr [] [(7, .int .i64 0)] ?_
 refine SW_then (fun s' => ∃ (sl : Value) (bs : List Box) (O : List Int) (cy : Nat), Own 22 .u64 sl bs O ∧ Dig B32 O ∧ O.length = a.length ∧ cy < 4294967296 ∧ val B32 O + B32 ^ a.length * cy = val B32 r ∧ Weak s' ⟨[(5, sl), (6, .int .u64 (cy : Int))], bs, []⟩) ?_ ?_
 ·refine SW_block ?_
  refine SW_loopn (fun m s' => ∃ (sl : Value) (bs : List Box) (O : List Int) (i cy : Nat), m + i = a.length ∧ Own 22 .u64 sl bs O ∧ Dig B32 O ∧ O.length = i ∧ cy < 4294967296 ∧ val B32 O + B32 ^ i * cy = val B32 (a.take i) * y ∧ Weak s' ⟨[(0, .slice A a.length c), (1, .int .u64 (y : Int)), (5, sl), (6, .int .u64 (cy : Int)), (7, .int .i64 (i : Int))], bs, [Row .u64 A c a]⟩) a.length ⟨_, [], [], 0, 0, rfl, Own.nil 22 .u64, Dig.nil _, rfl, by decide, by rw [Nat.mul_zero, List.take_zero]; exact (Nat.zero_mul _).symm, ?_⟩ (fun m s' hI => ?_)
  ·exact xw (zsS zi0 zs0)
  ·obtain ⟨sl0, bs0, O, i, cy, k1, hO0, k3, k4, k5, k6, hw⟩ := hI
   refine SW_weak hw ?_
   clear hw
   by_cases hi : i < a.length
   ·have z : decide ((i : Int) < (a.length : Int)) = true := decide_eq_true (by omega)
    obtain ⟨m, rfl⟩ : ∃ m', m = m' + 1 := ⟨m - 1, by omega⟩
    refine SW_know zi0 (fun w h => row_at h (by omega)) (fun ⟨ad, e⟩ => ?_)
    subst e
    obtain ⟨x, hx, hxB⟩ := nat_rd32 da i
    have hxy : x * y ≤ 4294967295 * 4294967295 := Nat.mul_le_mul (by omega) (by omega)
    obtain ⟨xy, hxy2⟩ : ∃ xy, xy = x * y := ⟨_, rfl⟩
    rw [← hxy2] at hxy
    obtain ⟨D, hD⟩ : ∃ D, D = xy + cy := ⟨_, rfl⟩
    have v1 : Ve (rd a (i : Int)) (x : Int) := ⟨hx⟩
    have v3 : Ve (IntKind.u64.wrap ((x : Int) * (y : Int))) ((xy : Nat) : Int) := veU (by rw [hxy2]; exact (Int.natCast_mul x y).symm) (by omega)
    have v4 : Ve (IntKind.u64.wrap ((xy : Int) + (cy : Int))) (D : Int) := veU (by omega) (by omega)
    have v5 := low_ve D (by omega)
    have v6 := high_ve D
    have v7 : Ve (IntKind.i64.wrap ((i : Int) + 1)) ((i + 1 : Nat) : Int) := veI (by omega) (by omega)
    have hst := times32_step (D := D) hx k4 (by rw [hD, hxy2]) k6
    have hcy : D / 4294967296 < 4294967296 := by omega
    refine SW_seq ?_
    refine xr [] [(12, .bool (decide ((i : Int) < (((List.length a) : Nat) : Int))))] ?_
    refine xst z ?_
    refine SW_skip ?_
    refine SW_seq ?_
    refine SW_block ?_
    refine xg ?_
    refine xn 2 [] [(16, .int .i64 (i : Int)), (15, .slice (some ad) (List.length a) c)] ?_
    refine xfi 17 22 (ad) (List.length a) (c) (i) IntKind.i64 ((i : Int)) ⟨rfl⟩ (by omega) ?_
    refine xfle 18 zi0 (i) ((x : Int)) v1 (by omega) ?_
    refine xn 5 [] [(19, .int .u64 (y : Int))] ?_
    refine xve 20 IntKind.u64 (IntKind.wrap IntKind.u64 ((x : Int) * (y : Int))) ((xy : Int)) v3 ?_
    refine xn 7 [] [(21, .int .u64 (cy : Int))] ?_
    refine xve 22 IntKind.u64 (IntKind.wrap IntKind.u64 ((xy : Int) + (cy : Int))) ((D : Int)) v4 ?_
    refine xz [] [(8, .int .u64 (D : Int))] ?_
    refine xg ?_
    refine xn 2 [] [(24, .int .u64 (D : Int)), (23, sl0)] ?_
    refine xve 25 IntKind.u64 (bits BinOp.and IntKind.u64 (D : Int) 4294967295) ((((D % 4294967296) : Nat) : Int)) v5 ?_
    refine xbl 26 [.int .u64 (((D % 4294967296) : Nat) : Int)] 22 1 (fun g0 => ?_)
    refine xow 27 8 (g0) (1) [(((D % 4294967296) : Nat) : Int)] hO0 (by first | omega | (simp <;> omega)) (fun sl1 bs1 hO1 => ?_)
    refine xz [] [(5, sl1)] ?_
    refine SW_region ?_
    refine xn 1 [] [(28, .int .u64 (D : Int))] ?_
    refine xve 29 IntKind.u64 (shf IntKind.u64 (D : Int) 32) ((((D / 4294967296) : Nat) : Int)) v6 ?_
    refine xz [] [(6, .int .u64 (((D / 4294967296) : Nat) : Int))] ?_
    refine SW_region ?_
    refine xn 1 [] [(13, .int .i64 (i : Int))] ?_
    refine xve 14 IntKind.i64 (IntKind.wrap IntKind.i64 ((i : Int) + 1)) ((((i + 1) : Nat) : Int)) v7 ?_
    refine xz [] [(7, .int .i64 (((i + 1) : Nat) : Int))] ?_
    refine ⟨m, by omega, sl1, bs1, _, i + 1, _, by omega, hO1, k3.snoc (cast_dig32 (Nat.mod_lt _ (by decide))), by rw [List.length_append, k4]; rfl, hcy, hst, ?_⟩
    exact xw (zsS zi0 zs0)
   ·have z : decide ((i : Int) < (a.length : Int)) = false := decide_eq_false (by omega)
    obtain rfl : i = a.length := by omega
    rw [List.take_length, ← vr] at k6
    refine SW_seq ?_
    refine xr [] [(12, .bool (decide ((((List.length a) : Nat) : Int) < (((List.length a) : Nat) : Int))))] ?_
    refine xsf z ?_
    refine SW_exit ?_
    refine ⟨sl0, bs0, O, cy, hO0, k3, k4, k5, k6, ?_⟩
    exact xw zs0
 ·rintro s' ⟨sl, bs, O, cy, hO, dO, lO, hcy, vO, hw⟩
  refine SW_weak hw ?_
  clear hw
  refine SW_cut (fun s' => ∃ (sl : Value) (bs : List Box) (O : List Int), Own 22 .u64 sl bs O ∧ Dig B32 O ∧ O.length ≤ 1000000001 ∧ val B32 O = val B32 r ∧ Weak s' ⟨[(5, sl)], bs, []⟩) ?_ ?_
  ·by_cases h0 : cy = 0
   ·subst h0
    rw [Nat.mul_zero, Nat.add_zero] at vO
    have z1 : decide (((0 : Nat) : Int) > 0) = false := rfl
    refine SW_block ?_
    refine SW_unroll ?_
    refine LW_step ?_
    refine SW_seq ?_
    refine xr [] [(31, .bool false)] ?_
    refine xs0 ?_
    refine SW_exit ?_
    refine ⟨sl, bs, O, hO, dO, by omega, vO, ?_⟩
    exact xw zs0
   ·have z1 : decide ((cy : Int) > 0) = true := decide_eq_true (by omega)
    have z2 : decide (((0 : Nat) : Int) > 0) = false := rfl
    have v5 : Ve (bits .and .u64 (cy : Int) 4294967295) (cy : Int) := ⟨by rw [low32_nat cy (by omega), Nat.mod_eq_of_lt hcy]⟩
    have v6 : Ve (shf .u64 (cy : Int) 32) ((0 : Nat) : Int) := by have := high_ve cy; rwa [Nat.div_eq_of_lt hcy] at this
    have hb := dO.snoc (cast_dig32 hcy)
    have vO2 : val B32 (O ++ [(cy : Int)]) = val B32 r := by rw [val_snoc, lO, Int.toNat_natCast, vO]
    have lO1 : (O ++ [(cy : Int)]).length ≤ 1000000001 := by rw [List.length_append, lO]; exact Nat.succ_le_succ hla
    refine SW_block ?_
    refine SW_unroll ?_
    refine LW_step ?_
    refine SW_seq ?_
    refine xr [] [(31, .bool (decide ((cy : Int) > 0)))] ?_
    refine xst z1 ?_
    refine SW_skip ?_
    refine SW_block ?_
    refine xg ?_
    refine xn 2 [] [(33, .int .u64 (cy : Int)), (32, sl)] ?_
    refine xve 34 IntKind.u64 (bits BinOp.and IntKind.u64 (cy : Int) 4294967295) ((cy : Int)) v5 ?_
    refine xbl 35 [.int .u64 (cy : Int)] 22 1 (fun g0 => ?_)
    refine xow 36 8 (g0) (1) [(cy : Int)] hO (by first | omega | (simp <;> omega)) (fun sl0 bs0 hO0 => ?_)
    refine xz [] [(5, sl0)] ?_
    refine SW_region ?_
    refine xn 1 [] [(37, .int .u64 (cy : Int))] ?_
    refine xve 38 IntKind.u64 (shf IntKind.u64 (cy : Int) 32) ((0 : Int)) v6 ?_
    refine xz [] [(6, .int .u64 0)] ?_
    refine LW_step ?_
    refine SW_seq ?_
    refine xr [] [(31, .bool false)] ?_
    refine xs0 ?_
    refine SW_exit ?_
    refine ⟨sl0, bs0, _, hO0, hb, lO1, vO2, ?_⟩
    exact xw zs0
  ·rintro s' ⟨sl, bs, O, hO, dO, lO, vO, hw⟩
   refine SW_weak hw ?_
   clear hw
   refine SW_own hO (by omega) (fun Ao co e => ?_)
   subst e
   have er : trimL O = r := norm_inj B32_pos dO.trim dr (norm_trim _) nr (by rw [val_trim, vO])
   have ct := ct_spec_l1Trim O Ao co (by omega)
   rw [er] at ct
   refine xg ?_
   refine xn 1 [] [(39, .slice Ao (List.length O) co)] ?_
   refine xcr 40 ct (zsS zi0 zs0) (fun A0 k0 => ?_)
   refine xz [] [(4, .slice A0 (List.length r) k0)] ?_
   refine SW_ret ?_
   refine xe (A0, k0) (.slice A0 (List.length r) k0) [] ?_ (zsS zi0 zs0)
   rfl
theorem ct_spec_l1Times (x y : Nat) (Y : Int) (A : Option Addr) (c : Nat) (hY : Nn Y y) (hy : y < 4294967296) (hx : Sm x) : CtR Try.prog 58 [.slice A (ofN B32 x).length c, .int .u64 Y] [Row .u64 A c (ofN B32 x)] .u64 (ofN B32 (x * y)) := by
 obtain ⟨d, n, v⟩ := ofN_spec B32_2 x
 obtain ⟨d', n', v'⟩ := ofN_spec B32_2 (x * y)
 have hl := hx.len
 exact ct_spec_l1Times_rows _ A c y Y hY hy d (by omega) _ d' n' (by rw [v, v'])
theorem ten_sm {x e n : Nat} (h : x * 10 ^ n = 10 ^ e) (he : e ≤ 20000) : Sm x := by
 have h1 : x ≤ x * 10 ^ n := Nat.le_mul_of_pos_right _ (Nat.pow_pos (by decide))
 have h2 : 10 ^ e ≤ (2 ^ 4) ^ e := Nat.pow_le_pow_left (by decide) e
 rw [← Nat.pow_mul] at h2
 refine Sm.of (k := 4 * e + 1) ?_ (by omega)
 rw [Nat.pow_succ]
 have := Nat.pow_pos (n := 4 * e) (show 0 < 2 by decide)
 omega
theorem ct_spec_l1Ten (E : Int) (e : Nat) (hE : Nn E e) (he : e ≤ 20000) : CtR Try.prog 25 [.int .i64 E] [] .u64 (ofN B32 (10 ^ e)) := by
 obtain ⟨rfl⟩ := hE
 refine ct_of Try.func25 rfl (by kernel_rfl) (fun B w0 => ?_)
 have n9 : Nn (1000000000 : Int) 1000000000 := ⟨rfl⟩
 have n10 : Nn (10 : Int) 10 := ⟨rfl⟩
 obtain ⟨r0, hr0⟩ : ∃ r0, e % 9 = r0 := ⟨_, rfl⟩
 obtain ⟨m0, hm0⟩ : ∃ m0, e / 9 = m0 := ⟨_, rfl⟩
 refine xr [] [(2, .slice none 0 0)] ?_
 refine xg ?_
 refine xcr 4 (ct_spec_l1Of (1) (1) ⟨rfl⟩ (by omega)) zs0 (fun A0 k0 => ?_)
 refine xz [] [(3, .slice A0 (List.length (ofN B32 1)) k0)] ?_
 refine SW_cut (fun s' => ∃ (x : Nat) (A : Option Addr) (c : Nat), x * 10 ^ r0 = 10 ^ e ∧ Weak s' ⟨[(0, .int .i64 (r0 : Int)), (3, .slice A (ofN B32 x).length c)], [], [Row .u64 A c (ofN B32 x)]⟩) ?_ ?_
 ·refine SW_block ?_
  refine SW_loopn (fun m s' => ∃ (x n : Nat) (A : Option Addr) (c : Nat), n = 9 * m + r0 ∧ n ≤ e ∧ x * 10 ^ n = 10 ^ e ∧ Weak s' ⟨[(0, .int .i64 (n : Int)), (3, .slice A (ofN B32 x).length c)], [], [Row .u64 A c (ofN B32 x)]⟩) m0 ⟨1, e, A0, k0, by omega, Nat.le_refl _, Nat.one_mul _, ?_⟩ (fun m s' hI => ?_)
  ·exact xw (zsS zi0 zs0)
  ·obtain ⟨x, n, Ax, cx, h1, h2, h3, hw⟩ := hI
   refine SW_weak hw ?_
   clear hw
   have sx1 := ten_sm h3 he
   by_cases hm : m = 0
   ·have z1 : decide ((n : Int) ≥ 9) = false := decide_eq_false (by omega)
    obtain rfl : n = r0 := by omega
    refine SW_seq ?_
    refine xr [] [(6, .bool (decide ((n : Int) ≥ 9)))] ?_
    refine xsf z1 ?_
    refine SW_exit ?_
    refine ⟨x, Ax, cx, h3, ?_⟩
    exact xw (zsS zi0 zs0)
   ·obtain ⟨m, rfl⟩ : ∃ m', m = m' + 1 := ⟨m - 1, by omega⟩
    have z1 : decide ((n : Int) ≥ 9) = true := decide_eq_true (by omega)
    have v7 : Ve (IntKind.i64.wrap ((n : Int) - 9)) ((n - 9 : Nat) : Int) := veI (by omega) (by omega)
    have h4 : x * 1000000000 * 10 ^ (n - 9) = 10 ^ e := by
     rw [← h3, Nat.mul_assoc, show n = 9 + (n - 9) by omega, Nat.pow_add, Nat.add_sub_cancel_left]
    refine SW_seq ?_
    refine xr [] [(6, .bool (decide ((n : Int) ≥ 9)))] ?_
    refine xst z1 ?_
    refine SW_skip ?_
    refine SW_seq ?_
    refine SW_block ?_
    refine SW_region ?_
    refine xn 1 [] [(9, .slice Ax (List.length (ofN B32 x)) cx)] ?_
    refine xcr 10 (ct_spec_l1Times (x) (1000000000) (1000000000) (Ax) (cx) n9 (by omega) sx1) (zsS zi0 zs0) (fun A1 k1 => ?_)
    refine xz [] [(3, .slice A1 (List.length (ofN B32 (x * 1000000000))) k1)] ?_
    refine SW_region ?_
    refine xn 1 [] [(7, .int .i64 (n : Int))] ?_
    refine xve 8 IntKind.i64 (IntKind.wrap IntKind.i64 ((n : Int) - 9)) ((((n - 9) : Nat) : Int)) v7 ?_
    refine xz [] [(0, .int .i64 (((n - 9) : Nat) : Int))] ?_
    refine ⟨m, by omega, x * 1000000000, n - 9, A1, k1, by omega, by omega, h4, ?_⟩
    exact xw (zsS zi0 zs0)
 ·rintro s' ⟨x, A, c, h1, hw⟩
  refine SW_weak hw ?_
  clear hw
  refine SW_cut (fun s' => ∃ (A : Option Addr) (c : Nat), Weak s' ⟨[(3, .slice A (ofN B32 (10 ^ e)).length c)], [], [Row .u64 A c (ofN B32 (10 ^ e))]⟩) ?_ ?_
  ·refine SW_block ?_
   refine SW_loopn (fun m s' => ∃ (x : Nat) (A : Option Addr) (c : Nat), m ≤ r0 ∧ x * 10 ^ m = 10 ^ e ∧ Weak s' ⟨[(0, .int .i64 (m : Int)), (3, .slice A (ofN B32 x).length c)], [], [Row .u64 A c (ofN B32 x)]⟩) r0 ⟨x, A, c, Nat.le_refl _, h1, ?_⟩ (fun m s' hI => ?_)
   ·exact xw (zsS zi0 zs0)
   ·obtain ⟨x, Ax, cx, h2, h3, hw⟩ := hI
    refine SW_weak hw ?_
    clear hw
    have sx1 := ten_sm h3 he
    by_cases hm : m = 0
    ·subst hm
     have z1 : decide (((0 : Nat) : Int) > 0) = false := rfl
     obtain rfl : x = 10 ^ e := by rw [Nat.pow_zero, Nat.mul_one] at h3; exact h3
     refine SW_seq ?_
     refine xr [] [(12, .bool false)] ?_
     refine xs0 ?_
     refine SW_exit ?_
     refine ⟨Ax, cx, ?_⟩
     exact xw (zsS zi0 zs0)
    ·obtain ⟨m, rfl⟩ : ∃ m', m = m' + 1 := ⟨m - 1, by omega⟩
     have z1 : decide (((m + 1 : Nat) : Int) > 0) = true := decide_eq_true (by omega)
     have v7 : Ve (IntKind.i64.wrap (((m + 1 : Nat) : Int) - 1)) ((m : Nat) : Int) := veI (by omega) (by omega)
     have h4 : x * 10 * 10 ^ m = 10 ^ e := by
      rw [← h3, Nat.mul_assoc, Nat.pow_succ, Nat.mul_comm 10]
     refine SW_seq ?_
     refine xr [] [(12, .bool (decide ((((m + 1) : Nat) : Int) > 0)))] ?_
     refine xst z1 ?_
     refine SW_skip ?_
     refine SW_seq ?_
     refine SW_block ?_
     refine SW_region ?_
     refine xn 1 [] [(15, .slice Ax (List.length (ofN B32 x)) cx)] ?_
     refine xcr 16 (ct_spec_l1Times (x) (10) (10) (Ax) (cx) n10 (by omega) sx1) (zsS zi0 zs0) (fun A1 k1 => ?_)
     refine xz [] [(3, .slice A1 (List.length (ofN B32 (x * 10))) k1)] ?_
     refine SW_region ?_
     refine xn 1 [] [(13, .int .i64 (((m + 1) : Nat) : Int))] ?_
     refine xve 14 IntKind.i64 (IntKind.wrap IntKind.i64 ((((m + 1) : Nat) : Int) - 1)) ((m : Int)) v7 ?_
     refine xz [] [(0, .int .i64 (m : Int))] ?_
     refine ⟨m, by omega, x * 10, A1, k1, by omega, h4, ?_⟩
     exact xw (zsS zi0 zs0)
  ·rintro s' ⟨A, c, hw⟩
   refine SW_weak hw ?_
   clear hw
   refine xr [] [(2, .slice A (List.length (ofN B32 (10 ^ e))) c)] ?_
   refine SW_ret ?_
   refine xe (A, c) (.slice A (List.length (ofN B32 (10 ^ e))) c) [] ?_ (zsS zi0 zs0)
   rfl
end Go.Proofs.Ytlfpjlfmjojimaa.M
end
section
namespace Go.Proofs.Ytlfpjlfmjojimaa.M
open Go.RowKit Go.Proofs.Ytlfpjlfmjojimaa.G Go.Proofs.YtlfpjlfmjojimaaV.PrintWords Go.Proofs.YtlfpjlfmjojimaaV.PrintLast Go.Proofs.Ytlfpjlfmjojimaa.X
set_option linter.unusedVariables false
set_option linter.unusedSimpArgs false
theorem ten_sm' {e : Nat} (he : e ≤ 20000) : Sm (10 ^ e) := ten_sm (x := 10 ^ e) (n := 0) (by rw [Nat.pow_zero, Nat.mul_one]) he
theorem ten_bits {e m : Nat} (hm : IsBits (10 ^ e) m) (he : e ≤ 5200) : 0 < m ∧ m ≤ 20801 := by
 have h2 : 10 ^ e ≤ (2 ^ 4) ^ e := Nat.pow_le_pow_left (by decide) e
 rw [← Nat.pow_mul] at h2
 refine ⟨hm.pos (Nat.pow_pos (by decide)), ?_⟩
 have h3 : m ≤ 4 * e + 1 := hm.le (by
  rw [Nat.pow_succ]
  have := Nat.pow_pos (n := 4 * e) (show 0 < 2 by decide)
  omega)
 omega
theorem ct_impl_ten (E : Int) (e : Nat) (hE : Nn E e) (he : e ≤ 20000) : CtR Try.prog 73 [.int .i64 E] [] .u64 (ofN B64 (10 ^ e)) := by
 obtain ⟨d, n, v⟩ := ofN_spec B64_2 (10 ^ e)
 exact ct_impl_ten_rows E e hE he _ d n v
theorem ct_spec_TenBits_pos (e m : Nat) (he : e ≤ 5200) (hm : IsBits (10 ^ e) m) : CtV Try.prog 23 [.int .i64 (e : Int)] [] (.int .i64 ((m : Int) - 1)) := by
 have z1 : decide ((e : Int) > 5200) = false := decide_eq_false (by omega)
 have z2 : decide ((e : Int) < -5200) = false := decide_eq_false (by omega)
 have z3 : decide ((e : Int) ≥ 0) = true := decide_eq_true (by omega)
 have s1 := ten_sm' (e := e) (by omega)
 have hm3 := ten_bits hm he
 have v1 : Ve (IntKind.i64.wrap ((m : Int) - 1)) ((m : Int) - 1) := ⟨wrap_i64 (by omega)⟩
 have n1 : Nn (e : Int) e := ⟨rfl⟩
 refine ct_of Try.func23 rfl (by kernel_rfl) (fun B w0 => ?_)
 refine xr [] [(2, .int .i64 0)] ?_
 refine SW_seq ?_
 refine xg ?_
 refine xn 3 [] [(5, .bool (decide ((e : Int) > 5200)))] ?_
 refine xkf 5 z1 ?_
 refine xz [] [(8, .bool (decide ((e : Int) < -5200)))] ?_
 refine xsf z2 ?_
 refine SW_skip ?_
 refine SW_seq ?_
 refine xr [] [(10, .bool (decide ((e : Int) ≥ 0)))] ?_
 refine xst z3 ?_
 refine xg ?_
 refine xn 1 [] [(11, .int .i64 (e : Int))] ?_
 refine xcr 12 (ct_spec_l1Ten ((e : Int)) (e) n1 (by omega)) zs0 (fun A0 k0 => ?_)
 refine xcv 13 (ct_spec_l1Bits (10 ^ e) (A0) (k0) s1 (m) hm) (zsS zi0 zs0) ?_
 refine xve 14 IntKind.i64 (IntKind.wrap IntKind.i64 ((m : Int) - 1)) ((m : Int) - 1) v1 ?_
 refine xz [] [(2, .int .i64 ((m : Int) - 1))] ?_
 refine SW_ret ?_
 refine xe () (.int .i64 ((m : Int) - 1)) [] ?_ trivial
 rfl
theorem ct_spec_TenBits_neg (k : Int) (e m : Nat) (hk : k = -(e : Int)) (h0 : 0 < e) (he : e ≤ 5200) (hm : IsBits (10 ^ e) m) : CtV Try.prog 23 [.int .i64 k] [] (.int .i64 (-(m : Int))) := by
 have z1 : decide (k > 5200) = false := decide_eq_false (by omega)
 have z2 : decide (k < -5200) = false := decide_eq_false (by omega)
 have z3 : decide (k ≥ 0) = false := decide_eq_false (by omega)
 have s1 := ten_sm' (e := e) (by omega)
 have hm3 := ten_bits hm he
 have n2 : Nn (IntKind.i64.wrap (0 - k)) e := ⟨by rw [wrap_i64 (by omega)]; omega⟩
 have v1 : Ve (IntKind.i64.wrap (0 - (m : Int))) (-(m : Int)) := ⟨by rw [wrap_i64 (by omega)]; omega⟩
 have n1 : Nn (e : Int) e := ⟨rfl⟩
 refine ct_of Try.func23 rfl (by kernel_rfl) (fun B w0 => ?_)
 refine xr [] [(2, .int .i64 0)] ?_
 refine SW_seq ?_
 refine xg ?_
 refine xn 3 [] [(5, .bool (decide (k > 5200)))] ?_
 refine xkf 5 z1 ?_
 refine xz [] [(8, .bool (decide (k < -5200)))] ?_
 refine xsf z2 ?_
 refine SW_skip ?_
 refine SW_seq ?_
 refine xr [] [(10, .bool (decide (k ≥ 0)))] ?_
 refine xsf z3 ?_
 refine SW_skip ?_
 refine xg ?_
 refine xn 2 [] [(16, .int .i64 (IntKind.wrap IntKind.i64 (0 - k)))] ?_
 refine xcr 17 (ct_spec_l1Ten (IntKind.wrap IntKind.i64 (0 - k)) (e) n2 (by omega)) zs0 (fun A0 k0 => ?_)
 refine xcv 18 (ct_spec_l1Bits (10 ^ e) (A0) (k0) s1 (m) hm) (zsS zi0 zs0) ?_
 refine xve 19 IntKind.i64 (IntKind.wrap IntKind.i64 (0 - (m : Int))) (-(m : Int)) v1 ?_
 refine xz [] [(2, .int .i64 (-(m : Int)))] ?_
 refine SW_ret ?_
 refine xe () (.int .i64 (-(m : Int))) [] ?_ trivial
 rfl
theorem ct_TenBits_1 (b : Int) (g : Nat) (x m : Nat) (A : Option Addr) (c : Nat) (hx : Sm x) (hm : IsBits x m) :
  CtM Try.prog 86 [.int .i64 b, .pointer (some ⟨g, 0, none⟩)] [⟨g, [.slice A (ofN B64 x).length c], 65⟩] [Row .u64 A c (ofN B64 x)] (γ := Unit) (fun _ => .bool (decide (b < m))) (fun _ => [⟨g, [.slice A (ofN B64 x).length c], 65⟩]) (fun _ => [Row .u64 A c (ofN B64 x)]) := by
 refine cm_of Try.func86 rfl (by kernel_rfl) (fun B w0 => ?_)
 refine xr [] [(3, .bool false)] ?_
 refine xg ?_
 refine xn 2 [(1, [0])] [(5, .slice A (List.length (ofN B64 x)) c), (4, .int .i64 b)] ?_
 refine xcv 6 (ct_impl_nat_bits (x) (A) (c) hx (m) hm) (zsS zi0 zs0) ?_
 refine xz [] [(3, .bool (decide (b < (m : Int))))] ?_
 refine SW_ret ?_
 refine xmeg (.bool (decide (b < (m : Int)))) [] ?_
 exact ⟨(), [true], rfl, rfl, zsS zi0 zs0⟩
theorem ct_greatest (g : Nat) (x m : Nat) (A : Option Addr) (c : Nat) (hx : Sm x) (hm : IsBits x m) (h0 : 0 < m) (h1 : m ≤ 65536) :
  CtM Try.prog 85 [.int .i64 0, .int .i64 65536, .func (.func 86) #[] #[.pointer (some ⟨g, 0, none⟩)]] [⟨g, [.slice A (ofN B64 x).length c], 65⟩] [Row .u64 A c (ofN B64 x)] (γ := Unit) (fun _ => .int .i64 ((m : Int) - 1)) (fun _ => [⟨g, [.slice A (ofN B64 x).length c], 65⟩]) (fun _ => [Row .u64 A c (ofN B64 x)]) := by
 refine cm_of Try.func85 rfl (by kernel_rfl) (fun B w0 => ?_)
 have cc := fun b => ct_TenBits_1 b g x m A c hx hm
 refine xr [] [(6, .int .i64 0)] ?_
 refine SW_cut (fun s' => Weak s' ⟨[(0, .int .i64 ((m : Int) - 1))], [⟨g, [.slice A (ofN B64 x).length c], 65⟩], [Row .u64 A c (ofN B64 x)]⟩) ?_ ?_
 ·refine SW_block ?_
  refine SW_loopn (fun j s' => ∃ (lo hi : Nat), hi = lo + j ∧ lo < m ∧ m ≤ hi ∧ hi ≤ 65536 ∧ Weak s' ⟨[(0, .int .i64 (lo : Int)), (1, .int .i64 (hi : Int)), (2, .func (.func 86) #[] #[.pointer (some ⟨g, 0, none⟩)])], [⟨g, [.slice A (ofN B64 x).length c], 65⟩], [Row .u64 A c (ofN B64 x)]⟩) 65536 ⟨0, 65536, rfl, h0, h1, Nat.le_refl _, ?_⟩ (fun j s' hI => ?_)
  ·exact xw (zsS zi0 zs0)
  ·obtain ⟨lo, hi, k1, k2, k3, k4, hw⟩ := hI
   refine SW_weak hw ?_
   clear hw
   have v1 : Ve (IntKind.i64.wrap ((hi : Int) - (lo : Int))) (j : Int) := ⟨by rw [wrap_i64 (by omega)]; omega⟩
   by_cases hj : 1 < j
   ·have z1 : decide ((j : Int) > 1) = true := decide_eq_true (by omega)
    have nj : Nn (j : Int) j := ⟨rfl⟩
    have v3 : Ve (IntKind.i64.wrap (Int.tdiv (j : Int) 2)) ((j / 2 : Nat) : Int) := ⟨by rw [Int.tdiv_eq_ediv_of_nonneg (by omega), wrap_i64 (by omega)]; omega⟩
    have cc1 := cc ((lo + j / 2 : Nat) : Int)
    clear cc
    have v2 : Ve (IntKind.i64.wrap ((lo : Int) + ((j / 2 : Nat) : Int))) ((lo + j / 2 : Nat) : Int) := ⟨by rw [wrap_i64 (by omega)]; omega⟩
    by_cases hm2 : lo + j / 2 < m
    ·have z2 : decide (((lo + j / 2 : Nat) : Int) < (m : Int)) = true := decide_eq_true (by omega)
     refine SW_seq ?_
     refine xg ?_
     refine xn 2 [] [(9, .int .i64 (lo : Int)), (8, .int .i64 (hi : Int))] ?_
     refine xve 10 IntKind.i64 (IntKind.wrap IntKind.i64 ((hi : Int) - (lo : Int))) ((j : Int)) v1 ?_
     refine xz [] [(11, .bool (decide ((j : Int) > 1)))] ?_
     refine xst z1 ?_
     refine SW_skip ?_
     refine SW_block ?_
     refine xg ?_
     refine xn 3 [] [(14, .int .i64 (lo : Int)), (13, .int .i64 (hi : Int)), (12, .int .i64 (lo : Int))] ?_
     refine xve 15 IntKind.i64 (IntKind.wrap IntKind.i64 ((hi : Int) - (lo : Int))) ((j : Int)) v1 ?_
     refine xve 16 IntKind.i64 (IntKind.wrap IntKind.i64 (Int.tdiv (j : Int) 2)) ((((j / 2) : Nat) : Int)) v3 ?_
     refine xve 17 IntKind.i64 (IntKind.wrap IntKind.i64 ((lo : Int) + (((j / 2) : Nat) : Int))) ((((lo + j / 2) : Nat) : Int)) v2 ?_
     refine xz [] [(7, .int .i64 (((lo + j / 2) : Nat) : Int))] ?_
     refine xg ?_
     refine xn 2 [] [(19, .int .i64 (((lo + j / 2) : Nat) : Int)), (18, Value.func (Fn.func 86) #[] #[.pointer (some ⟨g, 0, none⟩)])] ?_
     refine xcm 20 [true] cc1 (zsS zi0 zs0) (fun z3 => ?_)
     refine xz [] [] ?_
     refine xst z2 ?_
     refine xrl [] [(0, .int .i64 (((lo + j / 2) : Nat) : Int))] ?_
     refine ⟨j - j / 2, by omega, lo + j / 2, hi, by omega, hm2, k3, k4, ?_⟩
     exact xw (zsS zi0 zs0)
    ·have z2 : decide (((lo + j / 2 : Nat) : Int) < (m : Int)) = false := decide_eq_false (by omega)
     refine SW_seq ?_
     refine xg ?_
     refine xn 2 [] [(9, .int .i64 (lo : Int)), (8, .int .i64 (hi : Int))] ?_
     refine xve 10 IntKind.i64 (IntKind.wrap IntKind.i64 ((hi : Int) - (lo : Int))) ((j : Int)) v1 ?_
     refine xz [] [(11, .bool (decide ((j : Int) > 1)))] ?_
     refine xst z1 ?_
     refine SW_skip ?_
     refine SW_block ?_
     refine xg ?_
     refine xn 3 [] [(14, .int .i64 (lo : Int)), (13, .int .i64 (hi : Int)), (12, .int .i64 (lo : Int))] ?_
     refine xve 15 IntKind.i64 (IntKind.wrap IntKind.i64 ((hi : Int) - (lo : Int))) ((j : Int)) v1 ?_
     refine xve 16 IntKind.i64 (IntKind.wrap IntKind.i64 (Int.tdiv (j : Int) 2)) ((((j / 2) : Nat) : Int)) v3 ?_
     refine xve 17 IntKind.i64 (IntKind.wrap IntKind.i64 ((lo : Int) + (((j / 2) : Nat) : Int))) ((((lo + j / 2) : Nat) : Int)) v2 ?_
     refine xz [] [(7, .int .i64 (((lo + j / 2) : Nat) : Int))] ?_
     refine xg ?_
     refine xn 2 [] [(19, .int .i64 (((lo + j / 2) : Nat) : Int)), (18, Value.func (Fn.func 86) #[] #[.pointer (some ⟨g, 0, none⟩)])] ?_
     refine xcm 20 [true] cc1 (zsS zi0 zs0) (fun z3 => ?_)
     refine xz [] [] ?_
     refine xsf z2 ?_
     refine xrl [] [(1, .int .i64 (((lo + j / 2) : Nat) : Int))] ?_
     refine ⟨j / 2, by omega, lo, lo + j / 2, rfl, k2, by omega, by omega, ?_⟩
     exact xw (zsS zi0 zs0)
   ·have z1 : decide ((j : Int) > 1) = false := decide_eq_false (by omega)
    have e1 : (lo : Int) = (m : Int) - 1 := by omega
    refine SW_seq ?_
    refine xg ?_
    refine xn 2 [] [(9, .int .i64 (lo : Int)), (8, .int .i64 (hi : Int))] ?_
    refine xve 10 IntKind.i64 (IntKind.wrap IntKind.i64 ((hi : Int) - (lo : Int))) ((j : Int)) v1 ?_
    refine xz [] [(11, .bool (decide ((j : Int) > 1)))] ?_
    refine xsf z1 ?_
    refine SW_exit ?_
    rw [← e1]
    exact xw (zsS zi0 zs0)
 ·rintro s' hw
  refine SW_weak hw ?_
  clear hw
  refine xr [] [(6, .int .i64 ((m : Int) - 1))] ?_
  refine SW_ret ?_
  refine xmeg (.int .i64 ((m : Int) - 1)) [] ?_
  exact ⟨(), [true], rfl, rfl, zsS zi0 zs0⟩
theorem ct_impl_TenBits_neg (k : Int) (e m : Nat) (hk : k = -(e : Int)) (h0 : 0 < e) (he : e ≤ 5200) (hm : IsBits (10 ^ e) m) : CtV Try.prog 72 [.int .i64 k] [] (.int .i64 (-(m : Int))) := by
 have z1 : decide (k > 5200) = false := decide_eq_false (by omega)
 have z2 : decide (k < -5200) = false := decide_eq_false (by omega)
 have z3 : decide (k < 0) = true := decide_eq_true (by omega)
 have s1 := ten_sm' (e := e) (by omega)
 have hm3 := ten_bits hm he
 have n2 : Nn (IntKind.i64.wrap (0 - k)) e := ⟨by rw [wrap_i64 (by omega)]; omega⟩
 have v1 : Ve (IntKind.i64.wrap (0 - (m : Int))) (-(m : Int)) := ⟨by rw [wrap_i64 (by omega)]; omega⟩
 have n1 : Nn (e : Int) e := ⟨rfl⟩
 refine ct_of Try.func72 rfl (by kernel_rfl) (fun B w0 => ?_)
 refine xr [] [(2, .int .i64 0)] ?_
 refine SW_seq ?_
 refine SW_block ?_
 refine xg ?_
 refine xn 3 [] [(7, .bool (decide (k < -5200)))] ?_
 refine xkf 7 z2 ?_
 refine xz [] [(4, .bool (decide (k > 5200)))] ?_
 refine xsf z1 ?_
 refine xr [] [(11, .bool (decide (k < 0)))] ?_
 refine xst z3 ?_
 refine xg ?_
 refine xn 2 [] [(15, .int .i64 (IntKind.wrap IntKind.i64 (0 - k)))] ?_
 refine xcr 16 (ct_impl_ten (IntKind.wrap IntKind.i64 (0 - k)) (e) n2 (by omega)) zs0 (fun A0 k0 => ?_)
 refine xcv 17 (ct_impl_nat_bits (10 ^ e) (A0) (k0) s1 (m) hm) (zsS zi0 zs0) ?_
 refine xve 18 IntKind.i64 (IntKind.wrap IntKind.i64 (0 - (m : Int))) (-(m : Int)) v1 ?_
 refine xz [] [(2, .int .i64 (-(m : Int)))] ?_
 refine SW_ret ?_
 refine xe () (.int .i64 (-(m : Int))) [] ?_ trivial
 rfl
theorem ct_impl_TenBits_pos (e m : Nat) (he : e ≤ 5200) (hm : IsBits (10 ^ e) m) : CtV Try.prog 72 [.int .i64 (e : Int)] [] (.int .i64 ((m : Int) - 1)) := by
 have z1 : decide ((e : Int) > 5200) = false := decide_eq_false (by omega)
 have z2 : decide ((e : Int) < -5200) = false := decide_eq_false (by omega)
 have z3 : decide ((e : Int) < 0) = false := decide_eq_false (by omega)
 have s1 := ten_sm' (e := e) (by omega)
 have hm3 := ten_bits hm he
 have n1 : Nn (e : Int) e := ⟨rfl⟩
 have cg := fun g A c => ct_greatest g (10 ^ e) m A c s1 hm (by omega) (by omega)
 refine ct_of Try.func72 rfl (by kernel_rfl) (fun B w0 => ?_)
 refine xr [] [(2, .int .i64 0)] ?_
 refine SW_seq ?_
 refine SW_block ?_
 refine xr [] [(4, .bool (decide ((e : Int) > 5200)))] ?_
 refine xsf z1 ?_
 refine xr [] [(11, .bool (decide ((e : Int) < 0)))] ?_
 refine xsf z3 ?_
 refine SW_skip ?_
 refine xg ?_
 refine xn 1 [] [(19, .int .i64 (e : Int))] ?_
 refine xcr 20 (ct_impl_ten ((e : Int)) (e) n1 (by omega)) zs0 (fun A0 k0 => ?_)
 refine xb 3 [.slice none 0 0] 65 (fun g0 => ?_)
 refine xy [(3, [0])] [] [(0, [.slice A0 (List.length (ofN B64 (10 ^ e))) k0])] ?_
 refine xg ?_
 refine xn 1 [] [(21, Value.func (Fn.func 86) #[] #[.pointer (some ⟨g0, 0, none⟩)])] ?_
 refine xcm 22 [true] (cg (g0) (A0) (k0)) (zsS zi0 zs0) (fun z4 => ?_)
 refine xz [] [(2, .int .i64 ((m : Int) - 1))] ?_
 refine SW_ret ?_
 refine xe () (.int .i64 ((m : Int) - 1)) [] ?_ trivial
 rfl
end Go.Proofs.Ytlfpjlfmjojimaa.M
end
section
namespace Go.Proofs.Ytlfpjlfmjojimaa.M
open Go.RowKit Go.Proofs.Ytlfpjlfmjojimaa.G Go.Proofs.YtlfpjlfmjojimaaV.PrintWords Go.Proofs.YtlfpjlfmjojimaaV.PrintLast Go.Proofs.Ytlfpjlfmjojimaa.X
set_option linter.unusedVariables false
set_option linter.unusedSimpArgs false
theorem rd_limb (x i : Nat) : rd (ofN B64 x) (i : Int) = ((x / B64 ^ i % B64 : Nat) : Int) := by
 obtain ⟨d, n, v⟩ := ofN_spec B64_2 x
 have h1 := rd_val B64_pos d i
 have h2 := (d.rd B64_pos (i : Int)).1
 rw [v] at h1
 omega
theorem ofN_val_lt (x : Nat) (h : (ofN B64 x).length ≤ 1) : x < 18446744073709551616 := by
 obtain ⟨d, n, v⟩ := ofN_spec B64_2 x
 have h1 := val_lt d
 rw [v] at h1
 exact Nat.lt_of_lt_of_le h1 (Nat.le_trans (Nat.pow_le_pow_right B64_pos h) (by rw [Nat.pow_one]; decide))
theorem ct_impl_wordOf (x : Nat) (A : Option Addr) (c : Nat) (hx : x < B128) : CtV Try.prog 74 [.slice A (ofN B64 x).length c] [Row .u64 A c (ofN B64 x)] (.agg #[.int .u64 (hiI x), .int .u64 (loI x)]) := by
 refine ct_of Try.func74 rfl (by kernel_rfl) (fun B w0 => ?_)
 have hl2 : (ofN B64 x).length ≤ 2 := ofN_len B64_2 hx
 have h0 := ofN_zero B64_2 x
 by_cases hl : 0 < (ofN B64 x).length
 ·refine SW_know zi0 (fun w h => row_at h hl) (fun h => ?_)
  obtain ⟨ad, rfl⟩ := h
  have z1 : decide (((ofN B64 x).length : Int) > 0) = true := decide_eq_true (by omega)
  by_cases hl1 : 1 < (ofN B64 x).length
  ·have z2 : decide (((ofN B64 x).length : Int) > 1) = true := decide_eq_true (by omega)
   refine xg ?_
   refine xb 2 [.int .u64 0, .int .u64 0] 24 (fun g0 => ?_)
   refine xz [] [] ?_
   refine xg ?_
   refine xn 1 [] [(4, .agg #[.int .u64 0, .int .u64 0])] ?_
   refine xb 3 [.int .u64 0, .int .u64 0] 24 (fun g1 => ?_)
   refine xy [(2, [1])] [] [] ?_
   refine SW_seq ?_
   refine xr [] [(7, .bool (decide ((((List.length (ofN B64 x)) : Nat) : Int) > 0)))] ?_
   refine xst z1 ?_
   refine SW_region ?_
   refine xn 1 [] [(8, .slice (some ad) (List.length (ofN B64 x)) c)] ?_
   refine xfi 9 22 (ad) (List.length (ofN B64 x)) (c) 0 IntKind.i64 (0) ⟨rfl⟩ (by omega) ?_
   refine xfl 10 zi0 (0) (by omega) ?_
   refine xy [(4, [1])] [] [(1, [.int .u64 0, .int .u64 (rd (ofN B64 x) (0 : Int))])] ?_
   refine SW_seq ?_
   refine xr [] [(14, .bool (decide ((((List.length (ofN B64 x)) : Nat) : Int) > 1)))] ?_
   refine xst z2 ?_
   refine SW_region ?_
   refine xn 1 [] [(15, .slice (some ad) (List.length (ofN B64 x)) c)] ?_
   refine xfi 16 22 (ad) (List.length (ofN B64 x)) (c) 1 IntKind.i64 (1) ⟨rfl⟩ (by omega) ?_
   refine xfl 17 zi0 (1) (by omega) ?_
   refine xy [(4, [1])] [] [(1, [.int .u64 (rd (ofN B64 x) (1 : Int)), .int .u64 (rd (ofN B64 x) 0)])] ?_
   refine xq [(0, [1]), (1, [0])] [] [(0, [.int .u64 (rd (ofN B64 x) 1), .int .u64 (rd (ofN B64 x) 0)])] ?_
   refine SW_ret ?_
   refine xe () (.agg #[.int .u64 (rd (ofN B64 x) 1), .int .u64 (rd (ofN B64 x) 0)]) [0] ?_ trivial
   rw [show (1 : Int) = ((1 : Nat) : Int) from rfl, show (0 : Int) = ((0 : Nat) : Int) from rfl, rd_limb, rd_limb, Nat.pow_zero, Nat.div_one, Nat.pow_one]
   unfold hiI loI
   rw [show B64 = 18446744073709551616 from rfl, Nat.mod_eq_of_lt (a := x / 18446744073709551616) (by have : x < 340282366920938463463374607431768211456 := hx; omega)]
  ·have z2 : decide (((ofN B64 x).length : Int) > 1) = false := decide_eq_false (by omega)
   have h1 := ofN_val_lt x (show (ofN B64 x).length ≤ 1 by omega)
   refine xg ?_
   refine xb 2 [.int .u64 0, .int .u64 0] 24 (fun g0 => ?_)
   refine xz [] [] ?_
   refine xg ?_
   refine xn 1 [] [(4, .agg #[.int .u64 0, .int .u64 0])] ?_
   refine xb 3 [.int .u64 0, .int .u64 0] 24 (fun g1 => ?_)
   refine xy [(2, [1])] [] [] ?_
   refine SW_seq ?_
   refine xr [] [(7, .bool (decide ((((List.length (ofN B64 x)) : Nat) : Int) > 0)))] ?_
   refine xst z1 ?_
   refine SW_region ?_
   refine xn 1 [] [(8, .slice (some ad) (List.length (ofN B64 x)) c)] ?_
   refine xfi 9 22 (ad) (List.length (ofN B64 x)) (c) 0 IntKind.i64 (0) ⟨rfl⟩ (by omega) ?_
   refine xfl 10 zi0 (0) (by omega) ?_
   refine xy [(4, [1])] [] [(1, [.int .u64 0, .int .u64 (rd (ofN B64 x) (0 : Int))])] ?_
   refine SW_seq ?_
   refine xr [] [(14, .bool (decide ((((List.length (ofN B64 x)) : Nat) : Int) > 1)))] ?_
   refine xsf z2 ?_
   refine SW_skip ?_
   refine xq [(0, [1]), (1, [0])] [] [(0, [.int .u64 0, .int .u64 (rd (ofN B64 x) 0)])] ?_
   refine SW_ret ?_
   refine xe () (.agg #[.int .u64 0, .int .u64 (rd (ofN B64 x) 0)]) [0] ?_ trivial
   rw [show (0 : Int) = ((0 : Nat) : Int) from rfl, rd_limb, Nat.pow_zero, Nat.div_one]
   unfold hiI loI
   rw [show B64 = 18446744073709551616 from rfl, Nat.div_eq_of_lt h1]
 ·have z1 : decide (((ofN B64 x).length : Int) > 0) = false := decide_eq_false (by omega)
  have z2 : decide (((ofN B64 x).length : Int) > 1) = false := decide_eq_false (by omega)
  have hx0 : x = 0 := h0.1 (by omega)
  refine xg ?_
  refine xb 2 [.int .u64 0, .int .u64 0] 24 (fun g0 => ?_)
  refine xz [] [] ?_
  refine xg ?_
  refine xn 1 [] [(4, .agg #[.int .u64 0, .int .u64 0])] ?_
  refine xb 3 [.int .u64 0, .int .u64 0] 24 (fun g1 => ?_)
  refine xy [(2, [1])] [] [] ?_
  refine SW_seq ?_
  refine xr [] [(7, .bool (decide ((((List.length (ofN B64 x)) : Nat) : Int) > 0)))] ?_
  refine xsf z1 ?_
  refine SW_skip ?_
  refine SW_seq ?_
  refine xr [] [(14, .bool (decide ((((List.length (ofN B64 x)) : Nat) : Int) > 1)))] ?_
  refine xsf z2 ?_
  refine SW_skip ?_
  refine xq [(0, [1]), (1, [0])] [] [] ?_
  refine SW_ret ?_
  refine xe () (.agg #[.int .u64 0, .int .u64 0]) [0] ?_ trivial
  rw [hx0]
  rfl
end Go.Proofs.Ytlfpjlfmjojimaa.M
end
section
namespace Go.Proofs.Ytlfpjlfmjojimaa.M
open Go.RowKit Go.Proofs.Ytlfpjlfmjojimaa.G Go.Proofs.YtlfpjlfmjojimaaV.PrintWords Go.Proofs.YtlfpjlfmjojimaaV.PrintLast Go.Proofs.Ytlfpjlfmjojimaa.X
set_option linter.unusedVariables false
set_option linter.unusedSimpArgs false
def powV (k w : Int) (p : Nat × Int × Bool) : Value := .agg #[.int .i64 k, .int .i64 w, .int .u64 (hiI p.1), .int .u64 (loI p.1), .int .i64 p.2.1, .bool p.2.2, .bool true]
def powP (e m w : Nat) : Nat × Int × Bool := if m ≤ w then (10 ^ e * 2 ^ (w - m), (m : Int) - w, true) else (10 ^ e / 2 ^ (m - w), (m : Int) - w, decide (10 ^ e % 2 ^ (m - w) = 0))
def powM (e m w : Nat) : Nat × Int × Bool := (2 ^ (m + w - 1) / 10 ^ e, -(m : Int) - w + 1, decide (2 ^ (m + w - 1) % 10 ^ e = 0))
theorem two5 : ∀ j : Nat, 2 ^ j % 5 ≠ 0
 | 0 => by decide
 | j + 1 => by have := two5 j; rw [Nat.pow_succ]; omega
theorem powP_lt {e m w : Nat} (hm : IsBits (10 ^ e) m) (hw : w ≤ 128) : (powP e m w).1 < B128 := by
 have h1 := hm.1
 have h2 : 2 ^ w ≤ B128 := Nat.pow_le_pow_right (by decide) hw
 unfold powP
 split
 ·rename_i h
  refine Nat.lt_of_lt_of_le (Nat.mul_lt_mul_of_pos_right h1 (Nat.pow_pos (by decide))) ?_
  rw [← Nat.pow_add, show m + (w - m) = w by omega]
  exact h2
 ·rename_i h
  refine Nat.lt_of_lt_of_le ((Nat.div_lt_iff_lt_mul (Nat.pow_pos (by decide))).2 ?_) h2
  rw [← Nat.pow_add, show w + (m - w) = m by omega]
  exact h1
theorem powM_lt {e m w : Nat} (h0 : 0 < e) (hm : IsBits (10 ^ e) m) (hm0 : 0 < m) (hw : w ≤ 128) (hw0 : 1 ≤ w) : (powM e m w).1 < B128 := by
 have h2 : 2 ^ w ≤ B128 := Nat.pow_le_pow_right (by decide) hw
 have h3 : 2 ^ (m - 1) ≤ 10 ^ e := hm.2.resolve_left (by omega)
 have h4 : 10 ^ e % 5 = 0 := by
  obtain ⟨j, rfl⟩ : ∃ j, e = j + 1 := ⟨e - 1, by omega⟩
  rw [Nat.pow_succ]
  omega
 have h5 := two5 (m - 1)
 have h6 : 2 ^ (m - 1) < 10 ^ e := Nat.lt_of_le_of_ne h3 (fun z => h5 (z ▸ h4))
 unfold powM
 refine Nat.lt_of_lt_of_le ((Nat.div_lt_iff_lt_mul (Nat.pow_pos (by decide))).2 ?_) h2
 rw [show m + w - 1 = w + (m - 1) by omega, Nat.pow_add]
 exact Nat.mul_lt_mul_of_pos_left h6 (Nat.pow_pos (by decide))
theorem ct_impl_nat_shift_l (x : Nat) (A : Option Addr) (c : Nat) (i : Nat) (hi : i ≤ 1000000) (hx : Sm x) : CtR Try.prog 46 [.slice A (ofN B64 x).length c, .int .i64 (i : Int)] [Row .u64 A c (ofN B64 x)] .u64 (ofN B64 (x * 2 ^ i)) := by
 have z1 : decide ((i : Int) < 0) = false := decide_eq_false (by omega)
 have n1 : Nn (i : Int) i := ⟨rfl⟩
 refine ct_of Try.func46 rfl (by kernel_rfl) (fun B w0 => ?_)
 refine xr [] [(4, .slice none 0 0)] ?_
 refine SW_seq ?_
 refine xr [] [(6, .bool (decide ((i : Int) < 0)))] ?_
 refine xsf z1 ?_
 refine SW_skip ?_
 refine xg ?_
 refine xn 2 [] [(12, .int .i64 (i : Int)), (11, .slice A (List.length (ofN B64 x)) c)] ?_
 refine xcr 13 (ct_impl_nat_left (x) (A) (c) ((i : Int)) (i) n1 hi hx) (zsS zi0 zs0) (fun A0 k0 => ?_)
 refine xz [] [(4, .slice A0 (List.length (ofN B64 (x * 2 ^ i))) k0)] ?_
 refine SW_ret ?_
 refine xe (A0, k0) (.slice A0 (List.length (ofN B64 (x * 2 ^ i))) k0) [] ?_ (zsS zi0 zs0)
 rfl
theorem ct_impl_nat_shift_r (x : Nat) (A : Option Addr) (c : Nat) (a : Int) (i : Nat) (ha : a = -(i : Int)) (h0 : 0 < i) (hi : i ≤ 1000000) (hx : Sm x) : CtR Try.prog 46 [.slice A (ofN B64 x).length c, .int .i64 a] [Row .u64 A c (ofN B64 x)] .u64 (ofN B64 (x / 2 ^ i)) := by
 have z1 : decide (a < 0) = true := decide_eq_true (by omega)
 have n1 : Nn (IntKind.i64.wrap (0 - a)) i := ⟨by rw [wrap_i64 (by omega)]; omega⟩
 refine ct_of Try.func46 rfl (by kernel_rfl) (fun B w0 => ?_)
 refine xr [] [(4, .slice none 0 0)] ?_
 refine SW_seq ?_
 refine xr [] [(6, .bool (decide (a < 0)))] ?_
 refine xst z1 ?_
 refine xg ?_
 refine xn 3 [] [(9, .int .i64 (IntKind.wrap IntKind.i64 (0 - a))), (7, .slice A (List.length (ofN B64 x)) c)] ?_
 refine xcr 10 (ct_impl_nat_right (x) (A) (c) (IntKind.wrap IntKind.i64 (0 - a)) (i) n1 (by omega) hx) (zsS zi0 zs0) (fun A0 k0 => ?_)
 refine xz [] [(4, .slice A0 (List.length (ofN B64 (x / 2 ^ i))) k0)] ?_
 refine SW_ret ?_
 refine xe (A0, k0) (.slice A0 (List.length (ofN B64 (x / 2 ^ i))) k0) [] ?_ (zsS zi0 zs0)
 rfl
theorem ct_spec_TenPower_neg (k : Int) (e m w : Nat) (hk : k = -(e : Int)) (h0 : 0 < e) (he : e ≤ 5200) (hm : IsBits (10 ^ e) m) (hw0 : 1 ≤ w) (hw : w ≤ 128) (p : Nat × Int × Bool) (hp : powM e m w = p) : CtV Try.prog 6 [.int .i64 k, .int .i64 (w : Int)] [] (powV k w p) := by
 have hm3 := ten_bits hm he
 have hlt := powM_lt h0 hm hm3.1 hw hw0
 subst hp
 unfold powV
 unfold powM at hlt ⊢
 dsimp only at hlt ⊢
 have z1 : decide (k > 5200) = false := decide_eq_false (by omega)
 have z2 : decide (k < -5200) = false := decide_eq_false (by omega)
 have z3 : decide (k ≥ 0) = false := decide_eq_false (by omega)
 have z4 : decide ((w : Int) < 1) = false := decide_eq_false (by omega)
 have z5 : decide ((w : Int) > 128) = false := decide_eq_false (by omega)
 have ct := ct_spec_TenBits_neg k e m hk h0 he hm
 have s1 := ten_sm' (e := e) (by omega)
 have v1 : Ve (IntKind.i64.wrap (-(m : Int) - (w : Int))) (-(m : Int) - (w : Int)) := ⟨wrap_i64 (by omega)⟩
 have v2 : Ve (IntKind.i64.wrap (-(m : Int) - (w : Int) + 1)) (-(m : Int) - (w : Int) + 1) := ⟨wrap_i64 (by omega)⟩
 have z6 : decide (-(m : Int) - (w : Int) + 1 ≥ 0) = false := decide_eq_false (by omega)
 have n0 : Nn (IntKind.i64.wrap (0 - k)) e := ⟨by rw [wrap_i64 (by omega)]; omega⟩
 have n1 : Nn (IntKind.i64.wrap (0 - (-(m : Int) - (w : Int) + 1))) (m + w - 1) := ⟨by rw [wrap_i64 (by omega)]; omega⟩
 have n2 : Nn (1 : Int) 1 := ⟨rfl⟩
 have b1 : (1 : Nat) * 2 ^ (m + w - 1) = 2 ^ (m + w - 1) := Nat.one_mul _
 have s2 : Sm (2 ^ (m + w - 1)) := Sm.of (k := m + w) (Nat.pow_lt_pow_right (by decide) (by omega)) (by omega)
 have s3 : Sm 1 := Sm.of (k := 1) (by decide) (by decide)
 have cl := fun A c => ct_spec_l1Left 1 A c _ _ n1 (by omega) s3
 rw [b1] at cl
 have cd := fun A c A' c' => ct_spec_l1Div (2 ^ (m + w - 1)) (10 ^ e) A A' c c' s2 s1 (Nat.pow_pos (by decide))
 have zl : ((((ofN B32 (2 ^ (m + w - 1) % 10 ^ e)).length : Nat) : Int) == 0) = decide (2 ^ (m + w - 1) % 10 ^ e = 0) := by
  rw [Bool.eq_iff_iff, beq_iff_eq, decide_eq_true_iff]
  have := ofN_zero B32_2 (2 ^ (m + w - 1) % 10 ^ e)
  omega
 refine ct_of Try.func6 rfl (by kernel_rfl) (fun B w0 => ?_)
 refine xg ?_
 refine xb 4 [.int .i64 0, .int .i64 0, .int .u64 0, .int .u64 0, .int .i64 0, .bool false, .bool false] 26 (fun g0 => ?_)
 refine xz [] [] ?_
 refine SW_seq ?_
 refine xg ?_
 refine xn 3 [] [(12, .bool (decide (k > 5200)))] ?_
 refine xkf 12 z1 ?_
 refine xn 7 [] [(16, .bool (decide (k < -5200)))] ?_
 refine xkf 16 z2 ?_
 refine xn 11 [] [(20, .bool (decide ((w : Int) < 1)))] ?_
 refine xkf 20 z4 ?_
 refine xz [] [(23, .bool (decide ((w : Int) > 128)))] ?_
 refine xsf z5 ?_
 refine SW_skip ?_
 refine xg ?_
 refine xn 1 [] [(25, .int .i64 k)] ?_
 refine xcv 26 ct zs0 ?_
 refine xn 3 [] [(27, .int .i64 (w : Int))] ?_
 refine xve 28 IntKind.i64 (IntKind.wrap IntKind.i64 (-(m : Int) - (w : Int))) (-(m : Int) - (w : Int)) v1 ?_
 refine xve 29 IntKind.i64 (IntKind.wrap IntKind.i64 (-(m : Int) - (w : Int) + 1)) (-(m : Int) - (w : Int) + 1) v2 ?_
 refine xz [] [(5, .int .i64 (-(m : Int) - (w : Int) + 1))] ?_
 refine xg ?_
 refine xcr 30 (ct_spec_l1Of (1) (1) n2 (by omega)) zs0 (fun A0 k0 => ?_)
 refine xz [] [(6, .slice A0 (List.length (ofN B32 1)) k0)] ?_
 refine xg ?_
 refine xcr 31 (ct_spec_l1Of (1) (1) n2 (by omega)) zs0 (fun A1 k1 => ?_)
 refine xz [] [(7, .slice A1 (List.length (ofN B32 1)) k1)] ?_
 refine SW_seq ?_
 refine xr [] [(33, .bool (decide (k ≥ 0)))] ?_
 refine xsf z3 ?_
 refine SW_region ?_
 refine xn 2 [] [(37, .int .i64 (IntKind.wrap IntKind.i64 (0 - k)))] ?_
 refine xcr 38 (ct_spec_l1Ten (IntKind.wrap IntKind.i64 (0 - k)) (e) n0 (by omega)) zs0 (fun A2 k2 => ?_)
 refine xz [] [(7, .slice A2 (List.length (ofN B32 (10 ^ e))) k2)] ?_
 refine SW_seq ?_
 refine xr [] [(40, .bool (decide (-(m : Int) - (w : Int) + 1 ≥ 0)))] ?_
 refine xsf z6 ?_
 refine SW_region ?_
 refine xn 3 [] [(46, .int .i64 (IntKind.wrap IntKind.i64 (0 - (-(m : Int) - (w : Int) + 1)))), (44, .slice A0 (List.length (ofN B32 1)) k0)] ?_
 refine xcr 47 (cl _ _) (zsS (ziS (ziS zi0)) zs0) (fun A3 k3 => ?_)
 refine xz [] [(6, .slice A3 (List.length (ofN B32 (2 ^ (m + w - 1)))) k3)] ?_
 refine xg ?_
 refine xn 2 [] [(50, .slice A2 (List.length (ofN B32 (10 ^ e))) k2), (49, .slice A3 (List.length (ofN B32 (2 ^ (m + w - 1)))) k3)] ?_
 refine xcw 51 (cd _ _ _ _) (zsS zi0 (zsS (ziS zi0) zs0)) (fun A4 k4 A5 k5 => ?_)
 refine xz [] [(9, .slice A5 (List.length (ofN B32 (2 ^ (m + w - 1) % 10 ^ e))) k5), (8, .slice A4 (List.length (ofN B32 (2 ^ (m + w - 1) / 10 ^ e))) k4)] ?_
 refine xg ?_
 refine xn 3 [] [(56, .slice A4 (List.length (ofN B32 (2 ^ (m + w - 1) / 10 ^ e))) k4), (55, .int .i64 (w : Int)), (54, .int .i64 k)] ?_
 refine xcv 57 (ct_spec_l2Word (2 ^ (m + w - 1) / 10 ^ e) (A4) (k4) hlt) (zsS zi0 zs0) ?_
 refine xy [(9, [0])] [] [(0, [.int .i64 k, .int .i64 (w : Int), .int .u64 (hiI (2 ^ (m + w - 1) / 10 ^ e)), .int .u64 (loI (2 ^ (m + w - 1) / 10 ^ e)), .int .i64 (-(m : Int) - (w : Int) + 1), .bool ((((List.length (ofN B32 (2 ^ (m + w - 1) % 10 ^ e))) : Nat) : Int) == 0), .bool true])] ?_
 refine SW_ret ?_
 refine xe () (.agg #[.int .i64 k, .int .i64 (w : Int), .int .u64 (hiI (2 ^ (m + w - 1) / 10 ^ e)), .int .u64 (loI (2 ^ (m + w - 1) / 10 ^ e)), .int .i64 (-(m : Int) - (w : Int) + 1), .bool ((((List.length (ofN B32 (2 ^ (m + w - 1) % 10 ^ e))) : Nat) : Int) == 0), .bool true]) [0] ?_ trivial
 rw [zl]
theorem powP_ge {e m w : Nat} (h : w ≤ m) : powP e m w = (10 ^ e / 2 ^ (m - w), (m : Int) - w, decide (10 ^ e % 2 ^ (m - w) = 0)) := by
 unfold powP
 split
 ·obtain rfl : m = w := by omega
  rw [Nat.sub_self, Nat.pow_zero, Nat.mul_one, Nat.div_one, Nat.mod_one]
  rfl
 ·rfl
theorem zlen (x : Nat) : ((((ofN B32 x).length : Nat) : Int) == 0) = decide (x = 0) := by
 rw [Bool.eq_iff_iff, beq_iff_eq, decide_eq_true_iff]
 have := ofN_zero B32_2 x
 omega
theorem ct_spec_TenPower_pos (e m w : Nat) (he : e ≤ 5200) (hm : IsBits (10 ^ e) m) (hw0 : 1 ≤ w) (hw : w ≤ 128) (p : Nat × Int × Bool) (hp : powP e m w = p) : CtV Try.prog 6 [.int .i64 (e : Int), .int .i64 (w : Int)] [] (powV (e : Int) w p) := by
 have hm3 := ten_bits hm he
 have hlt := powP_lt hm hw
 rw [hp] at hlt
 have z1 : decide ((e : Int) > 5200) = false := decide_eq_false (by omega)
 have z2 : decide ((e : Int) < -5200) = false := decide_eq_false (by omega)
 have z3 : decide ((e : Int) ≥ 0) = true := decide_eq_true (by omega)
 have z4 : decide ((w : Int) < 1) = false := decide_eq_false (by omega)
 have z5 : decide ((w : Int) > 128) = false := decide_eq_false (by omega)
 have ct := ct_spec_TenBits_pos e m he hm
 have s1 := ten_sm' (e := e) (by omega)
 have v1 : Ve (IntKind.i64.wrap ((m : Int) - 1 - (w : Int))) ((m : Int) - 1 - (w : Int)) := ⟨wrap_i64 (by omega)⟩
 have v2 : Ve (IntKind.i64.wrap ((m : Int) - 1 - (w : Int) + 1)) ((m : Int) - (w : Int)) := ⟨by rw [wrap_i64 (by omega)]; omega⟩
 have n0 : Nn (e : Int) e := ⟨rfl⟩
 have n2 : Nn (1 : Int) 1 := ⟨rfl⟩
 have s3 : Sm 1 := Sm.of (k := 1) (by decide) (by decide)
 by_cases hc : w ≤ m
 ·have z6 : decide ((m : Int) - (w : Int) ≥ 0) = true := decide_eq_true (by omega)
  have n1 : Nn ((m : Int) - (w : Int)) (m - w) := ⟨by omega⟩
  have s2 : Sm (2 ^ (m - w)) := Sm.of (k := m - w + 1) (Nat.pow_lt_pow_right (by decide) (by omega)) (by omega)
  have cl := fun A c => ct_spec_l1Left 1 A c _ _ n1 (by omega) s3
  rw [Nat.one_mul] at cl
  have cd := fun A c A' c' => ct_spec_l1Div (10 ^ e) (2 ^ (m - w)) A A' c c' s1 s2 (Nat.pow_pos (by decide))
  rw [powP_ge hc] at hp
  subst hp
  dsimp only at hlt
  have zl := zlen (10 ^ e % 2 ^ (m - w))
  refine ct_of Try.func6 rfl (by kernel_rfl) (fun B w0 => ?_)
  refine xg ?_
  refine xb 4 [.int .i64 0, .int .i64 0, .int .u64 0, .int .u64 0, .int .i64 0, .bool false, .bool false] 26 (fun g0 => ?_)
  refine xz [] [] ?_
  refine SW_seq ?_
  refine xg ?_
  refine xn 3 [] [(12, .bool (decide ((e : Int) > 5200)))] ?_
  refine xkf 12 z1 ?_
  refine xn 11 [] [(20, .bool (decide ((w : Int) < 1)))] ?_
  refine xkf 20 z4 ?_
  refine xz [] [(23, .bool (decide ((w : Int) > 128)))] ?_
  refine xsf z5 ?_
  refine SW_skip ?_
  refine xg ?_
  refine xn 1 [] [(25, .int .i64 (e : Int))] ?_
  refine xcv 26 ct zs0 ?_
  refine xn 3 [] [(27, .int .i64 (w : Int))] ?_
  refine xve 28 IntKind.i64 (IntKind.wrap IntKind.i64 ((m : Int) - 1 - (w : Int))) ((m : Int) - 1 - (w : Int)) v1 ?_
  refine xve 29 IntKind.i64 (IntKind.wrap IntKind.i64 ((m : Int) - 1 - (w : Int) + 1)) ((m : Int) - (w : Int)) v2 ?_
  refine xz [] [(5, .int .i64 ((m : Int) - (w : Int)))] ?_
  refine xg ?_
  refine xcr 30 (ct_spec_l1Of (1) (1) n2 (by omega)) zs0 (fun A0 k0 => ?_)
  refine xz [] [(6, .slice A0 (List.length (ofN B32 1)) k0)] ?_
  refine xg ?_
  refine xcr 31 (ct_spec_l1Of (1) (1) n2 (by omega)) zs0 (fun A1 k1 => ?_)
  refine xz [] [(7, .slice A1 (List.length (ofN B32 1)) k1)] ?_
  refine SW_seq ?_
  refine xr [] [(33, .bool (decide ((e : Int) ≥ 0)))] ?_
  refine xst z3 ?_
  refine SW_region ?_
  refine xn 1 [] [(34, .int .i64 (e : Int))] ?_
  refine xcr 35 (ct_spec_l1Ten ((e : Int)) (e) n0 (by omega)) zs0 (fun A2 k2 => ?_)
  refine xz [] [(6, .slice A2 (List.length (ofN B32 (10 ^ e))) k2)] ?_
  refine SW_seq ?_
  refine xr [] [(40, .bool (decide ((m : Int) - (w : Int) ≥ 0)))] ?_
  refine xst z6 ?_
  refine SW_region ?_
  refine xn 2 [] [(42, .int .i64 ((m : Int) - (w : Int))), (41, .slice A1 (List.length (ofN B32 1)) k1)] ?_
  refine xcr 43 (cl _ _) (zsS (ziS zi0) zs0) (fun A3 k3 => ?_)
  refine xz [] [(7, .slice A3 (List.length (ofN B32 (2 ^ (m - w)))) k3)] ?_
  refine xg ?_
  refine xn 2 [] [(50, .slice A3 (List.length (ofN B32 (2 ^ (m - w)))) k3), (49, .slice A2 (List.length (ofN B32 (10 ^ e))) k2)] ?_
  refine xcw 51 (cd _ _ _ _) (zsS (ziS zi0) (zsS zi0 zs0)) (fun A4 k4 A5 k5 => ?_)
  refine xz [] [(9, .slice A5 (List.length (ofN B32 (10 ^ e % 2 ^ (m - w)))) k5), (8, .slice A4 (List.length (ofN B32 (10 ^ e / 2 ^ (m - w)))) k4)] ?_
  refine xg ?_
  refine xn 3 [] [(56, .slice A4 (List.length (ofN B32 (10 ^ e / 2 ^ (m - w)))) k4), (55, .int .i64 (w : Int)), (54, .int .i64 (e : Int))] ?_
  refine xcv 57 (ct_spec_l2Word (10 ^ e / 2 ^ (m - w)) (A4) (k4) hlt) (zsS zi0 zs0) ?_
  refine xy [(9, [0])] [] [(0, [.int .i64 (e : Int), .int .i64 (w : Int), .int .u64 (hiI (10 ^ e / 2 ^ (m - w))), .int .u64 (loI (10 ^ e / 2 ^ (m - w))), .int .i64 ((m : Int) - (w : Int)), .bool ((((List.length (ofN B32 (10 ^ e % 2 ^ (m - w)))) : Nat) : Int) == 0), .bool true])] ?_
  refine SW_ret ?_
  refine xe () (.agg #[.int .i64 (e : Int), .int .i64 (w : Int), .int .u64 (hiI (10 ^ e / 2 ^ (m - w))), .int .u64 (loI (10 ^ e / 2 ^ (m - w))), .int .i64 ((m : Int) - (w : Int)), .bool ((((List.length (ofN B32 (10 ^ e % 2 ^ (m - w)))) : Nat) : Int) == 0), .bool true]) [0] ?_ trivial
  rw [zl]
  rfl
 ·have z6 : decide ((m : Int) - (w : Int) ≥ 0) = false := decide_eq_false (by omega)
  have n1 : Nn (IntKind.i64.wrap (0 - ((m : Int) - (w : Int)))) (w - m) := ⟨by rw [wrap_i64 (by omega)]; omega⟩
  have s2 : Sm (10 ^ e * 2 ^ (w - m)) := Sm.of (k := m + (w - m)) (by rw [Nat.pow_add]; exact Nat.mul_lt_mul_of_pos_right hm.1 (Nat.pow_pos (by decide))) (by omega)
  have cl := fun A c => ct_spec_l1Left (10 ^ e) A c _ _ n1 (by omega) s1
  have cd := fun A c A' c' => ct_spec_l1Div (10 ^ e * 2 ^ (w - m)) 1 A A' c c' s2 s3 (by decide)
  rw [Nat.div_one, Nat.mod_one] at cd
  unfold powP at hp
  rw [if_pos (by omega)] at hp
  subst hp
  dsimp only at hlt
  have zl := zlen 0
  refine ct_of Try.func6 rfl (by kernel_rfl) (fun B w0 => ?_)
  refine xg ?_
  refine xb 4 [.int .i64 0, .int .i64 0, .int .u64 0, .int .u64 0, .int .i64 0, .bool false, .bool false] 26 (fun g0 => ?_)
  refine xz [] [] ?_
  refine SW_seq ?_
  refine xg ?_
  refine xn 3 [] [(12, .bool (decide ((e : Int) > 5200)))] ?_
  refine xkf 12 z1 ?_
  refine xn 11 [] [(20, .bool (decide ((w : Int) < 1)))] ?_
  refine xkf 20 z4 ?_
  refine xz [] [(23, .bool (decide ((w : Int) > 128)))] ?_
  refine xsf z5 ?_
  refine SW_skip ?_
  refine xg ?_
  refine xn 1 [] [(25, .int .i64 (e : Int))] ?_
  refine xcv 26 ct zs0 ?_
  refine xn 3 [] [(27, .int .i64 (w : Int))] ?_
  refine xve 28 IntKind.i64 (IntKind.wrap IntKind.i64 ((m : Int) - 1 - (w : Int))) ((m : Int) - 1 - (w : Int)) v1 ?_
  refine xve 29 IntKind.i64 (IntKind.wrap IntKind.i64 ((m : Int) - 1 - (w : Int) + 1)) ((m : Int) - (w : Int)) v2 ?_
  refine xz [] [(5, .int .i64 ((m : Int) - (w : Int)))] ?_
  refine xg ?_
  refine xcr 30 (ct_spec_l1Of (1) (1) n2 (by omega)) zs0 (fun A0 k0 => ?_)
  refine xz [] [(6, .slice A0 (List.length (ofN B32 1)) k0)] ?_
  refine xg ?_
  refine xcr 31 (ct_spec_l1Of (1) (1) n2 (by omega)) zs0 (fun A1 k1 => ?_)
  refine xz [] [(7, .slice A1 (List.length (ofN B32 1)) k1)] ?_
  refine SW_seq ?_
  refine xr [] [(33, .bool (decide ((e : Int) ≥ 0)))] ?_
  refine xst z3 ?_
  refine SW_region ?_
  refine xn 1 [] [(34, .int .i64 (e : Int))] ?_
  refine xcr 35 (ct_spec_l1Ten ((e : Int)) (e) n0 (by omega)) zs0 (fun A2 k2 => ?_)
  refine xz [] [(6, .slice A2 (List.length (ofN B32 (10 ^ e))) k2)] ?_
  refine SW_seq ?_
  refine xr [] [(40, .bool (decide ((m : Int) - (w : Int) ≥ 0)))] ?_
  refine xsf z6 ?_
  refine SW_region ?_
  refine xn 3 [] [(46, .int .i64 (IntKind.wrap IntKind.i64 (0 - ((m : Int) - (w : Int))))), (44, .slice A2 (List.length (ofN B32 (10 ^ e))) k2)] ?_
  refine xcr 47 (cl _ _) (zsS zi0 zs0) (fun A3 k3 => ?_)
  refine xz [] [(6, .slice A3 (List.length (ofN B32 (10 ^ e * 2 ^ (w - m)))) k3)] ?_
  refine xg ?_
  refine xn 2 [] [(50, .slice A1 (List.length (ofN B32 1)) k1), (49, .slice A3 (List.length (ofN B32 (10 ^ e * 2 ^ (w - m)))) k3)] ?_
  refine xcw 51 (cd _ _ _ _) (zsS zi0 (zsS (ziS (ziS zi0)) zs0)) (fun A4 k4 A5 k5 => ?_)
  refine xz [] [(9, .slice A5 (List.length (ofN B32 0)) k5), (8, .slice A4 (List.length (ofN B32 (10 ^ e * 2 ^ (w - m)))) k4)] ?_
  refine xg ?_
  refine xn 3 [] [(56, .slice A4 (List.length (ofN B32 (10 ^ e * 2 ^ (w - m)))) k4), (55, .int .i64 (w : Int)), (54, .int .i64 (e : Int))] ?_
  refine xcv 57 (ct_spec_l2Word (10 ^ e * 2 ^ (w - m)) (A4) (k4) hlt) (zsS zi0 zs0) ?_
  refine xy [(9, [0])] [] [(0, [.int .i64 (e : Int), .int .i64 (w : Int), .int .u64 (hiI (10 ^ e * 2 ^ (w - m))), .int .u64 (loI (10 ^ e * 2 ^ (w - m))), .int .i64 ((m : Int) - (w : Int)), .bool ((((List.length (ofN B32 0)) : Nat) : Int) == 0), .bool true])] ?_
  refine SW_ret ?_
  refine xe () (.agg #[.int .i64 (e : Int), .int .i64 (w : Int), .int .u64 (hiI (10 ^ e * 2 ^ (w - m))), .int .u64 (loI (10 ^ e * 2 ^ (w - m))), .int .i64 ((m : Int) - (w : Int)), .bool ((((List.length (ofN B32 0)) : Nat) : Int) == 0), .bool true]) [0] ?_ trivial
  rw [zl]
  rfl
theorem ct_impl_tenPower_neg (k : Int) (e m w : Nat) (hk : k = -(e : Int)) (h0 : 0 < e) (he : e ≤ 5200) (hm : IsBits (10 ^ e) m) (hw0 : 1 ≤ w) (hw : w ≤ 128) (p : Nat × Int × Bool) (hp : powM e m w = p) : CtV Try.prog 63 [.int .i64 k, .int .i64 (w : Int)] [] (powV k w p) := by
 have hm3 := ten_bits hm he
 have hlt := powM_lt h0 hm hm3.1 hw hw0
 subst hp
 unfold powV
 unfold powM at hlt ⊢
 dsimp only at hlt ⊢
 have z1 : decide (k > 5200) = false := decide_eq_false (by omega)
 have z2 : decide (k < -5200) = false := decide_eq_false (by omega)
 have z3 : decide (k ≥ 0) = false := decide_eq_false (by omega)
 have z4 : decide ((w : Int) < 1) = false := decide_eq_false (by omega)
 have z5 : decide ((w : Int) > 128) = false := decide_eq_false (by omega)
 have ct := ct_impl_TenBits_neg k e m hk h0 he hm
 have s1 := ten_sm' (e := e) (by omega)
 have v1 : Ve (IntKind.i64.wrap (-(m : Int) - (w : Int))) (-(m : Int) - (w : Int)) := ⟨wrap_i64 (by omega)⟩
 have v2 : Ve (IntKind.i64.wrap (-(m : Int) - (w : Int) + 1)) (-(m : Int) - (w : Int) + 1) := ⟨wrap_i64 (by omega)⟩
 have n0 : Nn (IntKind.i64.wrap (0 - k)) e := ⟨by rw [wrap_i64 (by omega)]; omega⟩
 have n1 : Nn (IntKind.i64.wrap (0 - (-(m : Int) - (w : Int) + 1))) (m + w - 1) := ⟨by rw [wrap_i64 (by omega)]; omega⟩
 have n2 : Nn (1 : Int) 1 := ⟨rfl⟩
 have s2 : Sm (2 ^ (m + w - 1)) := Sm.of (k := m + w) (Nat.pow_lt_pow_right (by decide) (by omega)) (by omega)
 have s3 : Sm 1 := Sm.of (k := 1) (by decide) (by decide)
 have cl := fun A c => ct_impl_nat_left 1 A c _ _ n1 (by omega) s3
 rw [Nat.one_mul] at cl
 have cd := fun A c A' c' => ct_impl_nat_div (2 ^ (m + w - 1)) (10 ^ e) A A' c c' s2 s1 (Nat.pow_pos (by decide))
 have zl : ((((ofN B64 (2 ^ (m + w - 1) % 10 ^ e)).length : Nat) : Int) == 0) = decide (2 ^ (m + w - 1) % 10 ^ e = 0) := by
  rw [Bool.eq_iff_iff, beq_iff_eq, decide_eq_true_iff]
  have := ofN_zero B64_2 (2 ^ (m + w - 1) % 10 ^ e)
  omega
 refine ct_of Try.func63 rfl (by kernel_rfl) (fun B w0 => ?_)
 refine xg ?_
 refine xb 4 [.int .i64 0, .int .i64 0, .int .u64 0, .int .u64 0, .int .i64 0, .bool false, .bool false] 26 (fun g0 => ?_)
 refine xz [] [] ?_
 refine SW_seq ?_
 refine xg ?_
 refine xn 3 [] [(12, .bool (decide (k < -5200)))] ?_
 refine xkf 12 z2 ?_
 refine xn 7 [] [(16, .bool (decide (k > 5200)))] ?_
 refine xkf 16 z1 ?_
 refine xn 11 [] [(20, .bool (decide ((w : Int) < 1)))] ?_
 refine xkf 20 z4 ?_
 refine xz [] [(23, .bool (decide ((w : Int) > 128)))] ?_
 refine xsf z5 ?_
 refine SW_skip ?_
 refine xg ?_
 refine xn 3 [] [(27, .int .i64 k), (26, .int .i64 (w : Int)), (25, .int .i64 k)] ?_
 refine xcv 28 ct zs0 ?_
 refine xn 5 [] [(29, .int .i64 (w : Int))] ?_
 refine xve 30 IntKind.i64 (IntKind.wrap IntKind.i64 (-(m : Int) - (w : Int))) (-(m : Int) - (w : Int)) v1 ?_
 refine xve 31 IntKind.i64 (IntKind.wrap IntKind.i64 (-(m : Int) - (w : Int) + 1)) (-(m : Int) - (w : Int) + 1) v2 ?_
 refine xn 8 [] [(32, .agg #[.int .i64 k, .int .i64 (w : Int), .int .u64 0, .int .u64 0, .int .i64 (-(m : Int) - (w : Int) + 1), .bool false, .bool true])] ?_
 refine xb 5 [.int .i64 0, .int .i64 0, .int .u64 0, .int .u64 0, .int .i64 0, .bool false, .bool false] 26 (fun g1 => ?_)
 refine xy [(9, [1])] [] [(1, [.int .i64 k, .int .i64 (w : Int), .int .u64 0, .int .u64 0, .int .i64 (-(m : Int) - (w : Int) + 1), .bool false, .bool true])] ?_
 refine SW_seq ?_
 refine xr [] [(34, .bool (decide (k ≥ 0)))] ?_
 refine xsf z3 ?_
 refine SW_skip ?_
 refine xd (fun hB => ?_)
 refine xdk [(1, []), (2, [1]), (3, []), (5, []), (6, [])] [(61, .int .i64 (IntKind.wrap IntKind.i64 (0 - k))), (58, .int .i64 (IntKind.wrap IntKind.i64 (0 - (-(m : Int) - (w : Int) + 1))))] hB ?_
 refine xdr 0 55 (ct_impl_word (1) (1) n2 (by omega)) zs0 (fun A0 k0 => ?_)
 refine xdr 4 59 (cl _ _) (zsS zi0 zs0) (fun A1 k1 => ?_)
 refine xdr 7 62 (ct_impl_ten (IntKind.wrap IntKind.i64 (0 - k)) (e) n0 (by omega)) zs0 (fun A2 k2 => ?_)
 refine xdw2 8 63 (cd _ _ _ _) (zsS (ziS zi0) (zsS zi0 zs0)) (fun A3 k3 A4 k4 => ?_)
 refine xdk [(9, []), (10, []), (11, []), (12, []), (13, [])] [(9, .slice A4 (List.length (ofN B64 (2 ^ (m + w - 1) % 10 ^ e))) k4), (8, .slice A3 (List.length (ofN B64 (2 ^ (m + w - 1) / 10 ^ e))) k3)] hB ?_
 refine xdz ?_
 refine xg ?_
 refine xn 1 [] [(66, .slice A3 (List.length (ofN B64 (2 ^ (m + w - 1) / 10 ^ e))) k3)] ?_
 refine xcv 67 (ct_impl_wordOf (2 ^ (m + w - 1) / 10 ^ e) (A3) (k3) hlt) (zsS zi0 zs0) ?_
 refine xy [(6, [1]), (8, [1])] [] [(1, [.int .i64 k, .int .i64 (w : Int), .int .u64 (hiI (2 ^ (m + w - 1) / 10 ^ e)), .int .u64 (loI (2 ^ (m + w - 1) / 10 ^ e)), .int .i64 (-(m : Int) - (w : Int) + 1), .bool ((((List.length (ofN B64 (2 ^ (m + w - 1) % 10 ^ e))) : Nat) : Int) == 0), .bool true])] ?_
 refine xq [(0, [1]), (1, [0])] [] [(0, [.int .i64 k, .int .i64 (w : Int), .int .u64 (hiI (2 ^ (m + w - 1) / 10 ^ e)), .int .u64 (loI (2 ^ (m + w - 1) / 10 ^ e)), .int .i64 (-(m : Int) - (w : Int) + 1), .bool ((((List.length (ofN B64 (2 ^ (m + w - 1) % 10 ^ e))) : Nat) : Int) == 0), .bool true])] ?_
 refine SW_ret ?_
 refine xe () (.agg #[.int .i64 k, .int .i64 (w : Int), .int .u64 (hiI (2 ^ (m + w - 1) / 10 ^ e)), .int .u64 (loI (2 ^ (m + w - 1) / 10 ^ e)), .int .i64 (-(m : Int) - (w : Int) + 1), .bool ((((List.length (ofN B64 (2 ^ (m + w - 1) % 10 ^ e))) : Nat) : Int) == 0), .bool true]) [0] ?_ trivial
 rw [zl]
theorem ct_impl_tenPower_pos (e m w : Nat) (he : e ≤ 5200) (hm : IsBits (10 ^ e) m) (hw0 : 1 ≤ w) (hw : w ≤ 128) (p : Nat × Int × Bool) (hp : powP e m w = p) : CtV Try.prog 63 [.int .i64 (e : Int), .int .i64 (w : Int)] [] (powV (e : Int) w p) := by
 have hm3 := ten_bits hm he
 have hlt := powP_lt hm hw
 rw [hp] at hlt
 have z1 : decide ((e : Int) > 5200) = false := decide_eq_false (by omega)
 have z2 : decide ((e : Int) < -5200) = false := decide_eq_false (by omega)
 have z3 : decide ((e : Int) ≥ 0) = true := decide_eq_true (by omega)
 have z4 : decide ((w : Int) < 1) = false := decide_eq_false (by omega)
 have z5 : decide ((w : Int) > 128) = false := decide_eq_false (by omega)
 have ct := ct_impl_TenBits_pos e m he hm
 have s1 := ten_sm' (e := e) (by omega)
 have v1 : Ve (IntKind.i64.wrap ((m : Int) - 1 - (w : Int))) ((m : Int) - 1 - (w : Int)) := ⟨wrap_i64 (by omega)⟩
 have v2 : Ve (IntKind.i64.wrap ((m : Int) - 1 - (w : Int) + 1)) ((m : Int) - (w : Int)) := ⟨by rw [wrap_i64 (by omega)]; omega⟩
 have n0 : Nn (e : Int) e := ⟨rfl⟩
 by_cases hc : m ≤ w
 ·have s2 : Sm (10 ^ e * 2 ^ (w - m)) := Sm.of (k := m + (w - m)) (by rw [Nat.pow_add]; exact Nat.mul_lt_mul_of_pos_right hm.1 (Nat.pow_pos (by decide))) (by omega)
  have v3 : Ve (IntKind.i64.wrap (0 - ((m : Int) - (w : Int)))) ((w - m : Nat) : Int) := ⟨by rw [wrap_i64 (by omega)]; omega⟩
  have cl := fun A c => ct_impl_nat_shift_l (10 ^ e) A c (w - m) (by omega) s1
  unfold powP at hp
  rw [if_pos hc] at hp
  subst hp
  dsimp only at hlt
  have e0 : cmpN (10 ^ e) (10 ^ e) = 0 := by unfold cmpN; rw [if_neg (by omega), if_neg (by omega)]
  have cc := fun A A' c c' => ct_impl_nat_cmp (10 ^ e) (10 ^ e) A A' c c' s1 s1
  rw [e0] at cc
  have cb : ∀ A c, CtR Try.prog 46 [.slice A (ofN B64 (10 ^ e * 2 ^ (w - m))).length c, .int .i64 ((m : Int) - (w : Int))] [Row .u64 A c (ofN B64 (10 ^ e * 2 ^ (w - m)))] .u64 (ofN B64 (10 ^ e)) := fun A c => by
   by_cases h2 : m = w
   ·subst h2
    have := ct_impl_nat_shift_l (10 ^ e * 2 ^ (m - m)) A c 0 (by omega) s2
    rw [Nat.sub_self, Nat.pow_zero, Nat.mul_one, Nat.mul_one] at this
    rw [Nat.sub_self, Nat.pow_zero, Nat.mul_one, Int.sub_self]
    exact this
   ·have := ct_impl_nat_shift_r (10 ^ e * 2 ^ (w - m)) A c ((m : Int) - (w : Int)) (w - m) (by omega) (by omega) (by omega) s2
    rwa [Nat.mul_div_cancel _ (Nat.pow_pos (by decide))] at this
  refine ct_of Try.func63 rfl (by kernel_rfl) (fun B w0 => ?_)
  refine xg ?_
  refine xb 4 [.int .i64 0, .int .i64 0, .int .u64 0, .int .u64 0, .int .i64 0, .bool false, .bool false] 26 (fun g0 => ?_)
  refine xz [] [] ?_
  refine SW_seq ?_
  refine xg ?_
  refine xn 7 [] [(16, .bool (decide ((e : Int) > 5200)))] ?_
  refine xkf 16 z1 ?_
  refine xn 11 [] [(20, .bool (decide ((w : Int) < 1)))] ?_
  refine xkf 20 z4 ?_
  refine xz [] [(23, .bool (decide ((w : Int) > 128)))] ?_
  refine xsf z5 ?_
  refine SW_skip ?_
  refine xg ?_
  refine xn 3 [] [(27, .int .i64 (e : Int)), (26, .int .i64 (w : Int)), (25, .int .i64 (e : Int))] ?_
  refine xcv 28 ct zs0 ?_
  refine xn 5 [] [(29, .int .i64 (w : Int))] ?_
  refine xve 30 IntKind.i64 (IntKind.wrap IntKind.i64 ((m : Int) - 1 - (w : Int))) ((m : Int) - 1 - (w : Int)) v1 ?_
  refine xve 31 IntKind.i64 (IntKind.wrap IntKind.i64 ((m : Int) - 1 - (w : Int) + 1)) ((m : Int) - (w : Int)) v2 ?_
  refine xn 8 [] [(32, .agg #[.int .i64 (e : Int), .int .i64 (w : Int), .int .u64 0, .int .u64 0, .int .i64 ((m : Int) - (w : Int)), .bool false, .bool true])] ?_
  refine xb 5 [.int .i64 0, .int .i64 0, .int .u64 0, .int .u64 0, .int .i64 0, .bool false, .bool false] 26 (fun g1 => ?_)
  refine xy [(9, [1])] [] [(1, [.int .i64 (e : Int), .int .i64 (w : Int), .int .u64 0, .int .u64 0, .int .i64 ((m : Int) - (w : Int)), .bool false, .bool true])] ?_
  refine SW_seq ?_
  refine xr [] [(34, .bool (decide ((e : Int) ≥ 0)))] ?_
  refine xst z3 ?_
  refine xg ?_
  refine xn 1 [] [(35, .int .i64 (e : Int))] ?_
  refine xcr 36 (ct_impl_ten ((e : Int)) (e) n0 (by omega)) zs0 (fun A0 k0 => ?_)
  refine xz [] [(6, .slice A0 (List.length (ofN B64 (10 ^ e))) k0)] ?_
  refine xg ?_
  refine xn 3 [(2, [1])] [(39, .int .i64 ((m : Int) - (w : Int))), (37, .slice A0 (List.length (ofN B64 (10 ^ e))) k0)] ?_
  refine xve 40 IntKind.i64 (IntKind.wrap IntKind.i64 (0 - ((m : Int) - (w : Int)))) ((((w - m) : Nat) : Int)) v3 ?_
  refine xcr 41 (cl _ _) (zsS zi0 zs0) (fun A1 k1 => ?_)
  refine xz [] [(7, .slice A1 (List.length (ofN B64 (10 ^ e * 2 ^ (w - m)))) k1)] ?_
  refine xg ?_
  refine xn 1 [] [(42, .slice A1 (List.length (ofN B64 (10 ^ e * 2 ^ (w - m)))) k1)] ?_
  refine xcv 43 (ct_impl_wordOf (10 ^ e * 2 ^ (w - m)) (A1) (k1) hlt) (zsS zi0 zs0) ?_
  refine xy [(3, [1])] [] [(1, [.int .i64 (e : Int), .int .i64 (w : Int), .int .u64 (hiI (10 ^ e * 2 ^ (w - m))), .int .u64 (loI (10 ^ e * 2 ^ (w - m))), .int .i64 ((m : Int) - (w : Int)), .bool false, .bool true])] ?_
  refine xg ?_
  refine xn 3 [(2, [1])] [(47, .int .i64 ((m : Int) - (w : Int))), (45, .slice A1 (List.length (ofN B64 (10 ^ e * 2 ^ (w - m)))) k1)] ?_
  refine xcr 48 (cb _ _) (zsS zi0 zs0) (fun A2 k2 => ?_)
  refine xn 5 [] [(49, .slice A0 (List.length (ofN B64 (10 ^ e))) k0)] ?_
  refine xcv 50 (cc _ _ _ _) (zsS zi0 (zsS (ziS (ziS zi0)) zs0)) ?_
  refine xy [(8, [1])] [] [(1, [.int .i64 (e : Int), .int .i64 (w : Int), .int .u64 (hiI (10 ^ e * 2 ^ (w - m))), .int .u64 (loI (10 ^ e * 2 ^ (w - m))), .int .i64 ((m : Int) - (w : Int)), .bool true, .bool true])] ?_
  refine xq [(0, [1]), (1, [0])] [] [(0, [.int .i64 (e : Int), .int .i64 (w : Int), .int .u64 (hiI (10 ^ e * 2 ^ (w - m))), .int .u64 (loI (10 ^ e * 2 ^ (w - m))), .int .i64 ((m : Int) - (w : Int)), .bool true, .bool true])] ?_
  refine SW_ret ?_
  refine xe () (.agg #[.int .i64 (e : Int), .int .i64 (w : Int), .int .u64 (hiI (10 ^ e * 2 ^ (w - m))), .int .u64 (loI (10 ^ e * 2 ^ (w - m))), .int .i64 ((m : Int) - (w : Int)), .bool true, .bool true]) [0] ?_ trivial
  rfl
 ·have cl := fun A c => ct_impl_nat_shift_r (10 ^ e) A c (IntKind.i64.wrap (0 - ((m : Int) - (w : Int)))) (m - w) (by rw [wrap_i64 (by omega)]; omega) (by omega) (by omega) s1
  have s2 : Sm (10 ^ e / 2 ^ (m - w)) := s1.mono (Nat.div_le_self _ _)
  have hle : 10 ^ e / 2 ^ (m - w) * 2 ^ (m - w) ≤ 10 ^ e := Nat.div_mul_le_self _ _
  have s3 : Sm (10 ^ e / 2 ^ (m - w) * 2 ^ (m - w)) := s1.mono hle
  have v3 : Ve ((m : Int) - (w : Int)) ((m - w : Nat) : Int) := ⟨by omega⟩
  have cb : ∀ A c, CtR Try.prog 46 [.slice A (ofN B64 (10 ^ e / 2 ^ (m - w))).length c, .int .i64 ((m : Int) - (w : Int))] [Row .u64 A c (ofN B64 (10 ^ e / 2 ^ (m - w)))] .u64 (ofN B64 (10 ^ e / 2 ^ (m - w) * 2 ^ (m - w))) := fun A c => by
   rw [v3.out]
   exact ct_impl_nat_shift_l (10 ^ e / 2 ^ (m - w)) A c (m - w) (by omega) s2
  clear v3
  have cc := fun A A' c c' => ct_impl_nat_cmp (10 ^ e / 2 ^ (m - w) * 2 ^ (m - w)) (10 ^ e) A A' c c' s3 s1
  have zc : (cmpN (10 ^ e / 2 ^ (m - w) * 2 ^ (m - w)) (10 ^ e) == 0) = decide (10 ^ e % 2 ^ (m - w) = 0) := by
   have h3 := Nat.div_add_mod (10 ^ e) (2 ^ (m - w))
   rw [Nat.mul_comm] at h3
   rw [Bool.eq_iff_iff, beq_iff_eq, decide_eq_true_iff]
   generalize 10 ^ e / 2 ^ (m - w) * 2 ^ (m - w) = q at *
   generalize 10 ^ e % 2 ^ (m - w) = r at *
   generalize 10 ^ e = n at *
   unfold cmpN
   by_cases h4 : q < n
   ·rw [if_pos h4]
    omega
   ·rw [if_neg h4, if_neg (by omega)]
    omega
  rw [powP_ge (by omega)] at hp
  subst hp
  dsimp only at hlt
  refine ct_of Try.func63 rfl (by kernel_rfl) (fun B w0 => ?_)
  refine xg ?_
  refine xb 4 [.int .i64 0, .int .i64 0, .int .u64 0, .int .u64 0, .int .i64 0, .bool false, .bool false] 26 (fun g0 => ?_)
  refine xz [] [] ?_
  refine SW_seq ?_
  refine xg ?_
  refine xn 7 [] [(16, .bool (decide ((e : Int) > 5200)))] ?_
  refine xkf 16 z1 ?_
  refine xn 11 [] [(20, .bool (decide ((w : Int) < 1)))] ?_
  refine xkf 20 z4 ?_
  refine xz [] [(23, .bool (decide ((w : Int) > 128)))] ?_
  refine xsf z5 ?_
  refine SW_skip ?_
  refine xg ?_
  refine xn 3 [] [(27, .int .i64 (e : Int)), (26, .int .i64 (w : Int)), (25, .int .i64 (e : Int))] ?_
  refine xcv 28 ct zs0 ?_
  refine xn 5 [] [(29, .int .i64 (w : Int))] ?_
  refine xve 30 IntKind.i64 (IntKind.wrap IntKind.i64 ((m : Int) - 1 - (w : Int))) ((m : Int) - 1 - (w : Int)) v1 ?_
  refine xve 31 IntKind.i64 (IntKind.wrap IntKind.i64 ((m : Int) - 1 - (w : Int) + 1)) ((m : Int) - (w : Int)) v2 ?_
  refine xn 8 [] [(32, .agg #[.int .i64 (e : Int), .int .i64 (w : Int), .int .u64 0, .int .u64 0, .int .i64 ((m : Int) - (w : Int)), .bool false, .bool true])] ?_
  refine xb 5 [.int .i64 0, .int .i64 0, .int .u64 0, .int .u64 0, .int .i64 0, .bool false, .bool false] 26 (fun g1 => ?_)
  refine xy [(9, [1])] [] [(1, [.int .i64 (e : Int), .int .i64 (w : Int), .int .u64 0, .int .u64 0, .int .i64 ((m : Int) - (w : Int)), .bool false, .bool true])] ?_
  refine SW_seq ?_
  refine xr [] [(34, .bool (decide ((e : Int) ≥ 0)))] ?_
  refine xst z3 ?_
  refine xg ?_
  refine xn 1 [] [(35, .int .i64 (e : Int))] ?_
  refine xcr 36 (ct_impl_ten ((e : Int)) (e) n0 (by omega)) zs0 (fun A0 k0 => ?_)
  refine xz [] [(6, .slice A0 (List.length (ofN B64 (10 ^ e))) k0)] ?_
  refine xg ?_
  refine xn 4 [(2, [1])] [(40, .int .i64 (IntKind.wrap IntKind.i64 (0 - ((m : Int) - (w : Int))))), (37, .slice A0 (List.length (ofN B64 (10 ^ e))) k0)] ?_
  refine xcr 41 (cl _ _) (zsS zi0 zs0) (fun A1 k1 => ?_)
  refine xz [] [(7, .slice A1 (List.length (ofN B64 (10 ^ e / 2 ^ (m - w)))) k1)] ?_
  refine xg ?_
  refine xn 1 [] [(42, .slice A1 (List.length (ofN B64 (10 ^ e / 2 ^ (m - w)))) k1)] ?_
  refine xcv 43 (ct_impl_wordOf (10 ^ e / 2 ^ (m - w)) (A1) (k1) hlt) (zsS zi0 zs0) ?_
  refine xy [(3, [1])] [] [(1, [.int .i64 (e : Int), .int .i64 (w : Int), .int .u64 (hiI (10 ^ e / 2 ^ (m - w))), .int .u64 (loI (10 ^ e / 2 ^ (m - w))), .int .i64 ((m : Int) - (w : Int)), .bool false, .bool true])] ?_
  refine xg ?_
  refine xn 3 [(2, [1])] [(47, .int .i64 ((m : Int) - (w : Int))), (45, .slice A1 (List.length (ofN B64 (10 ^ e / 2 ^ (m - w)))) k1)] ?_
  refine xcr 48 (cb _ _) (zsS zi0 zs0) (fun A2 k2 => ?_)
  refine xn 5 [] [(49, .slice A0 (List.length (ofN B64 (10 ^ e))) k0)] ?_
  refine xcv 50 (cc _ _ _ _) (zsS zi0 (zsS (ziS (ziS zi0)) zs0)) ?_
  refine xy [(8, [1])] [] [(1, [.int .i64 (e : Int), .int .i64 (w : Int), .int .u64 (hiI (10 ^ e / 2 ^ (m - w))), .int .u64 (loI (10 ^ e / 2 ^ (m - w))), .int .i64 ((m : Int) - (w : Int)), .bool (cmpN (10 ^ e / 2 ^ (m - w) * 2 ^ (m - w)) (10 ^ e) == 0), .bool true])] ?_
  refine xq [(0, [1]), (1, [0])] [] [(0, [.int .i64 (e : Int), .int .i64 (w : Int), .int .u64 (hiI (10 ^ e / 2 ^ (m - w))), .int .u64 (loI (10 ^ e / 2 ^ (m - w))), .int .i64 ((m : Int) - (w : Int)), .bool (cmpN (10 ^ e / 2 ^ (m - w) * 2 ^ (m - w)) (10 ^ e) == 0), .bool true])] ?_
  refine SW_ret ?_
  refine xe () (.agg #[.int .i64 (e : Int), .int .i64 (w : Int), .int .u64 (hiI (10 ^ e / 2 ^ (m - w))), .int .u64 (loI (10 ^ e / 2 ^ (m - w))), .int .i64 ((m : Int) - (w : Int)), .bool (cmpN (10 ^ e / 2 ^ (m - w) * 2 ^ (m - w)) (10 ^ e) == 0), .bool true]) [0] ?_ trivial
  rw [zc]
  rfl
theorem ct_spec_TenPower_out (k w : Int) (h : ¬ (-5200 ≤ k ∧ k ≤ 5200 ∧ 1 ≤ w ∧ w ≤ 128)) : CtV Try.prog 6 [.int .i64 k, .int .i64 w] [] (.agg #[.int .i64 0, .int .i64 0, .int .u64 0, .int .u64 0, .int .i64 0, .bool false, .bool false]) := by
 refine ct_of Try.func6 rfl (by kernel_rfl) (fun B w0 => ?_)
 by_cases h1 : k > 5200
 ·have z1 : decide (k > 5200) = true := decide_eq_true h1
  refine xg ?_
  refine xb 4 [.int .i64 0, .int .i64 0, .int .u64 0, .int .u64 0, .int .i64 0, .bool false, .bool false] 26 (fun g0 => ?_)
  refine xz [] [] ?_
  refine SW_seq ?_
  refine xg ?_
  refine xn 3 [] [(12, .bool (decide (k > 5200)))] ?_
  refine xkt 12 z1 ?_
  refine xz [] [(23, .bool true)] ?_
  refine xs1 ?_
  refine xq [(1, [0])] [] [] ?_
  refine SW_ret ?_
  refine xe () (.agg #[.int .i64 0, .int .i64 0, .int .u64 0, .int .u64 0, .int .i64 0, .bool false, .bool false]) [0] ?_ trivial
  rfl
 ·have z1 : decide (k > 5200) = false := decide_eq_false h1
  by_cases h2 : k < -5200
  ·have z2 : decide (k < -5200) = true := decide_eq_true h2
   refine xg ?_
   refine xb 4 [.int .i64 0, .int .i64 0, .int .u64 0, .int .u64 0, .int .i64 0, .bool false, .bool false] 26 (fun g0 => ?_)
   refine xz [] [] ?_
   refine SW_seq ?_
   refine xg ?_
   refine xn 3 [] [(12, .bool (decide (k > 5200)))] ?_
   refine xkf 12 z1 ?_
   refine xn 7 [] [(16, .bool (decide (k < -5200)))] ?_
   refine xkt 16 z2 ?_
   refine xz [] [(23, .bool true)] ?_
   refine xs1 ?_
   refine xq [(1, [0])] [] [] ?_
   refine SW_ret ?_
   refine xe () (.agg #[.int .i64 0, .int .i64 0, .int .u64 0, .int .u64 0, .int .i64 0, .bool false, .bool false]) [0] ?_ trivial
   rfl
  ·have z2 : decide (k < -5200) = false := decide_eq_false h2
   by_cases h3 : w < 1
   ·have z3 : decide (w < 1) = true := decide_eq_true h3
    refine xg ?_
    refine xb 4 [.int .i64 0, .int .i64 0, .int .u64 0, .int .u64 0, .int .i64 0, .bool false, .bool false] 26 (fun g0 => ?_)
    refine xz [] [] ?_
    refine SW_seq ?_
    refine xg ?_
    refine xn 3 [] [(12, .bool (decide (k > 5200)))] ?_
    refine xkf 12 z1 ?_
    refine xn 7 [] [(16, .bool (decide (k < -5200)))] ?_
    refine xkf 16 z2 ?_
    refine xn 11 [] [(20, .bool (decide (w < 1)))] ?_
    refine xkt 20 z3 ?_
    refine xz [] [(23, .bool true)] ?_
    refine xs1 ?_
    refine xq [(1, [0])] [] [] ?_
    refine SW_ret ?_
    refine xe () (.agg #[.int .i64 0, .int .i64 0, .int .u64 0, .int .u64 0, .int .i64 0, .bool false, .bool false]) [0] ?_ trivial
    rfl
   ·have z3 : decide (w < 1) = false := decide_eq_false h3
    have z4 : decide (w > 128) = true := decide_eq_true (by omega)
    refine xg ?_
    refine xb 4 [.int .i64 0, .int .i64 0, .int .u64 0, .int .u64 0, .int .i64 0, .bool false, .bool false] 26 (fun g0 => ?_)
    refine xz [] [] ?_
    refine SW_seq ?_
    refine xg ?_
    refine xn 3 [] [(12, .bool (decide (k > 5200)))] ?_
    refine xkf 12 z1 ?_
    refine xn 7 [] [(16, .bool (decide (k < -5200)))] ?_
    refine xkf 16 z2 ?_
    refine xn 11 [] [(20, .bool (decide (w < 1)))] ?_
    refine xkf 20 z3 ?_
    refine xz [] [(23, .bool (decide (w > 128)))] ?_
    refine xst z4 ?_
    refine xq [(1, [0])] [] [] ?_
    refine SW_ret ?_
    refine xe () (.agg #[.int .i64 0, .int .i64 0, .int .u64 0, .int .u64 0, .int .i64 0, .bool false, .bool false]) [0] ?_ trivial
    rfl
theorem ct_impl_tenPower_out (k w : Int) (h : ¬ (-5200 ≤ k ∧ k ≤ 5200 ∧ 1 ≤ w ∧ w ≤ 128)) : CtV Try.prog 63 [.int .i64 k, .int .i64 w] [] (.agg #[.int .i64 0, .int .i64 0, .int .u64 0, .int .u64 0, .int .i64 0, .bool false, .bool false]) := by
 refine ct_of Try.func63 rfl (by kernel_rfl) (fun B w0 => ?_)
 by_cases h1 : k < -5200
 ·have z1 : decide (k < -5200) = true := decide_eq_true h1
  refine xg ?_
  refine xb 4 [.int .i64 0, .int .i64 0, .int .u64 0, .int .u64 0, .int .i64 0, .bool false, .bool false] 26 (fun g0 => ?_)
  refine xz [] [] ?_
  refine SW_seq ?_
  refine xg ?_
  refine xn 3 [] [(12, .bool (decide (k < -5200)))] ?_
  refine xkt 12 z1 ?_
  refine xz [] [(23, .bool true)] ?_
  refine xs1 ?_
  refine xq [(1, [0])] [] [] ?_
  refine SW_ret ?_
  refine xe () (.agg #[.int .i64 0, .int .i64 0, .int .u64 0, .int .u64 0, .int .i64 0, .bool false, .bool false]) [0] ?_ trivial
  rfl
 ·have z1 : decide (k < -5200) = false := decide_eq_false h1
  by_cases h2 : k > 5200
  ·have z2 : decide (k > 5200) = true := decide_eq_true h2
   refine xg ?_
   refine xb 4 [.int .i64 0, .int .i64 0, .int .u64 0, .int .u64 0, .int .i64 0, .bool false, .bool false] 26 (fun g0 => ?_)
   refine xz [] [] ?_
   refine SW_seq ?_
   refine xg ?_
   refine xn 3 [] [(12, .bool (decide (k < -5200)))] ?_
   refine xkf 12 z1 ?_
   refine xn 7 [] [(16, .bool (decide (k > 5200)))] ?_
   refine xkt 16 z2 ?_
   refine xz [] [(23, .bool true)] ?_
   refine xs1 ?_
   refine xq [(1, [0])] [] [] ?_
   refine SW_ret ?_
   refine xe () (.agg #[.int .i64 0, .int .i64 0, .int .u64 0, .int .u64 0, .int .i64 0, .bool false, .bool false]) [0] ?_ trivial
   rfl
  ·have z2 : decide (k > 5200) = false := decide_eq_false h2
   by_cases h3 : w < 1
   ·have z3 : decide (w < 1) = true := decide_eq_true h3
    refine xg ?_
    refine xb 4 [.int .i64 0, .int .i64 0, .int .u64 0, .int .u64 0, .int .i64 0, .bool false, .bool false] 26 (fun g0 => ?_)
    refine xz [] [] ?_
    refine SW_seq ?_
    refine xg ?_
    refine xn 3 [] [(12, .bool (decide (k < -5200)))] ?_
    refine xkf 12 z1 ?_
    refine xn 7 [] [(16, .bool (decide (k > 5200)))] ?_
    refine xkf 16 z2 ?_
    refine xn 11 [] [(20, .bool (decide (w < 1)))] ?_
    refine xkt 20 z3 ?_
    refine xz [] [(23, .bool true)] ?_
    refine xs1 ?_
    refine xq [(1, [0])] [] [] ?_
    refine SW_ret ?_
    refine xe () (.agg #[.int .i64 0, .int .i64 0, .int .u64 0, .int .u64 0, .int .i64 0, .bool false, .bool false]) [0] ?_ trivial
    rfl
   ·have z3 : decide (w < 1) = false := decide_eq_false h3
    have z4 : decide (w > 128) = true := decide_eq_true (by omega)
    refine xg ?_
    refine xb 4 [.int .i64 0, .int .i64 0, .int .u64 0, .int .u64 0, .int .i64 0, .bool false, .bool false] 26 (fun g0 => ?_)
    refine xz [] [] ?_
    refine SW_seq ?_
    refine xg ?_
    refine xn 3 [] [(12, .bool (decide (k < -5200)))] ?_
    refine xkf 12 z1 ?_
    refine xn 7 [] [(16, .bool (decide (k > 5200)))] ?_
    refine xkf 16 z2 ?_
    refine xn 11 [] [(20, .bool (decide (w < 1)))] ?_
    refine xkf 20 z3 ?_
    refine xz [] [(23, .bool (decide (w > 128)))] ?_
    refine xst z4 ?_
    refine xq [(1, [0])] [] [] ?_
    refine SW_ret ?_
    refine xe () (.agg #[.int .i64 0, .int .i64 0, .int .u64 0, .int .u64 0, .int .i64 0, .bool false, .bool false]) [0] ?_ trivial
    rfl
end Go.Proofs.Ytlfpjlfmjojimaa.M
end
section
namespace Go.Proofs.Ytlfpjlfmjojimaa.M
open Go.RowKit Go.Proofs.Ytlfpjlfmjojimaa.G Go.Proofs.YtlfpjlfmjojimaaV.PrintWords Go.Proofs.YtlfpjlfmjojimaaV.PrintLast Go.Proofs.Ytlfpjlfmjojimaa.X
set_option linter.unusedVariables false
set_option linter.unusedSimpArgs false
structure Fr (a : List Int) (x : Nat) : Prop where
 d : Dig B64 a
 l : a.length ≤ 1200
 v : val B64 a = x
theorem Fr.bits {a : List Int} {x : Nat} (h : Fr a x) : ∃ m, IsBits x m ∧ m ≤ 76800 := by
 have := fits_bits h.d h.l
 rw [h.v] at this
 exact this
theorem Fr.of {x m : Nat} (hm : x < 2 ^ m) (h : m ≤ 76800) : Fr (ofN B64 x) x := by
 obtain ⟨d, n, v⟩ := ofN_spec B64_2 x
 exact ⟨d, len1200 hm h, v⟩
end Go.Proofs.Ytlfpjlfmjojimaa.M
end
section
namespace Go.Proofs.Ytlfpjlfmjojimaa.X
open Go.RowKit Go.Proofs.YtlfpjlfmjojimaaV.PrintWords Go.Proofs.YtlfpjlfmjojimaaV.PrintLast
set_option linter.unusedVariables false
set_option linter.unusedSimpArgs false
abbrev Post := Exit → Act → World → Prop
def SQ (X : Cx) (c : Code) (s : St) (Q : Post) : Prop := ∀ a w, Agree X.fr s a → Holds X s w → c.wpIn X.F 0 X.P Q a w
def NQ (X : Cx) (ops : Array Oper) (i : Nat) (s : St) (Q : Post) : Prop := ∀ a w, Agree X.fr s a → Holds X s w → wpOpsIn X.F 0 X.P ops Q (List.range' i (ops.size - i)) a w
def Cx.push (X : Cx) (d : Deferred) : Cx := ⟨X.P, X.n, X.B, ⟨X.w0.w, X.w0.M, d :: X.w0.df⟩, X.rd⟩
theorem Holds.push {X : Cx} {s : St} {w : World} (h : Holds X s w) (d : Deferred) : Holds (X.push d) s w :=
  ⟨⟨h.below.os, h.below.tape, h.below.output, h.below.size, h.below.block⟩, h.box, h.new, h.nodup, h.fact, h.old⟩
section
variable {X : Cx} {s : St} {Q : Post} {ops : Array Oper}
theorem SQ_of {c : Code} {K : Exit → St → Prop} (h : SW X c s K) (hq : ∀ e a w, Lift X K e a w → Q e a w) : SQ X c s Q := fun a w ha hw => wpIn_mono (h a w ha hw) hq
theorem SQ_seq {x y : Code} (h : SQ X x s (Exit.then (y.wpIn X.F 0 X.P Q) Q)) : SQ X (.seq x y) s Q := fun a w ha hw => wpIn_seq (h a w ha hw)
theorem SQ_cut {x y : Code} {K : Exit → St → Prop} (M : St → Prop) (h : SW X x s (thenK M K)) (hq : ∀ e s' a w, Agree X.fr s' a → Holds X s' w → K e s' → Q e a w) (h2 : ∀ s', M s' → SQ X y s' Q) : SQ X (.seq x y) s Q := by
  refine SQ_seq (SQ_of h (fun e a w hl => ?_))
  obtain ⟨s', ha, hw, hk⟩ := hl
  cases e with
  | normal => exact h2 s' hk a w ha hw
  | _ => exact hq _ s' a w ha hw hk
theorem SQ_region {id : Nat} (h : NQ X ops 0 s Q) : SQ X (.region id ops false) s Q := fun a w ha hw => wpIn_region (by rw [List.range_eq_range']; exact h a w ha hw)
theorem NQ_nil (i : Nat) (hi : Nat.ble ops.size i = true) (h : ∀ a w, Agree X.fr s a → Holds X s w → Q .normal a w) : NQ X ops i s Q := by
  intro a w ha hw
  have : ops.size - i = 0 := by have := Nat.le_of_ble_eq_true hi; omega
  rw [this]
  exact h a w ha hw
theorem NQ_on {i : Nat} {o : Oper} (ho : ops[i]? = some o) (hg : guardD ops s.env o = some true) (h : ∀ a w, Agree X.fr s a → Holds X s w → o.wpIn X.F 0 X.P a w (fun a' w' => wpOpsIn X.F 0 X.P ops Q (List.range' (i + 1) (ops.size - (i + 1))) a' w') Q) : NQ X ops i s Q := by
  intro a w ha hw
  have hlt : i < ops.size := (Array.getElem?_eq_some_iff.1 ho).1
  have : ops.size - i = (ops.size - (i + 1)) + 1 := by omega
  rw [this, List.range'_succ]
  simp only [wpOpsIn, ho, ha.guard hg]
  exact h a w ha hw
theorem NQ_end {i : Nat} {y : Code} (hi : Nat.ble ops.size i = true) (h : SQ X y s Q) : NQ X ops i s (Exit.then (y.wpIn X.F 0 X.P Q) Q) := NQ_nil i hi (fun a w ha hw => h a w ha hw)
theorem SQ_weak {c : Code} {t : St} (h : Weak s t) (k : SQ X c t Q) : SQ X c s Q := by
  intro a w ha hw
  refine k a w ⟨ha.size, ha.defers, fun i v hv => ha.env i v (h.env i v hv)⟩ ⟨hw.below, h.bs ▸ hw.box, h.bs ▸ hw.new, h.bs ▸ hw.nodup, fun F hF => ?_, hw.old⟩
  have := hw.fact F (h.fs.mem F hF)
  rw [h.bs] at this
  exact this
theorem NQ_v {i : Nat} {env : List (Nat × Value)} {bs : List Box} {fs : List Fact} (d : Nat) (v : Value) {o : Oper} (h : NQ X ops (Nat.succ i) ⟨(d, v) :: env, bs, fs⟩ Q) (ho : ops[i]? = some o := by rfl) (hg : guardD ops env o = some true := by kernel_rfl) (hf : fitO X.n env o = true := by kernel_rfl) (hd : o.dst = some d := by rfl)
    (hr : runR X.P (execOp (evD env) o) [] [] = some (.value v, []) := by kernel_rfl) : NQ X ops i ⟨env, bs, fs⟩ Q := by
  obtain ⟨h1, h2, h3⟩ := fitO_spec hf
  refine NQ_on (s := ⟨env, bs, fs⟩) ho hg (fun a w ha hw => ?_)
  refine opV h2 (by rw [ha.exec h2 h3]; exact runR_sound X.P _ hr trivial (fun b hb => by cases hb)) ?_
  rw [hd]
  exact h _ _ (ha.put (some d) (by rw [← hd]; exact dstOk_lt h1) v) (hw.put (some d) v)
theorem NQ_defer {i : Nat} {env : List (Nat × Value)} {bs : List Box} {fs : List Fact} (D : Deferred) {o : Oper} (h : NQ (X.push D) ops (Nat.succ i) ⟨env, bs, fs⟩ Q) (ho : ops[i]? = some o := by rfl) (hg : guardD ops env o = some true := by kernel_rfl) (hk : allD env o.op.operands.toList = true := by kernel_rfl) (hd : o.dst = none := by rfl)
    (hns : ∀ cs b, o.op ≠ .select cs b := by intro cs b h; cases h) (hr : runR X.P (execOp (evD env) o) [] [] = some (.defer D, []) := by kernel_rfl) (hrd : X.rd = none := by rfl) : NQ X ops i ⟨env, bs, fs⟩ Q := by
  refine NQ_on (s := ⟨env, bs, fs⟩) ho hg (fun a w ha hw => ?_)
  have he : execOp a.eval o = execOp (evD env) o := execOp_congr o hns (fun x hx => by
    obtain ⟨v, hv⟩ := allD_mem hk x (by simpa using hx)
    rw [ha.ev hv]
    unfold evD
    rw [hv])
  refine ⟨fun _ _ => trivial, ?_⟩
  have hsem : o.semAt X.F.round a.eval = execOp a.eval o := by
    show o.semAt X.rd a.eval = _
    rw [hrd]; rfl
  rw [hsem, he, runR_sound X.P _ hr trivial (w := w) (fun b hb => by cases hb), Oper.uponIn_defer, hd]
  have ha' : Agree (X.push D).fr ⟨env, bs, fs⟩ { a with defers := D :: a.defers } := ⟨ha.size, by
    show D :: a.defers = D :: X.w0.df
    rw [ha.defers], ha.env⟩
  exact h _ w ha' (hw.push D)
end
theorem RetL.post {X : Cx} {fn : Func} {R : Ending → World → Prop} : ∀ e a w, Lift X (RetL X fn R) e a w → bodyPostD X.P fn R e a w := by
  rintro e a w ⟨s, ha, hw, hk⟩
  cases e with
  | normal => exact hk a w ha hw
  | ret => exact hk a w ha hw
  | _ => exact hk.elim
def LeftM (P : Program) (B : List Nat) (w0 : Base) {γ : Type} (val : γ → Value) (bs' : γ → List Box) (post : γ → List Fact) (e : Ending) (w' : World) : Prop := ∃ g : γ, e = .returned (val g) ∧ Holds ⟨P, 0, B, w0, none⟩ ⟨[], bs' g, post g⟩ w'
theorem cm_ofD {P : Program} {f : FuncId} {fn : Func} {c : Code} {args : List Value} {bs : List Box} {pre : List Fact} {γ : Type} {val : γ → Value} {bs' : γ → List Box} {post : γ → List Fact} (hf : P.funcs[f]? = some fn) (hb : fn.body = some c) (hn : Nat.ble args.length fn.ntmps = true)
    (h : ∀ B w (M : List Nat), SQ ⟨P, fn.ntmps, B, ⟨w, M, []⟩, none⟩ c ⟨argEnv args 0, bs, pre⟩ (bodyPostD P fn (LeftM P B ⟨w, M, []⟩ val bs' post))) : CtM P f args bs pre val bs' post := by
  intro B w hB hbs hnd hp
  have hn' := Nat.le_of_ble_eq_true hn
  refine calls_of_wp_defers hf hb ?_
  have hag : Agree (fn.ntmps, []) ⟨argEnv args 0, bs, pre⟩ { tmps := args.toArray ++ Array.replicate (fn.ntmps - args.toArray.size) undef, defers := [] } := by
    refine ⟨by simp; omega, rfl, fun t v hl => ?_⟩
    obtain ⟨_, h2⟩ := look_arg args 0 t v hl
    have hlt : t < args.length := (List.getElem?_eq_some_iff.1 (by simpa using h2)).1
    rw [Array.getElem?_append_left (by simpa using hlt)]
    simpa using h2
  have h0 : Holds ⟨P, fn.ntmps, B, ⟨w, bs.map Box.id, []⟩, none⟩ ⟨argEnv args 0, bs, pre⟩ w :=
    ⟨Kept.of (Below.refl _ _), hbs, fun b hb => .inr (List.mem_map_of_mem hb), hnd, hp, hB⟩
  exact wpIn_wide.1 (h B w (bs.map Box.id) _ w hag h0)
theorem left_end {P : Program} {n : Nat} {B : List Nat} {w0 : Base} {df : List Deferred} {fn : Func} {γ : Type} {val : γ → Value} {bs' : γ → List Box} {post : γ → List Fact} {s : St} {tmps : Array Value} {w : World} {fr : Nat × List Deferred} (ha : Agree fr s ⟨tmps, df⟩) (hw : Holds ⟨P, n, B, w0, none⟩ s w)
    (g : γ) (m : List Bool) (hs gs : List Nat) (ho : outN P fn s hs = some (val g, dup gs)) (hm : bs' g = pick s.bs m) (hsub : Sub (post g) s.fs) : Leaves P fn tmps (LeftM P B w0 val bs' post) [] .returning w := by
  have hx : Holds ⟨P, n, B, w0, none⟩ ⟨[], bs' g, s.fs⟩ w := hw.sub (fun b hb => (pick_sub s.bs m).subset (hm ▸ hb)) (by rw [hm]; exact ((pick_sub s.bs m).map Box.id).nodup hw.nodup) []
  exact ⟨val g, outN_spec ho ha hw.box, g, rfl, ⟨hx.below, hx.box, hx.new, hx.nodup, fun F hF => hx.fact F (hsub.mem F hF), hx.old⟩⟩
section
variable {X : Cx} {env : List (Nat × Value)} {bs : List Box} {fs : List Fact} {K : Exit → St → Prop} {ops : Array Oper} {i : Nat}
theorem xbo (t : Nat) (v : Nat → Value) (nb : Nat → Box) {o : Oper} (h : ∀ g, NW X ops (Nat.succ i) ⟨(t, v g) :: env, bs ++ [nb g], fs⟩ K)
    (ho : ops[i]? = some o := by rfl) (hg : guardD ops env o = some true := by kernel_rfl) (hf : fitO X.n env o = true := by kernel_rfl) (hd : o.dst = some t := by rfl)
    (hr : ∀ g, runA X.P (execOp (evD env) o) bs [] (some g) = some (.value (v g), bs ++ [nb g], []) := by intro g; kernel_rfl) : NW X ops i ⟨env, bs, fs⟩ K :=
  NW_new' (s := ⟨env, bs, fs⟩) ho hg hf hr (fun _ => trivial) (fun g => by rw [hd]; exact h g)
end
section
variable {X : Cx} {env : List (Nat × Value)} {bs : List Box} {fs : List Fact} {K : Exit → St → Prop} {ops : Array Oper} {s0 : St} {ds : List Nat} {lv : Bool} {l : List Bool} {i : Nat}
def psR (r : Option (Next × List Box × List (Nat × Nat))) : List (Nat × Nat) := match r with
  | none => []
  | some (_, _, ps) => ps
theorem xdo (i : Nat) (hs : List Nat) (bs' : List Box) {o : Oper} (h : RW X ops ds s0 false (l.set i true) ⟨env, bs', fs⟩ K) (hrd : (readyT (rtab .any ops).2 l == [i]) = true := by kernel_rfl)
    (ho : ops[i]? = some o := by rfl) (hi : i ∈ ds := by decide) (hg : guardD ops env o = some true := by kernel_rfl) (hf : fitO X.n env o = true := by kernel_rfl) (hd : o.dst = none := by rfl)
    (hr : runA X.P (execOp (evD env) o) bs hs none = some (.skip, bs', fsts (psR (runA X.P (execOp (evD env) o) bs hs none))) := by kernel_rfl) : RW X ops ds s0 lv l ⟨env, bs, fs⟩ K :=
  RW_store (s := ⟨env, bs, fs⟩) rfl ho hi hg hf hrd hr (by rw [fsts_dup]; exact AllEq_dup _) (by rw [hd]; exact h)
end
end Go.Proofs.Ytlfpjlfmjojimaa.X
end
