import Derived.Test.YtgknelgplmohoaaDoorQFnShortestk
section
namespace Go.Proofs.YtgknelgplmohoaaDoor.M
open Go.RowKit Go.Proofs.YtgknelgplmohoaaDoor.G Go.Proofs.YtgknelgplmohoaaDoorV.PrintWords Go.Proofs.YtgknelgplmohoaaDoorV.PrintLast Go.Proofs.YtgknelgplmohoaaDoor.X
set_option linter.unusedVariables false
set_option linter.unusedSimpArgs false
theorem ct_impl_nat_div_rows (a b : List Int) (A A' : Option Addr) (c c' : Nat) (da : Dig B64 a) (db : Dig B64 b) (na : Norm a) (nb : Norm b) (hla : a.length ≤ 1000000) (hlb : b.length ≤ 1000000) (h0 : 0 < val B64 b) : ∀ q r, Dig B64 q → Norm q → val B64 q = val B64 a / val B64 b → Dig B64 r → Norm r → val B64 r = val B64 a % val B64 b → CtRR Tryd.prog 130 [.slice A a.length c, .slice A' b.length c'] [Row .u64 A c a, Row .u64 A' c' b] .u64 q r := by
 intro q r dq nq vq dr nr vr
 refine ct_of Tryd.func130 rfl (by kernel_rfl) (fun B w0 => ?_)
 by_cases hlt : val B64 a < val B64 b
 ·have z : decide (cmpN (val B64 a) (val B64 b) < 0) = true := decide_eq_true (by unfold cmpN; rw [if_pos hlt]; decide)
  obtain rfl : q = [] := (norm_inj B64_pos (Dig.nil _) dq rfl nq (by rw [vq, Nat.div_eq_of_lt hlt]; rfl)).symm
  obtain rfl : r = a := norm_inj B64_pos dr da nr na (by rw [vr, Nat.mod_eq_of_lt hlt])
  refine xr [] [(5, .slice none 0 0), (4, .slice none 0 0)] ?_
  refine SW_scope' ?_ (fun _ _ h => h)
  refine SW_seq ?_
  refine xg ?_
  refine xn 2 [] [(30, .slice A' (List.length b) c'), (29, .slice A (List.length r) c)] ?_
  refine xcv 31 (ct_impl_nat_cmp_rows (r) (b) (A) (A') (c) (c') da db na nb (by omega) (by omega)) (zsS zi0 (zsS (ziS zi0) zs0)) ?_
  refine xz [] [(32, .bool (decide (cmpN (val B64 r) (val B64 b) < 0)))] ?_
  refine xst z ?_
  refine xg ?_
  refine xbl 33 [] 26 0 (fun g0 => ?_)
  refine xn 2 [] [(34, .slice A (List.length r) c)] ?_
  refine xaz 35 0 26 8 (g0) zi0 (by first | omega | (simp <;> omega)) (fun g1 r0 c0 hc0 => ?_)
  refine xz [] [(5, .slice (some ⟨g1, 0, none⟩) (List.length r) c0), (4, .slice none 0 0)] ?_
  refine SW_tru (Row_nil .u64 0) ?_
  refine SW_fz 0 (c0) (g1) IntKind.u64 (r) (r0) 26 (by first | omega | (simp <;> omega)) (by first | omega | (simp <;> omega)) ?_
  refine SW_ret ?_
  refine xe ((none, 0), some ⟨g1, 0, none⟩, c0) (.tuple #[.slice none 0 0, .slice (some ⟨g1, 0, none⟩) (List.length r) c0]) [] ?_ (zsS (ziS zi0) (zsS zi0 zs0))
  rfl
 ·have hge : val B64 b ≤ val B64 a := Nat.le_of_not_lt hlt
  have z : decide (cmpN (val B64 a) (val B64 b) < 0) = false := decide_eq_false (by
   unfold cmpN
   rw [if_neg hlt]
   split <;> decide)
  have lb0 : 0 < b.length := by
   rcases Nat.eq_zero_or_pos b.length with h | h
   ·rw [List.eq_nil_of_length_eq_zero h] at h0; exact absurd h0 (by decide)
   ·exact h
  refine SW_know (ziS zi0) (fun w h => row_at h lb0) (fun ⟨ad, e⟩ => ?_)
  subst e
  by_cases hb1 : b.length = 1
  ·have z2 : ((b.length : Int) == 1) = true := beq_iff_eq.2 (by omega)
   obtain ⟨d, hd, dB⟩ := nat_rd db 0
   have hv : val B64 b = d := by
    obtain ⟨x, rfl⟩ := List.length_eq_one_iff.1 hb1
    have : rd [x] ((0 : Nat) : Int) = x := rfl
    rw [val_one, ← this, hd, Int.toNat_natCast]
   have v1 : Ve (rd b ((0 : Nat) : Int)) (d : Int) := ⟨hd⟩
   rw [hv] at vq vr h0
   have hm : val B64 a % d < B64 := Nat.lt_trans (Nat.mod_lt _ h0) dB
   have ct := ct_impl_nat_divWord_rows a A c d da hla h0 dB q dq nq vq
   have cw := ct_impl_word_rows ((val B64 a % d : Nat) : Int) (val B64 a % d) ⟨rfl⟩ hm r dr nr vr
   refine xr [] [(5, .slice none 0 0), (4, .slice none 0 0)] ?_
   refine SW_scope' ?_ (fun _ _ h => h)
   refine SW_seq ?_
   refine xg ?_
   refine xn 2 [] [(30, .slice (some ad) (List.length b) c'), (29, .slice A (List.length a) c)] ?_
   refine xcv 31 (ct_impl_nat_cmp_rows (a) (b) (A) (some ad) (c) (c') da db na nb (by omega) (by omega)) (zsS zi0 (zsS (ziS zi0) zs0)) ?_
   refine xz [] [(32, .bool (decide (cmpN (val B64 a) (val B64 b) < 0)))] ?_
   refine xsf z ?_
   refine SW_skip ?_
   refine SW_seq ?_
   refine xr [] [(38, .bool ((((List.length b) : Nat) : Int) == 1))] ?_
   refine xst z2 ?_
   refine xg ?_
   refine xn 2 [] [(41, .slice (some ad) (List.length b) c'), (40, .slice A (List.length a) c)] ?_
   refine xfi 42 26 (ad) (List.length b) (c') 0 IntKind.i64 (0) ⟨rfl⟩ (by omega) ?_
   refine xfle 43 (ziS zi0) (0) ((d : Int)) v1 (by omega) ?_
   refine xct 44 ct (zsS zi0 zs0) (fun A0 k0 => ?_)
   refine xz [] [(7, .int .u64 (((val B64 a % d) : Nat) : Int)), (6, .slice A0 (List.length q) k0)] ?_
   refine xg ?_
   refine xn 2 [] [(48, .int .u64 (((val B64 a % d) : Nat) : Int)), (47, .slice A0 (List.length q) k0)] ?_
   refine xcr 49 cw zs0 (fun A1 k1 => ?_)
   refine xz [] [(5, .slice A1 (List.length r) k1), (4, .slice A0 (List.length q) k0)] ?_
   refine SW_ret ?_
   refine xe ((A0, k0), A1, k1) (.tuple #[.slice A0 (List.length q) k0, .slice A1 (List.length r) k1]) [] ?_ (zsS (ziS zi0) (zsS zi0 zs0))
   rfl
  ·have z2 : ((b.length : Int) == 1) = false := by rw [beq_eq_false_iff_ne]; omega
   have hn : 2 ≤ b.length := by omega
   have hla' : b.length ≤ a.length := by
    rcases Nat.lt_or_ge a.length b.length with h | h
    ·have := val_lt_of_length B64_pos da db nb h; omega
    ·exact h
   obtain ⟨zz, hz, zB⟩ := nat_rd db (b.length - 1)
   have hz0 : 0 < zz := by
    have h := norm_last nb lb0
    rw [show ((b.length : Int) - 1) = ((b.length - 1 : Nat) : Int) by omega, hz] at h
    omega
   obtain ⟨m, hm, hm64⟩ := bits_of zz zB
   have hm0 := hm.pos hz0
   obtain ⟨s, hs⟩ : ∃ s, s = 64 - m := ⟨_, rfl⟩
   have hs63 : s ≤ 63 := by omega
   have lz := ct_bits_LeadingZeros64 zz zB m hm
   rw [← hs] at lz
   obtain ⟨v, dv, nv, vv⟩ := exists_nat (val B64 b * 2 ^ s)
   obtain ⟨t, dt, nt, vt⟩ := exists_nat (val B64 a * 2 ^ s)
   have hps : 0 < 2 ^ s := Nat.pow_pos (by decide)
   have h2s : 2 ^ s < B64 := by rw [B64_pow]; exact Nat.pow_lt_pow_right (by decide) (by omega)
   -- the divisor keeps its length, and its top is great
   have hzs : zz * 2 ^ s < B64 ∧ 9223372036854775808 ≤ zz * 2 ^ s := by
    constructor
    ·have := Nat.mul_lt_mul_of_pos_right hm.1 hps
     rwa [← Nat.pow_add, show m + s = 64 by omega, ← B64_pow] at this
    ·have h1 : 2 ^ (m - 1) ≤ zz := by rcases hm.2 with h | h <;> omega
     have := Nat.mul_le_mul_right (2 ^ s) h1
     rwa [← Nat.pow_add, show m - 1 + s = 63 by omega] at this
   have hvb : val B64 b = val B64 (b.take (b.length - 1)) + B64 ^ (b.length - 1) * zz := by
    have h := val_mid B64 (l := b) (p := b.length - 1) (by omega)
    rw [show b.length - 1 + 1 = b.length by omega, List.drop_length, hz, Int.toNat_natCast] at h
    simpa [val] using h
   have hlowb : val B64 (b.take (b.length - 1)) < B64 ^ (b.length - 1) := by
    have h := val_lt (db.take (b.length - 1))
    rwa [List.length_take, Nat.min_eq_left (by omega)] at h
   have hpow : B64 ^ b.length = B64 ^ (b.length - 1) * B64 := by rw [← Nat.pow_succ, show (b.length - 1).succ = b.length by omega]
   have hvlt : val B64 v < B64 ^ b.length := by
    rw [vv, hpow]
    have h1 : val B64 b + 1 ≤ B64 ^ (b.length - 1) * (zz + 1) := by rw [Nat.mul_add]; omega
    have h2 : (zz + 1) * 2 ^ s ≤ B64 := by
     have h3 : zz + 1 ≤ 2 ^ m := hm.1
     have := Nat.mul_le_mul_right (2 ^ s) h3
     rwa [← Nat.pow_add, show m + s = 64 by omega, ← B64_pow] at this
    have h3 := Nat.mul_le_mul_right (2 ^ s) h1
    have h4 := Nat.mul_le_mul_left (B64 ^ (b.length - 1)) h2
    rw [← Nat.mul_assoc] at h4
    rw [Nat.add_mul] at h3
    omega
   have hvge : B64 ^ (b.length - 1) * 9223372036854775808 ≤ val B64 v := by
    rw [vv, hvb, Nat.add_mul, Nat.mul_assoc]
    have := Nat.mul_le_mul_left (B64 ^ (b.length - 1)) hzs.2
    omega
   have hlv : v.length = b.length := by
    have h1 := len_le_of_val dv nv hvlt
    rcases Nat.lt_or_ge v.length b.length with h | h
    ·have h2 := val_lt dv
     have h3 : B64 ^ v.length ≤ B64 ^ (b.length - 1) := Nat.pow_le_pow_right B64_pos (by omega)
     have h4 := Nat.mul_le_mul_left (B64 ^ (b.length - 1)) (show 1 ≤ 9223372036854775808 by decide)
     omega
    ·omega
   have hvtop : 0 < rd v ((v.length - 1 : Nat) : Int) ∧ 9223372036854775808 * B64 ^ (v.length - 1) ≤ val B64 v := by
    have h := norm_last nv (by omega)
    rw [show ((v.length : Int) - 1) = ((v.length - 1 : Nat) : Int) by omega] at h
    have h2 := dv.rd B64_pos ((v.length - 1 : Nat) : Int)
    exact ⟨by omega, by rw [Nat.mul_comm, hlv]; exact hvge⟩
   -- the dividend, one limb longer
   have htlt : val B64 t < 2 ^ s * B64 ^ a.length := by
    rw [vt, Nat.mul_comm]
    exact Nat.mul_lt_mul_of_pos_left (val_lt da) hps
   have hlt2 : t.length ≤ a.length + 1 := by
    refine len_le_of_val dt nt (Nat.lt_of_lt_of_le htlt ?_)
    rw [Nat.pow_succ, Nat.mul_comm]
    exact Nat.mul_le_mul_left _ (Nat.le_of_lt h2s)
   have hue : t ++ (List.replicate (a.length + 1) 0).drop t.length = t ++ List.replicate (a.length + 1 - t.length) (0 : Int) := by rw [List.drop_replicate]
   obtain ⟨u, hu⟩ : ∃ u, u = t ++ (List.replicate (a.length + 1) 0).drop t.length := ⟨_, rfl⟩
   rw [hue] at hu
   have hul : u.length = a.length + 1 := by rw [hu, List.length_append, List.length_replicate]; omega
   have hud : Dig B64 u := by rw [hu]; exact dt.append (Dig.zeros B64_pos _)
   have huv : val B64 u = val B64 a * 2 ^ s := by rw [hu, val_append, val_zeros, Nat.mul_zero, Nat.add_zero, vt]
   have hdl : val B64 (u.drop (a.length - v.length + 1)) < val B64 v := by
    rw [val_drop B64 B64_pos hud, huv, ← vt]
    have h1 : B64 ^ a.length = B64 ^ (a.length - v.length + 1) * B64 ^ (v.length - 1) := by rw [← Nat.pow_add]; congr 1; omega
    rw [Nat.div_lt_iff_lt_mul (Nat.pow_pos B64_pos)]
    have h2 : 2 ^ s ≤ 9223372036854775808 := by
     have : 2 ^ s ≤ 2 ^ 63 := Nat.pow_le_pow_right (by decide) hs63
     exact this
    have h3 := Nat.mul_le_mul_right (B64 ^ a.length) h2
    have h4 := Nat.mul_le_mul_right (B64 ^ (a.length - v.length + 1)) hvtop.2
    rw [Nat.mul_assoc, Nat.mul_comm (B64 ^ (v.length - 1)), ← h1] at h4
    omega
   have v1 : Ve (rd b ((b.length - 1 : Nat) : Int)) (zz : Int) := ⟨hz⟩
   have c1 := ct_impl_nat_left_rows b (some ad) c' db hlb (s : Int) s ⟨rfl⟩ (by omega) v dv nv vv
   have c2 := ct_impl_nat_left_rows a A c da hla (s : Int) s ⟨rfl⟩ (by omega) t dt nt vt
   have v2 : Ve (IntKind.i64.wrap ((a.length : Int) + 1)) ((a.length + 1 : Nat) : Int) := veI (by omega) (by omega)
   have v3 : Ve (IntKind.i64.wrap ((a.length : Int) - (v.length : Int))) ((a.length - v.length : Nat) : Int) := veI (by omega) (by omega)
   have v4 : Ve (IntKind.i64.wrap (((a.length - v.length : Nat) : Int) + 1)) ((a.length - v.length + 1 : Nat) : Int) := veI (by omega) (by omega)
   refine xr [] [(5, .slice none 0 0), (4, .slice none 0 0)] ?_
   refine SW_scope' ?_ (fun _ _ h => h)
   refine SW_seq ?_
   refine xg ?_
   refine xn 2 [] [(30, .slice (some ad) (List.length b) c'), (29, .slice A (List.length a) c)] ?_
   refine xcv 31 (ct_impl_nat_cmp_rows (a) (b) (A) (some ad) (c) (c') da db na nb (by omega) (by omega)) (zsS zi0 (zsS (ziS zi0) zs0)) ?_
   refine xz [] [(32, .bool (decide (cmpN (val B64 a) (val B64 b) < 0)))] ?_
   refine xsf z ?_
   refine SW_skip ?_
   refine SW_seq ?_
   refine xr [] [(38, .bool ((((List.length b) : Nat) : Int) == 1))] ?_
   refine xsf z2 ?_
   refine SW_skip ?_
   refine xg ?_
   refine xn 4 [] [(53, .int .i64 (IntKind.wrap IntKind.i64 ((((List.length b) : Nat) : Int) - 1))), (50, .slice (some ad) (List.length b) c')] ?_
   refine xfi 54 26 (ad) (List.length b) (c') ((List.length b) - 1) IntKind.i64 (IntKind.wrap IntKind.i64 ((((List.length b) : Nat) : Int) - 1)) (Nn.w (Nn.sub ⟨rfl⟩ ⟨rfl⟩ (by omega)) (by omega)) (by omega) ?_
   refine xfle 55 (ziS zi0) (List.length b - 1) ((zz : Int)) v1 (by omega) ?_
   refine xcv 56 lz zs0 ?_
   refine xz [] [(8, .int .i64 (s : Int))] ?_
   refine xg ?_
   refine xn 2 [] [(58, .int .i64 (s : Int)), (57, .slice (some ad) (List.length b) c')] ?_
   refine xcr 59 c1 (zsS (ziS zi0) zs0) (fun A0 k0 => ?_)
   refine xz [] [(9, .slice A0 (List.length v) k0)] ?_
   refine xr [] [(10, .int .i64 (((List.length v) : Nat) : Int))] ?_
   refine xg ?_
   refine xn 2 [] [(63, .int .i64 (((List.length a) : Nat) : Int))] ?_
   refine xve 64 IntKind.i64 (IntKind.wrap IntKind.i64 ((((List.length a) : Nat) : Int) + 1)) ((((List.length a + 1) : Nat) : Int)) v2 ?_
   refine xma 65 26 (List.length a + 1) IntKind.u64 8 ((((List.length a + 1) : Nat) : Int)) ⟨rfl⟩ (by omega) (fun g0 => ?_)
   refine xz [] [(11, .slice (some ⟨g0, 0, none⟩) (List.length a + 1) (List.length a + 1))] ?_
   refine xg ?_
   refine xn 3 [] [(68, .int .i64 (s : Int)), (67, .slice A (List.length a) c), (66, .slice (some ⟨g0, 0, none⟩) (List.length a + 1) (List.length a + 1))] ?_
   refine xcr 69 c2 (zsS (ziS zi0) zs0) (fun A1 k1 => ?_)
   refine xcp 70 0 26 (g0) (List.length a + 1) (List.length a + 1) (k1) (List.replicate (List.length a + 1) 0) ([]) zi0 (by first | rfl | (simp <;> omega)) (by first | omega | (simp <;> omega)) ?_
   refine xz [] [] ?_
   refine xg ?_
   refine xn 3 [] [(73, .int .i64 (((List.length v) : Nat) : Int)), (72, .int .i64 (((List.length a) : Nat) : Int))] ?_
   refine xve 74 IntKind.i64 (IntKind.wrap IntKind.i64 ((((List.length a) : Nat) : Int) - (((List.length v) : Nat) : Int))) ((((List.length a - List.length v) : Nat) : Int)) v3 ?_
   refine xve 75 IntKind.i64 (IntKind.wrap IntKind.i64 ((((List.length a - List.length v) : Nat) : Int) + 1)) ((((List.length a - List.length v + 1) : Nat) : Int)) v4 ?_
   refine xma 76 26 (List.length a - List.length v + 1) IntKind.u64 8 ((((List.length a - List.length v + 1) : Nat) : Int)) ⟨rfl⟩ (by omega) (fun g1 => ?_)
   refine xz [] [(12, .slice (some ⟨g1, 0, none⟩) (List.length a - List.length v + 1) (List.length a - List.length v + 1))] ?_
   refine SW_seq ?_
   refine SW_label ?_
   refine SW_seq ?_
   refine xg ?_
   refine xn 3 [] [(79, .int .i64 (((List.length v) : Nat) : Int)), (78, .int .i64 (((List.length a) : Nat) : Int))] ?_
   refine xve 80 IntKind.i64 (IntKind.wrap IntKind.i64 ((((List.length a) : Nat) : Int) - (((List.length v) : Nat) : Int))) ((((List.length a - List.length v) : Nat) : Int)) v3 ?_
   refine xz [] [(13, .int .i64 (((List.length a - List.length v) : Nat) : Int))] ?_
   refine SW_know (ziS zi0) (fun w h => row_at h (by omega)) (fun ⟨av, e⟩ => ?_)
   subst e
   rw [hue, ← hu]
   have hL : a.length - v.length + 1 ≤ a.length := by omega
   refine SW_then (fun s' => ∃ U Q : List Int, U.length = a.length + 1 ∧ Q.length = a.length - v.length + 1 ∧ Dig B64 U ∧ Dig B64 Q ∧ val B64 U < val B64 v ∧ val B64 Q * val B64 v + val B64 U = val B64 a * 2 ^ s ∧ Weak s' ⟨[(8, .int .i64 (s : Int)), (11, .slice (some ⟨g0, 0, none⟩) U.length (a.length + 1)), (12, .slice (some ⟨g1, 0, none⟩) Q.length (a.length - v.length + 1))], [⟨g0, cl .u64 U [], 26⟩, ⟨g1, cl .u64 Q [], 26⟩], [Row .u64 (some av) k0 v]⟩) ?_ ?_
   ·refine SW_block ?_
    refine SW_loopn (fun m s' => ∃ U Q : List Int, U.length = a.length + 1 ∧ Q.length = a.length - v.length + 1 ∧ Dig B64 U ∧ Dig B64 Q ∧ m ≤ Q.length ∧ (∀ i : Nat, i < m → rd Q (i : Int) = 0) ∧ val B64 (U.drop m) < val B64 v ∧ val B64 Q * val B64 v + val B64 U = val B64 a * 2 ^ s ∧ Weak s' ⟨[(8, .int .i64 (s : Int)), (9, .slice (some av) v.length k0), (10, .int .i64 (v.length : Int)), (11, .slice (some ⟨g0, 0, none⟩) (a.length + 1) (a.length + 1)), (12, .slice (some ⟨g1, 0, none⟩) (a.length - v.length + 1) (a.length - v.length + 1)), (13, .int .i64 ((m : Int) - 1))], [⟨g0, cl .u64 U [], 26⟩, ⟨g1, cl .u64 Q [], 26⟩], [Row .u64 (some av) k0 v]⟩) (a.length - v.length + 1) ⟨u, List.replicate (a.length - v.length + 1) 0, hul, by simp, hud, Dig.zeros B64_pos _, by simp, fun i _ => by rw [rd_nat]; simp [List.getD_eq_getElem?_getD, List.getElem?_replicate]; split <;> rfl, hdl, by rw [val_zeros, huv]; omega, ?_⟩ (fun m s' hI => ?_)
    ·rw [show ((a.length - v.length + 1 : Nat) : Int) - 1 = ((a.length - v.length : Nat) : Int) by omega]
     exact xw (zsS (ziS zi0) zs0)
    ·obtain ⟨U, Q, l1, l2, dU, dQ, hm, hzz, hlt, hsum, hw⟩ := hI
     refine SW_weak hw ?_
     clear hw
     match m, hm, hzz, hlt with
     | 0, hm, hzz, hlt =>
      have z : decide (((0 : Nat) : Int) - 1 ≥ 0) = false := rfl
      refine SW_seq ?_
      refine xr [] [(82, .bool false)] ?_
      refine xs0 ?_
      refine SW_exit ?_
      refine ⟨U, Q, l1, l2, dU, dQ, hlt, hsum, ?_⟩
      rw [l1, l2]
      exact xw (zsS zi0 zs0)
     | j + 1, hm, hzz, hlt =>
      rw [show ((j + 1 : Nat) : Int) - 1 = (j : Int) by omega]
      have z : decide ((j : Int) ≥ 0) = true := decide_eq_true (by omega)
      refine SW_seq ?_
      refine xr [] [(82, .bool (decide ((j : Int) ≥ 0)))] ?_
      refine xst z ?_
      refine SW_skip ?_
      clear hdl huv hud hul hu hue hlt2 htlt hvge hvlt hpow hlowb hvb hzs h2s hps lz hz0 hz zB hm0 hm64 v1 v2 v3 v4 c1 c2
      obtain ⟨y, x, w2, w1, w0, Qd, P⟩ := plc v U dv dU j (by omega) (by omega) hvtop.1 hlt
      refine SW_cut (fun s' => ∃ U' Q' : List Int, U'.length = a.length + 1 ∧ Q'.length = a.length - v.length + 1 ∧ Dig B64 U' ∧ Dig B64 Q' ∧ (∀ i : Nat, i < j → rd Q' (i : Int) = 0) ∧ val B64 (U'.drop j) < val B64 v ∧ val B64 Q' * val B64 v + val B64 U' = val B64 a * 2 ^ s ∧ Weak s' ⟨[(8, .int .i64 (s : Int)), (9, .slice (some av) v.length k0), (10, .int .i64 (v.length : Int)), (11, .slice (some ⟨g0, 0, none⟩) (a.length + 1) (a.length + 1)), (12, .slice (some ⟨g1, 0, none⟩) (a.length - v.length + 1) (a.length - v.length + 1)), (13, .int .i64 (j : Int))], [⟨g0, cl .u64 U' [], 26⟩, ⟨g1, cl .u64 Q' [], 26⟩], [Row .u64 (some av) k0 v]⟩) ?_ ?_
      ·have nj1 : Ve (IntKind.i64.wrap ((j : Int) + (v.length : Int))) ((j + v.length : Nat) : Int) := veI (by omega) (by omega)
       have nj2 : Ve (IntKind.i64.wrap (((j + v.length : Nat) : Int) - 1)) ((j + v.length - 1 : Nat) : Int) := veI (by omega) (by omega)
       have nj3 : Ve (IntKind.i64.wrap (((j + v.length : Nat) : Int) - 2)) ((j + v.length - 2 : Nat) : Int) := veI (by omega) (by omega)
       have nv1 : Ve (IntKind.i64.wrap ((v.length : Int) - 1)) ((v.length - 1 : Nat) : Int) := veI (by omega) (by omega)
       have nv2 : Ve (IntKind.i64.wrap ((v.length : Int) - 2)) ((v.length - 2 : Nat) : Int) := veI (by omega) (by omega)
       have ry : Ve (rd v ((v.length - 1 : Nat) : Int)) (y : Int) := ⟨P.hy⟩
       have rx : Ve (rd v ((v.length - 2 : Nat) : Int)) (x : Int) := ⟨P.hx⟩
       have rw2 : Ve (rd U ((j + v.length : Nat) : Int)) (w2 : Int) := ⟨P.h2⟩
       have rw1 : Ve (rd U ((j + v.length - 1 : Nat) : Int)) (w1 : Int) := ⟨P.h1⟩
       have rw0 : Ve (rd U ((j + v.length - 2 : Nat) : Int)) (w0 : Int) := ⟨P.h0⟩
       have lv := P.hn
       refine SW_block ?_
       refine SW_scope' ?_ (fun _ _ h => h)
       refine xr [] [(15, .int .u64 0), (14, .int .u64 18446744073709551615)] ?_
       refine xr [] [(16, .bool false)] ?_
       refine SW_cut (fun s' => ∃ (top r rest : Nat) (ov : Bool), rest = r % B64 ∧ ov = decide (B64 ≤ r) ∧ top < B64 ∧ top * y + r = w2 * B64 + w1 ∧ Qd ≤ top ∧ Weak s' ⟨[(8, .int .i64 (s : Int)), (9, .slice (some av) v.length k0), (10, .int .i64 (v.length : Int)), (11, .slice (some ⟨g0, 0, none⟩) (a.length + 1) (a.length + 1)), (12, .slice (some ⟨g1, 0, none⟩) (a.length - v.length + 1) (a.length - v.length + 1)), (13, .int .i64 (j : Int)), (14, .int .u64 (top : Int)), (15, .int .u64 (rest : Int)), (16, .bool ov)], [⟨g0, cl .u64 U [], 26⟩, ⟨g1, cl .u64 Q [], 26⟩], [Row .u64 (some av) k0 v]⟩) ?_ ?_
       ·by_cases hlt2 : w2 < y
        ·have z2 : decide ((w2 : Int) < (y : Int)) = true := decide_eq_true (by omega)
         have hw1 := P.w1B
         have hyB := P.yB
         have hmod : (w2 * 18446744073709551616 + w1) % y < y := Nat.mod_lt _ P.y0
         have hdm := Nat.div_add_mod (w2 * 18446744073709551616 + w1) y
         rw [Nat.mul_comm y] at hdm
         have hdB : (w2 * 18446744073709551616 + w1) / y < 18446744073709551616 := div_lt_base hlt2 hw1
         refine xd (fun hB => ?_)
         refine xdk [(0, []), (1, []), (2, []), (6, []), (7, [])] [(92, .int .i64 (((List.length v) : Nat) : Int)), (91, .slice (some av) (List.length v) k0), (87, .int .i64 (((List.length v) : Nat) : Int)), (86, .int .i64 (j : Int)), (85, .slice (some ⟨g0, 0, none⟩) (List.length a + 1) (List.length a + 1))] hB ?_
         refine xdve 3 hB 88 IntKind.i64 (IntKind.wrap IntKind.i64 ((j : Int) + (((List.length v) : Nat) : Int))) ((((j + List.length v) : Nat) : Int)) nj1 ?_
         refine xdve 8 hB 93 IntKind.i64 (IntKind.wrap IntKind.i64 ((((List.length v) : Nat) : Int) - 1)) ((((List.length v - 1) : Nat) : Int)) nv1 ?_
         refine xdoi 4 hB 89 26 (g0) (List.length a + 1) (List.length a + 1) (j + List.length v) IntKind.i64 ((((j + List.length v) : Nat) : Int)) ⟨rfl⟩ (by omega) ?_
         refine xdole 5 hB 90 0 (g0) (j + List.length v) IntKind.u64 (U) ([]) 26 ((w2 : Int)) rw2 (by first | omega | (simp <;> omega)) ?_
         refine xdfi 9 hB 94 26 (av) (List.length v) (k0) (List.length v - 1) IntKind.i64 ((((List.length v - 1) : Nat) : Int)) ⟨rfl⟩ (by omega) ?_
         refine xdfle 10 hB 95 zi0 (List.length v - 1) ((y : Int)) ry (by omega) ?_
         refine xdk [(11, [])] [(96, .bool (decide ((w2 : Int) < (y : Int))))] hB ?_
         refine xdz ?_
         refine xst z2 ?_
         refine xdl (fun hB => ?_)
         refine xdk [(0, []), (1, []), (2, []), (6, []), (7, []), (8, []), (13, []), (14, [])] [(112, .int .i64 (((List.length v) : Nat) : Int)), (111, .slice (some av) (List.length v) k0), (106, .int .i64 (((List.length v) : Nat) : Int)), (105, .int .i64 (j : Int)), (104, .slice (some ⟨g0, 0, none⟩) (List.length a + 1) (List.length a + 1)), (100, .int .i64 (((List.length v) : Nat) : Int)), (99, .int .i64 (j : Int)), (98, .slice (some ⟨g0, 0, none⟩) (List.length a + 1) (List.length a + 1))] hB ?_
         refine xdve 3 hB 101 IntKind.i64 (IntKind.wrap IntKind.i64 ((j : Int) + (((List.length v) : Nat) : Int))) ((((j + List.length v) : Nat) : Int)) nj1 ?_
         refine xdve 9 hB 107 IntKind.i64 (IntKind.wrap IntKind.i64 ((j : Int) + (((List.length v) : Nat) : Int))) ((((j + List.length v) : Nat) : Int)) nj1 ?_
         refine xdve 10 hB 108 IntKind.i64 (IntKind.wrap IntKind.i64 ((((j + List.length v) : Nat) : Int) - 1)) ((((j + List.length v - 1) : Nat) : Int)) nj2 ?_
         refine xdve 15 hB 113 IntKind.i64 (IntKind.wrap IntKind.i64 ((((List.length v) : Nat) : Int) - 1)) ((((List.length v - 1) : Nat) : Int)) nv1 ?_
         refine xdoi 4 hB 102 26 (g0) (List.length a + 1) (List.length a + 1) (j + List.length v) IntKind.i64 ((((j + List.length v) : Nat) : Int)) ⟨rfl⟩ (by omega) ?_
         refine xdole 5 hB 103 0 (g0) (j + List.length v) IntKind.u64 (U) ([]) 26 ((w2 : Int)) rw2 (by first | omega | (simp <;> omega)) ?_
         refine xdoi 11 hB 109 26 (g0) (List.length a + 1) (List.length a + 1) (j + List.length v - 1) IntKind.i64 ((((j + List.length v - 1) : Nat) : Int)) ⟨rfl⟩ (by omega) ?_
         refine xdole 12 hB 110 0 (g0) (j + List.length v - 1) IntKind.u64 (U) ([]) 26 ((w1 : Int)) rw1 (by first | omega | (simp <;> omega)) ?_
         refine xdfi 16 hB 114 26 (av) (List.length v) (k0) (List.length v - 1) IntKind.i64 ((((List.length v - 1) : Nat) : Int)) ⟨rfl⟩ (by omega) ?_
         refine xdfle 17 hB 115 zi0 (List.length v - 1) ((y : Int)) ry (by omega) ?_
         refine xdv 18 116 (ct_bits_Div64 (w2) (w1) (y) hw1 hyB hlt2) zs0 ?_
         refine xdk [(19, []), (20, []), (21, []), (22, []), (23, [])] [(15, .int .u64 ((((w2 * 18446744073709551616 + w1) % y) : Nat) : Int)), (14, .int .u64 ((((w2 * 18446744073709551616 + w1) / y) : Nat) : Int))] hB ?_
         refine xdz ?_
         refine ⟨_, (w2 * 18446744073709551616 + w1) % y, _, _, (Nat.mod_eq_of_lt (Nat.lt_trans hmod hyB)).symm, (decide_eq_false (Nat.not_le.2 (Nat.lt_trans hmod hyB))).symm, hdB, hdm, P.Q1, ?_⟩
         exact xw (zsS zi0 zs0)
        ·have z2 : decide ((w2 : Int) < (y : Int)) = false := decide_eq_false (by omega)
         obtain ⟨v4, v5⟩ := ad_ve w1 y
         have z3 := over_dec (a := w1) (b := y) P.w1B P.yB
         have hB1 : B64 - 1 < B64 := by have := B64_pos; omega
         have hsm : (B64 - 1) * y + (w1 + y) = w2 * B64 + w1 := by
          have hwy : w2 = y := by have := P.w2y; omega
          rw [hwy, Nat.sub_mul, Nat.one_mul, Nat.mul_comm y B64]
          have := Nat.le_mul_of_pos_left y B64_pos
          omega
         refine xd (fun hB => ?_)
         refine xdk [(0, []), (1, []), (2, []), (6, []), (7, [])] [(92, .int .i64 (((List.length v) : Nat) : Int)), (91, .slice (some av) (List.length v) k0), (87, .int .i64 (((List.length v) : Nat) : Int)), (86, .int .i64 (j : Int)), (85, .slice (some ⟨g0, 0, none⟩) (List.length a + 1) (List.length a + 1))] hB ?_
         refine xdve 3 hB 88 IntKind.i64 (IntKind.wrap IntKind.i64 ((j : Int) + (((List.length v) : Nat) : Int))) ((((j + List.length v) : Nat) : Int)) nj1 ?_
         refine xdve 8 hB 93 IntKind.i64 (IntKind.wrap IntKind.i64 ((((List.length v) : Nat) : Int) - 1)) ((((List.length v - 1) : Nat) : Int)) nv1 ?_
         refine xdoi 4 hB 89 26 (g0) (List.length a + 1) (List.length a + 1) (j + List.length v) IntKind.i64 ((((j + List.length v) : Nat) : Int)) ⟨rfl⟩ (by omega) ?_
         refine xdole 5 hB 90 0 (g0) (j + List.length v) IntKind.u64 (U) ([]) 26 ((w2 : Int)) rw2 (by first | omega | (simp <;> omega)) ?_
         refine xdfi 9 hB 94 26 (av) (List.length v) (k0) (List.length v - 1) IntKind.i64 ((((List.length v - 1) : Nat) : Int)) ⟨rfl⟩ (by omega) ?_
         refine xdfle 10 hB 95 zi0 (List.length v - 1) ((y : Int)) ry (by omega) ?_
         refine xdk [(11, [])] [(96, .bool (decide ((w2 : Int) < (y : Int))))] hB ?_
         refine xdz ?_
         refine xsf z2 ?_
         refine xd (fun hB => ?_)
         refine xdk [(0, []), (1, []), (2, []), (7, []), (8, [])] [(128, .int .i64 (((List.length v) : Nat) : Int)), (127, .slice (some av) (List.length v) k0), (122, .int .i64 (((List.length v) : Nat) : Int)), (121, .int .i64 (j : Int)), (120, .slice (some ⟨g0, 0, none⟩) (List.length a + 1) (List.length a + 1))] hB ?_
         refine xdve 3 hB 123 IntKind.i64 (IntKind.wrap IntKind.i64 ((j : Int) + (((List.length v) : Nat) : Int))) ((((j + List.length v) : Nat) : Int)) nj1 ?_
         refine xdve 4 hB 124 IntKind.i64 (IntKind.wrap IntKind.i64 ((((j + List.length v) : Nat) : Int) - 1)) ((((j + List.length v - 1) : Nat) : Int)) nj2 ?_
         refine xdve 9 hB 129 IntKind.i64 (IntKind.wrap IntKind.i64 ((((List.length v) : Nat) : Int) - 1)) ((((List.length v - 1) : Nat) : Int)) nv1 ?_
         refine xdoi 5 hB 125 26 (g0) (List.length a + 1) (List.length a + 1) (j + List.length v - 1) IntKind.i64 ((((j + List.length v - 1) : Nat) : Int)) ⟨rfl⟩ (by omega) ?_
         refine xdole 6 hB 126 0 (g0) (j + List.length v - 1) IntKind.u64 (U) ([]) 26 ((w1 : Int)) rw1 (by first | omega | (simp <;> omega)) ?_
         refine xdfi 10 hB 130 26 (av) (List.length v) (k0) (List.length v - 1) IntKind.i64 ((((List.length v - 1) : Nat) : Int)) ⟨rfl⟩ (by omega) ?_
         refine xdfle 11 hB 131 zi0 (List.length v - 1) ((y : Int)) ry (by omega) ?_
         refine xdad 12 hB 132 ((w1 : Int)) ((y : Int)) (0) (by omega) ?_
         refine xdk [(13, [])] [(119, .tuple #[.int .u64 (add64s (w1 : Int) (y : Int) 0), .int .u64 (add64c (w1 : Int) (y : Int) 0)])] hB ?_
         refine xdve 14 hB 133 IntKind.u64 (add64s (w1 : Int) (y : Int) 0) (((((w1 + y) % 18446744073709551616) : Nat) : Int)) v4 ?_
         refine xdk [(16, [])] [(15, .int .u64 ((((w1 + y) % 18446744073709551616) : Nat) : Int))] hB ?_
         refine xdve 15 hB 134 IntKind.u64 (add64c (w1 : Int) (y : Int) 0) (((((w1 + y) / 18446744073709551616) : Nat) : Int)) v5 ?_
         refine xdz ?_
         refine SW_region ?_
         refine xn 3 [] [(137, .int .i64 (((List.length v) : Nat) : Int)), (136, .slice (some av) (List.length v) k0), (135, .int .u64 ((((w1 + y) % 18446744073709551616) : Nat) : Int))] ?_
         refine xve 138 IntKind.i64 (IntKind.wrap IntKind.i64 ((((List.length v) : Nat) : Int) - 1)) ((((List.length v - 1) : Nat) : Int)) nv1 ?_
         refine xfi 139 26 (av) (List.length v) (k0) (List.length v - 1) IntKind.i64 ((((List.length v - 1) : Nat) : Int)) ⟨rfl⟩ (by omega) ?_
         refine xfle 140 zi0 (List.length v - 1) ((y : Int)) ry (by omega) ?_
         refine xz [] [(16, .bool (decide (((((w1 + y) % 18446744073709551616) : Nat) : Int) < (y : Int))))] ?_
         refine ⟨_, w1 + y, _, _, rfl, z3, hB1, hsm, by have := P.QB; omega, ?_⟩
         exact xw (zsS zi0 zs0)
       ·rintro s' ⟨top, r, rest, ov, hrest, hov, htop, hwr, hQt, hw⟩
        refine SW_weak hw ?_
        clear hw
        refine SW_seq ?_
        refine SW_label ?_
        refine SW_cut (fun s' => ∃ top : Nat, top < B64 ∧ Qd ≤ top ∧ top * (y * B64 + x) ≤ (w2 * B64 + w1) * B64 + w0 ∧ Weak s' ⟨[(8, .int .i64 (s : Int)), (9, .slice (some av) v.length k0), (10, .int .i64 (v.length : Int)), (11, .slice (some ⟨g0, 0, none⟩) (a.length + 1) (a.length + 1)), (12, .slice (some ⟨g1, 0, none⟩) (a.length - v.length + 1) (a.length - v.length + 1)), (13, .int .i64 (j : Int)), (14, .int .u64 (top : Int))], [⟨g0, cl .u64 U [], 26⟩, ⟨g1, cl .u64 Q [], 26⟩], [Row .u64 (some av) k0 v]⟩) ?_ ?_
        ·refine SW_block ?_
         refine SW_loopn (fun m s' => ∃ (r rest : Nat) (ov : Bool), rest = r % B64 ∧ ov = decide (B64 ≤ r) ∧ m < B64 ∧ m * y + r = w2 * B64 + w1 ∧ Qd ≤ m ∧ Weak s' ⟨[(8, .int .i64 (s : Int)), (9, .slice (some av) v.length k0), (10, .int .i64 (v.length : Int)), (11, .slice (some ⟨g0, 0, none⟩) (a.length + 1) (a.length + 1)), (12, .slice (some ⟨g1, 0, none⟩) (a.length - v.length + 1) (a.length - v.length + 1)), (13, .int .i64 (j : Int)), (14, .int .u64 (m : Int)), (15, .int .u64 (rest : Int)), (16, .bool ov)], [⟨g0, cl .u64 U [], 26⟩, ⟨g1, cl .u64 Q [], 26⟩], [Row .u64 (some av) k0 v]⟩) top ⟨r, rest, ov, hrest, hov, htop, hwr, hQt, ?_⟩ (fun m s' hI => ?_)
         ·exact xw (zsS zi0 zs0)
         ·obtain ⟨r, rest, ov, hrest, hov, htop, hwr, hQt, hw⟩ := hI
          refine SW_weak hw ?_
          clear hw
          by_cases ho : B64 ≤ r
          ·have z2 : (!ov) = false := by rw [hov, decide_eq_true ho]; rfl
           have hle := est_le (u := w0) hwr (est_over (u := w0) (Nat.le_of_lt htop) P.xB ho)
           refine SW_seq ?_
           refine xr [] [(143, .bool !ov)] ?_
           refine xsf z2 ?_
           refine SW_exit ?_
           refine ⟨m, htop, hQt, hle, ?_⟩
           exact xw (zsS zi0 zs0)
          ·have z2 : (!ov) = true := by rw [hov, decide_eq_false ho]; rfl
           have hrB : r < B64 := Nat.lt_of_not_le ho
           have hre : rest = r := by rw [hrest]; exact Nat.mod_eq_of_lt hrB
           subst hre
           clear hrest
           have hmB : m < 18446744073709551616 := htop
           have hxB := P.xB
           have lw : m * x % 18446744073709551616 < 18446744073709551616 := Nat.mod_lt _ (by decide)
           have hp : m * x % 18446744073709551616 + 18446744073709551616 * (m * x / 18446744073709551616) = m * x := Nat.mod_add_div _ _
           have hsm : Ve (IntKind.u64.wrap ((rest : Int) + (y : Int))) (((rest + y) % 18446744073709551616 : Nat) : Int) := ⟨u64_sum rest y⟩
           have hov2 := over_dec (a := rest) (b := y) hrB P.yB
           have dec : 18446744073709551616 * rest + w0 < m * x → ∃ t, m = t + 1 ∧ t * y + (rest + y) = w2 * B64 + w1 ∧ Qd ≤ t := fun h => by
            have h1 := P.dec m (est_gt hwr h)
            obtain ⟨t, rfl⟩ : ∃ t, m = t + 1 := ⟨m - 1, by omega⟩
            refine ⟨t, rfl, ?_, by omega⟩
            rw [Nat.add_mul] at hwr
            omega
           have ext : m * x ≤ 18446744073709551616 * rest + w0 → m * (y * B64 + x) ≤ (w2 * B64 + w1) * B64 + w0 := fun h => est_le hwr h
           obtain ⟨hi, eh⟩ : ∃ hi, m * x / 18446744073709551616 = hi := ⟨_, rfl⟩
           obtain ⟨lo, el⟩ : ∃ lo, m * x % 18446744073709551616 = lo := ⟨_, rfl⟩
           rw [el] at lw
           rw [eh, el] at hp
           have vh : Ve (((m * x / 18446744073709551616 : Nat) : Int)) (hi : Int) := ⟨by rw [eh]⟩
           have vl : Ve (((m * x % 18446744073709551616 : Nat) : Int)) (lo : Int) := ⟨by rw [el]⟩
           have w0B := P.w0B
           have v24 : 1 ≤ m → Ve (IntKind.u64.wrap ((m : Int) - 1)) ((m - 1 : Nat) : Int) := fun h => ⟨u64_pred m h hmB⟩
           clear eh el
           rcases Nat.lt_trichotomy hi rest with hc | hc | hc
           ·have z3 : decide ((hi : Int) < (rest : Int)) = true := by clear dec; exact decide_eq_true (by omega)
            have hx : m * x ≤ 18446744073709551616 * rest + w0 := by
             clear dec
             have := Nat.mul_le_mul_left 18446744073709551616 (show hi + 1 ≤ rest from hc)
             rw [Nat.mul_add] at this
             omega
            have hex := ext hx
            clear dec ext v24
            refine SW_seq ?_
            refine xr [] [(143, .bool !ov)] ?_
            refine xst z2 ?_
            refine SW_skip ?_
            refine SW_block ?_
            refine xg ?_
            refine xn 3 [] [(147, .int .i64 (((List.length v) : Nat) : Int)), (146, .slice (some av) (List.length v) k0), (145, .int .u64 (m : Int))] ?_
            refine xve 148 IntKind.i64 (IntKind.wrap IntKind.i64 ((((List.length v) : Nat) : Int) - 2)) ((((List.length v - 2) : Nat) : Int)) nv2 ?_
            refine xfi 149 26 (av) (List.length v) (k0) (List.length v - 2) IntKind.i64 ((((List.length v - 2) : Nat) : Int)) ⟨rfl⟩ (by omega) ?_
            refine xfle 150 zi0 (List.length v - 2) ((x : Int)) rx (by omega) ?_
            refine xcv 151 (ct_bits_Mul64 (m) (x) hmB hxB) zs0 ?_
            refine xn 8 [] [(144, .tuple #[.int .u64 (((m * x / 18446744073709551616) : Nat) : Int), .int .u64 (((m * x % 18446744073709551616) : Nat) : Int)])] ?_
            refine xve 152 IntKind.u64 ((((m * x / 18446744073709551616) : Nat) : Int)) ((hi : Int)) vh ?_
            refine xve 153 IntKind.u64 ((((m * x % 18446744073709551616) : Nat) : Int)) ((lo : Int)) vl ?_
            refine xz [] [(18, .int .u64 (lo : Int)), (17, .int .u64 (hi : Int))] ?_
            refine SW_seq ?_
            refine xg ?_
            refine xn 4 [] [(157, .bool (decide ((hi : Int) < (rest : Int))))] ?_
            refine xkt 157 z3 ?_
            refine xz [] [(172, .bool true)] ?_
            refine xs1 ?_
            refine SW_exit ?_
            refine ⟨m, hmB, hQt, hex, ?_⟩
            exact xw (zsS zi0 zs0)
           ·subst hc
            have z3 : decide ((hi : Int) < (hi : Int)) = false := by clear dec; exact decide_eq_false (by omega)
            have z4 : ((hi : Int) == (hi : Int)) = true := beq_iff_eq.2 rfl
            by_cases hl : lo ≤ w0
            ·have hex := ext (by clear dec; omega)
             clear dec ext v24
             have z5 : decide ((lo : Int) ≤ (w0 : Int)) = true := decide_eq_true (by omega)
             refine SW_seq ?_
             refine xr [] [(143, .bool !ov)] ?_
             refine xst z2 ?_
             refine SW_skip ?_
             refine SW_block ?_
             refine xg ?_
             refine xn 3 [] [(147, .int .i64 (((List.length v) : Nat) : Int)), (146, .slice (some av) (List.length v) k0), (145, .int .u64 (m : Int))] ?_
             refine xve 148 IntKind.i64 (IntKind.wrap IntKind.i64 ((((List.length v) : Nat) : Int) - 2)) ((((List.length v - 2) : Nat) : Int)) nv2 ?_
             refine xfi 149 26 (av) (List.length v) (k0) (List.length v - 2) IntKind.i64 ((((List.length v - 2) : Nat) : Int)) ⟨rfl⟩ (by omega) ?_
             refine xfle 150 zi0 (List.length v - 2) ((x : Int)) rx (by omega) ?_
             refine xcv 151 (ct_bits_Mul64 (m) (x) hmB hxB) zs0 ?_
             refine xn 8 [] [(144, .tuple #[.int .u64 (((m * x / 18446744073709551616) : Nat) : Int), .int .u64 (((m * x % 18446744073709551616) : Nat) : Int)])] ?_
             refine xve 152 IntKind.u64 ((((m * x / 18446744073709551616) : Nat) : Int)) ((hi : Int)) vh ?_
             refine xve 153 IntKind.u64 ((((m * x % 18446744073709551616) : Nat) : Int)) ((lo : Int)) vl ?_
             refine xz [] [(18, .int .u64 (lo : Int)), (17, .int .u64 (hi : Int))] ?_
             refine SW_seq ?_
             refine xg ?_
             refine xn 4 [] [(157, .bool (decide ((hi : Int) < (hi : Int))))] ?_
             refine xkf 157 z3 ?_
             refine xn 8 [] [(161, .bool ((hi : Int) == (hi : Int)))] ?_
             refine xkt 161 z4 ?_
             refine xn 12 [] [(165, .int .i64 (((List.length v) : Nat) : Int)), (164, .int .i64 (j : Int)), (163, .slice (some ⟨g0, 0, none⟩) (List.length a + 1) (List.length a + 1)), (162, .int .u64 (lo : Int))] ?_
             refine xve 166 IntKind.i64 (IntKind.wrap IntKind.i64 ((j : Int) + (((List.length v) : Nat) : Int))) ((((j + List.length v) : Nat) : Int)) nj1 ?_
             refine xve 167 IntKind.i64 (IntKind.wrap IntKind.i64 ((((j + List.length v) : Nat) : Int) - 2)) ((((j + List.length v - 2) : Nat) : Int)) nj3 ?_
             refine xoi 168 26 (g0) (List.length a + 1) (List.length a + 1) (j + List.length v - 2) IntKind.i64 ((((j + List.length v - 2) : Nat) : Int)) ⟨rfl⟩ (by omega) ?_
             refine xole 169 0 (g0) (j + List.length v - 2) IntKind.u64 (U) ([]) 26 ((w0 : Int)) rw0 (by first | omega | (simp <;> omega)) ?_
             refine xz [] [(172, .bool (decide ((lo : Int) ≤ (w0 : Int))))] ?_
             refine xst z5 ?_
             refine SW_exit ?_
             refine ⟨m, hmB, hQt, hex, ?_⟩
             exact xw (zsS zi0 zs0)
            ·obtain ⟨t, ht, ht1, ht2⟩ := dec (by clear dec; omega)
             clear dec ext
             subst ht
             have v24' := v24 (by omega)
             rw [Nat.add_sub_cancel] at v24'
             clear v24
             have z5 : decide ((lo : Int) ≤ (w0 : Int)) = false := decide_eq_false (by omega)
             refine SW_seq ?_
             refine xr [] [(143, .bool !ov)] ?_
             refine xst z2 ?_
             refine SW_skip ?_
             refine SW_block ?_
             refine xg ?_
             refine xn 3 [] [(147, .int .i64 (((List.length v) : Nat) : Int)), (146, .slice (some av) (List.length v) k0), (145, .int .u64 (((t + 1) : Nat) : Int))] ?_
             refine xve 148 IntKind.i64 (IntKind.wrap IntKind.i64 ((((List.length v) : Nat) : Int) - 2)) ((((List.length v - 2) : Nat) : Int)) nv2 ?_
             refine xfi 149 26 (av) (List.length v) (k0) (List.length v - 2) IntKind.i64 ((((List.length v - 2) : Nat) : Int)) ⟨rfl⟩ (by omega) ?_
             refine xfle 150 zi0 (List.length v - 2) ((x : Int)) rx (by omega) ?_
             refine xcv 151 (ct_bits_Mul64 (t + 1) (x) hmB hxB) zs0 ?_
             refine xn 8 [] [(144, .tuple #[.int .u64 ((((t + 1) * x / 18446744073709551616) : Nat) : Int), .int .u64 ((((t + 1) * x % 18446744073709551616) : Nat) : Int)])] ?_
             refine xve 152 IntKind.u64 (((((t + 1) * x / 18446744073709551616) : Nat) : Int)) ((hi : Int)) vh ?_
             refine xve 153 IntKind.u64 (((((t + 1) * x % 18446744073709551616) : Nat) : Int)) ((lo : Int)) vl ?_
             refine xz [] [(18, .int .u64 (lo : Int)), (17, .int .u64 (hi : Int))] ?_
             refine SW_seq ?_
             refine xg ?_
             refine xn 4 [] [(157, .bool (decide ((hi : Int) < (hi : Int))))] ?_
             refine xkf 157 z3 ?_
             refine xn 8 [] [(161, .bool ((hi : Int) == (hi : Int)))] ?_
             refine xkt 161 z4 ?_
             refine xn 12 [] [(165, .int .i64 (((List.length v) : Nat) : Int)), (164, .int .i64 (j : Int)), (163, .slice (some ⟨g0, 0, none⟩) (List.length a + 1) (List.length a + 1)), (162, .int .u64 (lo : Int))] ?_
             refine xve 166 IntKind.i64 (IntKind.wrap IntKind.i64 ((j : Int) + (((List.length v) : Nat) : Int))) ((((j + List.length v) : Nat) : Int)) nj1 ?_
             refine xve 167 IntKind.i64 (IntKind.wrap IntKind.i64 ((((j + List.length v) : Nat) : Int) - 2)) ((((j + List.length v - 2) : Nat) : Int)) nj3 ?_
             refine xoi 168 26 (g0) (List.length a + 1) (List.length a + 1) (j + List.length v - 2) IntKind.i64 ((((j + List.length v - 2) : Nat) : Int)) ⟨rfl⟩ (by omega) ?_
             refine xole 169 0 (g0) (j + List.length v - 2) IntKind.u64 (U) ([]) 26 ((w0 : Int)) rw0 (by first | omega | (simp <;> omega)) ?_
             refine xz [] [(172, .bool (decide ((lo : Int) ≤ (w0 : Int))))] ?_
             refine xsf z5 ?_
             refine SW_skip ?_
             refine xg ?_
             refine xn 1 [] [(173, .int .u64 (((t + 1) : Nat) : Int))] ?_
             refine xve 174 IntKind.u64 (IntKind.wrap IntKind.u64 ((((t + 1) : Nat) : Int) - 1)) ((t : Int)) v24' ?_
             refine xz [] [(14, .int .u64 (t : Int))] ?_
             refine xg ?_
             refine xn 3 [] [(177, .int .i64 (((List.length v) : Nat) : Int)), (176, .slice (some av) (List.length v) k0), (175, .int .u64 (hi : Int))] ?_
             refine xve 178 IntKind.i64 (IntKind.wrap IntKind.i64 ((((List.length v) : Nat) : Int) - 1)) ((((List.length v - 1) : Nat) : Int)) nv1 ?_
             refine xfi 179 26 (av) (List.length v) (k0) (List.length v - 1) IntKind.i64 ((((List.length v - 1) : Nat) : Int)) ⟨rfl⟩ (by omega) ?_
             refine xfle 180 zi0 (List.length v - 1) ((y : Int)) ry (by omega) ?_
             refine xve 181 IntKind.u64 (IntKind.wrap IntKind.u64 ((hi : Int) + (y : Int))) (((((hi + y) % 18446744073709551616) : Nat) : Int)) hsm ?_
             refine xz [] [(15, .int .u64 ((((hi + y) % 18446744073709551616) : Nat) : Int))] ?_
             refine SW_region ?_
             refine xn 3 [] [(184, .int .i64 (((List.length v) : Nat) : Int)), (183, .slice (some av) (List.length v) k0), (182, .int .u64 ((((hi + y) % 18446744073709551616) : Nat) : Int))] ?_
             refine xve 185 IntKind.i64 (IntKind.wrap IntKind.i64 ((((List.length v) : Nat) : Int) - 1)) ((((List.length v - 1) : Nat) : Int)) nv1 ?_
             refine xfi 186 26 (av) (List.length v) (k0) (List.length v - 1) IntKind.i64 ((((List.length v - 1) : Nat) : Int)) ⟨rfl⟩ (by omega) ?_
             refine xfle 187 zi0 (List.length v - 1) ((y : Int)) ry (by omega) ?_
             refine xz [] [(16, .bool (decide (((((hi + y) % 18446744073709551616) : Nat) : Int) < (y : Int))))] ?_
             refine ⟨t, by omega, hi + y, _, _, rfl, hov2, by omega, ht1, ht2, ?_⟩
             exact xw (zsS zi0 zs0)
           ·have hx : 18446744073709551616 * rest + w0 < m * x := by
             clear dec
             have := Nat.mul_le_mul_left 18446744073709551616 (show rest + 1 ≤ hi from hc)
             rw [Nat.mul_add] at this
             omega
            obtain ⟨t, ht, ht1, ht2⟩ := dec hx
            clear dec ext
            subst ht
            have v24' := v24 (by omega)
            rw [Nat.add_sub_cancel] at v24'
            clear v24
            have z3 : decide ((hi : Int) < (rest : Int)) = false := decide_eq_false (by omega)
            have z4 : ((hi : Int) == (rest : Int)) = false := by rw [beq_eq_false_iff_ne]; omega
            refine SW_seq ?_
            refine xr [] [(143, .bool !ov)] ?_
            refine xst z2 ?_
            refine SW_skip ?_
            refine SW_block ?_
            refine xg ?_
            refine xn 3 [] [(147, .int .i64 (((List.length v) : Nat) : Int)), (146, .slice (some av) (List.length v) k0), (145, .int .u64 (((t + 1) : Nat) : Int))] ?_
            refine xve 148 IntKind.i64 (IntKind.wrap IntKind.i64 ((((List.length v) : Nat) : Int) - 2)) ((((List.length v - 2) : Nat) : Int)) nv2 ?_
            refine xfi 149 26 (av) (List.length v) (k0) (List.length v - 2) IntKind.i64 ((((List.length v - 2) : Nat) : Int)) ⟨rfl⟩ (by omega) ?_
            refine xfle 150 zi0 (List.length v - 2) ((x : Int)) rx (by omega) ?_
            refine xcv 151 (ct_bits_Mul64 (t + 1) (x) hmB hxB) zs0 ?_
            refine xn 8 [] [(144, .tuple #[.int .u64 ((((t + 1) * x / 18446744073709551616) : Nat) : Int), .int .u64 ((((t + 1) * x % 18446744073709551616) : Nat) : Int)])] ?_
            refine xve 152 IntKind.u64 (((((t + 1) * x / 18446744073709551616) : Nat) : Int)) ((hi : Int)) vh ?_
            refine xve 153 IntKind.u64 (((((t + 1) * x % 18446744073709551616) : Nat) : Int)) ((lo : Int)) vl ?_
            refine xz [] [(18, .int .u64 (lo : Int)), (17, .int .u64 (hi : Int))] ?_
            refine SW_seq ?_
            refine xg ?_
            refine xn 4 [] [(157, .bool (decide ((hi : Int) < (rest : Int))))] ?_
            refine xkf 157 z3 ?_
            refine xn 8 [] [(161, .bool ((hi : Int) == (rest : Int)))] ?_
            refine xkf 161 z4 ?_
            refine xz [] [(172, .bool false)] ?_
            refine xs0 ?_
            refine SW_skip ?_
            refine xg ?_
            refine xn 1 [] [(173, .int .u64 (((t + 1) : Nat) : Int))] ?_
            refine xve 174 IntKind.u64 (IntKind.wrap IntKind.u64 ((((t + 1) : Nat) : Int) - 1)) ((t : Int)) v24' ?_
            refine xz [] [(14, .int .u64 (t : Int))] ?_
            refine xg ?_
            refine xn 3 [] [(177, .int .i64 (((List.length v) : Nat) : Int)), (176, .slice (some av) (List.length v) k0), (175, .int .u64 (rest : Int))] ?_
            refine xve 178 IntKind.i64 (IntKind.wrap IntKind.i64 ((((List.length v) : Nat) : Int) - 1)) ((((List.length v - 1) : Nat) : Int)) nv1 ?_
            refine xfi 179 26 (av) (List.length v) (k0) (List.length v - 1) IntKind.i64 ((((List.length v - 1) : Nat) : Int)) ⟨rfl⟩ (by omega) ?_
            refine xfle 180 zi0 (List.length v - 1) ((y : Int)) ry (by omega) ?_
            refine xve 181 IntKind.u64 (IntKind.wrap IntKind.u64 ((rest : Int) + (y : Int))) (((((rest + y) % 18446744073709551616) : Nat) : Int)) hsm ?_
            refine xz [] [(15, .int .u64 ((((rest + y) % 18446744073709551616) : Nat) : Int))] ?_
            refine SW_region ?_
            refine xn 3 [] [(184, .int .i64 (((List.length v) : Nat) : Int)), (183, .slice (some av) (List.length v) k0), (182, .int .u64 ((((rest + y) % 18446744073709551616) : Nat) : Int))] ?_
            refine xve 185 IntKind.i64 (IntKind.wrap IntKind.i64 ((((List.length v) : Nat) : Int) - 1)) ((((List.length v - 1) : Nat) : Int)) nv1 ?_
            refine xfi 186 26 (av) (List.length v) (k0) (List.length v - 1) IntKind.i64 ((((List.length v - 1) : Nat) : Int)) ⟨rfl⟩ (by omega) ?_
            refine xfle 187 zi0 (List.length v - 1) ((y : Int)) ry (by omega) ?_
            refine xz [] [(16, .bool (decide (((((rest + y) % 18446744073709551616) : Nat) : Int) < (y : Int))))] ?_
            refine ⟨t, by omega, rest + y, _, _, rfl, hov2, by omega, ht1, ht2, ?_⟩
            exact xw (zsS zi0 zs0)
        ·rintro s' ⟨top, htop, hQt, hle, hw⟩
         refine SW_weak hw ?_
         clear hw hov hrest hwr
         have htB : top < 18446744073709551616 := htop
         have hle2 := P.le2 top htop hle
         clear hle
         refine xr [] [(20, .int .u64 0), (19, .int .u64 0)] ?_
         refine SW_seq ?_
         refine xr [] [(191, .int .i64 0), (190, .int .i64 (((List.length v) : Nat) : Int)), (189, .slice (some av) (List.length v) k0)] ?_
         refine SW_then (fun s' => ∃ (u1 : List Int) (b c : Nat), u1.length = U.length ∧ Dig B64 u1 ∧ b ≤ 1 ∧ c < 18446744073709551616 ∧ u1.take j = U.take j ∧ u1.drop (j + v.length) = U.drop (j + v.length) ∧ val B64 u1 + B64 ^ j * (top * val B64 v) = val B64 U + B64 ^ (j + v.length) * (c + b) ∧ Weak s' ⟨[(8, .int .i64 (s : Int)), (9, .slice (some av) v.length k0), (10, .int .i64 (v.length : Int)), (11, .slice (some ⟨g0, 0, none⟩) (a.length + 1) (a.length + 1)), (12, .slice (some ⟨g1, 0, none⟩) (a.length - v.length + 1) (a.length - v.length + 1)), (13, .int .i64 (j : Int)), (14, .int .u64 (top : Int)), (19, .int .u64 (b : Int)), (20, .int .u64 (c : Int))], [⟨g0, cl .u64 u1 [], 26⟩, ⟨g1, cl .u64 Q [], 26⟩], [Row .u64 (some av) k0 v]⟩) ?_ ?_
         ·refine SW_block ?_
          refine SW_loopn (fun m s' => ∃ (i : Nat) (u1 : List Int) (b c : Nat), m + i = v.length ∧ u1.length = U.length ∧ Dig B64 u1 ∧ b ≤ 1 ∧ c < 18446744073709551616 ∧ u1.take j = U.take j ∧ u1.drop (j + v.length) = U.drop (j + v.length) ∧ val B64 u1 + B64 ^ j * (top * val B64 (v.take i)) = val B64 U + B64 ^ (j + i) * (c + b) ∧ Weak s' ⟨[(8, .int .i64 (s : Int)), (9, .slice (some av) v.length k0), (10, .int .i64 (v.length : Int)), (11, .slice (some ⟨g0, 0, none⟩) (a.length + 1) (a.length + 1)), (12, .slice (some ⟨g1, 0, none⟩) (a.length - v.length + 1) (a.length - v.length + 1)), (13, .int .i64 (j : Int)), (14, .int .u64 (top : Int)), (19, .int .u64 (b : Int)), (20, .int .u64 (c : Int)), (189, .slice (some av) v.length k0), (190, .int .i64 (v.length : Int)), (191, .int .i64 (i : Int))], [⟨g0, cl .u64 u1 [], 26⟩, ⟨g1, cl .u64 Q [], 26⟩], [Row .u64 (some av) k0 v]⟩) v.length ⟨0, U, 0, 0, rfl, rfl, dU, by decide, by decide, rfl, rfl, by simp [val], ?_⟩ (fun m s' hI => ?_)
          ·exact xw (zsS zi0 zs0)
          ·obtain ⟨i, u1, b, c, k1, k2, k3, k4, k5, k6, k7, k8, hw⟩ := hI
           refine SW_weak hw ?_
           clear hw
           by_cases hi : i < v.length
           ·have z1 : decide ((i : Int) < (v.length : Int)) = true := decide_eq_true (by omega)
            obtain ⟨m, rfl⟩ : ∃ m', m = m' + 1 := ⟨m - 1, by omega⟩
            obtain ⟨xi, hxi, hxB⟩ := nat_rd dv i
            obtain ⟨d, hd, hdB⟩ := nat_rd k3 (i + j)
            have w1 : Ve (rd v (i : Int)) (xi : Int) := ⟨hxi⟩
            have w2 : Ve (rd u1 ((i + j : Nat) : Int)) (d : Int) := ⟨hd⟩
            have w3 : Ve (IntKind.i64.wrap ((i : Int) + 1)) ((i + 1 : Nat) : Int) := veI (by omega) (by omega)
            have w4 : Ve (IntKind.i64.wrap ((i : Int) + (j : Int))) ((i + j : Nat) : Int) := veI (by omega) (by omega)
            have hP : top * xi < 18446744073709551616 * 18446744073709551616 := Nat.mul_lt_mul'' htB hxB
            have hp : top * xi % 18446744073709551616 + 18446744073709551616 * (top * xi / 18446744073709551616) = top * xi := Nat.mod_add_div _ _
            have hlo : top * xi % 18446744073709551616 < 18446744073709551616 := Nat.mod_lt _ (by decide)
            have hhi : top * xi / 18446744073709551616 ≤ 18446744073709551614 := by
             have h1 := Nat.mul_le_mul (show top ≤ 18446744073709551615 by omega) (show xi ≤ 18446744073709551615 by omega)
             omega
            obtain ⟨hi', eh⟩ : ∃ hi', top * xi / 18446744073709551616 = hi' := ⟨_, rfl⟩
            obtain ⟨lo, el⟩ : ∃ lo, top * xi % 18446744073709551616 = lo := ⟨_, rfl⟩
            have vh : Ve (((top * xi / 18446744073709551616 : Nat) : Int)) (hi' : Int) := ⟨by rw [eh]⟩
            have vl : Ve (((top * xi % 18446744073709551616 : Nat) : Int)) (lo : Int) := ⟨by rw [el]⟩
            rw [eh, el] at hp
            rw [eh] at hhi
            rw [el] at hlo
            clear eh el hP
            obtain ⟨s1, cc, a1, a2, a3, a4, a5⟩ := carry_ad0 lo c hlo k5
            obtain ⟨U1, bb, b1, b2, b3, b4, b5⟩ := carry_sb d s1 b hdB a3 k4
            have w5 : Ve (IntKind.u64.wrap ((hi' : Int) + (cc : Int))) ((hi' + cc : Nat) : Int) := veU (by omega) (by omega)
            have hst := ms_one (v := v) (u0 := U) (u := u1) (i := i) (j := j) (top := top) (by omega) k8 hxi hp a5 hd b5
            refine xr [] [(192, .bool (decide ((i : Int) < (((List.length v) : Nat) : Int))))] ?_
            refine SW_seq ?_
            refine xst z1 ?_
            refine SW_skip ?_
            refine SW_seq ?_
            refine SW_block ?_
            refine xg ?_
            refine xn 1 [] [(193, .int .i64 (i : Int))] ?_
            refine xfi 194 26 (av) (List.length v) (k0) (i) IntKind.i64 ((i : Int)) ⟨rfl⟩ (by omega) ?_
            refine xfle 195 zi0 (i) ((xi : Int)) w1 (by omega) ?_
            refine xz [] [(22, .int .u64 (xi : Int)), (21, .int .i64 (i : Int))] ?_
            refine xg ?_
            refine xn 2 [] [(198, .int .u64 (xi : Int)), (197, .int .u64 (top : Int))] ?_
            refine xcv 199 (ct_bits_Mul64 (top) (xi) htB hxB) zs0 ?_
            refine xn 4 [] [(196, .tuple #[.int .u64 (((top * xi / 18446744073709551616) : Nat) : Int), .int .u64 (((top * xi % 18446744073709551616) : Nat) : Int)])] ?_
            refine xve 200 IntKind.u64 ((((top * xi / 18446744073709551616) : Nat) : Int)) (((hi' : Nat) : Int)) vh ?_
            refine xve 201 IntKind.u64 ((((top * xi % 18446744073709551616) : Nat) : Int)) ((lo : Int)) vl ?_
            refine xz [] [(24, .int .u64 (lo : Int)), (23, .int .u64 ((hi' : Nat) : Int))] ?_
            refine xg ?_
            refine xn 2 [] [(204, .int .u64 (c : Int)), (203, .int .u64 (lo : Int))] ?_
            refine xad 205 ((lo : Int)) ((c : Int)) (0) (by omega) ?_
            refine xn 4 [] [(202, .tuple #[.int .u64 (add64s (lo : Int) (c : Int) 0), .int .u64 (add64c (lo : Int) (c : Int) 0)])] ?_
            refine xve 206 IntKind.u64 (add64s (lo : Int) (c : Int) 0) ((s1 : Int)) a1 ?_
            refine xve 207 IntKind.u64 (add64c (lo : Int) (c : Int) 0) ((cc : Int)) a2 ?_
            refine xz [] [(25, .int .u64 (cc : Int)), (24, .int .u64 (s1 : Int))] ?_
            refine xg ?_
            refine xn 2 [] [(209, .int .u64 (cc : Int)), (208, .int .u64 ((hi' : Nat) : Int))] ?_
            refine xve 210 IntKind.u64 (IntKind.wrap IntKind.u64 (((hi' : Nat) : Int) + (cc : Int))) ((((hi' + cc) : Nat) : Int)) w5 ?_
            refine xz [] [(20, .int .u64 (((hi' + cc) : Nat) : Int))] ?_
            refine SW_region ?_
            refine xn 3 [] [(214, .int .i64 (j : Int)), (213, .int .i64 (i : Int)), (212, .slice (some ⟨g0, 0, none⟩) (List.length a + 1) (List.length a + 1))] ?_
            refine xve 215 IntKind.i64 (IntKind.wrap IntKind.i64 ((i : Int) + (j : Int))) ((((i + j) : Nat) : Int)) w4 ?_
            refine xn 7 [] [(218, .int .i64 (j : Int)), (217, .int .i64 (i : Int)), (216, .slice (some ⟨g0, 0, none⟩) (List.length a + 1) (List.length a + 1))] ?_
            refine xve 219 IntKind.i64 (IntKind.wrap IntKind.i64 ((i : Int) + (j : Int))) ((((i + j) : Nat) : Int)) w4 ?_
            refine xoi 220 26 (g0) (List.length a + 1) (List.length a + 1) (i + j) IntKind.i64 ((((i + j) : Nat) : Int)) ⟨rfl⟩ (by omega) ?_
            refine xole 221 0 (g0) (i + j) IntKind.u64 (u1) ([]) 26 ((d : Int)) w2 (by first | omega | (simp <;> omega)) ?_
            refine xn 12 [] [(223, .int .u64 (b : Int)), (222, .int .u64 (s1 : Int))] ?_
            refine xsb 224 ((d : Int)) ((s1 : Int)) ((b : Int)) (by omega) ?_
            refine xn 14 [] [(211, .tuple #[.int .u64 (sub64s (d : Int) (s1 : Int) (b : Int)), .int .u64 (sub64c (d : Int) (s1 : Int) (b : Int))])] ?_
            refine xve 225 IntKind.u64 (sub64s (d : Int) (s1 : Int) (b : Int)) ((U1 : Int)) b1 ?_
            refine xve 226 IntKind.u64 (sub64c (d : Int) (s1 : Int) (b : Int)) ((bb : Int)) b2 ?_
            refine xoi 227 26 (g0) (List.length a + 1) (List.length a + 1) (i + j) IntKind.i64 ((((i + j) : Nat) : Int)) ⟨rfl⟩ (by omega) ?_
            refine xos 0 (g0) (i + j) IntKind.u64 (u1) ([]) 26 ((U1 : Int)) (by first | omega | (simp <;> omega)) ?_
            refine xz [] [(19, .int .u64 (bb : Int))] ?_
            refine SW_region ?_
            refine xve 228 IntKind.i64 (IntKind.wrap IntKind.i64 ((i : Int) + 1)) ((((i + 1) : Nat) : Int)) w3 ?_
            refine xz [] [(191, .int .i64 (((i + 1) : Nat) : Int))] ?_
            refine ⟨m, by omega, i + 1, _, _, _, by omega, by rw [List.length_set]; exact k2, k3.set _ (cast_dig b3), b4, by omega, by rw [List.take_set_of_le (by omega), k6], by rw [List.drop_set_of_lt (by omega), k7], hst, ?_⟩
            exact xw (zsS zi0 zs0)
           ·have z1 : decide ((i : Int) < (v.length : Int)) = false := decide_eq_false (by omega)
            obtain rfl : i = v.length := by omega
            rw [List.take_length] at k8
            refine xr [] [(192, .bool (decide ((((List.length v) : Nat) : Int) < (((List.length v) : Nat) : Int))))] ?_
            refine SW_seq ?_
            refine xsf z1 ?_
            refine SW_exit ?_
            refine ⟨u1, b, c, k2, k3, k4, k5, k6, k7, k8, ?_⟩
            exact xw (zsS zi0 zs0)
         ·rintro s' ⟨u1, b, c, k2, k3, k4, k5, k6, k7, k8, hw⟩
          refine SW_weak hw ?_
          clear hw
          have hVM := P.VM
          have hV0 := P.V0
          obtain ⟨d, hd, hdB⟩ := nat_rd k3 (j + v.length)
          have w2 : Ve (rd u1 ((j + v.length : Nat) : Int)) (d : Int) := ⟨hd⟩
          obtain ⟨U1, bb, b1, b2, b3, b4, b5⟩ := carry_sb d c b hdB k5 k4
          have hwin := ms_fin (v := v) (u0 := U) (u := u1) (j := j) (top := top) k3 k2 (by omega) k6 k8 hd b5
          have d2 := k3.set (j + v.length) (cast_dig (n := U1) b3)
          have tk2 : (u1.set (j + v.length) (U1 : Int)).take j = U.take j := by rw [List.take_set_of_le (by omega), k6]
          have dr2 : (u1.set (j + v.length) (U1 : Int)).drop (j + v.length + 1) = U.drop (j + v.length + 1) := by
           rw [List.drop_set_of_lt (by omega)]
           have := congrArg (List.drop 1) k7
           rw [List.drop_drop, List.drop_drop] at this
           exact this
          have lu2 : (u1.set (j + v.length) (U1 : Int)).length = U.length := by rw [List.length_set]; exact k2
          have hz2 : val B64 ((u1.set (j + v.length) (U1 : Int)).drop (j + v.length + 1)) = 0 := by rw [dr2]; exact P.z1
          have hset := val_set B64 Q j (Qd : Int) (by omega)
          rw [hzz j (by omega), Int.toNat_zero, Nat.mul_zero, Nat.add_zero, Int.toNat_natCast] at hset
          have hsU := val_split B64 U j (by omega)
          have hQe := P.Qe
          have dQ' := dQ.set j (cast_dig P.QB)
          have hzz' : ∀ i : Nat, i < j → rd (Q.set j (Qd : Int)) (i : Int) = 0 := fun i hi => by rw [rd_set_ne _ _ _ _ (by omega)]; exact hzz i (by omega)
          by_cases hbb : bb = 0
          ·subst hbb
           have z3 : (((0 : Nat) : Int) == 0) = true := rfl
           rw [Nat.mul_zero, Nat.add_zero] at hwin
           obtain ⟨r1, r2⟩ := knuth_sure hV0 (by rw [← hQe]; exact hQt) hwin
           rw [← hQe] at r1
           subst r1
           have hs' := val_split B64 (u1.set (j + v.length) (U1 : Int)) j (by rw [List.length_set]; omega)
           rw [tk2] at hs'
           have hfin := sum_step hsU hs' hwin hset hsum
           refine xg ?_
           refine xn 3 [] [(232, .int .i64 (((List.length v) : Nat) : Int)), (231, .int .i64 (j : Int)), (230, .slice (some ⟨g0, 0, none⟩) (List.length a + 1) (List.length a + 1))] ?_
           refine xve 233 IntKind.i64 (IntKind.wrap IntKind.i64 ((j : Int) + (((List.length v) : Nat) : Int))) ((((j + List.length v) : Nat) : Int)) nj1 ?_
           refine xn 7 [] [(236, .int .i64 (((List.length v) : Nat) : Int)), (235, .int .i64 (j : Int)), (234, .slice (some ⟨g0, 0, none⟩) (List.length a + 1) (List.length a + 1))] ?_
           refine xve 237 IntKind.i64 (IntKind.wrap IntKind.i64 ((j : Int) + (((List.length v) : Nat) : Int))) ((((j + List.length v) : Nat) : Int)) nj1 ?_
           refine xoi 238 26 (g0) (List.length a + 1) (List.length a + 1) (j + List.length v) IntKind.i64 ((((j + List.length v) : Nat) : Int)) ⟨rfl⟩ (by omega) ?_
           refine xole 239 0 (g0) (j + List.length v) IntKind.u64 (u1) ([]) 26 ((d : Int)) w2 (by first | omega | (simp <;> omega)) ?_
           refine xn 12 [] [(241, .int .u64 (b : Int)), (240, .int .u64 (c : Int))] ?_
           refine xsb 242 ((d : Int)) ((c : Int)) ((b : Int)) (by omega) ?_
           refine xn 14 [] [(229, .tuple #[.int .u64 (sub64s (d : Int) (c : Int) (b : Int)), .int .u64 (sub64c (d : Int) (c : Int) (b : Int))])] ?_
           refine xve 243 IntKind.u64 (sub64s (d : Int) (c : Int) (b : Int)) ((U1 : Int)) b1 ?_
           refine xve 244 IntKind.u64 (sub64c (d : Int) (c : Int) (b : Int)) ((0 : Int)) b2 ?_
           refine xoi 245 26 (g0) (List.length a + 1) (List.length a + 1) (j + List.length v) IntKind.i64 ((((j + List.length v) : Nat) : Int)) ⟨rfl⟩ (by omega) ?_
           refine xos 0 (g0) (j + List.length v) IntKind.u64 (u1) ([]) 26 ((U1 : Int)) (by first | omega | (simp <;> omega)) ?_
           refine xz [] [(19, .int .u64 0)] ?_
           refine xg ?_
           refine xn 3 [] [(248, .int .u64 (top : Int)), (247, .int .i64 (j : Int)), (246, .slice (some ⟨g1, 0, none⟩) (List.length a - List.length v + 1) (List.length a - List.length v + 1))] ?_
           refine xoi 249 26 (g1) (List.length a - List.length v + 1) (List.length a - List.length v + 1) (j) IntKind.i64 ((j : Int)) ⟨rfl⟩ (by omega) ?_
           refine xos 1 (g1) (j) IntKind.u64 (Q) ([]) 26 ((top : Int)) (by first | omega | (simp <;> omega)) ?_
           refine xz [] [] ?_
           refine SW_seq ?_
           refine xr [] [(251, .bool true)] ?_
           refine xs1 ?_
           refine SW_exit ?_
           refine ⟨_, _, by rw [lu2]; exact l1, by rw [List.length_set]; exact l2, d2, dQ', hzz', r2, hfin, ?_⟩
           exact xw (zsS zi0 zs0)
          ·obtain rfl : bb = 1 := by omega
           have z3 : (((1 : Nat) : Int) == 0) = false := rfl
           rw [Nat.mul_one] at hwin
           rw [hQe] at hle2
           have h1t : 1 ≤ top := by
            rcases Nat.eq_zero_or_pos top with h | h
            ·subst h
             have := drop_small B64_pos d2 j (v.length + 1) hz2
             omega
            ·exact h
           have w3 : Ve (rd (Q.set j (top : Int)) (j : Int)) (top : Int) := ⟨rd_set_self Q j _ (by omega)⟩
           have w4 : Ve (IntKind.u64.wrap ((top : Int) - 1)) ((top - 1 : Nat) : Int) := ⟨u64_pred top h1t htop⟩
           obtain ⟨u2, hu2⟩ : ∃ u2, u1.set (j + v.length) (U1 : Int) = u2 := ⟨_, rfl⟩
           rw [hu2] at d2 tk2 dr2 lu2 hz2 hwin
           have hst : (Q.set j (top : Int)).set j ((top - 1 : Nat) : Int) = Q.set j ((top - 1 : Nat) : Int) := List.set_set ..
           have hl2 : (Q.set j (top : Int)).length = Q.length := List.length_set
           refine xg ?_
           refine xn 3 [] [(232, .int .i64 (((List.length v) : Nat) : Int)), (231, .int .i64 (j : Int)), (230, .slice (some ⟨g0, 0, none⟩) (List.length a + 1) (List.length a + 1))] ?_
           refine xve 233 IntKind.i64 (IntKind.wrap IntKind.i64 ((j : Int) + (((List.length v) : Nat) : Int))) ((((j + List.length v) : Nat) : Int)) nj1 ?_
           refine xn 7 [] [(236, .int .i64 (((List.length v) : Nat) : Int)), (235, .int .i64 (j : Int)), (234, .slice (some ⟨g0, 0, none⟩) (List.length a + 1) (List.length a + 1))] ?_
           refine xve 237 IntKind.i64 (IntKind.wrap IntKind.i64 ((j : Int) + (((List.length v) : Nat) : Int))) ((((j + List.length v) : Nat) : Int)) nj1 ?_
           refine xoi 238 26 (g0) (List.length a + 1) (List.length a + 1) (j + List.length v) IntKind.i64 ((((j + List.length v) : Nat) : Int)) ⟨rfl⟩ (by omega) ?_
           refine xole 239 0 (g0) (j + List.length v) IntKind.u64 (u1) ([]) 26 ((d : Int)) w2 (by first | omega | (simp <;> omega)) ?_
           refine xn 12 [] [(241, .int .u64 (b : Int)), (240, .int .u64 (c : Int))] ?_
           refine xsb 242 ((d : Int)) ((c : Int)) ((b : Int)) (by omega) ?_
           refine xn 14 [] [(229, .tuple #[.int .u64 (sub64s (d : Int) (c : Int) (b : Int)), .int .u64 (sub64c (d : Int) (c : Int) (b : Int))])] ?_
           refine xve 243 IntKind.u64 (sub64s (d : Int) (c : Int) (b : Int)) ((U1 : Int)) b1 ?_
           refine xve 244 IntKind.u64 (sub64c (d : Int) (c : Int) (b : Int)) ((1 : Int)) b2 ?_
           refine xoi 245 26 (g0) (List.length a + 1) (List.length a + 1) (j + List.length v) IntKind.i64 ((((j + List.length v) : Nat) : Int)) ⟨rfl⟩ (by omega) ?_
           refine xos 0 (g0) (j + List.length v) IntKind.u64 (u1) ([]) 26 ((U1 : Int)) (by first | omega | (simp <;> omega)) ?_
           refine xz [] [(19, .int .u64 1)] ?_
           refine xg ?_
           refine xn 3 [] [(248, .int .u64 (top : Int)), (247, .int .i64 (j : Int)), (246, .slice (some ⟨g1, 0, none⟩) (List.length a - List.length v + 1) (List.length a - List.length v + 1))] ?_
           refine xoi 249 26 (g1) (List.length a - List.length v + 1) (List.length a - List.length v + 1) (j) IntKind.i64 ((j : Int)) ⟨rfl⟩ (by omega) ?_
           refine xos 1 (g1) (j) IntKind.u64 (Q) ([]) 26 ((top : Int)) (by first | omega | (simp <;> omega)) ?_
           refine xz [] [] ?_
           refine SW_seq ?_
           refine xr [] [(251, .bool false)] ?_
           refine xs0 ?_
           refine SW_skip ?_
           refine xg ?_
           refine xn 2 [] [(253, .int .i64 (j : Int)), (252, .slice (some ⟨g1, 0, none⟩) (List.length a - List.length v + 1) (List.length a - List.length v + 1))] ?_
           refine xoi 254 26 (g1) (List.length a - List.length v + 1) (List.length a - List.length v + 1) (j) IntKind.i64 ((j : Int)) ⟨rfl⟩ (by omega) ?_
           refine xole 255 1 (g1) (j) IntKind.u64 (List.set Q j (top : Int)) ([]) 26 ((top : Int)) w3 (by first | omega | (simp <;> omega)) ?_
           refine xve 256 IntKind.u64 (IntKind.wrap IntKind.u64 ((top : Int) - 1)) ((((top - 1) : Nat) : Int)) w4 ?_
           refine xoi 257 26 (g1) (List.length a - List.length v + 1) (List.length a - List.length v + 1) (j) IntKind.i64 ((j : Int)) ⟨rfl⟩ (by omega) ?_
           refine xos 1 (g1) (j) IntKind.u64 (List.set Q j (top : Int)) ([]) 26 ((((top - 1) : Nat) : Int)) (by first | omega | (simp <;> omega)) ?_
           refine xz [] [] ?_
           refine xr [] [(26, .int .u64 0)] ?_
           refine SW_seq ?_
           refine xr [] [(260, .int .i64 0), (259, .int .i64 (((List.length v) : Nat) : Int)), (258, .slice (some av) (List.length v) k0)] ?_
           rw [hu2, hst]
           refine SW_then (fun s' => ∃ (u3 : List Int) (c3 : Nat), u3.length = u2.length ∧ Dig B64 u3 ∧ c3 ≤ 1 ∧ u3.take j = u2.take j ∧ u3.drop (j + v.length) = u2.drop (j + v.length) ∧ val B64 u3 + B64 ^ (j + v.length) * c3 = val B64 u2 + B64 ^ j * val B64 v ∧ Weak s' ⟨[(8, .int .i64 (s : Int)), (9, .slice (some av) v.length k0), (10, .int .i64 (v.length : Int)), (11, .slice (some ⟨g0, 0, none⟩) (a.length + 1) (a.length + 1)), (12, .slice (some ⟨g1, 0, none⟩) (a.length - v.length + 1) (a.length - v.length + 1)), (13, .int .i64 (j : Int)), (26, .int .u64 (c3 : Int))], [⟨g0, cl .u64 u3 [], 26⟩, ⟨g1, cl .u64 (Q.set j ((top - 1 : Nat) : Int)) [], 26⟩], [Row .u64 (some av) k0 v]⟩) ?_ ?_
           ·refine SW_block ?_
            refine SW_loopn (fun m s' => ∃ (i : Nat) (u3 : List Int) (c3 : Nat), m + i = v.length ∧ u3.length = u2.length ∧ Dig B64 u3 ∧ c3 ≤ 1 ∧ u3.take j = u2.take j ∧ u3.drop (j + v.length) = u2.drop (j + v.length) ∧ val B64 u3 + B64 ^ (j + i) * c3 = val B64 u2 + B64 ^ j * val B64 (v.take i) ∧ Weak s' ⟨[(8, .int .i64 (s : Int)), (9, .slice (some av) v.length k0), (10, .int .i64 (v.length : Int)), (11, .slice (some ⟨g0, 0, none⟩) (a.length + 1) (a.length + 1)), (12, .slice (some ⟨g1, 0, none⟩) (a.length - v.length + 1) (a.length - v.length + 1)), (13, .int .i64 (j : Int)), (26, .int .u64 (c3 : Int)), (258, .slice (some av) v.length k0), (259, .int .i64 (v.length : Int)), (260, .int .i64 (i : Int))], [⟨g0, cl .u64 u3 [], 26⟩, ⟨g1, cl .u64 (Q.set j ((top - 1 : Nat) : Int)) [], 26⟩], [Row .u64 (some av) k0 v]⟩) v.length ⟨0, u2, 0, rfl, rfl, d2, by decide, rfl, rfl, by simp [val], ?_⟩ (fun m s' hI => ?_)
            ·exact xw (zsS zi0 zs0)
            ·obtain ⟨i, u3, c3, e1, e2, e3, e4, e5, e6, e7, hw⟩ := hI
             refine SW_weak hw ?_
             clear hw
             by_cases hi : i < v.length
             ·have z1 : decide ((i : Int) < (v.length : Int)) = true := decide_eq_true (by omega)
              obtain ⟨m, rfl⟩ : ∃ m', m = m' + 1 := ⟨m - 1, by omega⟩
              obtain ⟨xi, hxi, hxB⟩ := nat_rd dv i
              obtain ⟨d3, hd3, hd3B⟩ := nat_rd e3 (i + j)
              have w1 : Ve (rd v (i : Int)) (xi : Int) := ⟨hxi⟩
              have w2 : Ve (rd u3 ((i + j : Nat) : Int)) (d3 : Int) := ⟨hd3⟩
              have w3 : Ve (IntKind.i64.wrap ((i : Int) + 1)) ((i + 1 : Nat) : Int) := veI (by omega) (by omega)
              have w4 : Ve (IntKind.i64.wrap ((i : Int) + (j : Int))) ((i + j : Nat) : Int) := veI (by omega) (by omega)
              obtain ⟨s1, cc, a1, a2, a3, a4, a5⟩ := carry_ad d3 xi c3 hd3B hxB e4
              have hst := ab_one (v := v) (u0 := u2) (u := u3) (i := i) (j := j) (by omega) e7 hxi hd3 a5
              refine xr [] [(261, .bool (decide ((i : Int) < (((List.length v) : Nat) : Int))))] ?_
              refine SW_seq ?_
              refine xst z1 ?_
              refine SW_skip ?_
              refine SW_seq ?_
              refine SW_block ?_
              refine xg ?_
              refine xn 1 [] [(262, .int .i64 (i : Int))] ?_
              refine xfi 263 26 (av) (List.length v) (k0) (i) IntKind.i64 ((i : Int)) ⟨rfl⟩ (by omega) ?_
              refine xfle 264 zi0 (i) ((xi : Int)) w1 (by omega) ?_
              refine xz [] [(28, .int .u64 (xi : Int)), (27, .int .i64 (i : Int))] ?_
              refine SW_region ?_
              refine xn 3 [] [(268, .int .i64 (j : Int)), (267, .int .i64 (i : Int)), (266, .slice (some ⟨g0, 0, none⟩) (List.length a + 1) (List.length a + 1))] ?_
              refine xve 269 IntKind.i64 (IntKind.wrap IntKind.i64 ((i : Int) + (j : Int))) ((((i + j) : Nat) : Int)) w4 ?_
              refine xn 7 [] [(272, .int .i64 (j : Int)), (271, .int .i64 (i : Int)), (270, .slice (some ⟨g0, 0, none⟩) (List.length a + 1) (List.length a + 1))] ?_
              refine xve 273 IntKind.i64 (IntKind.wrap IntKind.i64 ((i : Int) + (j : Int))) ((((i + j) : Nat) : Int)) w4 ?_
              refine xoi 274 26 (g0) (List.length a + 1) (List.length a + 1) (i + j) IntKind.i64 ((((i + j) : Nat) : Int)) ⟨rfl⟩ (by omega) ?_
              refine xole 275 0 (g0) (i + j) IntKind.u64 (u3) ([]) 26 ((d3 : Int)) w2 (by first | omega | (simp <;> omega)) ?_
              refine xn 12 [] [(277, .int .u64 (c3 : Int)), (276, .int .u64 (xi : Int))] ?_
              refine xad 278 ((d3 : Int)) ((xi : Int)) ((c3 : Int)) (by omega) ?_
              refine xn 14 [] [(265, .tuple #[.int .u64 (add64s (d3 : Int) (xi : Int) (c3 : Int)), .int .u64 (add64c (d3 : Int) (xi : Int) (c3 : Int))])] ?_
              refine xve 279 IntKind.u64 (add64s (d3 : Int) (xi : Int) (c3 : Int)) ((s1 : Int)) a1 ?_
              refine xve 280 IntKind.u64 (add64c (d3 : Int) (xi : Int) (c3 : Int)) ((cc : Int)) a2 ?_
              refine xoi 281 26 (g0) (List.length a + 1) (List.length a + 1) (i + j) IntKind.i64 ((((i + j) : Nat) : Int)) ⟨rfl⟩ (by omega) ?_
              refine xos 0 (g0) (i + j) IntKind.u64 (u3) ([]) 26 ((s1 : Int)) (by first | omega | (simp <;> omega)) ?_
              refine xz [] [(26, .int .u64 (cc : Int))] ?_
              refine SW_region ?_
              refine xve 282 IntKind.i64 (IntKind.wrap IntKind.i64 ((i : Int) + 1)) ((((i + 1) : Nat) : Int)) w3 ?_
              refine xz [] [(260, .int .i64 (((i + 1) : Nat) : Int))] ?_
              refine ⟨m, by omega, i + 1, _, _, by omega, by rw [List.length_set]; exact e2, e3.set _ (cast_dig a3), a4, by rw [List.take_set_of_le (by omega), e5], by rw [List.drop_set_of_lt (by omega), e6], hst, ?_⟩
              exact xw (zsS zi0 zs0)
             ·have z1 : decide ((i : Int) < (v.length : Int)) = false := decide_eq_false (by omega)
              obtain rfl : i = v.length := by omega
              rw [List.take_length] at e7
              refine xr [] [(261, .bool (decide ((((List.length v) : Nat) : Int) < (((List.length v) : Nat) : Int))))] ?_
              refine SW_seq ?_
              refine xsf z1 ?_
              refine SW_exit ?_
              refine ⟨u3, c3, e2, e3, e4, e5, e6, e7, ?_⟩
              exact xw (zsS zi0 zs0)
           ·rintro s' ⟨u3, c3, e2, e3, e4, e5, e6, e7, hw⟩
            refine SW_weak hw ?_
            clear hw
            obtain ⟨D, hD, hDB⟩ := nat_rd e3 (j + v.length)
            have w5 : Ve (rd u3 ((j + v.length : Nat) : Int)) (D : Int) := ⟨hD⟩
            have w6 : Ve (IntKind.u64.wrap ((D : Int) + (c3 : Int))) (((D + c3) % B64 : Nat) : Int) := ⟨u64_sum D c3⟩
            obtain ⟨f1, f2, f3, f4, f5⟩ := ab_fin (v := v) (u := U) (u2 := u2) (u3 := u3) (j := j) (top := top) d2 e3 e2 (by omega) hV0 hVM hle2 hwin hz2 e5 e6 e7 hD
            have hQt1 : top - 1 = Qd := by omega
            rw [hQt1]
            have hs' := val_split B64 (u3.set (j + v.length) (((D + c3) % B64 : Nat) : Int)) j (by rw [List.length_set]; omega)
            rw [f3, tk2] at hs'
            have hfin := sum_step hsU hs' (by rw [hQe]; exact f4) hset hsum
            obtain ⟨E1, hE1⟩ : ∃ E1, (D + c3) % B64 = E1 := ⟨_, rfl⟩
            rw [hE1] at f2 f5 hfin w6
            refine SW_region ?_
            refine xn 3 [] [(285, .int .i64 (((List.length v) : Nat) : Int)), (284, .int .i64 (j : Int)), (283, .slice (some ⟨g0, 0, none⟩) (List.length a + 1) (List.length a + 1))] ?_
            refine xve 286 IntKind.i64 (IntKind.wrap IntKind.i64 ((j : Int) + (((List.length v) : Nat) : Int))) ((((j + List.length v) : Nat) : Int)) nj1 ?_
            refine xoi 287 26 (g0) (List.length a + 1) (List.length a + 1) (j + List.length v) IntKind.i64 ((((j + List.length v) : Nat) : Int)) ⟨rfl⟩ (by omega) ?_
            refine xole 288 0 (g0) (j + List.length v) IntKind.u64 (u3) ([]) 26 ((D : Int)) w5 (by first | omega | (simp <;> omega)) ?_
            refine xn 7 [] [(289, .int .u64 (c3 : Int))] ?_
            refine xve 290 IntKind.u64 (IntKind.wrap IntKind.u64 ((D : Int) + (c3 : Int))) ((E1 : Int)) w6 ?_
            refine xoi 291 26 (g0) (List.length a + 1) (List.length a + 1) (j + List.length v) IntKind.i64 ((((j + List.length v) : Nat) : Int)) ⟨rfl⟩ (by omega) ?_
            refine xos 0 (g0) (j + List.length v) IntKind.u64 (u3) ([]) 26 ((E1 : Int)) (by first | omega | (simp <;> omega)) ?_
            refine xz [] [] ?_
            refine ⟨_, _, by rw [List.length_set, e2, lu2]; exact l1, by rw [List.length_set]; exact l2, f2, dQ', hzz', f5, hfin, ?_⟩
            exact xw (zsS zi0 zs0)
      ·rintro s' ⟨U', Q', l1', l2', dU', dQ', hzz', hlt', hsum', hw⟩
       refine SW_weak hw ?_
       clear hw
       have vj : Ve (IntKind.i64.wrap ((j : Int) - 1)) ((j : Int) - 1) := ⟨wrap_i64 (by omega)⟩
       refine SW_region ?_
       refine xn 1 [] [(83, .int .i64 (j : Int))] ?_
       refine xve 84 IntKind.i64 (IntKind.wrap IntKind.i64 ((j : Int) - 1)) ((j : Int) - 1) vj ?_
       refine xz [] [(13, .int .i64 ((j : Int) - 1))] ?_
       refine ⟨j, by omega, U', Q', l1', l2', dU', dQ', by omega, hzz', hlt', hsum', ?_⟩
       exact xw (zsS zi0 zs0)
   ·rintro s' ⟨U, Q, l1, l2, dU, dQ, hlt', hsum, hw⟩
    refine SW_weak hw ?_
    clear hw
    clear hdl huv hud hul hu hue hlt2 htlt hvge hvlt hpow hlowb hvb hzs h2s lz hz0 hz zB hm0 hm64 v1 v2 v3 v4 c1 c2
    obtain ⟨f1, f2⟩ := quot_of (show val B64 U + val B64 Q * val B64 v = val B64 a * 2 ^ s by omega) hlt'
    rw [vv, Nat.mul_div_mul_right _ _ hps] at f1
    rw [vv, Nat.mul_mod_mul_right] at f2
    have eq : trimL Q = q := norm_inj B64_pos dQ.trim dq (norm_trim _) nq (by rw [val_trim, vq, f1])
    have ctq := ct_impl_trimmed Q (some ⟨g1, 0, none⟩) (a.length - v.length + 1) (by omega)
    rw [eq] at ctq
    have ctu := ct_impl_trimmed U (some ⟨g0, 0, none⟩) (a.length + 1) (by omega)
    obtain ⟨W, eW⟩ : ∃ W, trimL U = W := ⟨_, rfl⟩
    have dW : Dig B64 W := by rw [← eW]; exact dU.trim
    have lW : W.length ≤ v.length := len_le_of_val dW (by rw [← eW]; exact norm_trim _) (by rw [← eW, val_trim]; exact Nat.lt_trans hlt' (val_lt dv))
    have vW : val B64 W = val B64 a % val B64 b * 2 ^ s := by rw [← eW, val_trim, f2]
    rw [eW] at ctu
    have vr' : val B64 r = val B64 W / 2 ^ s := by rw [vr, vW, Nat.mul_div_cancel _ hps]
    have lW' : W.length ≤ 1000000 := by omega
    refine xg ?_
    refine xn 1 [] [(292, .slice (some ⟨g1, 0, none⟩) (List.length Q) (List.length a - List.length v + 1))] ?_
    refine NW_fz 1 (a.length - v.length + 1) g1 .u64 Q [] 26 (by omega) (by omega) ?_
    refine NW_fz 0 (a.length + 1) g0 .u64 U [] 26 (by omega) (by omega) ?_
    refine xcr 293 ctq (zsS (ziS zi0) zs0) (fun A2 k2 => ?_)
    refine xn 3 [] [(294, .slice (some ⟨g0, 0, none⟩) (List.length U) (List.length a + 1))] ?_
    refine xcr 295 ctu (zsS (ziS zi0) zs0) (fun A3 k3 => ?_)
    refine xn 5 [] [(296, .int .i64 (s : Int))] ?_
    refine xcr 297 (ct_impl_nat_right_rows (W) (A3) (k3) dW lW' ((s : Int)) (s) ⟨rfl⟩ (by omega) (r) dr nr vr') (zsS zi0 zs0) (fun A4 k4 => ?_)
    refine xz [] [(5, .slice A4 (List.length r) k4), (4, .slice A2 (List.length q) k2)] ?_
    refine SW_ret ?_
    refine xe ((A2, k2), A4, k4) (.tuple #[.slice A2 (List.length q) k2, .slice A4 (List.length r) k4]) [] ?_ (zsS (ziS (ziS zi0)) (zsS zi0 zs0))
    rfl
end Go.Proofs.YtgknelgplmohoaaDoor.M
end
section
namespace Go.Proofs.YtgknelgplmohoaaDoor.M
open Go.RowKit Go.Proofs.YtgknelgplmohoaaDoor.G Go.Proofs.YtgknelgplmohoaaDoorV.PrintWords Go.Proofs.YtgknelgplmohoaaDoorV.PrintLast Go.Proofs.YtgknelgplmohoaaDoor.X
set_option linter.unusedVariables false
set_option linter.unusedSimpArgs false
theorem half_ve (k : Nat) : Ve (shf .i64 (k : Int) 1) ((k / 2 : Nat) : Int) := ⟨by
 unfold shf
 rw [show min (Int.toNat 1) IntKind.i64.bits = 1 from rfl, Int.fdiv_eq_ediv_of_nonneg _ (Int.pow_nonneg (by decide))]
 omega⟩
theorem pow_step {a b k V : Nat} (h : a * b ^ k = V) (hk : k % 2 = 1) : a * b * (b * b) ^ (k / 2) = V := by
 rw [← h, pow_half b k, hk, Nat.pow_one, Nat.mul_assoc]
theorem pow_step0 {a b k V : Nat} (h : a * b ^ k = V) (hk : k % 2 = 0) : a * (b * b) ^ (k / 2) = V := by
 rw [← h, pow_half b k, hk, Nat.pow_zero, Nat.one_mul]
theorem pow_small {a b k V : Nat} (ha : 0 < a) (hb : 0 < b) (h : a * b ^ k = V) : a ≤ V ∧ (0 < k → b ≤ V) := by
 have hp : 0 < b ^ k := Nat.pow_pos hb
 refine ⟨by rw [← h]; exact Nat.le_mul_of_pos_right _ hp, fun hk => ?_⟩
 have h1 : b ^ 1 ≤ b ^ k := Nat.pow_le_pow_right hb hk
 rw [Nat.pow_one] at h1
 rw [← h]
 exact Nat.le_trans h1 (Nat.le_mul_of_pos_left _ ha)
theorem ct_impl_pow_rows (a : List Int) (A : Option Addr) (c : Nat) (da : Dig B64 a) (na : Norm a) (h0 : 0 < val B64 a) (E : Int) (e : Nat) (hE : Nn E e) (he : e ≤ 20000) (L : Nat) (hL1 : L ≤ 500000) (hL : val B64 a ^ e < B64 ^ L) : ∀ r, Dig B64 r → Norm r → val B64 r = val B64 a ^ e → CtR Tryd.prog 147 [.slice A a.length c, .int .i64 E] [Row .u64 A c a] .u64 r := by
 intro r dr nr vr
 obtain ⟨rfl⟩ := hE
 refine ct_of Tryd.func147 rfl (by kernel_rfl) (fun B w0 => ?_)
 obtain ⟨w1, d1, n1, v1⟩ := exists_nat 1
 have cw := ct_impl_word_rows 1 1 ⟨rfl⟩ (by unfold B64; decide) w1 d1 n1 v1
 refine xr [] [(4, .slice none 0 0)] ?_
 refine xg ?_
 refine xcr 6 cw zs0 (fun A0 k0 => ?_)
 refine xz [] [(5, .slice A0 (List.length w1) k0)] ?_
 refine SW_cut (fun s' => ∃ (Ac : Option Addr) (cc : Nat), Weak s' ⟨[(5, .slice Ac r.length cc)], [], [Row .u64 Ac cc r]⟩) ?_ ?_
 ·refine SW_block ?_
  refine SW_loopn (fun k s' => ∃ (x y : List Int) (Ax Ay : Option Addr) (cx cy : Nat), Dig B64 x ∧ Norm x ∧ Dig B64 y ∧ Norm y ∧ 0 < val B64 x ∧ 0 < val B64 y ∧ k ≤ e ∧ val B64 x * val B64 y ^ k = val B64 a ^ e ∧ Weak s' ⟨[(0, .slice Ay y.length cy), (1, .int .i64 (k : Int)), (5, .slice Ax x.length cx)], [], [Row .u64 Ax cx x, Row .u64 Ay cy y]⟩) e ⟨w1, a, A0, A, k0, c, d1, n1, da, na, by rw [v1]; decide, h0, Nat.le_refl _, by rw [v1, Nat.one_mul], ?_⟩ (fun k s' hI => ?_)
  ·exact xw (zsS zi0 (zsS (ziS zi0) zs0))
  ·obtain ⟨x, y, Ax, Ay, cx, cy, i1, i2, i3, i4, i5, i6, i7, i8, hw⟩ := hI
   refine SW_weak hw ?_
   clear hw
   obtain ⟨b1, b2⟩ := pow_small i5 i6 i8
   by_cases hk : 0 < k
   ·have z1 : decide ((k : Int) > 0) = true := decide_eq_true (by omega)
    have vh := half_ve k
    have va : Ve (bits .and .i64 (k : Int) 1) ((k % 2 : Nat) : Int) := ⟨and_one k (by omega)⟩
    have lx : x.length ≤ L := len_le_of_val i1 i2 (Nat.lt_of_le_of_lt b1 hL)
    have ly : y.length ≤ L := len_le_of_val i3 i4 (Nat.lt_of_le_of_lt (b2 hk) hL)
    clear b1 b2
    obtain ⟨yy, d3, n3, v3⟩ := exists_nat (val B64 y * val B64 y)
    have cyy := ct_impl_nat_mul_rows y y Ay Ay cy cy i3 i3 (by omega) (by omega) yy d3 n3 v3
    have py : 0 < val B64 yy := by rw [v3]; exact Nat.mul_pos i6 i6
    by_cases ho : k % 2 = 1
    ·have z2 : (((k % 2 : Nat) : Int) == 1) = true := beq_iff_eq.2 (by omega)
     obtain ⟨xy, d2, n2, v2⟩ := exists_nat (val B64 x * val B64 y)
     have cxy := ct_impl_nat_mul_rows x y Ax Ay cx cy i1 i3 (by omega) (by omega) xy d2 n2 v2
     have px : 0 < val B64 xy := by rw [v2]; exact Nat.mul_pos i5 i6
     have hst := pow_step i8 ho
     rw [← v2, ← v3] at hst
     by_cases h1 : 1 < k
     ·have z3 : decide ((k : Int) > 1) = true := decide_eq_true (by omega)
      refine SW_seq ?_
      refine xr [] [(8, .bool (decide ((k : Int) > 0)))] ?_
      refine xst z1 ?_
      refine SW_skip ?_
      refine SW_seq ?_
      refine SW_block ?_
      refine SW_seq ?_
      refine xg ?_
      refine xn 1 [] [(11, .int .i64 (k : Int))] ?_
      refine xve 12 IntKind.i64 (bits BinOp.and IntKind.i64 (k : Int) 1) ((((k % 2) : Nat) : Int)) va ?_
      refine xz [] [(13, .bool ((((k % 2) : Nat) : Int) == 1))] ?_
      refine xst z2 ?_
      refine SW_region ?_
      refine xn 2 [] [(15, .slice Ay (List.length y) cy), (14, .slice Ax (List.length x) cx)] ?_
      refine xcr 16 cxy (zsS zi0 (zsS (ziS zi0) zs0)) (fun A1 k1 => ?_)
      refine xz [] [(5, .slice A1 (List.length xy) k1)] ?_
      refine xr [] [(18, .bool (decide ((k : Int) > 1)))] ?_
      refine xst z3 ?_
      refine SW_region ?_
      refine xn 2 [] [(20, .slice Ay (List.length y) cy), (19, .slice Ay (List.length y) cy)] ?_
      refine xcr 21 cyy (zsS (ziS (ziS zi0)) (zsS (ziS (ziS zi0)) zs0)) (fun A2 k2 => ?_)
      refine xz [] [(0, .slice A2 (List.length yy) k2)] ?_
      refine SW_region ?_
      refine xn 1 [] [(9, .int .i64 (k : Int))] ?_
      refine xve 10 IntKind.i64 (shf IntKind.i64 (k : Int) 1) ((((k / 2) : Nat) : Int)) vh ?_
      refine xz [] [(1, .int .i64 (((k / 2) : Nat) : Int))] ?_
      refine ⟨k / 2, by omega, xy, yy, A1, A2, k1, k2, d2, n2, d3, n3, px, py, by omega, hst, ?_⟩
      exact xw (zsS (ziS zi0) (zsS zi0 zs0))
     ·have z3 : decide ((k : Int) > 1) = false := decide_eq_false (by omega)
      obtain rfl : k = 1 := by omega
      have vh1 : Ve (shf .i64 ((1 : Nat) : Int) 1) ((0 : Nat) : Int) := vh
      refine SW_seq ?_
      refine xr [] [(8, .bool true)] ?_
      refine xs1 ?_
      refine SW_skip ?_
      refine SW_seq ?_
      refine SW_block ?_
      refine SW_seq ?_
      refine xr [] [(13, .bool true)] ?_
      refine xs1 ?_
      refine SW_region ?_
      refine xn 2 [] [(15, .slice Ay (List.length y) cy), (14, .slice Ax (List.length x) cx)] ?_
      refine xcr 16 cxy (zsS zi0 (zsS (ziS zi0) zs0)) (fun A1 k1 => ?_)
      refine xz [] [(5, .slice A1 (List.length xy) k1)] ?_
      refine xr [] [(18, .bool false)] ?_
      refine xs0 ?_
      refine SW_skip ?_
      refine xrl [] [(1, .int .i64 0)] ?_
      refine ⟨0, by omega, xy, y, A1, Ay, k1, cy, d2, n2, i3, i4, px, i6, by omega, by rw [Nat.pow_zero, v2]; rw [Nat.pow_one] at i8; omega, ?_⟩
      exact xw (zsS zi0 (zsS (ziS (ziS zi0)) zs0))
    ·have z2 : (((k % 2 : Nat) : Int) == 1) = false := by rw [beq_eq_false_iff_ne]; omega
     have z3 : decide ((k : Int) > 1) = true := decide_eq_true (by omega)
     have hst := pow_step0 i8 (by omega)
     rw [← v3] at hst
     refine SW_seq ?_
     refine xr [] [(8, .bool (decide ((k : Int) > 0)))] ?_
     refine xst z1 ?_
     refine SW_skip ?_
     refine SW_seq ?_
     refine SW_block ?_
     refine SW_seq ?_
     refine xg ?_
     refine xn 1 [] [(11, .int .i64 (k : Int))] ?_
     refine xve 12 IntKind.i64 (bits BinOp.and IntKind.i64 (k : Int) 1) ((((k % 2) : Nat) : Int)) va ?_
     refine xz [] [(13, .bool ((((k % 2) : Nat) : Int) == 1))] ?_
     refine xsf z2 ?_
     refine SW_skip ?_
     refine xr [] [(18, .bool (decide ((k : Int) > 1)))] ?_
     refine xst z3 ?_
     refine SW_region ?_
     refine xn 2 [] [(20, .slice Ay (List.length y) cy), (19, .slice Ay (List.length y) cy)] ?_
     refine xcr 21 cyy (zsS (ziS zi0) (zsS (ziS zi0) zs0)) (fun A1 k1 => ?_)
     refine xz [] [(0, .slice A1 (List.length yy) k1)] ?_
     refine SW_region ?_
     refine xn 1 [] [(9, .int .i64 (k : Int))] ?_
     refine xve 10 IntKind.i64 (shf IntKind.i64 (k : Int) 1) ((((k / 2) : Nat) : Int)) vh ?_
     refine xz [] [(1, .int .i64 (((k / 2) : Nat) : Int))] ?_
     refine ⟨k / 2, by omega, x, yy, Ax, A1, cx, k1, i1, i2, d3, n3, i5, py, by omega, hst, ?_⟩
     exact xw (zsS (ziS zi0) (zsS zi0 zs0))
   ·have z1 : decide ((k : Int) > 0) = false := decide_eq_false (by omega)
    obtain rfl : k = 0 := by omega
    rw [Nat.pow_zero, Nat.mul_one] at i8
    have er : x = r := norm_inj B64_pos i1 dr i2 nr (by rw [vr, i8])
    rw [← er]
    refine SW_seq ?_
    refine xr [] [(8, .bool false)] ?_
    refine xs0 ?_
    refine SW_exit ?_
    refine ⟨Ax, cx, ?_⟩
    exact xw (zsS zi0 zs0)
 ·rintro s' ⟨Ac, cc, hw⟩
  refine SW_weak hw ?_
  clear hw
  refine xr [] [(4, .slice Ac (List.length r) cc)] ?_
  refine SW_ret ?_
  refine xe (Ac, cc) (.slice Ac (List.length r) cc) [] ?_ (zsS zi0 zs0)
  rfl
theorem ct_impl_ten_rows (E : Int) (e : Nat) (hE : Nn E e) (he : e ≤ 20000) : ∀ r, Dig B64 r → Norm r → val B64 r = 10 ^ e → CtR Tryd.prog 120 [.int .i64 E] [] .u64 r := by
 intro r dr nr vr
 obtain ⟨rfl⟩ := hE
 refine ct_of Tryd.func120 rfl (by kernel_rfl) (fun B w0 => ?_)
 obtain ⟨w1, d1, n1, v1⟩ := exists_nat 10
 have cw := ct_impl_word_rows 10 10 ⟨rfl⟩ (by unfold B64; decide) w1 d1 n1 v1
 have h1 : 0 < val B64 w1 := by rw [v1]; decide
 have hL : val B64 w1 ^ e < B64 ^ (e + 1) := by
  rw [v1]
  refine Nat.lt_of_lt_of_le (Nat.lt_of_le_of_lt (Nat.pow_le_pow_left (show 10 ≤ B64 by unfold B64; decide) e) ?_) (Nat.le_refl _)
  exact Nat.pow_lt_pow_right (by unfold B64; decide) (Nat.lt_succ_self e)
 have vr' : val B64 r = val B64 w1 ^ e := by rw [v1]; exact vr
 have hL1 : e + 1 ≤ 500000 := by omega
 clear vr
 refine xr [] [(2, .slice none 0 0)] ?_
 refine xg ?_
 refine xcr 3 cw zs0 (fun A0 k0 => ?_)
 refine xn 2 [] [(4, .int .i64 (e : Int))] ?_
 refine xcr 5 (ct_impl_pow_rows (w1) (A0) (k0) d1 n1 h1 ((e : Int)) (e) ⟨rfl⟩ he (e + 1) hL1 hL (r) dr nr vr') (zsS zi0 zs0) (fun A1 k1 => ?_)
 refine xz [] [(2, .slice A1 (List.length r) k1)] ?_
 refine SW_ret ?_
 refine xe (A1, k1) (.slice A1 (List.length r) k1) [] ?_ (zsS zi0 zs0)
 rfl
end Go.Proofs.YtgknelgplmohoaaDoor.M
end
section
namespace Go.Proofs.YtgknelgplmohoaaDoor.M
open Go.RowKit Go.Proofs.YtgknelgplmohoaaDoor.G Go.Proofs.YtgknelgplmohoaaDoorV.PrintWords Go.Proofs.YtgknelgplmohoaaDoorV.PrintLast Go.Proofs.YtgknelgplmohoaaDoor.X
set_option linter.unusedVariables false
set_option linter.unusedSimpArgs false
theorem ct_spec_l1Trim (l : List Int) (A : Option Addr) (c : Nat) (hl : l.length ≤ 1000000000000) : CtR Tryd.prog 99 [.slice A l.length c] [Row .u64 A c l] .u64 (trimL l) := by
 refine ct_of Tryd.func99 rfl (by kernel_rfl) (fun B w0 => ?_)
 refine SW_know zi0 (fun w h => h.2) (fun hc => ?_)
 refine xr [] [(2, .slice none 0 0)] ?_
 refine xr [] [(3, .int .i64 (((List.length l) : Nat) : Int))] ?_
 refine SW_cut (fun s' => ∃ m : Nat, m ≤ l.length ∧ trimL l = l.take m ∧ Weak s' ⟨[(0, .slice A l.length c), (3, .int .i64 (m : Int))], [], [Row .u64 A c l]⟩) ?_ ?_
 ·refine SW_block ?_
  refine SW_loopn (fun m s => m ≤ l.length ∧ (∀ i : Nat, m ≤ i → rd l i = 0) ∧ Weak s ⟨[(0, .slice A l.length c), (3, .int .i64 (m : Int))], [], [Row .u64 A c l]⟩) l.length ⟨Nat.le_refl _, fun i hi => rd_of_ge l i (by simpa using hi), ?_⟩ (fun m s hI => ?_)
  ·exact xw (zsS zi0 zs0)
  ·obtain ⟨h1, h2, hw⟩ := hI
   refine SW_weak hw ?_
   clear hw
   by_cases h0 : m = 0
   ·have z0 : decide ((m : Int) > 0) = false := decide_eq_false (by omega)
    have e := trimL_take _ rfl h1 h2 (fun z => absurd h0 (by omega))
    refine SW_seq ?_
    refine xg ?_
    refine xn 3 [] [(9, .bool (decide ((m : Int) > 0)))] ?_
    refine xkf 9 z0 ?_
    refine xz [] [(16, .bool false)] ?_
    refine xs0 ?_
    refine SW_exit ?_
    refine ⟨m, h1, e, ?_⟩
    exact xw (zsS zi0 zs0)
   ·have z0 : decide ((m : Int) > 0) = true := decide_eq_true (by omega)
    refine SW_know zi0 (fun w h => row_at h (by omega)) (fun ⟨ad, e⟩ => ?_)
    subst e
    have wi : Ve (IntKind.i64.wrap ((m : Int) - 1)) ((m - 1 : Nat) : Int) := veI (by omega) (by omega)
    by_cases hz : rd l ((m - 1 : Nat) : Int) = 0
    ·have z1 : (rd l ((m - 1 : Nat) : Int) == 0) = true := beq_iff_eq.2 hz
     refine SW_seq ?_
     refine xg ?_
     refine xn 3 [] [(9, .bool (decide ((m : Int) > 0)))] ?_
     refine xkt 9 z0 ?_
     refine xn 5 [] [(11, .int .i64 (m : Int)), (10, .slice (some ad) (List.length l) c)] ?_
     refine xve 12 IntKind.i64 (IntKind.wrap IntKind.i64 ((m : Int) - 1)) ((((m - 1) : Nat) : Int)) wi ?_
     refine xfi 13 26 (ad) (List.length l) (c) (m - 1) IntKind.i64 ((((m - 1) : Nat) : Int)) ⟨rfl⟩ (by omega) ?_
     refine xfl 14 zi0 (m - 1) (by omega) ?_
     refine xz [] [(16, .bool (rd l (((m - 1) : Nat) : Int) == 0))] ?_
     refine xst z1 ?_
     refine SW_skip ?_
     refine SW_block ?_
     refine SW_region ?_
     refine xn 1 [] [(17, .int .i64 (m : Int))] ?_
     refine xve 18 IntKind.i64 (IntKind.wrap IntKind.i64 ((m : Int) - 1)) ((((m - 1) : Nat) : Int)) wi ?_
     refine xz [] [(3, .int .i64 (((m - 1) : Nat) : Int))] ?_
     refine ⟨m - 1, by omega, by omega, fun i hi => ?_, ?_⟩
     ·rcases Nat.eq_or_lt_of_le hi with h | h
      ·rw [← h]; exact hz
      ·exact h2 i (by omega)
     ·exact xw (zsS zi0 zs0)
    ·have z1 : (rd l ((m - 1 : Nat) : Int) == 0) = false := by rw [beq_eq_false_iff_ne]; exact hz
     have e := trimL_take _ rfl h1 h2 (fun _ => hz)
     refine SW_seq ?_
     refine xg ?_
     refine xn 3 [] [(9, .bool (decide ((m : Int) > 0)))] ?_
     refine xkt 9 z0 ?_
     refine xn 5 [] [(11, .int .i64 (m : Int)), (10, .slice (some ad) (List.length l) c)] ?_
     refine xve 12 IntKind.i64 (IntKind.wrap IntKind.i64 ((m : Int) - 1)) ((((m - 1) : Nat) : Int)) wi ?_
     refine xfi 13 26 (ad) (List.length l) (c) (m - 1) IntKind.i64 ((((m - 1) : Nat) : Int)) ⟨rfl⟩ (by omega) ?_
     refine xfl 14 zi0 (m - 1) (by omega) ?_
     refine xz [] [(16, .bool (rd l (((m - 1) : Nat) : Int) == 0))] ?_
     refine xsf z1 ?_
     refine SW_exit ?_
     refine ⟨m, h1, e, ?_⟩
     exact xw (zsS zi0 zs0)
 ·rintro s' ⟨m, h1, e, hw⟩
  refine SW_weak hw ?_
  clear hw
  rw [e]
  obtain ⟨y, hy⟩ : ∃ y, l.take m = y := ⟨_, rfl⟩
  obtain rfl : m = y.length := by rw [← hy, List.length_take]; omega
  have hz : y ++ (List.replicate y.length 0).drop y.length = y := by simp
  refine SW_fact (G := Row .u64 A c y) zi0 (fun w h => by have := row_take y.length c (by omega) h; rwa [hy] at this) ?_
  rw [hy]
  clear e
  refine xg ?_
  refine xn 1 [] [(19, .int .i64 (((List.length y) : Nat) : Int))] ?_
  refine xma 20 26 (List.length y) IntKind.u64 8 ((((List.length y) : Nat) : Int)) ⟨rfl⟩ (by omega) (fun g0 => ?_)
  refine xz [] [(4, .slice (some ⟨g0, 0, none⟩) (List.length y) (List.length y))] ?_
  refine xg ?_
  refine xn 3 [] [(23, .int .i64 (((List.length y) : Nat) : Int)), (22, .slice A (List.length l) c), (21, .slice (some ⟨g0, 0, none⟩) (List.length y) (List.length y))] ?_
  refine xsh 24 26 (A) (List.length l) (c) (List.length y) IntKind.i64 ((((List.length y) : Nat) : Int)) ⟨rfl⟩ (by omega) ?_
  refine xcq 25 0 26 (g0) (List.length y) (List.length y) (c) (List.replicate (List.length y) 0) ([]) zi0 (by first | rfl | (simp <;> omega)) (by first | omega | (simp <;> omega)) hz ?_
  refine xz [] [] ?_
  refine xr [] [(2, .slice (some ⟨g0, 0, none⟩) (List.length y) (List.length y))] ?_
  refine SW_fz 0 (List.length y) (g0) IntKind.u64 (y) ([]) 26 (by first | omega | (simp <;> omega)) (by first | omega | (simp <;> omega)) ?_
  refine SW_ret ?_
  refine xe (some ⟨g0, 0, none⟩, List.length y) (.slice (some ⟨g0, 0, none⟩) (List.length y) (List.length y)) [] ?_ (zsS zi0 zs0)
  rfl
theorem nat_rd32 {l : List Int} (d : Dig B32 l) (i : Nat) : ∃ x : Nat, rd l (i : Int) = (x : Int) ∧ x < 4294967296 := ⟨(rd l i).toNat, by have := (d.rd B32_pos i).1; omega, by have := d.rd B32_pos i; unfold B32 at this; omega⟩
theorem ct_spec_l1At (l : List Int) (A : Option Addr) (c : Nat) (N : Int) (n : Nat) (hN : Nn N n) (x : Int) (hx : Ve (rd l (n : Int)) x) (hl : l.length ≤ 1000000000000) : CtV Tryd.prog 82 [.slice A l.length c, .int .i64 N] [Row .u64 A c l] (.int .u64 x) := by
 obtain ⟨rfl⟩ := hN
 obtain ⟨rfl⟩ := hx
 refine ct_of Tryd.func82 rfl (by kernel_rfl) (fun B w0 => ?_)
 by_cases h : n < l.length
 ·have z : decide ((n : Int) < (l.length : Int)) = true := decide_eq_true (by omega)
  refine SW_know zi0 (fun w h => row_at h (by omega)) (fun ⟨ad, e⟩ => ?_)
  subst e
  refine xr [] [(4, .int .u64 0)] ?_
  refine SW_seq ?_
  refine xr [] [(8, .bool (decide ((n : Int) < (((List.length l) : Nat) : Int))))] ?_
  refine xst z ?_
  refine xg ?_
  refine xn 2 [] [(10, .int .i64 (n : Int)), (9, .slice (some ad) (List.length l) c)] ?_
  refine xfi 11 26 (ad) (List.length l) (c) (n) IntKind.i64 ((n : Int)) ⟨rfl⟩ (by omega) ?_
  refine xfl 12 zi0 (n) (by omega) ?_
  refine xz [] [(4, .int .u64 (rd l (n : Int)))] ?_
  refine SW_ret ?_
  refine xe () (.int .u64 (rd l (n : Int))) [] ?_ trivial
  rfl
 ·have z : decide ((n : Int) < (l.length : Int)) = false := decide_eq_false (by omega)
  rw [rd_of_ge l n (by simpa using h)]
  refine xr [] [(4, .int .u64 0)] ?_
  refine SW_seq ?_
  refine xr [] [(8, .bool (decide ((n : Int) < (((List.length l) : Nat) : Int))))] ?_
  refine xsf z ?_
  refine SW_skip ?_
  refine xr [] [(4, .int .u64 0)] ?_
  refine SW_ret ?_
  refine xe () (.int .u64 0) [] ?_ trivial
  rfl
theorem add32_step {a b O : List Int} {i x y cy : Nat} (hx : rd a (i : Int) = (x : Int)) (hy : rd b (i : Int) = (y : Int)) (hl : O.length = i) (hv : val B32 O + B32 ^ i * cy = val B32 (a.take i) + val B32 (b.take i)) :
  val B32 (O ++ [(((x + y + cy) % 4294967296 : Nat) : Int)]) + B32 ^ (i + 1) * ((x + y + cy) / 4294967296) = val B32 (a.take (i + 1)) + val B32 (b.take (i + 1)) := by
 rw [val_snoc, val_take_succ, val_take_succ, hl, hx, hy, Nat.pow_succ, Nat.mul_assoc]
 simp only [Int.toNat_natCast]
 have h := congrArg (B32 ^ i * ·) (Nat.mod_add_div (x + y + cy) 4294967296)
 rw [show B32 * ((x + y + cy) / 4294967296) = 4294967296 * ((x + y + cy) / 4294967296) from rfl]
 generalize (x + y + cy) % 4294967296 = m at *
 generalize 4294967296 * ((x + y + cy) / 4294967296) = q at *
 generalize B32 ^ i = P at *
 simp only [Nat.mul_add] at h ⊢
 omega
theorem cast_dig32 {n : Nat} (h : n < 4294967296) : 0 ≤ (n : Int) ∧ (n : Int) < (B32 : Int) := by unfold B32; omega
theorem val_lt_len {B : Nat} (hB : 0 < B) {l : List Int} (h : Dig B l) {n : Nat} (hn : l.length ≤ n) : val B l < B ^ n := Nat.lt_of_lt_of_le (val_lt h) (Nat.pow_le_pow_right hB hn)
theorem ct_spec_l1Add_rows (a b : List Int) (A A' : Option Addr) (c c' : Nat) (da : Dig B32 a) (db : Dig B32 b) (hla : a.length ≤ 1000000000) (hlb : b.length ≤ 1000000000) : ∀ r, Dig B32 r → Norm r → val B32 r = val B32 a + val B32 b → CtR Tryd.prog 41 [.slice A a.length c, .slice A' b.length c'] [Row .u64 A c a, Row .u64 A' c' b] .u64 r := by
 intro r dr nr vr
 refine ct_of Tryd.func41 rfl (by kernel_rfl) (fun B w0 => ?_)
 obtain ⟨n, hn, hn1, hn2, hn3⟩ : ∃ n, n = max a.length b.length ∧ a.length ≤ n ∧ b.length ≤ n ∧ n ≤ 1000000000 := ⟨_, rfl, by omega, by omega, by omega⟩
 refine xr [] [(4, .slice none 0 0)] ?_
 refine xr [] [(5, .int .i64 (((List.length a) : Nat) : Int))] ?_
 refine SW_cut (fun s' => Weak s' ⟨[(0, .slice A a.length c), (1, .slice A' b.length c'), (5, .int .i64 (n : Int))], [], [Row .u64 A c a, Row .u64 A' c' b]⟩) ?_ ?_
 ·by_cases h : b.length > a.length
  ·have z : decide ((b.length : Int) > (a.length : Int)) = true := decide_eq_true (by omega)
   obtain rfl : n = b.length := by omega
   refine xr [] [(15, .bool (decide ((((List.length b) : Nat) : Int) > (((List.length a) : Nat) : Int))))] ?_
   refine xst z ?_
   refine xrl [] [(5, .int .i64 (((List.length b) : Nat) : Int))] ?_
   exact xw (zsS zi0 (zsS (ziS zi0) zs0))
  ·have z : decide ((b.length : Int) > (a.length : Int)) = false := decide_eq_false (by omega)
   obtain rfl : n = a.length := by omega
   refine xr [] [(15, .bool (decide ((((List.length b) : Nat) : Int) > (((List.length a) : Nat) : Int))))] ?_
   refine xsf z ?_
   refine SW_skip ?_
   exact xw (zsS zi0 (zsS (ziS zi0) zs0))
 ·rintro s' hw
  refine SW_weak hw ?_
  clear hw
  refine xr [] [(6, .slice none 0 0)] ?_
  refine xr [] [(7, .int .u64 0)] ?_
  refine SW_seq ?_
  refine xr [] [(8, .int .i64 0)] ?_
  refine SW_then (fun s' => ∃ (sl : Value) (bs : List Box) (O : List Int), Own 26 .u64 sl bs O ∧ Dig B32 O ∧ O.length = n + 1 ∧ val B32 O = val B32 a + val B32 b ∧ Weak s' ⟨[(6, sl)], bs, []⟩) ?_ ?_
  ·refine SW_block ?_
   refine SW_loopn (fun m s' => ∃ (sl : Value) (bs : List Box) (O : List Int) (i cy : Nat), m + i = n + 1 ∧ Own 26 .u64 sl bs O ∧ Dig B32 O ∧ O.length = i ∧ cy ≤ 1 ∧ val B32 O + B32 ^ i * cy = val B32 (a.take i) + val B32 (b.take i) ∧ Weak s' ⟨[(0, .slice A a.length c), (1, .slice A' b.length c'), (5, .int .i64 (n : Int)), (6, sl), (7, .int .u64 (cy : Int)), (8, .int .i64 (i : Int))], bs, [Row .u64 A c a, Row .u64 A' c' b]⟩) (n + 1) ⟨_, _, [], 0, 0, rfl, Own.nil 26 .u64, Dig.nil _, rfl, by decide, rfl, ?_⟩ (fun m s' hI => ?_)
   ·exact xw (zsS zi0 (zsS (ziS zi0) zs0))
   ·obtain ⟨sl0, bs0, O, i, cy, k1, hO0, k3, k4, k5, k6, hw⟩ := hI
    refine SW_weak hw ?_
    clear hw
    by_cases hi : i ≤ n
    ·have z : decide ((i : Int) ≤ (n : Int)) = true := decide_eq_true (by omega)
     obtain ⟨m, rfl⟩ : ∃ m', m = m' + 1 := ⟨m - 1, by omega⟩
     obtain ⟨x, hx, hxB⟩ := nat_rd32 da i
     obtain ⟨y, hy, hyB⟩ := nat_rd32 db i
     have v1 : Ve (rd a (i : Int)) (x : Int) := ⟨hx⟩
     have v2 : Ve (rd b (i : Int)) (y : Int) := ⟨hy⟩
     have v3 : Ve (IntKind.u64.wrap ((x : Int) + (y : Int))) ((x + y : Nat) : Int) := veU (by omega) (by omega)
     have v4 : Ve (IntKind.u64.wrap (((x + y : Nat) : Int) + (cy : Int))) ((x + y + cy : Nat) : Int) := veU (by omega) (by omega)
     have v5 := low_ve (x + y + cy) (by omega)
     have v6 := high_ve (x + y + cy)
     have v7 : Ve (IntKind.i64.wrap ((i : Int) + 1)) ((i + 1 : Nat) : Int) := veI (by omega) (by omega)
     have hst := add32_step hx hy k4 k6
     refine SW_seq ?_
     refine xr [] [(20, .bool (decide ((i : Int) ≤ (n : Int))))] ?_
     refine xst z ?_
     refine SW_skip ?_
     refine SW_seq ?_
     refine SW_block ?_
     refine xg ?_
     refine xn 2 [] [(24, .int .i64 (i : Int)), (23, .slice A (List.length a) c)] ?_
     refine xcv 25 (ct_spec_l1At (a) (A) (c) ((i : Int)) (i) ⟨rfl⟩ ((x : Int)) v1 (by omega)) (zsS zi0 zs0) ?_
     refine xn 5 [] [(27, .int .i64 (i : Int)), (26, .slice A' (List.length b) c')] ?_
     refine xcv 28 (ct_spec_l1At (b) (A') (c') ((i : Int)) (i) ⟨rfl⟩ ((y : Int)) v2 (by omega)) (zsS (ziS zi0) zs0) ?_
     refine xve 29 IntKind.u64 (IntKind.wrap IntKind.u64 ((x : Int) + (y : Int))) ((((x + y) : Nat) : Int)) v3 ?_
     refine xn 8 [] [(30, .int .u64 (cy : Int))] ?_
     refine xve 31 IntKind.u64 (IntKind.wrap IntKind.u64 ((((x + y) : Nat) : Int) + (cy : Int))) ((((x + y + cy) : Nat) : Int)) v4 ?_
     refine xz [] [(9, .int .u64 (((x + y + cy) : Nat) : Int))] ?_
     refine xg ?_
     refine xn 2 [] [(33, .int .u64 (((x + y + cy) : Nat) : Int)), (32, sl0)] ?_
     refine xve 34 IntKind.u64 (bits BinOp.and IntKind.u64 (((x + y + cy) : Nat) : Int) 4294967295) (((((x + y + cy) % 4294967296) : Nat) : Int)) v5 ?_
     refine xbl 35 [.int .u64 ((((x + y + cy) % 4294967296) : Nat) : Int)] 26 1 (fun g0 => ?_)
     refine xow 36 8 (g0) (1) [((((x + y + cy) % 4294967296) : Nat) : Int)] hO0 (by first | omega | (simp <;> omega)) (fun sl1 bs1 hO1 => ?_)
     refine xz [] [(6, sl1)] ?_
     refine SW_region ?_
     refine xn 1 [] [(37, .int .u64 (((x + y + cy) : Nat) : Int))] ?_
     refine xve 38 IntKind.u64 (shf IntKind.u64 (((x + y + cy) : Nat) : Int) 32) (((((x + y + cy) / 4294967296) : Nat) : Int)) v6 ?_
     refine xz [] [(7, .int .u64 ((((x + y + cy) / 4294967296) : Nat) : Int))] ?_
     refine SW_region ?_
     refine xn 1 [] [(21, .int .i64 (i : Int))] ?_
     refine xve 22 IntKind.i64 (IntKind.wrap IntKind.i64 ((i : Int) + 1)) ((((i + 1) : Nat) : Int)) v7 ?_
     refine xz [] [(8, .int .i64 (((i + 1) : Nat) : Int))] ?_
     refine ⟨m, by omega, sl1, bs1, _, i + 1, (x + y + cy) / 4294967296, by omega, hO1, k3.snoc (cast_dig32 (Nat.mod_lt _ (by decide))), by rw [List.length_append, k4]; rfl, by omega, hst, ?_⟩
     exact xw (zsS zi0 (zsS (ziS zi0) zs0))
    ·have z : decide ((i : Int) ≤ (n : Int)) = false := decide_eq_false (by omega)
     obtain rfl : i = n + 1 := by omega
     rw [List.take_of_length_le (by omega), List.take_of_length_le (by omega)] at k6
     have hcy : cy = 0 := by
      have h1 := val_lt_len B32_pos da hn1
      have h2 := val_lt_len B32_pos db hn2
      rcases Nat.lt_or_ge cy 1 with h | h
      ·omega
      ·obtain rfl : cy = 1 := by omega
       rw [Nat.pow_succ, Nat.mul_one] at k6
       have h3 : B32 ^ n * 2 ≤ B32 ^ n * B32 := Nat.mul_le_mul_left _ (by unfold B32; decide)
       omega
     rw [hcy, Nat.mul_zero, Nat.add_zero] at k6
     refine SW_seq ?_
     refine xr [] [(20, .bool (decide ((((n + 1) : Nat) : Int) ≤ (n : Int))))] ?_
     refine xsf z ?_
     refine SW_exit ?_
     refine ⟨sl0, bs0, O, hO0, k3, k4, k6, ?_⟩
     exact xw zs0
  ·rintro s' ⟨sl, bs, O, hO, dO, lO, vO, hw⟩
   refine SW_weak hw ?_
   clear hw
   refine SW_own hO (by omega) (fun Ao co e => ?_)
   subst e
   have er : trimL O = r := norm_inj B32_pos dO.trim dr (norm_trim _) nr (by rw [val_trim, vO, vr])
   have ct := ct_spec_l1Trim O Ao co (by omega)
   rw [er] at ct
   refine xg ?_
   refine xn 1 [] [(39, .slice Ao (List.length O) co)] ?_
   refine xcr 40 ct (zsS zi0 zs0) (fun A0 k0 => ?_)
   refine xz [] [(4, .slice A0 (List.length r) k0)] ?_
   refine SW_ret ?_
   refine xe (A0, k0) (.slice A0 (List.length r) k0) [] ?_ (zsS zi0 zs0)
   rfl
end Go.Proofs.YtgknelgplmohoaaDoor.M
end
section
namespace Go.Proofs.YtgknelgplmohoaaDoor.M
open Go.RowKit Go.Proofs.YtgknelgplmohoaaDoor.G Go.Proofs.YtgknelgplmohoaaDoorV.PrintWords Go.Proofs.YtgknelgplmohoaaDoorV.PrintLast Go.Proofs.YtgknelgplmohoaaDoor.X
set_option linter.unusedVariables false
set_option linter.unusedSimpArgs false
theorem rd_cons0 (x : Int) (l : List Int) : rd (x :: l) ((0 : Nat) : Int) = x := rfl
theorem rd_consS (x : Int) (l : List Int) (i : Nat) : rd (x :: l) ((i + 1 : Nat) : Int) = rd l (i : Int) := by rw [rd_nat, rd_nat]; simp [List.getD_eq_getElem?_getD]
theorem val_rd0 {B : Nat} : ∀ {b : List Int}, (∀ i : Nat, rd b (i : Int) = 0) → val B b = 0
 | [], _ => rfl
 | x :: l, h => by
  rw [val_cons, val_rd0 (fun i => by rw [← rd_consS x l i]; exact h (i + 1)), ← rd_cons0 x l, h 0]
  rfl
theorem val_congr {B : Nat} : ∀ {a b : List Int}, (∀ i : Nat, rd a (i : Int) = rd b (i : Int)) → val B a = val B b
 | [], b, h => (val_rd0 (fun i => by rw [← h i]; exact rd_of_ge [] i (Nat.zero_le _))).symm
 | x :: l, [], h => val_rd0 (fun i => by rw [h i]; exact rd_of_ge [] i (Nat.zero_le _))
 | x :: l, y :: m, h => by
  have h0 := h 0
  rw [rd_cons0, rd_cons0] at h0
  rw [val_cons, val_cons, h0, val_congr (a := l) (b := m) (fun i => by have := h (i + 1); rwa [rd_consS, rd_consS] at this)]
theorem rd_drop (l : List Int) (k i : Nat) : rd (l.drop k) (i : Int) = rd l ((k + i : Nat) : Int) := by rw [rd_nat, rd_nat]; simp [List.getD_eq_getElem?_getD, List.getElem?_drop]
theorem val_cut (B : Nat) (l : List Int) (k : Nat) : val B l = val B (l.take k) + B ^ k * val B (l.drop k) := by
 rcases Nat.le_total k l.length with h | h
 ·exact val_split B l k h
 ·rw [List.take_of_length_le h, List.drop_eq_nil_of_le h]
  simp [val]
theorem val_less {B : Nat} (hB : 0 < B) {a b : List Int} (da : Dig B a) (db : Dig B b) {k : Nat} (hd : ∀ i : Nat, k < i → rd a (i : Int) = rd b (i : Int)) (hr : rd a (k : Int) < rd b (k : Int)) : val B a < val B b := by
 have e : val B (a.drop (k + 1)) = val B (b.drop (k + 1)) := val_congr (fun i => by rw [rd_drop, rd_drop]; exact hd _ (by omega))
 rw [val_cut B a (k + 1), val_cut B b (k + 1), e, val_take_succ, val_take_succ]
 have h1 : val B (a.take k) < B ^ k := val_lt_len hB (da.take k) (by rw [List.length_take]; omega)
 have h2 : (rd a (k : Int)).toNat + 1 ≤ (rd b (k : Int)).toNat := by have := (da.rd hB k).1; omega
 have h3 := Nat.mul_le_mul_left (B ^ k) h2
 rw [Nat.mul_add, Nat.mul_one] at h3
 omega
theorem ct_spec_l1Cmp_rows (a b : List Int) (A A' : Option Addr) (c c' : Nat) (da : Dig B32 a) (db : Dig B32 b) (hla : a.length ≤ 1000000000) (hlb : b.length ≤ 1000000000) : CtV Tryd.prog 68 [.slice A a.length c, .slice A' b.length c'] [Row .u64 A c a, Row .u64 A' c' b] (.int .i64 (cmpN (val B32 a) (val B32 b))) := by
 refine ct_of Tryd.func68 rfl (by kernel_rfl) (fun B w0 => ?_)
 obtain ⟨n, hn, hn1, hn2, hn3⟩ : ∃ n, n = max a.length b.length ∧ a.length ≤ n ∧ b.length ≤ n ∧ n ≤ 1000000000 := ⟨_, rfl, by omega, by omega, by omega⟩
 refine xr [] [(4, .int .i64 0)] ?_
 refine xr [] [(5, .int .i64 (((List.length a) : Nat) : Int))] ?_
 refine SW_cut (fun s' => Weak s' ⟨[(0, .slice A a.length c), (1, .slice A' b.length c'), (5, .int .i64 (n : Int))], [], [Row .u64 A c a, Row .u64 A' c' b]⟩) ?_ ?_
 ·by_cases h : b.length > a.length
  ·have z : decide ((b.length : Int) > (a.length : Int)) = true := decide_eq_true (by omega)
   obtain rfl : n = b.length := by omega
   refine xr [] [(12, .bool (decide ((((List.length b) : Nat) : Int) > (((List.length a) : Nat) : Int))))] ?_
   refine xst z ?_
   refine xrl [] [(5, .int .i64 (((List.length b) : Nat) : Int))] ?_
   exact xw (zsS zi0 (zsS (ziS zi0) zs0))
  ·have z : decide ((b.length : Int) > (a.length : Int)) = false := decide_eq_false (by omega)
   obtain rfl : n = a.length := by omega
   refine xr [] [(12, .bool (decide ((((List.length b) : Nat) : Int) > (((List.length a) : Nat) : Int))))] ?_
   refine xsf z ?_
   refine SW_skip ?_
   exact xw (zsS zi0 (zsS (ziS zi0) zs0))
 ·rintro s' hw
  refine SW_weak hw ?_
  clear hw
  have v0 : Ve (IntKind.i64.wrap ((n : Int) - 1)) ((n : Int) - 1) := ⟨wrap_i64 (by omega)⟩
  refine SW_seq ?_
  refine xg ?_
  refine xn 1 [] [(15, .int .i64 (n : Int))] ?_
  refine xve 16 IntKind.i64 (IntKind.wrap IntKind.i64 ((n : Int) - 1)) ((n : Int) - 1) v0 ?_
  refine xz [] [(6, .int .i64 ((n : Int) - 1))] ?_
  refine SW_then (fun s' => val B32 a = val B32 b ∧ Weak s' ⟨[], [], []⟩) ?_ ?_
  ·refine SW_block ?_
   refine SW_loopn (fun m s' => (∀ i : Nat, m ≤ i → rd a (i : Int) = rd b (i : Int)) ∧ m ≤ n ∧ Weak s' ⟨[(0, .slice A a.length c), (1, .slice A' b.length c'), (6, .int .i64 ((m : Int) - 1))], [], [Row .u64 A c a, Row .u64 A' c' b]⟩) n ⟨fun i hi => by rw [rd_of_ge a i (by simp; omega), rd_of_ge b i (by simp; omega)], Nat.le_refl _, ?_⟩ (fun m s' hI => ?_)
   ·exact xw (zsS zi0 (zsS (ziS zi0) zs0))
   ·obtain ⟨h1, h2, hw⟩ := hI
    refine SW_weak hw ?_
    clear hw
    match m, h1, h2 with
    | 0, h1, h2 =>
     have z : decide (((0 : Nat) : Int) - 1 ≥ 0) = false := rfl
     have e := val_congr (B := B32) (a := a) (b := b) (fun i => h1 i (Nat.zero_le _))
     refine SW_seq ?_
     refine xr [] [(18, .bool false)] ?_
     refine xs0 ?_
     refine SW_exit ?_
     refine ⟨e, ?_⟩
     exact xw zs0
    | m + 1, h1, h2 =>
     rw [show ((m + 1 : Nat) : Int) - 1 = (m : Int) by omega]
     have z : decide ((m : Int) ≥ 0) = true := decide_eq_true (by omega)
     obtain ⟨x, hx, hxB⟩ := nat_rd32 da m
     obtain ⟨y, hy, hyB⟩ := nat_rd32 db m
     have v1 : Ve (rd a (m : Int)) (x : Int) := ⟨hx⟩
     have v2 : Ve (rd b (m : Int)) (y : Int) := ⟨hy⟩
     have v3 : Ve (IntKind.i64.wrap ((m : Int) - 1)) ((m : Int) - 1) := ⟨wrap_i64 (by omega)⟩
     by_cases hlt : x < y
     ·have z1 : decide ((x : Int) < (y : Int)) = true := decide_eq_true (by omega)
      have hv := val_less B32_pos da db (k := m) (fun i hi => h1 i hi) (by rw [hx, hy]; omega)
      rw [cmpN, if_pos hv]
      refine SW_seq ?_
      refine xr [] [(18, .bool (decide ((m : Int) ≥ 0)))] ?_
      refine xst z ?_
      refine SW_skip ?_
      refine SW_seq ?_
      refine SW_block ?_
      refine SW_seq ?_
      refine xg ?_
      refine xn 2 [] [(22, .int .i64 (m : Int)), (21, .slice A (List.length a) c)] ?_
      refine xcv 23 (ct_spec_l1At (a) (A) (c) ((m : Int)) (m) ⟨rfl⟩ ((x : Int)) v1 (by omega)) (zsS zi0 zs0) ?_
      refine xn 5 [] [(25, .int .i64 (m : Int)), (24, .slice A' (List.length b) c')] ?_
      refine xcv 26 (ct_spec_l1At (b) (A') (c') ((m : Int)) (m) ⟨rfl⟩ ((y : Int)) v2 (by omega)) (zsS (ziS zi0) zs0) ?_
      refine xz [] [(27, .bool (decide ((x : Int) < (y : Int))))] ?_
      refine xst z1 ?_
      refine xr [] [(4, .int .i64 (-1))] ?_
      refine SW_ret ?_
      refine xe () (.int .i64 (-1)) [] ?_ trivial
      rfl
     ·have z1 : decide ((x : Int) < (y : Int)) = false := decide_eq_false (by omega)
      by_cases hgt : y < x
      ·have z2 : decide ((x : Int) > (y : Int)) = true := decide_eq_true (by omega)
       have hv := val_less B32_pos db da (k := m) (fun i hi => (h1 i hi).symm) (by rw [hx, hy]; omega)
       rw [cmpN, if_neg (by omega), if_pos hv]
       refine SW_seq ?_
       refine xr [] [(18, .bool (decide ((m : Int) ≥ 0)))] ?_
       refine xst z ?_
       refine SW_skip ?_
       refine SW_seq ?_
       refine SW_block ?_
       refine SW_seq ?_
       refine xg ?_
       refine xn 2 [] [(22, .int .i64 (m : Int)), (21, .slice A (List.length a) c)] ?_
       refine xcv 23 (ct_spec_l1At (a) (A) (c) ((m : Int)) (m) ⟨rfl⟩ ((x : Int)) v1 (by omega)) (zsS zi0 zs0) ?_
       refine xn 5 [] [(25, .int .i64 (m : Int)), (24, .slice A' (List.length b) c')] ?_
       refine xcv 26 (ct_spec_l1At (b) (A') (c') ((m : Int)) (m) ⟨rfl⟩ ((y : Int)) v2 (by omega)) (zsS (ziS zi0) zs0) ?_
       refine xz [] [(27, .bool (decide ((x : Int) < (y : Int))))] ?_
       refine xsf z1 ?_
       refine SW_skip ?_
       refine xg ?_
       refine xn 2 [] [(29, .int .i64 (m : Int)), (28, .slice A (List.length a) c)] ?_
       refine xcv 30 (ct_spec_l1At (a) (A) (c) ((m : Int)) (m) ⟨rfl⟩ ((x : Int)) v1 (by omega)) (zsS zi0 zs0) ?_
       refine xn 5 [] [(32, .int .i64 (m : Int)), (31, .slice A' (List.length b) c')] ?_
       refine xcv 33 (ct_spec_l1At (b) (A') (c') ((m : Int)) (m) ⟨rfl⟩ ((y : Int)) v2 (by omega)) (zsS (ziS zi0) zs0) ?_
       refine xz [] [(34, .bool (decide ((x : Int) > (y : Int))))] ?_
       refine xst z2 ?_
       refine xr [] [(4, .int .i64 1)] ?_
       refine SW_ret ?_
       refine xe () (.int .i64 1) [] ?_ trivial
       rfl
      ·have z2 : decide ((x : Int) > (y : Int)) = false := decide_eq_false (by omega)
       refine SW_seq ?_
       refine xr [] [(18, .bool (decide ((m : Int) ≥ 0)))] ?_
       refine xst z ?_
       refine SW_skip ?_
       refine SW_seq ?_
       refine SW_block ?_
       refine SW_seq ?_
       refine xg ?_
       refine xn 2 [] [(22, .int .i64 (m : Int)), (21, .slice A (List.length a) c)] ?_
       refine xcv 23 (ct_spec_l1At (a) (A) (c) ((m : Int)) (m) ⟨rfl⟩ ((x : Int)) v1 (by omega)) (zsS zi0 zs0) ?_
       refine xn 5 [] [(25, .int .i64 (m : Int)), (24, .slice A' (List.length b) c')] ?_
       refine xcv 26 (ct_spec_l1At (b) (A') (c') ((m : Int)) (m) ⟨rfl⟩ ((y : Int)) v2 (by omega)) (zsS (ziS zi0) zs0) ?_
       refine xz [] [(27, .bool (decide ((x : Int) < (y : Int))))] ?_
       refine xsf z1 ?_
       refine SW_skip ?_
       refine xg ?_
       refine xn 2 [] [(29, .int .i64 (m : Int)), (28, .slice A (List.length a) c)] ?_
       refine xcv 30 (ct_spec_l1At (a) (A) (c) ((m : Int)) (m) ⟨rfl⟩ ((x : Int)) v1 (by omega)) (zsS zi0 zs0) ?_
       refine xn 5 [] [(32, .int .i64 (m : Int)), (31, .slice A' (List.length b) c')] ?_
       refine xcv 33 (ct_spec_l1At (b) (A') (c') ((m : Int)) (m) ⟨rfl⟩ ((y : Int)) v2 (by omega)) (zsS (ziS zi0) zs0) ?_
       refine xz [] [(34, .bool (decide ((x : Int) > (y : Int))))] ?_
       refine xsf z2 ?_
       refine SW_skip ?_
       refine SW_region ?_
       refine xn 1 [] [(19, .int .i64 (m : Int))] ?_
       refine xve 20 IntKind.i64 (IntKind.wrap IntKind.i64 ((m : Int) - 1)) ((m : Int) - 1) v3 ?_
       refine xz [] [(6, .int .i64 ((m : Int) - 1))] ?_
       refine ⟨m, by omega, fun i hi => ?_, by omega, ?_⟩
       ·rcases Nat.eq_or_lt_of_le hi with h | h
        ·rw [← h, hx, hy]; omega
        ·exact h1 i h
       ·exact xw (zsS zi0 (zsS (ziS zi0) zs0))
  ·rintro s' ⟨e, hw⟩
   refine SW_weak hw ?_
   rw [e, cmpN, if_neg (by omega), if_neg (by omega)]
   refine xr [] [(4, .int .i64 0)] ?_
   refine SW_ret ?_
   refine xe () (.int .i64 0) [] ?_ trivial
   rfl
theorem ct_spec_l1Of_rows (X : Int) (x : Nat) (hX : Nn X x) (hx : x < 18446744073709551616) : ∀ r, Dig B32 r → Norm r → val B32 r = x → CtR Tryd.prog 43 [.int .u64 X] [] .u64 r := by
 intro r dr nr vr
 obtain ⟨rfl⟩ := hX
 refine ct_of Tryd.func43 rfl (by kernel_rfl) (fun B w0 => ?_)
 have v5 := low_ve x hx
 have v6 := high_ve x
 have e : trimL [((x % 4294967296 : Nat) : Int), ((x / 4294967296 : Nat) : Int)] = r := norm_inj B32_pos (Dig.trim (Dig.cons (cast_dig32 (Nat.mod_lt _ (by decide))) (Dig.cons (cast_dig32 (by omega)) (Dig.nil _)))) dr (norm_trim _) nr (by
  rw [val_trim, vr]
  simp only [val_cons, Int.toNat_natCast]
  unfold B32
  simp only [val]
  omega)
 refine xr [] [(2, .slice none 0 0)] ?_
 refine xg ?_
 refine xn 1 [] [(3, .int .u64 (x : Int))] ?_
 refine xve 4 IntKind.u64 (bits BinOp.and IntKind.u64 (x : Int) 4294967295) ((((x % 4294967296) : Nat) : Int)) v5 ?_
 refine xn 3 [] [(5, .int .u64 (x : Int))] ?_
 refine xve 6 IntKind.u64 (shf IntKind.u64 (x : Int) 32) ((((x / 4294967296) : Nat) : Int)) v6 ?_
 refine xbl 7 [.int .u64 (((x % 4294967296) : Nat) : Int), .int .u64 (((x / 4294967296) : Nat) : Int)] 26 2 (fun g0 => ?_)
 refine NW_fz 0 2 g0 .u64 [((x % 4294967296 : Nat) : Int), ((x / 4294967296 : Nat) : Int)] [] 26 (by simp) (by simp) ?_
 have ct : CtR Tryd.prog 99 [.slice (some ⟨g0, 0, none⟩) 2 2] [Row .u64 (some ⟨g0, 0, none⟩) 2 [((x % 4294967296 : Nat) : Int), ((x / 4294967296 : Nat) : Int)]] .u64 r := by
  rw [← e]
  exact ct_spec_l1Trim _ _ 2 (by simp)
 refine xcr 8 ct (zsS zi0 zs0) (fun A0 k0 => ?_)
 refine xz [] [(2, .slice A0 (List.length r) k0)] ?_
 refine SW_ret ?_
 refine xe (A0, k0) (.slice A0 (List.length r) k0) [] ?_ (zsS zi0 zs0)
 rfl
theorem in_step {l O : List Int} {i x : Nat} (hx : rd l (i : Int) = (x : Int)) (hl : O.length = 2 * i) (hv : val B32 O = val B64 (l.take i)) : val B32 (O ++ [((x % 4294967296 : Nat) : Int), ((x / 4294967296 : Nat) : Int)]) = val B64 (l.take (i + 1)) := by
 rw [val_append, val_take_succ, hx, hv, hl, Nat.pow_mul, show B32 ^ 2 = B64 from rfl]
 congr 2
 simp only [val_cons, Int.toNat_natCast]
 unfold B32
 simp only [val]
 omega
theorem ct_spec_l1In_rows (l : List Int) (A : Option Addr) (c : Nat) (dl : Dig B64 l) (hl : l.length ≤ 1000000000) : ∀ r, Dig B32 r → Norm r → val B32 r = val B64 l → CtR Tryd.prog 49 [.slice A l.length c] [Row .u64 A c l] .u64 r := by
 intro r dr nr vr
 refine ct_of Tryd.func49 rfl (by kernel_rfl) (fun B w0 => ?_)
 refine xr [] [(2, .slice none 0 0)] ?_
 refine xr [] [(3, .slice none 0 0)] ?_
 refine SW_seq ?_
 refine xr [] [(8, .int .i64 0), (7, .int .i64 (((List.length l) : Nat) : Int)), (6, .slice A (List.length l) c)] ?_
 refine SW_then (fun s' => ∃ (sl : Value) (bs : List Box) (O : List Int), Own 26 .u64 sl bs O ∧ Dig B32 O ∧ O.length = 2 * l.length ∧ val B32 O = val B64 l ∧ Weak s' ⟨[(3, sl)], bs, []⟩) ?_ ?_
 ·refine SW_block ?_
  refine SW_loopn (fun m s' => ∃ (sl : Value) (bs : List Box) (O : List Int) (i : Nat), m + i = l.length ∧ Own 26 .u64 sl bs O ∧ Dig B32 O ∧ O.length = 2 * i ∧ val B32 O = val B64 (l.take i) ∧ Weak s' ⟨[(3, sl), (6, .slice A l.length c), (7, .int .i64 (l.length : Int)), (8, .int .i64 (i : Int))], bs, [Row .u64 A c l]⟩) l.length ⟨_, _, [], 0, rfl, Own.nil 26 .u64, Dig.nil _, rfl, rfl, ?_⟩ (fun m s' hI => ?_)
  ·exact xw (zsS zi0 zs0)
  ·obtain ⟨sl0, bs0, O, i, k1, hO0, k3, k4, k6, hw⟩ := hI
   refine SW_weak hw ?_
   clear hw
   by_cases hi : i < l.length
   ·have z : decide ((i : Int) < (l.length : Int)) = true := decide_eq_true (by omega)
    obtain ⟨m, rfl⟩ : ∃ m', m = m' + 1 := ⟨m - 1, by omega⟩
    refine SW_know zi0 (fun w h => row_at h (by omega)) (fun ⟨ad, e⟩ => ?_)
    subst e
    obtain ⟨x, hx, hxB⟩ := nat_rd dl i
    have v1 : Ve (rd l (i : Int)) (x : Int) := ⟨hx⟩
    have v5 := low_ve x hxB
    have v6 := high_ve x
    have v7 : Ve (IntKind.i64.wrap ((i : Int) + 1)) ((i + 1 : Nat) : Int) := veI (by omega) (by omega)
    have hst := in_step hx k4 k6
    refine xr [] [(9, .bool (decide ((i : Int) < (((List.length l) : Nat) : Int))))] ?_
    refine SW_seq ?_
    refine xst z ?_
    refine SW_skip ?_
    refine SW_seq ?_
    refine SW_block ?_
    refine xg ?_
    refine xfi 10 26 (ad) (List.length l) (c) (i) IntKind.i64 ((i : Int)) ⟨rfl⟩ (by omega) ?_
    refine xfle 11 zi0 (i) ((x : Int)) v1 (by omega) ?_
    refine xz [] [(5, .int .u64 (x : Int))] ?_
    refine SW_region ?_
    refine xn 2 [] [(13, .int .u64 (x : Int)), (12, sl0)] ?_
    refine xve 14 IntKind.u64 (bits BinOp.and IntKind.u64 (x : Int) 4294967295) ((((x % 4294967296) : Nat) : Int)) v5 ?_
    refine xn 4 [] [(15, .int .u64 (x : Int))] ?_
    refine xve 16 IntKind.u64 (shf IntKind.u64 (x : Int) 32) ((((x / 4294967296) : Nat) : Int)) v6 ?_
    refine xbl 17 [.int .u64 (((x % 4294967296) : Nat) : Int), .int .u64 (((x / 4294967296) : Nat) : Int)] 26 2 (fun g0 => ?_)
    refine xow 18 8 (g0) (2) [(((x % 4294967296) : Nat) : Int), (((x / 4294967296) : Nat) : Int)] hO0 (by first | omega | (simp <;> omega)) (fun sl1 bs1 hO1 => ?_)
    refine xz [] [(3, sl1)] ?_
    refine SW_region ?_
    refine xve 19 IntKind.i64 (IntKind.wrap IntKind.i64 ((i : Int) + 1)) ((((i + 1) : Nat) : Int)) v7 ?_
    refine xz [] [(8, .int .i64 (((i + 1) : Nat) : Int))] ?_
    refine ⟨m, by omega, sl1, bs1, _, i + 1, by omega, hO1, k3.append (Dig.cons (cast_dig32 (Nat.mod_lt _ (by decide))) (Dig.cons (cast_dig32 (by omega)) (Dig.nil _))), by rw [List.length_append, k4]; simp; omega, hst, ?_⟩
    exact xw (zsS zi0 zs0)
   ·have z : decide ((i : Int) < (l.length : Int)) = false := decide_eq_false (by omega)
    obtain rfl : i = l.length := by omega
    rw [List.take_length] at k6
    refine xr [] [(9, .bool (decide ((((List.length l) : Nat) : Int) < (((List.length l) : Nat) : Int))))] ?_
    refine SW_seq ?_
    refine xsf z ?_
    refine SW_exit ?_
    refine ⟨sl0, bs0, O, hO0, k3, k4, k6, ?_⟩
    exact xw zs0
 ·rintro s' ⟨sl, bs, O, hO, dO, lO, vO, hw⟩
  refine SW_weak hw ?_
  clear hw
  refine SW_own hO (by omega) (fun Ao co e => ?_)
  subst e
  have er : trimL O = r := norm_inj B32_pos dO.trim dr (norm_trim _) nr (by rw [val_trim, vO, vr])
  have ct := ct_spec_l1Trim O Ao co (by omega)
  rw [er] at ct
  refine xg ?_
  refine xn 1 [] [(20, .slice Ao (List.length O) co)] ?_
  refine xcr 21 ct (zsS zi0 zs0) (fun A0 k0 => ?_)
  refine xz [] [(2, .slice A0 (List.length r) k0)] ?_
  refine SW_ret ?_
  refine xe (A0, k0) (.slice A0 (List.length r) k0) [] ?_ (zsS zi0 zs0)
  rfl
end Go.Proofs.YtgknelgplmohoaaDoor.M
end
section
namespace Go.Proofs.YtgknelgplmohoaaDoor.M
open Go.RowKit Go.Proofs.YtgknelgplmohoaaDoor.G Go.Proofs.YtgknelgplmohoaaDoorV.PrintWords Go.Proofs.YtgknelgplmohoaaDoorV.PrintLast Go.Proofs.YtgknelgplmohoaaDoor.X
set_option linter.unusedVariables false
set_option linter.unusedSimpArgs false
theorem drop_two {l : List Int} {i : Nat} (h : i + 1 < l.length) : l.drop i = rd l (i : Int) :: rd l ((i + 1 : Nat) : Int) :: l.drop (i + 2) := by
 have e1 := rd_some (xs := l) (i := i) (by omega)
 have e2 := rd_some (xs := l) (i := i + 1) h
 rw [List.getElem?_eq_getElem (by omega)] at e1 e2
 rw [List.drop_eq_getElem_cons (show i < l.length by omega), List.drop_eq_getElem_cons h, Option.some.inj e1, Option.some.inj e2]
theorem drop_one {l : List Int} {i : Nat} (h : i + 1 = l.length) : l.drop i = [rd l (i : Int)] := by
 have e1 := rd_some (xs := l) (i := i) (by omega)
 rw [List.getElem?_eq_getElem (by omega)] at e1
 rw [List.drop_eq_getElem_cons (show i < l.length by omega), Option.some.inj e1, List.drop_eq_nil_of_le (by omega)]
theorem ct_spec_l1Out_own (l : List Int) (A : Option Addr) (c : Nat) (dl : Dig B32 l) (nl : Norm l) (hl : l.length ≤ 1000000000) : ∀ r, Dig B64 r → Norm r → val B64 r = val B32 l → CtW Tryd.prog 46 [.slice A l.length c] [Row .u64 A c l] 26 .u64 r := by
 intro r dr nr vr
 have er : outL l = r := norm_inj B64_pos (outL_dig dl) dr (outL_norm dl nl) nr (by rw [outL_val dl, vr])
 refine ctW_of Tryd.func46 rfl (by kernel_rfl) (fun B w0 => ?_)
 refine xr [] [(2, .slice none 0 0)] ?_
 refine xr [] [(3, .slice none 0 0)] ?_
 refine SW_seq ?_
 refine xr [] [(4, .int .i64 0)] ?_
 refine SW_then (fun s' => ∃ (sl : Value) (bs : List Box), Own 26 .u64 sl bs r ∧ Weak s' ⟨[(3, sl)], bs, []⟩) ?_ ?_
 ·refine SW_block ?_
  refine SW_loopn (fun m s' => ∃ (sl : Value) (bs : List Box) (O : List Int) (i : Nat), (m + i = l.length ∨ (m = 0 ∧ i = l.length + 1)) ∧ Own 26 .u64 sl bs O ∧ O.length ≤ i ∧ O ++ outL (l.drop i) = r ∧ Weak s' ⟨[(0, .slice A l.length c), (3, sl), (4, .int .i64 (i : Int))], bs, [Row .u64 A c l]⟩) l.length ⟨_, _, [], 0, .inl rfl, Own.nil 26 .u64, Nat.le_refl _, er, ?_⟩ (fun m s' hI => ?_)
  ·exact xw (zsS zi0 zs0)
  ·obtain ⟨sl0, bs0, O, i, k1, hO0, k3, k4, hw⟩ := hI
   refine SW_weak hw ?_
   clear hw
   by_cases hi : i < l.length
   ·have z : decide ((i : Int) < (l.length : Int)) = true := decide_eq_true (by omega)
    refine SW_know zi0 (fun w h => row_at h (by omega)) (fun ⟨ad, e⟩ => ?_)
    subst e
    obtain ⟨x, hx, hxB⟩ := nat_rd32 dl i
    have v1 : Ve (rd l (i : Int)) (x : Int) := ⟨hx⟩
    have v2 : Ve (IntKind.i64.wrap ((i : Int) + 1)) ((i + 1 : Nat) : Int) := veI (by omega) (by omega)
    have v3 : Ve (IntKind.i64.wrap ((i : Int) + 2)) ((i + 2 : Nat) : Int) := veI (by omega) (by omega)
    by_cases h2 : i + 1 < l.length
    ·have z2 : decide (((i + 1 : Nat) : Int) < (l.length : Int)) = true := decide_eq_true (by omega)
     obtain ⟨y, hy, hyB⟩ := nat_rd32 dl (i + 1)
     have v4 : Ve (rd l ((i + 1 : Nat) : Int)) (y : Int) := ⟨hy⟩
     have v5 : Ve (shl .u64 (y : Int) 32) ((y * 4294967296 : Nat) : Int) := ⟨by have := shl_nat y 32 (by omega); rw [show ((32 : Nat) : Int) = 32 from rfl] at this; rw [this]; omega⟩
     have v6 : Ve (bits .or .u64 (x : Int) ((y * 4294967296 : Nat) : Int)) ((x + y * 4294967296 : Nat) : Int) := ⟨or_nat' 32 (y * 4294967296) x (by omega) (by omega) (Nat.dvd_mul_left _ _) hxB⟩
     rw [drop_two h2, outL, hx, hy] at k4
     refine SW_seq ?_
     refine xr [] [(9, .bool (decide ((i : Int) < (((List.length l) : Nat) : Int))))] ?_
     refine xst z ?_
     refine SW_skip ?_
     refine SW_seq ?_
     refine SW_block ?_
     refine xg ?_
     refine xn 2 [] [(13, .int .i64 (i : Int)), (12, .slice (some ad) (List.length l) c)] ?_
     refine xfi 14 26 (ad) (List.length l) (c) (i) IntKind.i64 ((i : Int)) ⟨rfl⟩ (by omega) ?_
     refine xfle 15 zi0 (i) ((x : Int)) v1 (by omega) ?_
     refine xz [] [(5, .int .u64 (x : Int))] ?_
     refine SW_seq ?_
     refine xg ?_
     refine xn 1 [] [(16, .int .i64 (i : Int))] ?_
     refine xve 17 IntKind.i64 (IntKind.wrap IntKind.i64 ((i : Int) + 1)) ((((i + 1) : Nat) : Int)) v2 ?_
     refine xz [] [(20, .bool (decide ((((i + 1) : Nat) : Int) < (((List.length l) : Nat) : Int))))] ?_
     refine xst z2 ?_
     refine SW_region ?_
     refine xn 3 [] [(23, .int .i64 (i : Int)), (22, .slice (some ad) (List.length l) c), (21, .int .u64 (x : Int))] ?_
     refine xve 24 IntKind.i64 (IntKind.wrap IntKind.i64 ((i : Int) + 1)) ((((i + 1) : Nat) : Int)) v2 ?_
     refine xfi 25 26 (ad) (List.length l) (c) (i + 1) IntKind.i64 ((((i + 1) : Nat) : Int)) ⟨rfl⟩ (by omega) ?_
     refine xfle 26 zi0 (i + 1) ((y : Int)) v4 (by omega) ?_
     refine xve 27 IntKind.u64 (shl IntKind.u64 (y : Int) 32) ((((y * 4294967296) : Nat) : Int)) v5 ?_
     refine xve 28 IntKind.u64 (bits BinOp.or IntKind.u64 (x : Int) (((y * 4294967296) : Nat) : Int)) ((((x + y * 4294967296) : Nat) : Int)) v6 ?_
     refine xz [] [(5, .int .u64 (((x + y * 4294967296) : Nat) : Int))] ?_
     refine SW_region ?_
     refine xn 2 [] [(30, .int .u64 (((x + y * 4294967296) : Nat) : Int)), (29, sl0)] ?_
     refine xbl 31 [.int .u64 (((x + y * 4294967296) : Nat) : Int)] 26 1 (fun g0 => ?_)
     refine xow 32 8 (g0) (1) [(((x + y * 4294967296) : Nat) : Int)] hO0 (by first | omega | (simp <;> omega)) (fun sl1 bs1 hO1 => ?_)
     refine xz [] [(3, sl1)] ?_
     refine SW_region ?_
     refine xn 1 [] [(10, .int .i64 (i : Int))] ?_
     refine xve 11 IntKind.i64 (IntKind.wrap IntKind.i64 ((i : Int) + 2)) ((((i + 2) : Nat) : Int)) v3 ?_
     refine xz [] [(4, .int .i64 (((i + 2) : Nat) : Int))] ?_
     refine ⟨m - 2, by omega, sl1, bs1, _, i + 2, by omega, hO1, by rw [List.length_append]; simp; omega, ?_, ?_⟩
     ·rw [List.append_assoc, ← k4]
      congr 1
     ·exact xw (zsS zi0 zs0)
    ·have z2 : decide (((i + 1 : Nat) : Int) < (l.length : Int)) = false := decide_eq_false (by omega)
     rw [drop_one (by omega), outL, hx] at k4
     refine SW_seq ?_
     refine xr [] [(9, .bool (decide ((i : Int) < (((List.length l) : Nat) : Int))))] ?_
     refine xst z ?_
     refine SW_skip ?_
     refine SW_seq ?_
     refine SW_block ?_
     refine xg ?_
     refine xn 2 [] [(13, .int .i64 (i : Int)), (12, .slice (some ad) (List.length l) c)] ?_
     refine xfi 14 26 (ad) (List.length l) (c) (i) IntKind.i64 ((i : Int)) ⟨rfl⟩ (by omega) ?_
     refine xfle 15 zi0 (i) ((x : Int)) v1 (by omega) ?_
     refine xz [] [(5, .int .u64 (x : Int))] ?_
     refine SW_seq ?_
     refine xg ?_
     refine xn 1 [] [(16, .int .i64 (i : Int))] ?_
     refine xve 17 IntKind.i64 (IntKind.wrap IntKind.i64 ((i : Int) + 1)) ((((i + 1) : Nat) : Int)) v2 ?_
     refine xz [] [(20, .bool (decide ((((i + 1) : Nat) : Int) < (((List.length l) : Nat) : Int))))] ?_
     refine xsf z2 ?_
     refine SW_skip ?_
     refine SW_region ?_
     refine xn 2 [] [(30, .int .u64 (x : Int)), (29, sl0)] ?_
     refine xbl 31 [.int .u64 (x : Int)] 26 1 (fun g0 => ?_)
     refine xow 32 8 (g0) (1) [(x : Int)] hO0 (by first | omega | (simp <;> omega)) (fun sl1 bs1 hO1 => ?_)
     refine xz [] [(3, sl1)] ?_
     refine SW_region ?_
     refine xn 1 [] [(10, .int .i64 (i : Int))] ?_
     refine xve 11 IntKind.i64 (IntKind.wrap IntKind.i64 ((i : Int) + 2)) ((((i + 2) : Nat) : Int)) v3 ?_
     refine xz [] [(4, .int .i64 (((i + 2) : Nat) : Int))] ?_
     refine ⟨0, by omega, sl1, bs1, _, i + 2, by omega, hO1, by rw [List.length_append]; simp; omega, ?_, ?_⟩
     ·rw [List.drop_eq_nil_of_le (by omega), outL, List.append_nil, ← k4]
     ·exact xw (zsS zi0 zs0)
   ·have z : decide ((i : Int) < (l.length : Int)) = false := decide_eq_false (by omega)
    rw [List.drop_eq_nil_of_le (by omega), outL, List.append_nil] at k4
    subst k4
    refine SW_seq ?_
    refine xr [] [(9, .bool (decide ((i : Int) < (((List.length l) : Nat) : Int))))] ?_
    refine xsf z ?_
    refine SW_exit ?_
    refine ⟨sl0, bs0, hO0, ?_⟩
    exact xw zs0
 ·rintro s' ⟨sl, bs, hO, hw⟩
  refine SW_weak hw ?_
  clear hw
  refine xr [] [(2, sl)] ?_
  refine SW_ret ?_
  exact ⟨sl, [], [], by kernel_rfl, hO⟩
theorem ct_spec_l1Out_rows (l : List Int) (A : Option Addr) (c : Nat) (dl : Dig B32 l) (nl : Norm l) (hl : l.length ≤ 1000000000) : ∀ r, Dig B64 r → Norm r → val B64 r = val B32 l → CtR Tryd.prog 46 [.slice A l.length c] [Row .u64 A c l] .u64 r := fun r dr nr vr => ctR_of_W (by
 have er : outL l = r := norm_inj B64_pos (outL_dig dl) dr (outL_norm dl nl) nr (by rw [outL_val dl, vr])
 have := outL_length l
 rw [← er]
 omega) (ct_spec_l1Out_own l A c dl nl hl r dr nr vr)
end Go.Proofs.YtgknelgplmohoaaDoor.M
end
section
namespace Go.Proofs.YtgknelgplmohoaaDoor.M
open Go.RowKit Go.Proofs.YtgknelgplmohoaaDoor.G Go.Proofs.YtgknelgplmohoaaDoorV.PrintWords Go.Proofs.YtgknelgplmohoaaDoorV.PrintLast Go.Proofs.YtgknelgplmohoaaDoor.X
set_option linter.unusedVariables false
set_option linter.unusedSimpArgs false
theorem sub32_step {a b O : List Int} {i x y bo D bo' : Nat} (hx : rd a (i : Int) = (x : Int)) (hy : rd b (i : Int) = (y : Int)) (hl : O.length = i) (hD : D + y + bo = 4294967296 + x) (hb : bo' + D / 4294967296 = 1) (hv : val B32 O + val B32 (b.take i) = val B32 (a.take i) + B32 ^ i * bo) :
  val B32 (O ++ [((D % 4294967296 : Nat) : Int)]) + val B32 (b.take (i + 1)) = val B32 (a.take (i + 1)) + B32 ^ (i + 1) * bo' := by
 rw [val_snoc, val_take_succ, val_take_succ, hl, hx, hy, Nat.pow_succ, Nat.mul_assoc]
 simp only [Int.toNat_natCast]
 rw [show B32 * bo' = 4294967296 * bo' from rfl]
 have h : D % 4294967296 + y + bo = x + 4294967296 * bo' := by omega
 have h2 := congrArg (B32 ^ i * ·) h
 generalize D % 4294967296 = m at *
 generalize 4294967296 * bo' = q at *
 generalize B32 ^ i = P at *
 simp only [Nat.mul_add] at h2 ⊢
 omega
theorem ct_spec_l1Sub_rows (a b : List Int) (A A' : Option Addr) (c c' : Nat) (da : Dig B32 a) (db : Dig B32 b) (hla : a.length ≤ 1000000000) (hlb : b.length ≤ 1000000000) : ∀ r, Dig B32 r → Norm r → val B32 r + val B32 b = val B32 a → CtR Tryd.prog 44 [.slice A a.length c, .slice A' b.length c'] [Row .u64 A c a, Row .u64 A' c' b] .u64 r := by
 intro r dr nr vr
 refine ct_of Tryd.func44 rfl (by kernel_rfl) (fun B w0 => ?_)
 refine xr [] [(4, .slice none 0 0)] ?_
 refine xr [] [(5, .slice none 0 0)] ?_
 refine xr [] [(6, .int .u64 0)] ?_
 refine SW_seq ?_
 refine xr [] [(7, .int .i64 0)] ?_
 refine SW_then (fun s' => ∃ (sl : Value) (bs : List Box) (O : List Int), Own 26 .u64 sl bs O ∧ Dig B32 O ∧ O.length = a.length ∧ val B32 O = val B32 r ∧ Weak s' ⟨[(5, sl)], bs, []⟩) ?_ ?_
 ·refine SW_block ?_
  refine SW_loopn (fun m s' => ∃ (sl : Value) (bs : List Box) (O : List Int) (i bo : Nat), m + i = a.length ∧ Own 26 .u64 sl bs O ∧ Dig B32 O ∧ O.length = i ∧ bo ≤ 1 ∧ val B32 O + val B32 (b.take i) = val B32 (a.take i) + B32 ^ i * bo ∧ Weak s' ⟨[(0, .slice A a.length c), (1, .slice A' b.length c'), (5, sl), (6, .int .u64 (bo : Int)), (7, .int .i64 (i : Int))], bs, [Row .u64 A c a, Row .u64 A' c' b]⟩) a.length ⟨_, _, [], 0, 0, rfl, Own.nil 26 .u64, Dig.nil _, rfl, by decide, rfl, ?_⟩ (fun m s' hI => ?_)
  ·exact xw (zsS zi0 (zsS (ziS zi0) zs0))
  ·obtain ⟨sl0, bs0, O, i, bo, k1, hO0, k3, k4, k5, k6, hw⟩ := hI
   refine SW_weak hw ?_
   clear hw
   by_cases hi : i < a.length
   ·have z : decide ((i : Int) < (a.length : Int)) = true := decide_eq_true (by omega)
    obtain ⟨m, rfl⟩ : ∃ m', m = m' + 1 := ⟨m - 1, by omega⟩
    refine SW_know zi0 (fun w h => row_at h (by omega)) (fun ⟨ad, e⟩ => ?_)
    subst e
    obtain ⟨x, hx, hxB⟩ := nat_rd32 da i
    obtain ⟨y, hy, hyB⟩ := nat_rd32 db i
    obtain ⟨D, hD⟩ : ∃ D, D + y + bo = 4294967296 + x := ⟨4294967296 + x - y - bo, by omega⟩
    have v1 : Ve (rd a (i : Int)) (x : Int) := ⟨hx⟩
    have v2 : Ve (rd b (i : Int)) (y : Int) := ⟨hy⟩
    have v3 : Ve (IntKind.u64.wrap (4294967296 + (x : Int))) ((4294967296 + x : Nat) : Int) := veU (by omega) (by omega)
    have v4 : Ve (IntKind.u64.wrap (((4294967296 + x : Nat) : Int) - (y : Int))) ((4294967296 + x - y : Nat) : Int) := veU (by omega) (by omega)
    have v4' : Ve (IntKind.u64.wrap (((4294967296 + x - y : Nat) : Int) - (bo : Int))) (D : Int) := veU (by omega) (by omega)
    have v5 := low_ve D (by omega)
    have v6 := high_ve D
    obtain ⟨bo', hbo⟩ : ∃ bo', bo' + D / 4294967296 = 1 := ⟨1 - D / 4294967296, by omega⟩
    have v8 : Ve (IntKind.u64.wrap (1 - ((D / 4294967296 : Nat) : Int))) (bo' : Int) := veU (by omega) (by omega)
    have v7 : Ve (IntKind.i64.wrap ((i : Int) + 1)) ((i + 1 : Nat) : Int) := veI (by omega) (by omega)
    have hst := sub32_step hx hy k4 hD hbo k6
    refine SW_seq ?_
    refine xr [] [(12, .bool (decide ((i : Int) < (((List.length a) : Nat) : Int))))] ?_
    refine xst z ?_
    refine SW_skip ?_
    refine SW_seq ?_
    refine SW_block ?_
    refine xd (fun hB => ?_)
    refine xdk [(0, []), (1, []), (5, []), (6, []), (9, [])] [(24, .int .u64 (bo : Int)), (21, .int .i64 (i : Int)), (20, .slice A' (List.length b) c'), (16, .int .i64 (i : Int)), (15, .slice (some ad) (List.length a) c)] hB ?_
    refine xdfi 2 hB 17 26 (ad) (List.length a) (c) (i) IntKind.i64 ((i : Int)) ⟨rfl⟩ (by omega) ?_
    refine xdfle 3 hB 18 zi0 (i) ((x : Int)) v1 (by omega) ?_
    refine xdve 4 hB 19 IntKind.u64 (IntKind.wrap IntKind.u64 (4294967296 + (x : Int))) ((((4294967296 + x) : Nat) : Int)) v3 ?_
    refine xdv 7 22 (ct_spec_l1At (b) (A') (c') ((i : Int)) (i) ⟨rfl⟩ ((y : Int)) v2 (by omega)) (zsS (ziS zi0) zs0) ?_
    refine xdve 8 hB 23 IntKind.u64 (IntKind.wrap IntKind.u64 ((((4294967296 + x) : Nat) : Int) - (y : Int))) ((((4294967296 + x - y) : Nat) : Int)) v4 ?_
    refine xdve 10 hB 25 IntKind.u64 (IntKind.wrap IntKind.u64 ((((4294967296 + x - y) : Nat) : Int) - (bo : Int))) ((D : Int)) v4' ?_
    refine xdk [(11, [])] [(8, .int .u64 (D : Int))] hB ?_
    refine xdz ?_
    refine xg ?_
    refine xn 2 [] [(27, .int .u64 (D : Int)), (26, sl0)] ?_
    refine xve 28 IntKind.u64 (bits BinOp.and IntKind.u64 (D : Int) 4294967295) ((((D % 4294967296) : Nat) : Int)) v5 ?_
    refine xbl 29 [.int .u64 (((D % 4294967296) : Nat) : Int)] 26 1 (fun g0 => ?_)
    refine xow 30 8 (g0) (1) [(((D % 4294967296) : Nat) : Int)] hO0 (by first | omega | (simp <;> omega)) (fun sl1 bs1 hO1 => ?_)
    refine xz [] [(5, sl1)] ?_
    refine SW_region ?_
    refine xn 1 [] [(31, .int .u64 (D : Int))] ?_
    refine xve 32 IntKind.u64 (shf IntKind.u64 (D : Int) 32) ((((D / 4294967296) : Nat) : Int)) v6 ?_
    refine xve 33 IntKind.u64 (IntKind.wrap IntKind.u64 (1 - (((D / 4294967296) : Nat) : Int))) (((bo' : Nat) : Int)) v8 ?_
    refine xz [] [(6, .int .u64 ((bo' : Nat) : Int))] ?_
    refine SW_region ?_
    refine xn 1 [] [(13, .int .i64 (i : Int))] ?_
    refine xve 14 IntKind.i64 (IntKind.wrap IntKind.i64 ((i : Int) + 1)) ((((i + 1) : Nat) : Int)) v7 ?_
    refine xz [] [(7, .int .i64 (((i + 1) : Nat) : Int))] ?_
    refine ⟨m, by omega, sl1, bs1, _, i + 1, bo', by omega, hO1, k3.snoc (cast_dig32 (Nat.mod_lt _ (by decide))), by rw [List.length_append, k4]; rfl, by omega, hst, ?_⟩
    exact xw (zsS zi0 (zsS (ziS zi0) zs0))
   ·have z : decide ((i : Int) < (a.length : Int)) = false := decide_eq_false (by omega)
    obtain rfl : i = a.length := by omega
    rw [List.take_length] at k6
    have hO := val_lt_len B32_pos k3 (Nat.le_of_eq k4)
    have hA := val_lt da
    have hb := val_cut B32 b a.length
    have hd : val B32 (b.drop a.length) = 0 := by
     rcases Nat.eq_zero_or_pos (val B32 (b.drop a.length)) with h | h
     ·exact h
     ·have := Nat.mul_le_mul_left (B32 ^ a.length) h
      omega
    rw [hd, Nat.mul_zero, Nat.add_zero] at hb
    have hbo : bo = 0 := by
     rcases Nat.lt_or_ge bo 1 with h | h
     ·omega
     ·obtain rfl : bo = 1 := by omega
      omega
    rw [hbo, Nat.mul_zero, Nat.add_zero] at k6
    have hval : val B32 O = val B32 r := by omega
    refine SW_seq ?_
    refine xr [] [(12, .bool (decide ((((List.length a) : Nat) : Int) < (((List.length a) : Nat) : Int))))] ?_
    refine xsf z ?_
    refine SW_exit ?_
    refine ⟨sl0, bs0, O, hO0, k3, k4, hval, ?_⟩
    exact xw zs0
 ·rintro s' ⟨sl, bs, O, hO, dO, lO, vO, hw⟩
  refine SW_weak hw ?_
  clear hw
  refine SW_own hO (by omega) (fun Ao co e => ?_)
  subst e
  have er : trimL O = r := norm_inj B32_pos dO.trim dr (norm_trim _) nr (by rw [val_trim, vO])
  have ct := ct_spec_l1Trim O Ao co (by omega)
  rw [er] at ct
  refine xg ?_
  refine xn 1 [] [(34, .slice Ao (List.length O) co)] ?_
  refine xcr 35 ct (zsS zi0 zs0) (fun A0 k0 => ?_)
  refine xz [] [(4, .slice A0 (List.length r) k0)] ?_
  refine SW_ret ?_
  refine xe (A0, k0) (.slice A0 (List.length r) k0) [] ?_ (zsS zi0 zs0)
  rfl
end Go.Proofs.YtgknelgplmohoaaDoor.M
end
section
namespace Go.Proofs.YtgknelgplmohoaaDoor.M
open Go.RowKit Go.Proofs.YtgknelgplmohoaaDoor.G Go.Proofs.YtgknelgplmohoaaDoorV.PrintWords Go.Proofs.YtgknelgplmohoaaDoorV.PrintLast Go.Proofs.YtgknelgplmohoaaDoor.X
set_option linter.unusedVariables false
set_option linter.unusedSimpArgs false
theorem ct_spec_l1Mul_rows (a b : List Int) (A A' : Option Addr) (c c' : Nat) (da : Dig B32 a) (db : Dig B32 b) (hla : a.length ≤ 1000000000) (hlb : b.length ≤ 1000000000) : ∀ r, Dig B32 r → Norm r → val B32 r = val B32 a * val B32 b → CtR Tryd.prog 65 [.slice A a.length c, .slice A' b.length c'] [Row .u64 A c a, Row .u64 A' c' b] .u64 r := by
 intro r dr nr vr
 refine ct_of Tryd.func65 rfl (by kernel_rfl) (fun B w0 => ?_)
 refine xr [] [(4, .slice none 0 0)] ?_
 refine xg ?_
 refine xn 6 [] [(15, .int .i64 (IntKind.wrap IntKind.i64 (IntKind.wrap IntKind.i64 ((((List.length a) : Nat) : Int) + (((List.length b) : Nat) : Int)) + 1)))] ?_
 refine xma 16 26 (((List.length a) + (List.length b)) + 1) IntKind.u64 8 (IntKind.wrap IntKind.i64 (IntKind.wrap IntKind.i64 ((((List.length a) : Nat) : Int) + (((List.length b) : Nat) : Int)) + 1)) (Nn.w (Nn.add (Nn.w (Nn.add ⟨rfl⟩ ⟨rfl⟩) (by omega)) ⟨rfl⟩) (by omega)) (by omega) (fun g0 => ?_)
 refine xz [] [(5, .slice (some ⟨g0, 0, none⟩) (List.length a + List.length b + 1) (List.length a + List.length b + 1))] ?_
 refine SW_seq ?_
 refine xr [] [(6, .int .i64 0)] ?_
 refine SW_block ?_
 refine SW_loopn (fun m s => ∃ (i : Nat) (O : List Int), m + i = a.length ∧ O.length = a.length + b.length + 1 ∧ Dig B32 O ∧ Clear O (i + b.length) ∧ val B32 O = val B32 (a.take i) * val B32 b ∧ Weak s ⟨[(0, .slice A a.length c), (1, .slice A' b.length c'), (5, .slice (some ⟨g0, 0, none⟩) (a.length + b.length + 1) (a.length + b.length + 1)), (6, .int .i64 (i : Int))], [⟨g0, cl .u64 O [], 26⟩], [Row .u64 A c a, Row .u64 A' c' b]⟩) a.length ⟨0, List.replicate (a.length + b.length + 1) 0, rfl, by simp, Dig.zeros B32_pos _, Clear.zeros _ _, by rw [val_zeros]; simp [val], ?_⟩ (fun m s hI => ?_)
 ·exact xw (zsS zi0 (zsS (ziS zi0) zs0))
 ·obtain ⟨i, O, h1, h2, h3, h4, h5, hw⟩ := hI
  refine SW_weak hw ?_
  clear hw
  by_cases hi : i < a.length
  ·have z1 : decide ((i : Int) < (a.length : Int)) = true := decide_eq_true (by omega)
   refine SW_know zi0 (fun w h => row_at h (by omega)) (fun ⟨ad, e⟩ => ?_)
   subst e
   obtain ⟨m, rfl⟩ : ∃ m', m = m' + 1 := ⟨m - 1, by omega⟩
   obtain ⟨x, hx, hxB⟩ := nat_rd32 da i
   have v1 : Ve (rd a (i : Int)) (x : Int) := ⟨hx⟩
   have vi : Ve (IntKind.i64.wrap ((i : Int) + 1)) ((i + 1 : Nat) : Int) := veI (by omega) (by omega)
   have vn : Ve (IntKind.i64.wrap ((i : Int) + (b.length : Int))) ((i + b.length : Nat) : Int) := veI (by omega) (by omega)
   refine SW_seq ?_
   refine xr [] [(20, .bool (decide ((i : Int) < (((List.length a) : Nat) : Int))))] ?_
   refine xst z1 ?_
   refine SW_skip ?_
   refine SW_seq ?_
   refine SW_block ?_
   refine xr [] [(7, .int .u64 0)] ?_
   refine SW_seq ?_
   refine xr [] [(8, .int .i64 0)] ?_
   refine SW_then (fun s' => ∃ (O : List Int) (cy : Nat), O.length = a.length + b.length + 1 ∧ Dig B32 O ∧ Clear O (i + b.length) ∧ cy < 4294967296 ∧ val B32 O + B32 ^ (i + b.length) * ((cy : Nat) : Int).toNat = val B32 (a.take i) * val B32 b + B32 ^ i * ((x : Int).toNat * val B32 (b.take b.length)) ∧ Weak s' ⟨[(0, .slice (some ad) a.length c), (1, .slice A' b.length c'), (5, .slice (some ⟨g0, 0, none⟩) (a.length + b.length + 1) (a.length + b.length + 1)), (6, .int .i64 (i : Int)), (7, .int .u64 (cy : Int))], [⟨g0, cl .u64 O [], 26⟩], [Row .u64 (some ad) c a, Row .u64 A' c' b]⟩) ?_ ?_
   ·refine SW_block ?_
    refine SW_loopn (fun k s => ∃ (j : Nat) (O : List Int) (cy : Nat), k + j = b.length ∧ O.length = a.length + b.length + 1 ∧ Dig B32 O ∧ Clear O (i + b.length) ∧ cy < 4294967296 ∧ val B32 O + B32 ^ (i + j) * ((cy : Nat) : Int).toNat = val B32 (a.take i) * val B32 b + B32 ^ i * ((x : Int).toNat * val B32 (b.take j)) ∧ Weak s ⟨[(0, .slice (some ad) a.length c), (1, .slice A' b.length c'), (5, .slice (some ⟨g0, 0, none⟩) (a.length + b.length + 1) (a.length + b.length + 1)), (6, .int .i64 (i : Int)), (7, .int .u64 (cy : Int)), (8, .int .i64 (j : Int))], [⟨g0, cl .u64 O [], 26⟩], [Row .u64 (some ad) c a, Row .u64 A' c' b]⟩) b.length ⟨0, O, 0, rfl, h2, h3, h4, by decide, by simp [val, h5], ?_⟩ (fun k s hI => ?_)
    ·exact xw (zsS zi0 (zsS (ziS zi0) zs0))
    ·clear h2 h3 h4 h5
     obtain ⟨j, O, cy, k1, k2, k3, k4, k5, k6, hw⟩ := hI
     refine SW_weak hw ?_
     clear hw
     by_cases hj : j < b.length
     ·have z2 : decide ((j : Int) < (b.length : Int)) = true := decide_eq_true (by omega)
      refine SW_know (ziS zi0) (fun w h => row_at h (by omega)) (fun ⟨ad', e⟩ => ?_)
      subst e
      obtain ⟨k, rfl⟩ : ∃ k', k = k' + 1 := ⟨k - 1, by omega⟩
      obtain ⟨y, hy, hyB⟩ := nat_rd32 db j
      obtain ⟨o, ho, hoB⟩ := nat_rd32 k3 (i + j)
      have v2 : Ve (rd b (j : Int)) (y : Int) := ⟨hy⟩
      have v3 : Ve (rd O ((i + j : Nat) : Int)) (o : Int) := ⟨ho⟩
      have vj : Ve (IntKind.i64.wrap ((j : Int) + 1)) ((j + 1 : Nat) : Int) := veI (by omega) (by omega)
      have vij : Ve (IntKind.i64.wrap ((i : Int) + (j : Int))) ((i + j : Nat) : Int) := veI (by omega) (by omega)
      have hP : x * y ≤ 4294967295 * 4294967295 := Nat.mul_le_mul (by omega) (by omega)
      obtain ⟨p, hp⟩ : ∃ p, x * y = p := ⟨_, rfl⟩
      rw [hp] at hP
      have v4 : Ve (IntKind.u64.wrap ((x : Int) * (y : Int))) (p : Int) := veU (by rw [← Int.natCast_mul, hp]) (by omega)
      have v5 : Ve (IntKind.u64.wrap ((p : Int) + (o : Int))) ((p + o : Nat) : Int) := veU (by omega) (by omega)
      have v6 : Ve (IntKind.u64.wrap (((p + o : Nat) : Int) + (cy : Int))) ((p + o + cy : Nat) : Int) := veU (by omega) (by omega)
      have v7 := low_ve (p + o + cy) (by omega)
      have v8 := high_ve (p + o + cy)
      have hst := mul_step (B := B32) (a := a) (b := b) (out := O) (i := i) (j := j) (ai := (x : Int)) (c := (cy : Int)) (x := (((p + o + cy) % 4294967296 : Nat) : Int)) (c' := (((p + o + cy) / 4294967296 : Nat) : Int)) (by omega) k6 (by
       rw [hy, ho]
       simp only [Int.toNat_natCast]
       rw [hp]
       unfold B32
       omega)
      refine SW_seq ?_
      refine xr [] [(26, .bool (decide ((j : Int) < (((List.length b) : Nat) : Int))))] ?_
      refine xst z2 ?_
      refine SW_skip ?_
      refine SW_seq ?_
      refine SW_block ?_
      refine xd (fun hB => ?_)
      refine xdk [(0, []), (1, []), (4, []), (5, []), (9, []), (10, []), (11, []), (16, [])] [(45, .int .u64 (cy : Int)), (40, .int .i64 (j : Int)), (39, .int .i64 (i : Int)), (38, .slice (some ⟨g0, 0, none⟩) (List.length a + List.length b + 1) (List.length a + List.length b + 1)), (34, .int .i64 (j : Int)), (33, .slice (some ad') (List.length b) c'), (30, .int .i64 (i : Int)), (29, .slice (some ad) (List.length a) c)] hB ?_
      refine xdve 12 hB 41 IntKind.i64 (IntKind.wrap IntKind.i64 ((i : Int) + (j : Int))) ((((i + j) : Nat) : Int)) vij ?_
      refine xdfi 2 hB 31 26 (ad) (List.length a) (c) (i) IntKind.i64 ((i : Int)) ⟨rfl⟩ (by omega) ?_
      refine xdfle 3 hB 32 zi0 (i) ((x : Int)) v1 (by omega) ?_
      refine xdfi 6 hB 35 26 (ad') (List.length b) (c') (j) IntKind.i64 ((j : Int)) ⟨rfl⟩ (by omega) ?_
      refine xdfle 7 hB 36 (ziS zi0) (j) ((y : Int)) v2 (by omega) ?_
      refine xdve 8 hB 37 IntKind.u64 (IntKind.wrap IntKind.u64 ((x : Int) * (y : Int))) ((p : Int)) v4 ?_
      refine xdoi 13 hB 42 26 (g0) (List.length a + List.length b + 1) (List.length a + List.length b + 1) (i + j) IntKind.i64 ((((i + j) : Nat) : Int)) ⟨rfl⟩ (by omega) ?_
      refine xdole 14 hB 43 0 (g0) (i + j) IntKind.u64 (O) ([]) 26 ((o : Int)) v3 (by first | omega | (simp <;> omega)) ?_
      refine xdve 15 hB 44 IntKind.u64 (IntKind.wrap IntKind.u64 ((p : Int) + (o : Int))) ((((p + o) : Nat) : Int)) v5 ?_
      refine xdve 17 hB 46 IntKind.u64 (IntKind.wrap IntKind.u64 ((((p + o) : Nat) : Int) + (cy : Int))) ((((p + o + cy) : Nat) : Int)) v6 ?_
      refine xdk [(18, [])] [(9, .int .u64 (((p + o + cy) : Nat) : Int))] hB ?_
      refine xdz ?_
      refine xg ?_
      refine xn 3 [] [(49, .int .i64 (j : Int)), (48, .int .i64 (i : Int)), (47, .slice (some ⟨g0, 0, none⟩) (List.length a + List.length b + 1) (List.length a + List.length b + 1))] ?_
      refine xve 50 IntKind.i64 (IntKind.wrap IntKind.i64 ((i : Int) + (j : Int))) ((((i + j) : Nat) : Int)) vij ?_
      refine xn 5 [] [(51, .int .u64 (((p + o + cy) : Nat) : Int))] ?_
      refine xve 52 IntKind.u64 (bits BinOp.and IntKind.u64 (((p + o + cy) : Nat) : Int) 4294967295) (((((p + o + cy) % 4294967296) : Nat) : Int)) v7 ?_
      refine xoi 53 26 (g0) (List.length a + List.length b + 1) (List.length a + List.length b + 1) (i + j) IntKind.i64 ((((i + j) : Nat) : Int)) ⟨rfl⟩ (by omega) ?_
      refine xos 0 (g0) (i + j) IntKind.u64 (O) ([]) 26 (((((p + o + cy) % 4294967296) : Nat) : Int)) (by first | omega | (simp <;> omega)) ?_
      refine xz [] [] ?_
      refine SW_region ?_
      refine xn 1 [] [(54, .int .u64 (((p + o + cy) : Nat) : Int))] ?_
      refine xve 55 IntKind.u64 (shf IntKind.u64 (((p + o + cy) : Nat) : Int) 32) (((((p + o + cy) / 4294967296) : Nat) : Int)) v8 ?_
      refine xz [] [(7, .int .u64 ((((p + o + cy) / 4294967296) : Nat) : Int))] ?_
      refine SW_region ?_
      refine xn 1 [] [(27, .int .i64 (j : Int))] ?_
      refine xve 28 IntKind.i64 (IntKind.wrap IntKind.i64 ((j : Int) + 1)) ((((j + 1) : Nat) : Int)) vj ?_
      refine xz [] [(8, .int .i64 (((j + 1) : Nat) : Int))] ?_
      refine ⟨k, by omega, j + 1, _, _, by omega, by rw [List.length_set]; exact k2, k3.set _ (cast_dig32 (Nat.mod_lt _ (by decide))), k4.set (by omega), by omega, hst, ?_⟩
      exact xw (zsS zi0 (zsS (ziS zi0) zs0))
     ·have z2 : decide ((j : Int) < (b.length : Int)) = false := decide_eq_false (by omega)
      obtain rfl : j = b.length := by omega
      refine SW_seq ?_
      refine xr [] [(26, .bool (decide ((((List.length b) : Nat) : Int) < (((List.length b) : Nat) : Int))))] ?_
      refine xsf z2 ?_
      refine SW_exit ?_
      refine ⟨O, cy, k2, k3, k4, k5, k6, ?_⟩
      exact xw (zsS zi0 (zsS (ziS zi0) zs0))
   ·clear h2 h3 h4 h5
    rintro s' ⟨O, cy, k2, k3, k4, k5, k6, hw⟩
    refine SW_weak hw ?_
    clear hw
    have hend := mul_end (B := B32) (a := a) (b := b) (out := O) (i := i) (c := (cy : Int)) (by omega) (k4 _ (Nat.le_refl _)) (by rw [hx]; exact k6)
    refine SW_region ?_
    refine xn 4 [] [(59, .int .i64 (((List.length b) : Nat) : Int)), (57, .int .i64 (i : Int)), (56, .slice (some ⟨g0, 0, none⟩) (List.length a + List.length b + 1) (List.length a + List.length b + 1))] ?_
    refine xve 60 IntKind.i64 (IntKind.wrap IntKind.i64 ((i : Int) + (((List.length b) : Nat) : Int))) ((((i + List.length b) : Nat) : Int)) vn ?_
    refine xn 6 [] [(61, .int .u64 (cy : Int))] ?_
    refine xoi 62 26 (g0) (List.length a + List.length b + 1) (List.length a + List.length b + 1) (i + List.length b) IntKind.i64 ((((i + List.length b) : Nat) : Int)) ⟨rfl⟩ (by omega) ?_
    refine xos 0 (g0) (i + List.length b) IntKind.u64 (O) ([]) 26 ((cy : Int)) (by first | omega | (simp <;> omega)) ?_
    refine xz [] [] ?_
    refine SW_region ?_
    refine xn 1 [] [(21, .int .i64 (i : Int))] ?_
    refine xve 22 IntKind.i64 (IntKind.wrap IntKind.i64 ((i : Int) + 1)) ((((i + 1) : Nat) : Int)) vi ?_
    refine xz [] [(6, .int .i64 (((i + 1) : Nat) : Int))] ?_
    refine ⟨m, by omega, i + 1, _, by omega, by rw [List.length_set]; exact k2, k3.set _ (cast_dig32 k5), ?_, hend, ?_⟩
    ·have := k4.more (cy : Int)
     rwa [show i + b.length + 1 = i + 1 + b.length by omega] at this
    ·exact xw (zsS zi0 (zsS (ziS zi0) zs0))
  ·have z1 : decide ((i : Int) < (a.length : Int)) = false := decide_eq_false (by omega)
   obtain rfl : i = a.length := by omega
   rw [List.take_length] at h5
   have er : trimL O = r := norm_inj B32_pos h3.trim dr (norm_trim _) nr (by rw [val_trim, h5, vr])
   have ct := ct_spec_l1Trim O (some ⟨g0, 0, none⟩) O.length (by omega)
   rw [er] at ct
   refine SW_seq ?_
   refine xr [] [(20, .bool (decide ((((List.length a) : Nat) : Int) < (((List.length a) : Nat) : Int))))] ?_
   refine xsf z1 ?_
   refine SW_exit ?_
   refine xg ?_
   refine xn 1 [] [(63, .slice (some ⟨g0, 0, none⟩) (List.length a + List.length b + 1) (List.length a + List.length b + 1))] ?_
   refine NW_fz 0 (a.length + b.length + 1) g0 .u64 O [] 26 (by omega) (by omega) ?_
   rw [← h2]
   refine xcr 64 ct (zsS zi0 zs0) (fun A0 k0 => ?_)
   refine xz [] [(4, .slice A0 (List.length r) k0)] ?_
   refine SW_ret ?_
   refine xe (A0, k0) (.slice A0 (List.length r) k0) [] ?_ (zsS zi0 zs0)
   rfl
theorem half_veU (x : Nat) : Ve (shf .u64 (x : Int) 1) ((x / 2 : Nat) : Int) := ⟨by have := shf_nat x 1 (by decide); rw [show ((1 : Nat) : Int) = 1 from rfl] at this; rw [this]⟩
theorem IsBits.half {v k : Nat} (h : IsBits v (k + 1)) : IsBits (v / 2) k := by
 obtain ⟨h1, h2⟩ := h
 rw [Nat.pow_succ] at h1
 refine ⟨by omega, ?_⟩
 rcases h2 with h2 | h2
 ·omega
 ·rw [Nat.add_sub_cancel] at h2
  rcases Nat.eq_zero_or_pos k with h | h
  ·exact .inl h
  ·right
   rw [show k = (k - 1) + 1 by omega, Nat.pow_succ] at h2
   omega
theorem bits_top {B w : Nat} (hB : B = 2 ^ w) {l : List Int} (dl : Dig B l) (h : 0 < l.length) {m : Nat} (ht : IsBits (rd l ((l.length - 1 : Nat) : Int)).toNat m) (h0 : 0 < (rd l ((l.length - 1 : Nat) : Int)).toNat) : IsBits (val B l) (w * (l.length - 1) + m) := by
 have hp : 0 < B := by rw [hB]; exact Nat.pow_pos (by decide)
 have hv := val_mid B (l := l) (p := l.length - 1) (by omega)
 rw [show l.length - 1 + 1 = l.length by omega, List.drop_length] at hv
 have hlo := val_lt (dl.take (l.length - 1))
 rw [List.length_take, Nat.min_eq_left (by omega)] at hlo
 refine IsBits.up (s := w * (l.length - 1)) ?_ ?_
 ·rw [Nat.pow_mul, ← hB, hv]
  simp only [val, Nat.mul_zero, Nat.add_zero]
  rw [Nat.add_mul_div_left _ _ (Nat.pow_pos hp), Nat.div_eq_of_lt hlo, Nat.zero_add]
  exact ht
 ·rw [Nat.pow_mul, ← hB, hv]
  simp only [val, Nat.mul_zero, Nat.add_zero]
  rw [Nat.add_mul_div_left _ _ (Nat.pow_pos hp), Nat.div_eq_of_lt hlo, Nat.zero_add]
  exact h0
theorem ct_spec_l1Bits_rows (l : List Int) (A : Option Addr) (c : Nat) (dl : Dig B32 l) (nl : Norm l) (hl : l.length ≤ 1000000000) (m : Nat) (hm : IsBits (val B32 l) m) : CtV Tryd.prog 77 [.slice A l.length c] [Row .u64 A c l] (.int .i64 (m : Int)) := by
 refine ct_of Tryd.func77 rfl (by kernel_rfl) (fun B w0 => ?_)
 by_cases h0 : l.length = 0
 ·have z : ((l.length : Int) == 0) = true := beq_iff_eq.2 (by omega)
  obtain rfl := List.eq_nil_of_length_eq_zero h0
  obtain rfl : m = 0 := hm.uniq IsBits.zero
  refine xr [] [(2, .int .i64 0)] ?_
  refine SW_seq ?_
  refine xr [] [(7, .bool true)] ?_
  refine xs1 ?_
  refine xr [] [(2, .int .i64 0)] ?_
  refine SW_ret ?_
  refine xe () (.int .i64 0) [] ?_ trivial
  rfl
 ·have z : ((l.length : Int) == 0) = false := by rw [beq_eq_false_iff_ne]; omega
  refine SW_know zi0 (fun w h => row_at h (by omega)) (fun ⟨ad, e⟩ => ?_)
  subst e
  obtain ⟨t, ht, htB⟩ := nat_rd32 dl (l.length - 1)
  have ht0 : 0 < t := by
   have h := norm_last nl (by omega)
   rw [show ((l.length : Int) - 1) = ((l.length - 1 : Nat) : Int) by omega, ht] at h
   omega
  obtain ⟨k, hk, hk64⟩ := bits_of t (by omega)
  obtain rfl : m = 32 * (l.length - 1) + k := hm.uniq (bits_top B32_pow dl (by omega) (by rw [ht]; exact hk) (by rw [ht]; exact ht0))
  have v1 : Ve (rd l ((l.length - 1 : Nat) : Int)) (t : Int) := ⟨ht⟩
  have v2 : Ve (IntKind.i64.wrap ((l.length : Int) - 1)) ((l.length - 1 : Nat) : Int) := veI (by omega) (by omega)
  have v3 : Ve (IntKind.i64.wrap (32 * ((l.length - 1 : Nat) : Int))) ((32 * (l.length - 1) : Nat) : Int) := veI (by omega) (by omega)
  obtain ⟨T, hT⟩ : ∃ T, 32 * (l.length - 1) = T := ⟨_, rfl⟩
  have hT1 : T ≤ 32000000000 := by omega
  rw [hT] at v3
  rw [hT]
  refine xr [] [(2, .int .i64 0)] ?_
  refine SW_seq ?_
  refine xr [] [(7, .bool ((((List.length l) : Nat) : Int) == 0))] ?_
  refine xsf z ?_
  refine SW_skip ?_
  refine xg ?_
  refine xn 2 [] [(9, .int .i64 (((List.length l) : Nat) : Int))] ?_
  refine xve 10 IntKind.i64 (IntKind.wrap IntKind.i64 ((((List.length l) : Nat) : Int) - 1)) ((((List.length l - 1) : Nat) : Int)) v2 ?_
  refine xve 11 IntKind.i64 (IntKind.wrap IntKind.i64 (32 * (((List.length l - 1) : Nat) : Int))) ((T : Int)) v3 ?_
  refine xz [] [(3, .int .i64 (T : Int))] ?_
  refine SW_seq ?_
  refine xg ?_
  refine xn 3 [] [(14, .int .i64 (((List.length l) : Nat) : Int)), (12, .slice (some ad) (List.length l) c)] ?_
  refine xve 15 IntKind.i64 (IntKind.wrap IntKind.i64 ((((List.length l) : Nat) : Int) - 1)) ((((List.length l - 1) : Nat) : Int)) v2 ?_
  refine xfi 16 26 (ad) (List.length l) (c) (List.length l - 1) IntKind.i64 ((((List.length l - 1) : Nat) : Int)) ⟨rfl⟩ (by omega) ?_
  refine xfle 17 zi0 (List.length l - 1) ((t : Int)) v1 (by omega) ?_
  refine xz [] [(4, .int .u64 (t : Int))] ?_
  refine SW_then (fun s' => Weak s' ⟨[(3, .int .i64 ((T + k : Nat) : Int))], [], []⟩) ?_ ?_
  ·refine SW_block ?_
   refine SW_loopn (fun n s' => ∃ u i : Nat, IsBits u n ∧ u < 4294967296 ∧ i + n = T + k ∧ n ≤ 64 ∧ Weak s' ⟨[(3, .int .i64 (i : Int)), (4, .int .u64 (u : Int))], [], []⟩) k ⟨t, T, hk, htB, rfl, hk64, ?_⟩ (fun n s' hI => ?_)
   ·exact xw zs0
   ·obtain ⟨u, i, i1, i2, i3, i4, hw⟩ := hI
    refine SW_weak hw ?_
    clear hw
    by_cases hu : 0 < u
    ·have z1 : decide ((u : Int) > 0) = true := decide_eq_true (by omega)
     have hn := i1.pos hu
     obtain ⟨n, rfl⟩ : ∃ n', n = n' + 1 := ⟨n - 1, by omega⟩
     have v4 := half_veU u
     have v5 : Ve (IntKind.i64.wrap ((i : Int) + 1)) ((i + 1 : Nat) : Int) := veI (by omega) (by omega)
     refine SW_seq ?_
     refine xr [] [(19, .bool (decide ((u : Int) > 0)))] ?_
     refine xst z1 ?_
     refine SW_skip ?_
     refine SW_seq ?_
     refine SW_block ?_
     refine SW_region ?_
     refine xn 1 [] [(22, .int .i64 (i : Int))] ?_
     refine xve 23 IntKind.i64 (IntKind.wrap IntKind.i64 ((i : Int) + 1)) ((((i + 1) : Nat) : Int)) v5 ?_
     refine xz [] [(3, .int .i64 (((i + 1) : Nat) : Int))] ?_
     refine SW_region ?_
     refine xn 1 [] [(20, .int .u64 (u : Int))] ?_
     refine xve 21 IntKind.u64 (shf IntKind.u64 (u : Int) 1) ((((u / 2) : Nat) : Int)) v4 ?_
     refine xz [] [(4, .int .u64 (((u / 2) : Nat) : Int))] ?_
     refine ⟨n, by omega, u / 2, i + 1, i1.half, by omega, by omega, by omega, ?_⟩
     exact xw zs0
    ·have z1 : decide ((u : Int) > 0) = false := decide_eq_false (by omega)
     obtain rfl : u = 0 := by omega
     obtain rfl : n = 0 := i1.uniq IsBits.zero
     obtain rfl : i = T + k := by omega
     refine SW_seq ?_
     refine xr [] [(19, .bool false)] ?_
     refine xs0 ?_
     refine SW_exit ?_
     exact xw zs0
  ·rintro s' hw
   refine SW_weak hw ?_
   refine xr [] [(2, .int .i64 (((T + k) : Nat) : Int))] ?_
   refine SW_ret ?_
   refine xe () (.int .i64 (((T + k) : Nat) : Int)) [] ?_ trivial
   rfl
end Go.Proofs.YtgknelgplmohoaaDoor.M
end
section
namespace Go.Proofs.YtgknelgplmohoaaDoor.M
open Go.RowKit Go.Proofs.YtgknelgplmohoaaDoor.G Go.Proofs.YtgknelgplmohoaaDoorV.PrintWords Go.Proofs.YtgknelgplmohoaaDoorV.PrintLast Go.Proofs.YtgknelgplmohoaaDoor.X
set_option linter.unusedVariables false
set_option linter.unusedSimpArgs false
theorem quo32 (n : Nat) (h : n ≤ 9223372036854775807) : Ve (IntKind.i64.wrap (Int.tdiv (n : Int) 32)) ((n / 32 : Nat) : Int) := ⟨(Nn.w (Nn.div ⟨rfl⟩ ⟨rfl⟩ : Nn (Int.tdiv (n : Int) 32) (n / 32)) (by omega)).out⟩
theorem rem32 (n : Nat) : Ve (Int.tmod (n : Int) 32) ((n % 32 : Nat) : Int) := ⟨(Nn.mod ⟨rfl⟩ ⟨rfl⟩ : Nn (Int.tmod (n : Int) 32) (n % 32)).out⟩
theorem conv32 (n : Nat) : Ve (IntKind.u64.wrap ((n % 32 : Nat) : Int)) ((n % 32 : Nat) : Int) := veU rfl (by omega)
theorem bit_at {x z p : Nat} (hp : p < 32) : (x + B32 * z) / 2 ^ p % 2 = x / 2 ^ p % 2 := by
 have h1 := pow_split 32 p (by omega)
 have h2 : 2 ^ (32 - p) = 2 * 2 ^ (31 - p) := by rw [show 32 - p = (31 - p) + 1 by omega, Nat.pow_succ, Nat.mul_comm]
 rw [B32_pow, h1, Nat.mul_right_comm, Nat.add_mul_div_right _ _ (Nat.pow_pos (by decide)), h2, Nat.mul_assoc, Nat.add_mul_mod_self_left]
theorem val_bit {l : List Int} (dl : Dig B32 l) (n : Nat) {x : Nat} (hx : rd l ((n / 32 : Nat) : Int) = (x : Int)) : val B32 l / 2 ^ n % 2 = x / 2 ^ (n % 32) % 2 := by
 rw [pow_div_mod _ 32 n, ← B32_pow, ← val_drop B32 B32_pos dl]
 have h : val B32 (l.drop (n / 32)) = x + B32 * val B32 (l.drop (n / 32 + 1)) := by
  rcases Nat.lt_or_ge (n / 32) l.length with h | h
  ·have := val_drop_rd B32 h
   rwa [hx, Int.toNat_natCast] at this
  ·rw [List.drop_eq_nil_of_le h, List.drop_eq_nil_of_le (by omega)]
   have := rd_of_ge l ((n / 32 : Nat) : Int) (by rw [Int.toNat_natCast]; exact h)
   rw [hx] at this
   have : x = 0 := by omega
   rw [this]
   rfl
 rw [h, bit_at (Nat.mod_lt _ (by decide))]
theorem ct_spec_l1Bit_rows (l : List Int) (A : Option Addr) (c : Nat) (dl : Dig B32 l) (hl : l.length ≤ 1000000000) (N : Int) (n : Nat) (hN : Nn N n) (hn : n ≤ 100000000000) : CtV Tryd.prog 91 [.slice A l.length c, .int .i64 N] [Row .u64 A c l] (.int .u64 ((val B32 l / 2 ^ n % 2 : Nat) : Int)) := by
 obtain ⟨rfl⟩ := hN
 refine ct_of Tryd.func91 rfl (by kernel_rfl) (fun B w0 => ?_)
 obtain ⟨x, hx, hxB⟩ := nat_rd32 dl (n / 32)
 have v1 : Ve (rd l ((n / 32 : Nat) : Int)) (x : Int) := ⟨hx⟩
 have v2 := quo32 n (by omega)
 have v3 := rem32 n
 have v3' := conv32 n
 have v4 : Ve (shf .u64 (x : Int) ((n % 32 : Nat) : Int)) ((x / 2 ^ (n % 32) : Nat) : Int) := ⟨shf_nat x (n % 32) (by omega)⟩
 have v5 : Ve (bits .and .u64 ((x / 2 ^ (n % 32) : Nat) : Int) 1) ((x / 2 ^ (n % 32) % 2 : Nat) : Int) := ⟨and1 _ (by have := Nat.div_le_self x (2 ^ (n % 32)); omega)⟩
 rw [val_bit dl n hx]
 refine xr [] [(4, .int .u64 0)] ?_
 refine xg ?_
 refine xn 2 [] [(6, .int .i64 (n : Int)), (5, .slice A (List.length l) c)] ?_
 refine xve 7 IntKind.i64 (IntKind.wrap IntKind.i64 (Int.tdiv (n : Int) 32)) ((((n / 32) : Nat) : Int)) v2 ?_
 refine xcv 8 (ct_spec_l1At (l) (A) (c) ((((n / 32) : Nat) : Int)) (n / 32) ⟨rfl⟩ ((x : Int)) v1 (by omega)) (zsS zi0 zs0) ?_
 refine xn 5 [] [(9, .int .i64 (n : Int))] ?_
 refine xve 10 IntKind.i64 (Int.tmod (n : Int) 32) ((((n % 32) : Nat) : Int)) v3 ?_
 refine xve 11 IntKind.u64 (IntKind.wrap IntKind.u64 (((n % 32) : Nat) : Int)) ((((n % 32) : Nat) : Int)) v3' ?_
 refine xve 12 IntKind.u64 (shf IntKind.u64 (x : Int) (((n % 32) : Nat) : Int)) ((((x / 2 ^ (n % 32)) : Nat) : Int)) v4 ?_
 refine xve 13 IntKind.u64 (bits BinOp.and IntKind.u64 (((x / 2 ^ (n % 32)) : Nat) : Int) 1) ((((x / 2 ^ (n % 32) % 2) : Nat) : Int)) v5 ?_
 refine xz [] [(4, .int .u64 (((x / 2 ^ (n % 32) % 2) : Nat) : Int))] ?_
 refine SW_ret ?_
 refine xe () (.int .u64 (((x / 2 ^ (n % 32) % 2) : Nat) : Int)) [] ?_ trivial
 rfl
theorem left32 {a O : List Int} {i x p cy : Nat} (hx : rd a (i : Int) = (x : Int)) (hl : O.length = i) (hv : val B32 O + B32 ^ i * cy = val B32 (a.take i) * 2 ^ p) :
  val B32 (O ++ [(((x * 2 ^ p + cy) % 4294967296 : Nat) : Int)]) + B32 ^ (i + 1) * ((x * 2 ^ p + cy) / 4294967296) = val B32 (a.take (i + 1)) * 2 ^ p := by
 rw [val_snoc, val_take_succ, hl, hx, Nat.pow_succ, Nat.mul_assoc, Nat.add_mul, ← hv, Nat.mul_assoc]
 simp only [Int.toNat_natCast]
 rw [show B32 * ((x * 2 ^ p + cy) / 4294967296) = 4294967296 * ((x * 2 ^ p + cy) / 4294967296) from rfl]
 have h := congrArg (B32 ^ i * ·) (Nat.mod_add_div (x * 2 ^ p + cy) 4294967296)
 generalize (x * 2 ^ p + cy) % 4294967296 = m at *
 generalize 4294967296 * ((x * 2 ^ p + cy) / 4294967296) = q at *
 generalize B32 ^ i = P at *
 simp only [Nat.mul_add] at h ⊢
 omega
theorem ct_spec_l1Left_rows (a : List Int) (A : Option Addr) (c : Nat) (da : Dig B32 a) (hla : a.length ≤ 1000000000) (N : Int) (n : Nat) (hN : Nn N n) (hn : n ≤ 100000000000) : ∀ r, Dig B32 r → Norm r → val B32 r = val B32 a * 2 ^ n → CtR Tryd.prog 42 [.slice A a.length c, .int .i64 N] [Row .u64 A c a] .u64 r := by
 intro r dr nr vr
 obtain ⟨rfl⟩ := hN
 refine ct_of Tryd.func42 rfl (by kernel_rfl) (fun B w0 => ?_)
 have v2 := quo32 n (by omega)
 have v3 := rem32 n
 have v3' := conv32 n
 obtain ⟨q, hq⟩ : ∃ q, n / 32 = q := ⟨_, rfl⟩
 have hp : n % 32 < 32 := Nat.mod_lt _ (by decide)
 obtain ⟨p, hpe⟩ : ∃ p, n % 32 = p := ⟨_, rfl⟩
 have hsp : val B32 a * 2 ^ n = B32 ^ q * (val B32 a * 2 ^ p) := by rw [pow_mul_mod _ 32 n, hq, hpe, ← B32_pow]
 have hq1 : q ≤ 10000000000 := by omega
 rw [hq] at v2
 rw [hpe] at v3 v3' hp
 clear hq hpe
 have hP : 0 < 2 ^ p := Nat.pow_pos (by decide)
 have hP1 : 2 ^ p ≤ 2147483648 := by
  have : 2 ^ p ≤ 2 ^ 31 := Nat.pow_le_pow_right (by decide) (by omega)
  exact this
 refine xr [] [(4, .slice none 0 0)] ?_
 refine xg ?_
 refine xn 1 [] [(9, .int .i64 (n : Int))] ?_
 refine xve 10 IntKind.i64 (IntKind.wrap IntKind.i64 (Int.tdiv (n : Int) 32)) ((q : Int)) v2 ?_
 refine xma 11 26 (q) IntKind.u64 8 ((q : Int)) ⟨rfl⟩ (by omega) (fun g0 => ?_)
 refine xz [] [(5, .slice (some ⟨g0, 0, none⟩) q q)] ?_
 refine xr [] [(6, .int .u64 0)] ?_
 refine SW_seq ?_
 refine xr [] [(7, .int .i64 0)] ?_
 refine SW_then (fun s' => ∃ (sl : Value) (bs : List Box) (O : List Int), Own 26 .u64 sl bs (List.replicate q 0 ++ O) ∧ Dig B32 O ∧ O.length = a.length + 1 ∧ val B32 O = val B32 a * 2 ^ p ∧ Weak s' ⟨[(5, sl)], bs, []⟩) ?_ ?_
 ·refine SW_block ?_
  refine SW_loopn (fun m s' => ∃ (sl : Value) (bs : List Box) (O : List Int) (i cy : Nat), m + i = a.length + 1 ∧ Own 26 .u64 sl bs (List.replicate q 0 ++ O) ∧ Dig B32 O ∧ O.length = i ∧ cy < 2 ^ p ∧ val B32 O + B32 ^ i * cy = val B32 (a.take i) * 2 ^ p ∧ Weak s' ⟨[(0, .slice A a.length c), (1, .int .i64 (n : Int)), (5, sl), (6, .int .u64 (cy : Int)), (7, .int .i64 (i : Int))], bs, [Row .u64 A c a]⟩) (a.length + 1) ⟨.slice (some ⟨g0, 0, none⟩) q q, [⟨g0, cl .u64 (List.replicate q 0) [], 26⟩], [], 0, 0, rfl, .inr ⟨g0, [], q, by simp, by simp, by rw [List.append_nil]; rfl⟩, Dig.nil _, rfl, hP, by simp [val], ?_⟩ (fun m s' hI => ?_)
  ·exact xw (zsS zi0 zs0)
  ·obtain ⟨sl0, bs0, O, i, cy, k1, hO0, k3, k4, k5, k6, hw⟩ := hI
   refine SW_weak hw ?_
   clear hw
   by_cases hi : i ≤ a.length
   ·have z : decide ((i : Int) ≤ (a.length : Int)) = true := decide_eq_true (by omega)
    obtain ⟨m, rfl⟩ : ∃ m', m = m' + 1 := ⟨m - 1, by omega⟩
    obtain ⟨x, hx, hxB⟩ := nat_rd32 da i
    have v1 : Ve (rd a (i : Int)) (x : Int) := ⟨hx⟩
    have hmx : x * 2 ^ p ≤ 4294967295 * 2 ^ p := Nat.mul_le_mul_right _ (by omega)
    have v4 : Ve (shl .u64 (x : Int) (p : Int)) ((x * 2 ^ p : Nat) : Int) := ⟨by rw [shl_nat x p (by omega), Nat.mod_eq_of_lt (by omega)]⟩
    have v5 : Ve (bits .or .u64 ((x * 2 ^ p : Nat) : Int) (cy : Int)) ((x * 2 ^ p + cy : Nat) : Int) := ⟨or_nat p (x * 2 ^ p) cy (by omega) (by omega) (Nat.dvd_mul_left _ _) k5⟩
    have v6 := low_ve (x * 2 ^ p + cy) (by omega)
    have v7 := high_ve (x * 2 ^ p + cy)
    have v8 : Ve (IntKind.i64.wrap ((i : Int) + 1)) ((i + 1 : Nat) : Int) := veI (by omega) (by omega)
    have hst := left32 hx k4 k6
    refine SW_seq ?_
    refine xr [] [(15, .bool (decide ((i : Int) ≤ (((List.length a) : Nat) : Int))))] ?_
    refine xst z ?_
    refine SW_skip ?_
    refine SW_seq ?_
    refine SW_block ?_
    refine xg ?_
    refine xn 2 [] [(19, .int .i64 (i : Int)), (18, .slice A (List.length a) c)] ?_
    refine xcv 20 (ct_spec_l1At (a) (A) (c) ((i : Int)) (i) ⟨rfl⟩ ((x : Int)) v1 (by omega)) (zsS zi0 zs0) ?_
    refine xn 4 [] [(21, .int .i64 (n : Int))] ?_
    refine xve 22 IntKind.i64 (Int.tmod (n : Int) 32) ((p : Int)) v3 ?_
    refine xve 23 IntKind.u64 (IntKind.wrap IntKind.u64 (p : Int)) ((p : Int)) v3' ?_
    refine xve 24 IntKind.u64 (shl IntKind.u64 (x : Int) (p : Int)) ((((x * 2 ^ p) : Nat) : Int)) v4 ?_
    refine xn 8 [] [(25, .int .u64 (cy : Int))] ?_
    refine xve 26 IntKind.u64 (bits BinOp.or IntKind.u64 (((x * 2 ^ p) : Nat) : Int) (cy : Int)) ((((x * 2 ^ p + cy) : Nat) : Int)) v5 ?_
    refine xz [] [(8, .int .u64 (((x * 2 ^ p + cy) : Nat) : Int))] ?_
    refine xg ?_
    refine xn 2 [] [(28, .int .u64 (((x * 2 ^ p + cy) : Nat) : Int)), (27, sl0)] ?_
    refine xve 29 IntKind.u64 (bits BinOp.and IntKind.u64 (((x * 2 ^ p + cy) : Nat) : Int) 4294967295) (((((x * 2 ^ p + cy) % 4294967296) : Nat) : Int)) v6 ?_
    refine xbl 30 [.int .u64 ((((x * 2 ^ p + cy) % 4294967296) : Nat) : Int)] 26 1 (fun g1 => ?_)
    refine xow 31 8 (g1) (1) [((((x * 2 ^ p + cy) % 4294967296) : Nat) : Int)] hO0 (by first | omega | (simp <;> omega)) (fun sl1 bs1 hO1 => ?_)
    refine xz [] [(5, sl1)] ?_
    refine SW_region ?_
    refine xn 1 [] [(32, .int .u64 (((x * 2 ^ p + cy) : Nat) : Int))] ?_
    refine xve 33 IntKind.u64 (shf IntKind.u64 (((x * 2 ^ p + cy) : Nat) : Int) 32) (((((x * 2 ^ p + cy) / 4294967296) : Nat) : Int)) v7 ?_
    refine xz [] [(6, .int .u64 ((((x * 2 ^ p + cy) / 4294967296) : Nat) : Int))] ?_
    refine SW_region ?_
    refine xn 1 [] [(16, .int .i64 (i : Int))] ?_
    refine xve 17 IntKind.i64 (IntKind.wrap IntKind.i64 ((i : Int) + 1)) ((((i + 1) : Nat) : Int)) v8 ?_
    refine xz [] [(7, .int .i64 (((i + 1) : Nat) : Int))] ?_
    refine ⟨m, by omega, sl1, bs1, O ++ [(((x * 2 ^ p + cy) % 4294967296 : Nat) : Int)], i + 1, (x * 2 ^ p + cy) / 4294967296, by omega, by rw [← List.append_assoc]; exact hO1, k3.snoc (cast_dig32 (Nat.mod_lt _ (by decide))), by rw [List.length_append, k4]; rfl, by omega, hst, ?_⟩
    exact xw (zsS zi0 zs0)
   ·have z : decide ((i : Int) ≤ (a.length : Int)) = false := decide_eq_false (by omega)
    obtain rfl : i = a.length + 1 := by omega
    rw [List.take_of_length_le (by omega)] at k6
    have hcy : cy = 0 := by
     rcases Nat.eq_zero_or_pos cy with h | h
     ·exact h
     ·have h1 := val_lt da
      have h2 := Nat.mul_le_mul (Nat.le_of_lt h1) hP1
      have h3 := Nat.mul_le_mul_left (B32 ^ (a.length + 1)) h
      rw [Nat.pow_succ] at h3 k6
      have h4 : B32 ^ a.length * 2147483648 < B32 ^ a.length * B32 := Nat.mul_lt_mul_of_pos_left (by unfold B32; decide) (Nat.pow_pos B32_pos)
      omega
    rw [hcy, Nat.mul_zero, Nat.add_zero] at k6
    refine SW_seq ?_
    refine xr [] [(15, .bool (decide ((((List.length a + 1) : Nat) : Int) ≤ (((List.length a) : Nat) : Int))))] ?_
    refine xsf z ?_
    refine SW_exit ?_
    refine ⟨sl0, bs0, O, hO0, k3, k4, k6, ?_⟩
    exact xw zs0
 ·rintro s' ⟨sl, bs, O, hO, dO, lO, vO, hw⟩
  refine SW_weak hw ?_
  clear hw
  have lQ : (List.replicate q 0 ++ O).length = q + a.length + 1 := by rw [List.length_append, List.length_replicate, lO]; omega
  have dQ : Dig B32 (List.replicate q 0 ++ O) := (Dig.zeros B32_pos q).append dO
  have vQ : val B32 (List.replicate q 0 ++ O) = val B32 r := by rw [val_append, val_zeros, List.length_replicate, Nat.zero_add, vO, vr, hsp]
  obtain ⟨Q, hQ⟩ : ∃ Q, List.replicate q 0 ++ O = Q := ⟨_, rfl⟩
  rw [hQ] at hO lQ dQ vQ
  refine SW_own hO (by omega) (fun Ao co e => ?_)
  subst e
  have er : trimL Q = r := norm_inj B32_pos dQ.trim dr (norm_trim _) nr (by rw [val_trim, vQ])
  have ct := ct_spec_l1Trim Q Ao co (by omega)
  rw [er] at ct
  refine xg ?_
  refine xn 1 [] [(34, .slice Ao (List.length Q) co)] ?_
  refine xcr 35 ct (zsS zi0 zs0) (fun A0 k0 => ?_)
  refine xz [] [(4, .slice A0 (List.length r) k0)] ?_
  refine SW_ret ?_
  refine xe (A0, k0) (.slice A0 (List.length r) k0) [] ?_ (zsS zi0 zs0)
  rfl
theorem ct_spec_l1Right_rows (a : List Int) (A : Option Addr) (c : Nat) (da : Dig B32 a) (hla : a.length ≤ 1000000000) (N : Int) (n : Nat) (hN : Nn N n) (hn : n ≤ 100000000000) : ∀ r, Dig B32 r → Norm r → val B32 r = val B32 a / 2 ^ n → CtR Tryd.prog 97 [.slice A a.length c, .int .i64 N] [Row .u64 A c a] .u64 r := by
 intro r dr nr vr
 obtain ⟨rfl⟩ := hN
 refine ct_of Tryd.func97 rfl (by kernel_rfl) (fun B w0 => ?_)
 have v2 := quo32 n (by omega)
 have v3 := rem32 n
 have v3' := conv32 n
 obtain ⟨q, hq⟩ : ∃ q, n / 32 = q := ⟨_, rfl⟩
 have hp : n % 32 < 32 := Nat.mod_lt _ (by decide)
 obtain ⟨p, hpe⟩ : ∃ p, n % 32 = p := ⟨_, rfl⟩
 have hsp : val B32 a / 2 ^ n = val B32 a / B32 ^ q / 2 ^ p := by rw [pow_div_mod _ 32 n, hq, hpe, ← B32_pow]
 have hq1 : q ≤ 10000000000 := by omega
 rw [hq] at v2
 rw [hpe] at v3 v3' hp
 clear hq hpe
 have hP : 0 < 2 ^ p := Nat.pow_pos (by decide)
 obtain ⟨l, hl⟩ : ∃ l, a.drop q = l := ⟨_, rfl⟩
 have ll : l.length = a.length - q := by rw [← hl]; exact List.length_drop ..
 have dl : Dig B32 l := by rw [← hl]; exact da.drop q
 have vl : val B32 l = val B32 a / B32 ^ q := by rw [← hl]; exact val_drop B32 B32_pos da q
 have rl : ∀ k : Nat, rd a ((q + k : Nat) : Int) = rd l (k : Int) := fun k => by rw [← hl, rd_drop]
 have lsr : (sr B32 (2 ^ p) l).length = l.length := sr_length _ _ l
 refine xr [] [(4, .slice none 0 0)] ?_
 refine xr [] [(5, .slice none 0 0)] ?_
 refine SW_seq ?_
 refine xg ?_
 refine xn 1 [] [(8, .int .i64 (n : Int))] ?_
 refine xve 9 IntKind.i64 (IntKind.wrap IntKind.i64 (Int.tdiv (n : Int) 32)) ((q : Int)) v2 ?_
 refine xz [] [(6, .int .i64 (q : Int))] ?_
 refine SW_then (fun s' => ∃ (sl : Value) (bs : List Box), Own 26 .u64 sl bs (sr B32 (2 ^ p) l) ∧ Weak s' ⟨[(5, sl)], bs, []⟩) ?_ ?_
 ·refine SW_block ?_
  refine SW_loopn (fun m s' => ∃ (sl : Value) (bs : List Box) (k : Nat), m + k = l.length ∧ Own 26 .u64 sl bs ((sr B32 (2 ^ p) l).take k) ∧ Weak s' ⟨[(0, .slice A a.length c), (1, .int .i64 (n : Int)), (5, sl), (6, .int .i64 ((q + k : Nat) : Int))], bs, [Row .u64 A c a]⟩) l.length ⟨_, _, 0, rfl, Own.nil 26 .u64, ?_⟩ (fun m s' hI => ?_)
  ·exact xw (zsS zi0 zs0)
  ·obtain ⟨sl0, bs0, k, k1, hO0, hw⟩ := hI
   refine SW_weak hw ?_
   clear hw
   by_cases hi : k < l.length
   ·have z : decide (((q + k : Nat) : Int) < (a.length : Int)) = true := decide_eq_true (by omega)
    obtain ⟨m, rfl⟩ : ∃ m', m = m' + 1 := ⟨m - 1, by omega⟩
    obtain ⟨x, hx, hxB⟩ := nat_rd32 dl k
    obtain ⟨y, hy, hyB⟩ := nat_rd32 dl (k + 1)
    have v1 : Ve (rd a ((q + k : Nat) : Int)) (x : Int) := ⟨by rw [rl, hx]⟩
    have v1' : Ve (rd a ((q + k + 1 : Nat) : Int)) (y : Int) := ⟨by rw [Nat.add_assoc, rl, hy]⟩
    have v4 : Ve (shl .u64 (y : Int) 32) ((y * 4294967296 : Nat) : Int) := ⟨by have := shl_nat y 32 (by omega); rw [show ((32 : Nat) : Int) = 32 from rfl] at this; rw [this]; omega⟩
    have v5 : Ve (bits .or .u64 (x : Int) ((y * 4294967296 : Nat) : Int)) ((x + y * 4294967296 : Nat) : Int) := ⟨or_nat' 32 (y * 4294967296) x (by omega) (by omega) (Nat.dvd_mul_left _ _) hxB⟩
    have v6 : Ve (shf .u64 ((x + y * 4294967296 : Nat) : Int) (p : Int)) (((x + y * 4294967296) / 2 ^ p : Nat) : Int) := ⟨shf_nat _ p (by omega)⟩
    have v7 := low_ve ((x + y * 4294967296) / 2 ^ p) (by have := Nat.div_le_self (x + y * 4294967296) (2 ^ p); omega)
    have v8 : Ve (IntKind.i64.wrap (((q + k : Nat) : Int) + 1)) ((q + k + 1 : Nat) : Int) := veI (by omega) (by omega)
    have hs := sr_take (B := B32) (P := 2 ^ p) hi (y := (((x + y * 4294967296) / 2 ^ p % 4294967296 : Nat) : Int)) (by
     rw [hx, hy, Int.toNat_natCast, Int.toNat_natCast, ← div_split hP (show x < B32 from hxB), Nat.mul_comm y]
     rfl)
    refine SW_seq ?_
    refine xr [] [(13, .bool (decide ((((q + k) : Nat) : Int) < (((List.length a) : Nat) : Int))))] ?_
    refine xst z ?_
    refine SW_skip ?_
    refine SW_seq ?_
    refine SW_block ?_
    refine xg ?_
    refine xn 2 [] [(17, .int .i64 (((q + k) : Nat) : Int)), (16, .slice A (List.length a) c)] ?_
    refine xcv 18 (ct_spec_l1At (a) (A) (c) ((((q + k) : Nat) : Int)) (q + k) ⟨rfl⟩ ((x : Int)) v1 (by omega)) (zsS zi0 zs0) ?_
    refine xn 5 [] [(20, .int .i64 (((q + k) : Nat) : Int)), (19, .slice A (List.length a) c)] ?_
    refine xve 21 IntKind.i64 (IntKind.wrap IntKind.i64 ((((q + k) : Nat) : Int) + 1)) ((((q + k + 1) : Nat) : Int)) v8 ?_
    refine xcv 22 (ct_spec_l1At (a) (A) (c) ((((q + k + 1) : Nat) : Int)) (q + k + 1) ⟨rfl⟩ ((y : Int)) v1' (by omega)) (zsS zi0 zs0) ?_
    refine xve 23 IntKind.u64 (shl IntKind.u64 (y : Int) 32) ((((y * 4294967296) : Nat) : Int)) v4 ?_
    refine xve 24 IntKind.u64 (bits BinOp.or IntKind.u64 (x : Int) (((y * 4294967296) : Nat) : Int)) ((((x + y * 4294967296) : Nat) : Int)) v5 ?_
    refine xz [] [(7, .int .u64 (((x + y * 4294967296) : Nat) : Int))] ?_
    refine SW_region ?_
    refine xn 3 [] [(27, .int .i64 (n : Int)), (26, .int .u64 (((x + y * 4294967296) : Nat) : Int)), (25, sl0)] ?_
    refine xve 28 IntKind.i64 (Int.tmod (n : Int) 32) ((p : Int)) v3 ?_
    refine xve 29 IntKind.u64 (IntKind.wrap IntKind.u64 (p : Int)) ((p : Int)) v3' ?_
    refine xve 30 IntKind.u64 (shf IntKind.u64 (((x + y * 4294967296) : Nat) : Int) (p : Int)) (((((x + y * 4294967296) / 2 ^ p) : Nat) : Int)) v6 ?_
    refine xve 31 IntKind.u64 (bits BinOp.and IntKind.u64 ((((x + y * 4294967296) / 2 ^ p) : Nat) : Int) 4294967295) (((((x + y * 4294967296) / 2 ^ p % 4294967296) : Nat) : Int)) v7 ?_
    refine xbl 32 [.int .u64 ((((x + y * 4294967296) / 2 ^ p % 4294967296) : Nat) : Int)] 26 1 (fun g0 => ?_)
    refine xow 33 8 (g0) (1) [((((x + y * 4294967296) / 2 ^ p % 4294967296) : Nat) : Int)] hO0 (by first | omega | (simp <;> omega)) (fun sl1 bs1 hO1 => ?_)
    refine xz [] [(5, sl1)] ?_
    refine SW_region ?_
    refine xn 1 [] [(14, .int .i64 (((q + k) : Nat) : Int))] ?_
    refine xve 15 IntKind.i64 (IntKind.wrap IntKind.i64 ((((q + k) : Nat) : Int) + 1)) ((((q + k + 1) : Nat) : Int)) v8 ?_
    refine xz [] [(6, .int .i64 (((q + k + 1) : Nat) : Int))] ?_
    rw [hs] at hO1
    refine ⟨m, by omega, sl1, bs1, k + 1, by omega, hO1, ?_⟩
    exact xw (zsS zi0 zs0)
   ·have z : decide (((q + k : Nat) : Int) < (a.length : Int)) = false := decide_eq_false (by omega)
    rw [List.take_of_length_le (by omega)] at hO0
    refine SW_seq ?_
    refine xr [] [(13, .bool (decide ((((q + k) : Nat) : Int) < (((List.length a) : Nat) : Int))))] ?_
    refine xsf z ?_
    refine SW_exit ?_
    refine ⟨sl0, bs0, hO0, ?_⟩
    exact xw zs0
 ·rintro s' ⟨sl, bs, hO, hw⟩
  refine SW_weak hw ?_
  clear hw
  have er : trimL (sr B32 (2 ^ p) l) = r := norm_inj B32_pos (sr_dig hP l dl).trim dr (norm_trim _) nr (by rw [val_trim, sr_val hP (by rw [B32_pow]; exact Nat.pow_dvd_pow 2 (by omega)), vl, vr, hsp])
  obtain ⟨Q, hQ⟩ : ∃ Q, sr B32 (2 ^ p) l = Q := ⟨_, rfl⟩
  rw [hQ] at hO er lsr
  refine SW_own hO (by omega) (fun Ao co e => ?_)
  subst e
  have ct := ct_spec_l1Trim Q Ao co (by omega)
  rw [er] at ct
  refine xg ?_
  refine xn 1 [] [(34, .slice Ao (List.length Q) co)] ?_
  refine xcr 35 ct (zsS zi0 zs0) (fun A0 k0 => ?_)
  refine xz [] [(4, .slice A0 (List.length r) k0)] ?_
  refine SW_ret ?_
  refine xe (A0, k0) (.slice A0 (List.length r) k0) [] ?_ (zsS zi0 zs0)
  rfl
end Go.Proofs.YtgknelgplmohoaaDoor.M
end
section
namespace Go.Proofs.YtgknelgplmohoaaDoor.M
open Go.RowKit Go.Proofs.YtgknelgplmohoaaDoor.G Go.Proofs.YtgknelgplmohoaaDoorV.PrintWords Go.Proofs.YtgknelgplmohoaaDoorV.PrintLast Go.Proofs.YtgknelgplmohoaaDoor.X
set_option linter.unusedVariables false
set_option linter.unusedSimpArgs false
theorem bits_any (v : Nat) : ∃ m : Nat, IsBits v m := by
 by_cases h0 : v = 0
 ·subst h0
  exact ⟨0, IsBits.zero⟩
 ·exact ⟨v.log2 + 1, Nat.lt_log2_self, .inr (by rw [Nat.add_sub_cancel]; exact Nat.log2_self_le h0)⟩
theorem len_le32 {l : List Int} (hd : Dig B32 l) (hn : Norm l) {m : Nat} (h : val B32 l < B32 ^ m) : l.length ≤ m := by
 rcases Nat.lt_or_ge m l.length with h1 | h1
 ·have h2 := val_ge hd hn (by omega)
  have h3 : B32 ^ m ≤ B32 ^ (l.length - 1) := Nat.pow_le_pow_right B32_pos (by omega)
  omega
 ·exact h1
theorem len_less {x y : List Int} (dx : Dig B32 x) (nx : Norm x) (dy : Dig B32 y) (h : val B32 x ≤ val B32 y) : x.length ≤ y.length := len_le32 dx nx (Nat.lt_of_le_of_lt h (val_lt dy))
theorem exists_n32 (v : Nat) : ∃ l, Dig B32 l ∧ Norm l ∧ val B32 l = v := exists_num B32 (by unfold B32; omega) v v (Nat.le_refl _)
theorem ct_spec_l1Div_rows (a b : List Int) (A A' : Option Addr) (c c' : Nat) (da : Dig B32 a) (db : Dig B32 b) (na : Norm a) (nb : Norm b) (hla : a.length ≤ 1000000) (hlb : b.length ≤ 1000000) (h0 : 0 < val B32 b) : ∀ q r, Dig B32 q → Norm q → val B32 q = val B32 a / val B32 b → Dig B32 r → Norm r → val B32 r = val B32 a % val B32 b → CtRR Tryd.prog 79 [.slice A a.length c, .slice A' b.length c'] [Row .u64 A c a, Row .u64 A' c' b] .u64 q r := by
 intro q r dq nq vq dr nr vr
 refine ct_of Tryd.func79 rfl (by kernel_rfl) (fun B w0 => ?_)
 obtain ⟨m, bm⟩ := bits_any (val B32 a)
 obtain ⟨n, bn⟩ := bits_any (val B32 b)
 have hm1 : m ≤ 32 * a.length := bm.le (by rw [Nat.pow_mul, ← B32_pow]; exact val_lt da)
 have hn1 : n ≤ 32 * b.length := bn.le (by rw [Nat.pow_mul, ← B32_pow]; exact val_lt db)
 have hta : trimL a = a := norm_inj B32_pos da.trim da (norm_trim _) na (val_trim _ _)
 by_cases h : m < n
 ·have hlt : val B32 a < val B32 b := by
   have h1 : 2 ^ m ≤ 2 ^ (n - 1) := Nat.pow_le_pow_right (by decide) (by omega)
   have h2 := bm.1
   rcases bn.2 with h3 | h3 <;> omega
  have z : decide ((m : Int) - (n : Int) < 0) = true := decide_eq_true (by omega)
  have v1 : Ve (IntKind.i64.wrap ((m : Int) - (n : Int))) ((m : Int) - (n : Int)) := ⟨wrap_i64 (by omega)⟩
  obtain rfl : q = [] := (norm_inj B32_pos (Dig.nil _) dq rfl nq (by rw [vq, Nat.div_eq_of_lt hlt]; rfl)).symm
  obtain rfl : r = a := norm_inj B32_pos dr da nr na (by rw [vr, Nat.mod_eq_of_lt hlt])
  have ct := ct_spec_l1Trim r A c (by omega)
  rw [hta] at ct
  refine xr [] [(5, .slice none 0 0), (4, .slice none 0 0)] ?_
  refine xg ?_
  refine xn 1 [] [(11, .slice A (List.length r) c)] ?_
  refine xcv 12 (ct_spec_l1Bits_rows (r) (A) (c) da na (by omega) (m) bm) (zsS zi0 zs0) ?_
  refine xn 3 [] [(13, .slice A' (List.length b) c')] ?_
  refine xcv 14 (ct_spec_l1Bits_rows (b) (A') (c') db nb (by omega) (n) bn) (zsS (ziS zi0) zs0) ?_
  refine xve 15 IntKind.i64 (IntKind.wrap IntKind.i64 ((m : Int) - (n : Int))) ((m : Int) - (n : Int)) v1 ?_
  refine xz [] [(6, .int .i64 ((m : Int) - (n : Int)))] ?_
  refine SW_seq ?_
  refine xr [] [(17, .bool (decide ((m : Int) - (n : Int) < 0)))] ?_
  refine xst z ?_
  refine xg ?_
  refine xn 1 [] [(18, .slice A (List.length r) c)] ?_
  refine xcr 19 ct (zsS zi0 zs0) (fun A0 k0 => ?_)
  refine xz [] [(5, .slice A0 (List.length r) k0), (4, .slice none 0 0)] ?_
  refine SW_tru (Row_nil .u64 0) ?_
  refine SW_ret ?_
  refine xe ((none, 0), A0, k0) (.tuple #[.slice none 0 0, .slice A0 (List.length r) k0]) [] ?_ (zsS zi0 (zsS (ziS zi0) zs0))
  rfl
 ·obtain ⟨d, hd⟩ : ∃ d, m = n + d := ⟨m - n, by omega⟩
  have z : decide ((d : Int) < 0) = false := decide_eq_false (by omega)
  have v1 : Ve (IntKind.i64.wrap ((m : Int) - (n : Int))) (d : Int) := veI (by omega) (by omega)
  have v2 := quo32 d (by omega)
  have v3 : Ve (IntKind.i64.wrap (((d / 32 : Nat) : Int) + 1)) ((d / 32 + 1 : Nat) : Int) := veI (by omega) (by omega)
  obtain ⟨s, ds, ns, vs⟩ := exists_n32 (val B32 b * 2 ^ d)
  have ls : s.length ≤ 3000000 := by
   have h1 : s.length ≤ b.length + (d / 32 + 1) := len_le32 ds ns (by
    rw [vs, Nat.pow_add]
    have h1 := val_lt db
    have h2 : 2 ^ d ≤ B32 ^ (d / 32 + 1) := by rw [B32_pow, ← Nat.pow_mul]; exact Nat.pow_le_pow_right (by decide) (by omega)
    exact Nat.lt_of_lt_of_le (Nat.mul_lt_mul_of_pos_right h1 (Nat.pow_pos (by decide))) (Nat.mul_le_mul_left _ h2))
   omega
  have hlt : val B32 a < val B32 b * 2 ^ (d + 1) := by
   have hn0 := bn.pos h0
   have h1 : 2 ^ (n - 1) ≤ val B32 b := by
    rcases bn.2 with h3 | h3
    ·omega
    ·exact h3
   have h2 := Nat.mul_le_mul_right (2 ^ (d + 1)) h1
   rw [← Nat.pow_add, show n - 1 + (d + 1) = m by omega] at h2
   have := bm.1
   omega
  have ct := ct_spec_l1Trim a A c (by omega)
  rw [hta] at ct
  have clf := ct_spec_l1Left_rows b A' c' db (by omega) (d : Int) d ⟨rfl⟩ (by omega) s ds ns vs
  have hd9 : d ≤ 32000000 := by omega
  refine xr [] [(5, .slice none 0 0), (4, .slice none 0 0)] ?_
  refine xg ?_
  refine xn 1 [] [(11, .slice A (List.length a) c)] ?_
  refine xcv 12 (ct_spec_l1Bits_rows (a) (A) (c) da na (by omega) (m) bm) (zsS zi0 zs0) ?_
  refine xn 3 [] [(13, .slice A' (List.length b) c')] ?_
  refine xcv 14 (ct_spec_l1Bits_rows (b) (A') (c') db nb (by omega) (n) bn) (zsS (ziS zi0) zs0) ?_
  refine xve 15 IntKind.i64 (IntKind.wrap IntKind.i64 ((m : Int) - (n : Int))) ((d : Int)) v1 ?_
  refine xz [] [(6, .int .i64 (d : Int))] ?_
  refine SW_seq ?_
  refine xr [] [(17, .bool (decide ((d : Int) < 0)))] ?_
  refine xsf z ?_
  refine SW_skip ?_
  refine xg ?_
  refine xn 1 [] [(20, .slice A (List.length a) c)] ?_
  refine xcr 21 ct (zsS zi0 zs0) (fun A0 k0 => ?_)
  refine xz [] [(7, .slice A0 (List.length a) k0)] ?_
  refine xg ?_
  refine xn 1 [] [(22, .int .i64 (d : Int))] ?_
  refine xve 23 IntKind.i64 (IntKind.wrap IntKind.i64 (Int.tdiv (d : Int) 32)) ((((d / 32) : Nat) : Int)) v2 ?_
  refine xve 24 IntKind.i64 (IntKind.wrap IntKind.i64 ((((d / 32) : Nat) : Int) + 1)) ((((d / 32 + 1) : Nat) : Int)) v3 ?_
  refine xma 25 26 (d / 32 + 1) IntKind.u64 8 ((((d / 32 + 1) : Nat) : Int)) ⟨rfl⟩ (by omega) (fun g0 => ?_)
  refine xz [] [(8, .slice (some ⟨g0, 0, none⟩) (d / 32 + 1) (d / 32 + 1))] ?_
  refine xg ?_
  refine xn 2 [] [(27, .int .i64 (d : Int)), (26, .slice A' (List.length b) c')] ?_
  refine xcr 28 clf (zsS (ziS (ziS zi0)) zs0) (fun A1 k1 => ?_)
  refine xz [] [(9, .slice A1 (List.length s) k1)] ?_
  refine SW_seq ?_
  refine xr [] [(10, .int .i64 (d : Int))] ?_
  refine SW_then (fun s' => ∃ (Q : List Int) (Ar : Option Addr) (cr : Nat), Dig B32 Q ∧ Q.length = d / 32 + 1 ∧ val B32 Q = val B32 a / val B32 b ∧ Weak s' ⟨[(7, .slice Ar r.length cr), (8, .slice (some ⟨g0, 0, none⟩) (d / 32 + 1) (d / 32 + 1))], [⟨g0, cl .u64 Q [], 26⟩], [Row .u64 Ar cr r]⟩) ?_ ?_
  ·refine SW_block ?_
   refine SW_loopn (fun m s' => ∃ (Q R S : List Int) (Ar As : Option Addr) (cr cs : Nat), m ≤ d + 1 ∧ Dig B32 Q ∧ Q.length = d / 32 + 1 ∧ Dig B32 R ∧ Norm R ∧ R.length ≤ 1000000 ∧ Dig B32 S ∧ Norm S ∧ S.length ≤ 3000000 ∧ val B32 S = val B32 b * 2 ^ m / 2 ∧ val B32 Q * val B32 b + val B32 R = val B32 a ∧ val B32 R < val B32 b * 2 ^ m ∧ 2 ^ m ∣ val B32 Q ∧ Weak s' ⟨[(7, .slice Ar R.length cr), (8, .slice (some ⟨g0, 0, none⟩) (d / 32 + 1) (d / 32 + 1)), (9, .slice As S.length cs), (10, .int .i64 ((m : Int) - 1))], [⟨g0, cl .u64 Q [], 26⟩], [Row .u64 Ar cr R, Row .u64 As cs S]⟩) (d + 1) ⟨List.replicate (d / 32 + 1) 0, a, s, A0, A1, k0, k1, Nat.le_refl _, Dig.zeros B32_pos _, by simp, da, na, hla, ds, ns, ls, by rw [vs, Nat.pow_succ, ← Nat.mul_assoc, Nat.mul_div_cancel _ (by decide)], by rw [val_zeros]; omega, hlt, by rw [val_zeros]; exact Nat.dvd_zero _, ?_⟩ (fun m s' hI => ?_)
   ·rw [show ((d + 1 : Nat) : Int) - 1 = (d : Int) by omega]
    exact xw (zsS (ziS zi0) (zsS zi0 zs0))
   ·clear ct clf ds ns vs ls hlt hm1 hn1 bm bn v1 v2 v3
    obtain ⟨Q, R, S, Ar, As, cr, cs, i1, i2, i3, i4, i5, i6, i7, i8, i9, i10, i11, i12, i13, hw⟩ := hI
    refine SW_weak hw ?_
    clear hw
    match m, i1, i10, i12, i13 with
    | 0, i1, i10, i12, i13 =>
     have z1 : decide (((0 : Nat) : Int) - 1 ≥ 0) = false := rfl
     rw [Nat.pow_zero, Nat.mul_one] at i12
     obtain ⟨e1, e2⟩ := quot_of (show val B32 R + val B32 Q * val B32 b = val B32 a by omega) i12
     obtain rfl : r = R := norm_inj B32_pos dr i4 nr i5 (by rw [vr, e2])
     refine SW_seq ?_
     refine xr [] [(31, .bool false)] ?_
     refine xs0 ?_
     refine SW_exit ?_
     refine ⟨Q, Ar, cr, i2, i3, e1, ?_⟩
     exact xw (zsS zi0 zs0)
    | k + 1, i1, i10, i12, i13 =>
     rw [show ((k + 1 : Nat) : Int) - 1 = (k : Int) by omega]
     have z1 : decide ((k : Int) ≥ 0) = true := decide_eq_true (by omega)
     rw [Nat.pow_succ, ← Nat.mul_assoc, Nat.mul_div_cancel _ (by decide)] at i10
     obtain ⟨S', d1, n1, e1⟩ := exists_n32 (val B32 b * 2 ^ k / 2)
     have l1 : S'.length ≤ S.length := len_less d1 n1 i7 (by rw [e1, i10]; exact Nat.div_le_self _ _)
     have cS := ct_spec_l1Right_rows S As cs i7 (by omega) 1 1 ⟨rfl⟩ (by omega) S' d1 n1 (by rw [e1, i10])
     have vk : Ve (IntKind.i64.wrap ((k : Int) - 1)) ((k : Int) - 1) := ⟨wrap_i64 (by omega)⟩
     have hbp : val B32 b * 2 ^ (k + 1) = val B32 b * 2 ^ k + val B32 b * 2 ^ k := by rw [Nat.pow_succ, ← Nat.mul_assoc]; omega
     by_cases hc : val B32 S ≤ val B32 R
     ·have z2 : decide (cmpN (val B32 R) (val B32 S) ≥ 0) = true := decide_eq_true (cmpN_ge hc)
      obtain ⟨R', d2, n2, e2⟩ := exists_n32 (val B32 R - val B32 S)
      have l2 : R'.length ≤ R.length := len_less d2 n2 i4 (by rw [e2]; exact Nat.sub_le _ _)
      have cR := ct_spec_l1Sub_rows R S Ar As cr cs i4 i7 (by omega) (by omega) R' d2 n2 (by omega)
      have hi32 : k / 32 < Q.length := by omega
      obtain ⟨b1, b2⟩ := bit_set i2 hi32 i13
      have hset := val_set B32 Q (k / 32) (((rd Q ((k / 32 : Nat) : Int)).toNat + 2 ^ (k % 32) : Nat) : Int) hi32
      obtain ⟨w, hw, hwB⟩ := nat_rd32 i2 (k / 32)
      rw [hw, Int.toNat_natCast] at b1 b2 hset
      have hvq : val B32 (Q.set (k / 32) ((w + 2 ^ (k % 32) : Nat) : Int)) = val B32 Q + 2 ^ k := by
       rw [Int.toNat_natCast, Nat.mul_add] at hset
       have e4 : B32 ^ (k / 32) * 2 ^ (k % 32) = 2 ^ k := by rw [B32_pow, ← Nat.pow_mul, ← Nat.pow_add]; congr 1; omega
       omega
      have dQ' := i2.set (k / 32) (cast_dig b2)
      have hexp : (val B32 Q + 2 ^ k) * val B32 b = val B32 Q * val B32 b + val B32 b * 2 ^ k := by rw [Nat.add_mul, Nat.mul_comm (2 ^ k)]
      have v1 : Ve (rd Q ((k / 32 : Nat) : Int)) (w : Int) := ⟨hw⟩
      have v2 := quo32 k (by omega)
      have v3 := rem32 k
      have v3' := conv32 k
      have v4 : Ve (bits .or .u64 (w : Int) (shl .u64 1 ((k % 32 : Nat) : Int))) ((w + 2 ^ (k % 32) : Nat) : Int) := ⟨b1⟩
      refine SW_seq ?_
      refine xr [] [(31, .bool (decide ((k : Int) ≥ 0)))] ?_
      refine xst z1 ?_
      refine SW_skip ?_
      refine SW_seq ?_
      refine SW_block ?_
      refine SW_seq ?_
      refine xg ?_
      refine xn 2 [] [(35, .slice As (List.length S) cs), (34, .slice Ar (List.length R) cr)] ?_
      refine xcv 36 (ct_spec_l1Cmp_rows (R) (S) (Ar) (As) (cr) (cs) i4 i7 (by omega) (by omega)) (zsS zi0 (zsS (ziS zi0) zs0)) ?_
      refine xz [] [(37, .bool (decide (cmpN (val B32 R) (val B32 S) ≥ 0)))] ?_
      refine xst z2 ?_
      refine xg ?_
      refine xn 2 [] [(39, .slice As (List.length S) cs), (38, .slice Ar (List.length R) cr)] ?_
      refine xcr 40 cR (zsS zi0 (zsS (ziS zi0) zs0)) (fun A2 k2 => ?_)
      refine xz [] [(7, .slice A2 (List.length R') k2)] ?_
      refine SW_region ?_
      refine xn 2 [] [(42, .int .i64 (k : Int)), (41, .slice (some ⟨g0, 0, none⟩) (d / 32 + 1) (d / 32 + 1))] ?_
      refine xve 43 IntKind.i64 (IntKind.wrap IntKind.i64 (Int.tdiv (k : Int) 32)) ((((k / 32) : Nat) : Int)) v2 ?_
      refine xoi 44 26 (g0) (d / 32 + 1) (d / 32 + 1) (k / 32) IntKind.i64 ((((k / 32) : Nat) : Int)) ⟨rfl⟩ (by omega) ?_
      refine xole 45 0 (g0) (k / 32) IntKind.u64 (Q) ([]) 26 ((w : Int)) v1 (by first | omega | (simp <;> omega)) ?_
      refine xn 6 [] [(46, .int .i64 (k : Int))] ?_
      refine xve 47 IntKind.i64 (Int.tmod (k : Int) 32) ((((k % 32) : Nat) : Int)) v3 ?_
      refine xve 48 IntKind.u64 (IntKind.wrap IntKind.u64 (((k % 32) : Nat) : Int)) ((((k % 32) : Nat) : Int)) v3' ?_
      refine xn 9 [] [(49, .int .u64 (IntKind.wrap IntKind.u64 (1 * 2 ^ min (Int.toNat (((k % 32) : Nat) : Int)) (IntKind.bits IntKind.u64))))] ?_
      refine xve 50 IntKind.u64 (bits BinOp.or IntKind.u64 (w : Int) (shl IntKind.u64 1 (((k % 32) : Nat) : Int))) ((((w + 2 ^ (k % 32)) : Nat) : Int)) v4 ?_
      refine xoi 51 26 (g0) (d / 32 + 1) (d / 32 + 1) (k / 32) IntKind.i64 ((((k / 32) : Nat) : Int)) ⟨rfl⟩ (by omega) ?_
      refine xos 0 (g0) (k / 32) IntKind.u64 (Q) ([]) 26 ((((w + 2 ^ (k % 32)) : Nat) : Int)) (by first | omega | (simp <;> omega)) ?_
      refine xz [] [] ?_
      refine SW_region ?_
      refine xn 1 [] [(52, .slice As (List.length S) cs)] ?_
      refine xcr 53 cS (zsS (ziS (ziS zi0)) zs0) (fun A3 k3 => ?_)
      refine xz [] [(9, .slice A3 (List.length S') k3)] ?_
      refine SW_region ?_
      refine xn 1 [] [(32, .int .i64 (k : Int))] ?_
      refine xve 33 IntKind.i64 (IntKind.wrap IntKind.i64 ((k : Int) - 1)) ((k : Int) - 1) vk ?_
      refine xz [] [(10, .int .i64 ((k : Int) - 1))] ?_
      refine ⟨k, by omega, _, R', S', A2, A3, k2, k3, by omega, dQ', by rw [List.length_set]; exact i3, d2, n2, by omega, d1, n1, by omega, e1, by rw [hvq, hexp]; omega, by omega, by rw [hvq]; exact Nat.dvd_add (Nat.dvd_trans (by rw [Nat.pow_succ]; exact Nat.dvd_mul_right _ _) i13) (Nat.dvd_refl _), ?_⟩
      exact xw (zsS (ziS zi0) (zsS zi0 zs0))
     ·have z2 : decide (cmpN (val B32 R) (val B32 S) ≥ 0) = false := decide_eq_false (cmpN_lt (Nat.lt_of_not_le hc))
      refine SW_seq ?_
      refine xr [] [(31, .bool (decide ((k : Int) ≥ 0)))] ?_
      refine xst z1 ?_
      refine SW_skip ?_
      refine SW_seq ?_
      refine SW_block ?_
      refine SW_seq ?_
      refine xg ?_
      refine xn 2 [] [(35, .slice As (List.length S) cs), (34, .slice Ar (List.length R) cr)] ?_
      refine xcv 36 (ct_spec_l1Cmp_rows (R) (S) (Ar) (As) (cr) (cs) i4 i7 (by omega) (by omega)) (zsS zi0 (zsS (ziS zi0) zs0)) ?_
      refine xz [] [(37, .bool (decide (cmpN (val B32 R) (val B32 S) ≥ 0)))] ?_
      refine xsf z2 ?_
      refine SW_skip ?_
      refine SW_region ?_
      refine xn 1 [] [(52, .slice As (List.length S) cs)] ?_
      refine xcr 53 cS (zsS (ziS zi0) zs0) (fun A2 k2 => ?_)
      refine xz [] [(9, .slice A2 (List.length S') k2)] ?_
      refine SW_region ?_
      refine xn 1 [] [(32, .int .i64 (k : Int))] ?_
      refine xve 33 IntKind.i64 (IntKind.wrap IntKind.i64 ((k : Int) - 1)) ((k : Int) - 1) vk ?_
      refine xz [] [(10, .int .i64 ((k : Int) - 1))] ?_
      refine ⟨k, by omega, Q, R, S', Ar, A2, cr, k2, by omega, i2, i3, i4, i5, i6, d1, n1, by omega, e1, i11, by omega, Nat.dvd_trans (Nat.pow_dvd_pow 2 (by omega)) i13, ?_⟩
      exact xw (zsS (ziS zi0) (zsS zi0 zs0))
  ·rintro s' ⟨Q, Ar, cr, dQ, lQ, vQ, hw⟩
   refine SW_weak hw ?_
   clear hw
   have er : trimL Q = q := norm_inj B32_pos dQ.trim dq (norm_trim _) nq (by rw [val_trim, vQ, vq])
   have ctq := ct_spec_l1Trim Q (some ⟨g0, 0, none⟩) Q.length (by omega)
   rw [er] at ctq
   rw [← lQ]
   refine SW_fz 0 Q.length g0 .u64 Q [] 26 (by omega) (by omega) ?_
   refine xg ?_
   refine xn 1 [] [(54, .slice (some ⟨g0, 0, none⟩) (List.length Q) (List.length Q))] ?_
   refine xcr 55 ctq (zsS zi0 zs0) (fun A2 k2 => ?_)
   refine xz [] [(5, .slice Ar (List.length r) cr), (4, .slice A2 (List.length q) k2)] ?_
   refine SW_ret ?_
   refine xe ((A2, k2), Ar, cr) (.tuple #[.slice A2 (List.length q) k2, .slice Ar (List.length r) cr]) [] ?_ (zsS zi0 (zsS (ziS (ziS zi0)) zs0))
   rfl
end Go.Proofs.YtgknelgplmohoaaDoor.M
end
section
namespace Go.Proofs.YtgknelgplmohoaaDoor.M
open Go.RowKit Go.Proofs.YtgknelgplmohoaaDoor.G Go.Proofs.YtgknelgplmohoaaDoorV.PrintWords Go.Proofs.YtgknelgplmohoaaDoorV.PrintLast Go.Proofs.YtgknelgplmohoaaDoor.X
set_option linter.unusedVariables false
set_option linter.unusedSimpArgs false
theorem digits_exist {B : Nat} (hB : 2 ≤ B) (n : Nat) : ∃ l, Dig B l ∧ Norm l ∧ val B l = n := by
  induction n using Nat.strongRecOn with
  | _ n ih =>
    by_cases h0 : n = 0
    · exact ⟨[], Dig.nil _, norm_nil, by rw [h0]; rfl⟩
    · obtain ⟨l, h1, h2, h3⟩ := ih (n / B) (Nat.div_lt_self (by omega) hB)
      have hm : n % B < B := Nat.mod_lt _ (by omega)
      have hv : val B (((n % B : Nat) : Int) :: l) = n := by
        rw [val_cons, h3, Int.toNat_natCast]
        exact Nat.mod_add_div n B
      refine ⟨((n % B : Nat) : Int) :: l, Dig.cons ⟨by omega, by omega⟩ h1, ?_, hv⟩
      rcases Nat.eq_zero_or_pos l.length with hl | hl
      · have : l = [] := List.eq_nil_of_length_eq_zero hl
        subst this
        have h4 : n / B = 0 := by rw [← h3]; rfl
        have h5 : n % B = n := Nat.mod_eq_of_lt (by
          rcases Nat.lt_or_ge n B with h | h
          · exact h
          · have := Nat.div_pos h (by omega); omega)
        have : ((((n % B : Nat) : Int)) :: ([] : List Int)) = [] ++ [((n % B : Nat) : Int)] := rfl
        rw [this, norm_snoc, h5]
        omega
      · obtain ⟨a, y, rfl⟩ := snoc_of hl
        have : (((n % B : Nat) : Int)) :: (a ++ [y]) = (((n % B : Nat) : Int) :: a) ++ [y] := rfl
        rw [this, norm_snoc]
        exact norm_snoc.1 h2
noncomputable def ofN (B n : Nat) : List Int := @dite _ (∃ l, Dig B l ∧ Norm l ∧ val B l = n) (Classical.propDecidable _) (fun h => Classical.choose h) (fun _ => [])
theorem ofN_spec {B : Nat} (hB : 2 ≤ B) (n : Nat) : Dig B (ofN B n) ∧ Norm (ofN B n) ∧ val B (ofN B n) = n := by
  unfold ofN
  rw [dif_pos (digits_exist hB n)]
  exact Classical.choose_spec (digits_exist hB n)
theorem B32_2 : 2 ≤ B32 := by unfold B32; omega
theorem B64_2 : 2 ≤ B64 := by unfold B64; omega
theorem ofN_zero {B : Nat} (hB : 2 ≤ B) (n : Nat) : (ofN B n).length = 0 ↔ n = 0 := by
  obtain ⟨k1, k2, k3⟩ := ofN_spec hB n
  have := norm_zero (by omega) k1 k2
  rw [k3] at this
  rw [← this]
  exact ⟨fun h => List.eq_nil_of_length_eq_zero h, fun h => by rw [h]; rfl⟩
theorem ofN_nil {B : Nat} (hB : 2 ≤ B) : ofN B 0 = [] := List.eq_nil_of_length_eq_zero ((ofN_zero hB 0).2 rfl)
theorem ofN_len {B : Nat} (hB : 2 ≤ B) {n k : Nat} (h : n < B ^ k) : (ofN B n).length ≤ k := by
  obtain ⟨k1, k2, k3⟩ := ofN_spec hB n
  rcases Nat.lt_or_ge k (ofN B n).length with hk | hk
  · have h1 := val_ge k1 k2 (by omega)
    rw [k3] at h1
    have h2 := Nat.pow_le_pow_right (n := B) (by omega) (show k ≤ (ofN B n).length - 1 by omega)
    omega
  · exact hk
def capL : Nat := 100000
def Sm (n : Nat) : Prop := n < B32 ^ capL
theorem capL_le : capL ≤ 100000 := Nat.le_refl _
theorem Sm.len {n : Nat} (h : Sm n) : (ofN B32 n).length ≤ 100000 := by
  unfold Sm at h
  exact Nat.le_trans (ofN_len B32_2 h) capL_le
theorem pow_base {n : Nat} : B32 ^ n = 2 ^ (32 * n) := by rw [show B32 = 2 ^ 32 from rfl, ← Nat.pow_mul]
theorem Sm.of {n k : Nat} (h : n < 2 ^ k) (hk : k ≤ 3200000) : Sm n := by
  unfold Sm
  rw [pow_base]
  exact Nat.lt_of_lt_of_le h (Nat.pow_le_pow_right (by decide) (by unfold capL; omega))
theorem Sm.mono {n m : Nat} (h : Sm m) (hn : n ≤ m) : Sm n := Nat.lt_of_le_of_lt hn h
theorem wsi {x : Int} (h : -9223372036854775808 ≤ x ∧ x ≤ 9223372036854775807) : IntKind.i64.wrap x = x := wrap_i64 h
structure Wd (h l : Int) (x : Nat) : Prop where
  hi : h = hiI x
  lo : l = loI x
theorem B64_sq : B64 = B32 ^ 2 := by decide
def capH : Nat := 50000
theorem capL_half : capL = 2 * capH := by unfold capL capH; rfl
theorem capH_le : capH ≤ 50000 := Nat.le_refl _
theorem Sm.len64 {n : Nat} (h : Sm n) : (ofN B64 n).length ≤ 50000 := by
  unfold Sm at h
  rw [capL_half, Nat.pow_mul, ← B64_sq] at h
  exact Nat.le_trans (ofN_len B64_2 h) capH_le
def prtV (u : Prt) : Value := .agg #[.int .i64 u.1, .bool u.2.1, .int .u64 u.2.2.1, .int .u64 u.2.2.2.1, .int .i64 u.2.2.2.2]
abbrev dscV (P : Nat) (emin emax : Int) (W E : Nat) (ex : Bool) : Value := .agg #[.int .i64 P, .int .i64 emin, .int .i64 emax, .int .i64 W, .int .i64 E, .bool ex]
section
theorem ct_spec_l1Of (a : Int) (n : Nat) (ha : Nn a n) (hn : n < 18446744073709551616) : CtR Tryd.prog 43 [.int .u64 a] [] .u64 (ofN B32 n) := by
  obtain ⟨d, m, v⟩ := ofN_spec B32_2 n
  exact ct_spec_l1Of_rows a n ha hn _ d m v
theorem ct_spec_l1Bits (x : Nat) (A : Option Addr) (c : Nat) (hx : Sm x) (m : Nat) (hm : IsBits x m) : CtV Tryd.prog 77 [.slice A (ofN B32 x).length c] [Row .u64 A c (ofN B32 x)] (.int .i64 m) := by
  obtain ⟨d, n, v⟩ := ofN_spec B32_2 x
  have hl := hx.len
  exact ct_spec_l1Bits_rows _ A c d n (by omega) m (by rw [v]; exact hm)
theorem ct_spec_l1Bit (x : Nat) (A : Option Addr) (c : Nat) (a : Int) (i : Nat) (ha : Nn a i) (hi : i ≤ 100000000000) (hx : Sm x) : CtV Tryd.prog 91 [.slice A (ofN B32 x).length c, .int .i64 a] [Row .u64 A c (ofN B32 x)] (.int .u64 ((x / 2 ^ i % 2 : Nat) : Int)) := by
  obtain ⟨d, n, v⟩ := ofN_spec B32_2 x
  have hl := hx.len
  have := ct_spec_l1Bit_rows _ A c d (by omega) a i ha hi
  rwa [v] at this
theorem ct_spec_l1Left (x : Nat) (A : Option Addr) (c : Nat) (a : Int) (i : Nat) (ha : Nn a i) (hi : i ≤ 100000000000) (hx : Sm x) : CtR Tryd.prog 42 [.slice A (ofN B32 x).length c, .int .i64 a] [Row .u64 A c (ofN B32 x)] .u64 (ofN B32 (x * 2 ^ i)) := by
  obtain ⟨d, n, v⟩ := ofN_spec B32_2 x
  obtain ⟨d2, n2, v2⟩ := ofN_spec B32_2 (x * 2 ^ i)
  have hl := hx.len
  exact ct_spec_l1Left_rows _ A c d (by omega) a i ha hi _ d2 n2 (by rw [v2, v])
theorem ct_spec_l1Right (x : Nat) (A : Option Addr) (c : Nat) (a : Int) (i : Nat) (ha : Nn a i) (hi : i ≤ 100000000000) (hx : Sm x) : CtR Tryd.prog 97 [.slice A (ofN B32 x).length c, .int .i64 a] [Row .u64 A c (ofN B32 x)] .u64 (ofN B32 (x / 2 ^ i)) := by
  obtain ⟨d, n, v⟩ := ofN_spec B32_2 x
  obtain ⟨d2, n2, v2⟩ := ofN_spec B32_2 (x / 2 ^ i)
  have hl := hx.len
  exact ct_spec_l1Right_rows _ A c d (by omega) a i ha hi _ d2 n2 (by rw [v2, v])
theorem ct_spec_l1Add (x y : Nat) (A A' : Option Addr) (c c' : Nat) (hx : Sm x) (hy : Sm y) : CtR Tryd.prog 41 [.slice A (ofN B32 x).length c, .slice A' (ofN B32 y).length c'] [Row .u64 A c (ofN B32 x), Row .u64 A' c' (ofN B32 y)] .u64 (ofN B32 (x + y)) := by
  obtain ⟨d, n, v⟩ := ofN_spec B32_2 x
  obtain ⟨d', n', v'⟩ := ofN_spec B32_2 y
  obtain ⟨d2, n2, v2⟩ := ofN_spec B32_2 (x + y)
  have hl := hx.len
  have hl' := hy.len
  exact ct_spec_l1Add_rows _ _ A A' c c' d d' (by omega) (by omega) _ d2 n2 (by rw [v2, v, v'])
theorem ct_spec_l1Sub (x y : Nat) (A A' : Option Addr) (c c' : Nat) (hx : Sm x) (hy : y ≤ x) : CtR Tryd.prog 44 [.slice A (ofN B32 x).length c, .slice A' (ofN B32 y).length c'] [Row .u64 A c (ofN B32 x), Row .u64 A' c' (ofN B32 y)] .u64 (ofN B32 (x - y)) := by
  obtain ⟨d, n, v⟩ := ofN_spec B32_2 x
  obtain ⟨d', n', v'⟩ := ofN_spec B32_2 y
  obtain ⟨d2, n2, v2⟩ := ofN_spec B32_2 (x - y)
  have hl := hx.len
  have hl' := (hx.mono hy).len
  exact ct_spec_l1Sub_rows _ _ A A' c c' d d' (by omega) (by omega) _ d2 n2 (by rw [v2, v, v']; omega)
theorem ct_spec_l1Mul (x y : Nat) (A A' : Option Addr) (c c' : Nat) (hx : Sm x) (hy : Sm y) : CtR Tryd.prog 65 [.slice A (ofN B32 x).length c, .slice A' (ofN B32 y).length c'] [Row .u64 A c (ofN B32 x), Row .u64 A' c' (ofN B32 y)] .u64 (ofN B32 (x * y)) := by
  obtain ⟨d, n, v⟩ := ofN_spec B32_2 x
  obtain ⟨d', n', v'⟩ := ofN_spec B32_2 y
  obtain ⟨d2, n2, v2⟩ := ofN_spec B32_2 (x * y)
  have hl := hx.len
  have hl' := hy.len
  exact ct_spec_l1Mul_rows _ _ A A' c c' d d' (by omega) (by omega) _ d2 n2 (by rw [v2, v, v'])
theorem ct_spec_l1Cmp (x y : Nat) (A A' : Option Addr) (c c' : Nat) (hx : Sm x) (hy : Sm y) : CtV Tryd.prog 68 [.slice A (ofN B32 x).length c, .slice A' (ofN B32 y).length c'] [Row .u64 A c (ofN B32 x), Row .u64 A' c' (ofN B32 y)] (.int .i64 (cmpN x y)) := by
  obtain ⟨d, n, v⟩ := ofN_spec B32_2 x
  obtain ⟨d', n', v'⟩ := ofN_spec B32_2 y
  have hl := hx.len
  have hl' := hy.len
  have := ct_spec_l1Cmp_rows _ _ A A' c c' d d' (by omega) (by omega)
  rwa [v, v'] at this
theorem ct_spec_l1Div (x y : Nat) (A A' : Option Addr) (c c' : Nat) (hx : Sm x) (hy : Sm y) (h0 : 0 < y) : CtRR Tryd.prog 79 [.slice A (ofN B32 x).length c, .slice A' (ofN B32 y).length c'] [Row .u64 A c (ofN B32 x), Row .u64 A' c' (ofN B32 y)] .u64 (ofN B32 (x / y)) (ofN B32 (x % y)) := by
  obtain ⟨d, n, v⟩ := ofN_spec B32_2 x
  obtain ⟨d', n', v'⟩ := ofN_spec B32_2 y
  obtain ⟨d2, n2, v2⟩ := ofN_spec B32_2 (x / y)
  obtain ⟨d3, n3, v3⟩ := ofN_spec B32_2 (x % y)
  have hl := hx.len
  have hl' := hy.len
  exact ct_spec_l1Div_rows _ _ A A' c c' d d' n n' (by omega) (by omega) (by rw [v']; exact h0) _ _ d2 n2 (by rw [v2, v, v']) d3 n3 (by rw [v3, v, v'])
theorem ct_spec_l1Out (x : Nat) (A : Option Addr) (c : Nat) (hx : Sm x) : CtR Tryd.prog 46 [.slice A (ofN B32 x).length c] [Row .u64 A c (ofN B32 x)] .u64 (ofN B64 x) := by
  obtain ⟨d, n, v⟩ := ofN_spec B32_2 x
  obtain ⟨d2, n2, v2⟩ := ofN_spec B64_2 x
  have hl := hx.len
  exact ct_spec_l1Out_rows _ A c d n (by omega) _ d2 n2 (by rw [v2, v])
theorem ct_impl_word (a : Int) (n : Nat) (ha : Nn a n) (hn : n < 18446744073709551616) : CtR Tryd.prog 108 [.int .u64 a] [] .u64 (ofN B64 n) := by
  obtain ⟨d, m, v⟩ := ofN_spec B64_2 n
  exact ct_impl_word_rows a n ha hn _ d m v
theorem ct_impl_nat_add (x y : Nat) (A A' : Option Addr) (c c' : Nat) (hx : Sm x) (hy : Sm y) : CtR Tryd.prog 107 [.slice A (ofN B64 x).length c, .slice A' (ofN B64 y).length c'] [Row .u64 A c (ofN B64 x), Row .u64 A' c' (ofN B64 y)] .u64 (ofN B64 (x + y)) := by
  obtain ⟨d, n, v⟩ := ofN_spec B64_2 x
  obtain ⟨d', n', v'⟩ := ofN_spec B64_2 y
  obtain ⟨d2, n2, v2⟩ := ofN_spec B64_2 (x + y)
  have hl := hx.len64
  have hl' := hy.len64
  exact ct_impl_nat_add_rows _ _ A A' c c' d d' (by omega) (by omega) _ d2 n2 (by rw [v2, v, v'])
theorem ct_impl_nat_sub (x y : Nat) (A A' : Option Addr) (c c' : Nat) (hx : Sm x) (hy : y ≤ x) : CtR Tryd.prog 113 [.slice A (ofN B64 x).length c, .slice A' (ofN B64 y).length c'] [Row .u64 A c (ofN B64 x), Row .u64 A' c' (ofN B64 y)] .u64 (ofN B64 (x - y)) := by
  obtain ⟨d, n, v⟩ := ofN_spec B64_2 x
  obtain ⟨d', n', v'⟩ := ofN_spec B64_2 y
  obtain ⟨d2, n2, v2⟩ := ofN_spec B64_2 (x - y)
  have hl := hx.len64
  have hl' : (ofN B64 y).length ≤ (ofN B64 x).length := len_le_of_val d' n' (by rw [v']; exact Nat.lt_of_le_of_lt hy (by have := val_lt d; rwa [v] at this))
  exact ct_impl_nat_sub_rows _ _ A A' c c' d d' (by omega) hl' _ d2 n2 (by rw [v2, v, v']; omega)
theorem ct_impl_nat_mul (x y : Nat) (A A' : Option Addr) (c c' : Nat) (hx : Sm x) (hy : Sm y) : CtR Tryd.prog 119 [.slice A (ofN B64 x).length c, .slice A' (ofN B64 y).length c'] [Row .u64 A c (ofN B64 x), Row .u64 A' c' (ofN B64 y)] .u64 (ofN B64 (x * y)) := by
  obtain ⟨d, n, v⟩ := ofN_spec B64_2 x
  obtain ⟨d', n', v'⟩ := ofN_spec B64_2 y
  obtain ⟨d2, n2, v2⟩ := ofN_spec B64_2 (x * y)
  have hl := hx.len64
  have hl' := hy.len64
  exact ct_impl_nat_mul_rows _ _ A A' c c' d d' (by omega) (by omega) _ d2 n2 (by rw [v2, v, v'])
theorem ct_impl_nat_left (x : Nat) (A : Option Addr) (c : Nat) (a : Int) (i : Nat) (ha : Nn a i) (hi : i ≤ 1000000) (hx : Sm x) : CtR Tryd.prog 114 [.slice A (ofN B64 x).length c, .int .i64 a] [Row .u64 A c (ofN B64 x)] .u64 (ofN B64 (x * 2 ^ i)) := by
  obtain ⟨d, n, v⟩ := ofN_spec B64_2 x
  obtain ⟨d2, n2, v2⟩ := ofN_spec B64_2 (x * 2 ^ i)
  have hl := hx.len64
  exact ct_impl_nat_left_rows _ A c d (by omega) a i ha hi _ d2 n2 (by rw [v2, v])
theorem ct_impl_nat_bits (x : Nat) (A : Option Addr) (c : Nat) (hx : Sm x) (m : Nat) (hm : IsBits x m) : CtV Tryd.prog 110 [.slice A (ofN B64 x).length c] [Row .u64 A c (ofN B64 x)] (.int .i64 m) := by
  obtain ⟨d, n, v⟩ := ofN_spec B64_2 x
  have hl := hx.len64
  exact ct_impl_nat_bits_rows _ A c d n (by omega) m (by rw [v]; exact hm)
theorem ct_impl_nat_cmp (x y : Nat) (A A' : Option Addr) (c c' : Nat) (hx : Sm x) (hy : Sm y) : CtV Tryd.prog 123 [.slice A (ofN B64 x).length c, .slice A' (ofN B64 y).length c'] [Row .u64 A c (ofN B64 x), Row .u64 A' c' (ofN B64 y)] (.int .i64 (cmpN x y)) := by
  obtain ⟨d, n, v⟩ := ofN_spec B64_2 x
  obtain ⟨d', n', v'⟩ := ofN_spec B64_2 y
  have hl := hx.len64
  have hl' := hy.len64
  have := ct_impl_nat_cmp_rows _ _ A A' c c' d d' n n' (by omega) (by omega)
  rwa [v, v'] at this
theorem ct_impl_nat_div (x y : Nat) (A A' : Option Addr) (c c' : Nat) (hx : Sm x) (hy : Sm y) (h0 : 0 < y) : CtRR Tryd.prog 130 [.slice A (ofN B64 x).length c, .slice A' (ofN B64 y).length c'] [Row .u64 A c (ofN B64 x), Row .u64 A' c' (ofN B64 y)] .u64 (ofN B64 (x / y)) (ofN B64 (x % y)) := by
  obtain ⟨d, n, v⟩ := ofN_spec B64_2 x
  obtain ⟨d', n', v'⟩ := ofN_spec B64_2 y
  obtain ⟨d2, n2, v2⟩ := ofN_spec B64_2 (x / y)
  obtain ⟨d3, n3, v3⟩ := ofN_spec B64_2 (x % y)
  have hl := hx.len64
  have hl' := hy.len64
  exact ct_impl_nat_div_rows _ _ A A' c c' d d' n n' (by omega) (by omega) (by rw [v']; exact h0) _ _ d2 n2 (by rw [v2, v, v']) d3 n3 (by rw [v3, v, v'])
end
end Go.Proofs.YtgknelgplmohoaaDoor.M
end
section
namespace Go.Proofs.YtgknelgplmohoaaDoor.M
open Go.RowKit Go.Proofs.YtgknelgplmohoaaDoor.G Go.Proofs.YtgknelgplmohoaaDoorV.PrintWords Go.Proofs.YtgknelgplmohoaaDoorV.PrintLast Go.Proofs.YtgknelgplmohoaaDoor.X
set_option linter.unusedVariables false
set_option linter.unusedSimpArgs false
theorem two_val {x : Nat} (hx : x < B128) : Dig B64 [loI x, hiI x] ∧ val B64 [loI x, hiI x] = x := by
 have h1 := hi_lt hx
 have h2 := lo_lt x
 refine ⟨Dig.cons (by unfold loI B64; omega) (Dig.cons (by unfold hiI B64; omega) (Dig.nil _)), ?_⟩
 rw [val_cons, val_one]
 unfold hiI loI B64
 rw [Int.toNat_natCast, Int.toNat_natCast]
 omega
theorem ct_spec_l2Of (x : Nat) (hx : x < B128) : CtR Tryd.prog 76 [.agg #[.int .u64 (hiI x), .int .u64 (loI x)]] [] .u64 (ofN B32 x) := by
 refine ct_of Tryd.func76 rfl (by kernel_rfl) (fun B w0 => ?_)
 obtain ⟨d, v⟩ := two_val hx
 obtain ⟨d2, n2, v2⟩ := ofN_spec B32_2 x
 refine xg ?_
 refine xb 1 [.int .u64 (hiI x), .int .u64 (loI x)] 28 (fun g0 => ?_)
 refine xz [] [(2, .slice none 0 0)] ?_
 refine xg ?_
 refine xn 4 [(1, [0]), (3, [0])] [(6, .int .u64 (hiI x)), (4, .int .u64 (loI x))] ?_
 refine xbl 7 [.int .u64 (loI x), .int .u64 (hiI x)] 26 2 (fun g1 => ?_)
 refine NW_fz 1 2 g1 .u64 [loI x, hiI x] [] 26 (by simp) (by simp) ?_
 have ct : CtR Tryd.prog 49 [.slice (some ⟨g1, 0, none⟩) 2 2] [Row .u64 (some ⟨g1, 0, none⟩) 2 [loI x, hiI x]] .u64 (ofN B32 x) := ct_spec_l1In_rows [loI x, hiI x] _ 2 d (by simp) _ d2 n2 (by rw [v2, v])
 refine xcr 8 ct (zsS zi0 zs0) (fun A0 k0 => ?_)
 refine xz [] [(2, .slice A0 (List.length (ofN B32 x)) k0)] ?_
 refine SW_ret ?_
 refine xe (A0, k0) (.slice A0 (List.length (ofN B32 x)) k0) [] ?_ (zsS zi0 zs0)
 rfl
theorem ct_spec_l2Two (a : Int) (i : Nat) (ha : Nn a i) (hi : i ≤ 100000) : CtR Tryd.prog 93 [.int .i64 a] [] .u64 (ofN B32 (2 ^ i)) := by
 obtain ⟨rfl⟩ := ha
 refine ct_of Tryd.func93 rfl (by kernel_rfl) (fun B w0 => ?_)
 have h1 : Sm 1 := Sm.of (k := 1) (by decide) (by decide)
 rw [← Nat.one_mul (2 ^ i)]
 refine xr [] [(2, .slice none 0 0)] ?_
 refine xg ?_
 refine xcr 3 (ct_spec_l1Of (1) (1) ⟨rfl⟩ (by omega)) zs0 (fun A0 k0 => ?_)
 refine xn 2 [] [(4, .int .i64 (i : Int))] ?_
 refine xcr 5 (ct_spec_l1Left (1) (A0) (k0) ((i : Int)) (i) ⟨rfl⟩ (by omega) h1) (zsS zi0 zs0) (fun A1 k1 => ?_)
 refine xz [] [(2, .slice A1 (List.length (ofN B32 (1 * 2 ^ i))) k1)] ?_
 refine SW_ret ?_
 refine xe (A1, k1) (.slice A1 (List.length (ofN B32 (1 * 2 ^ i))) k1) [] ?_ (zsS zi0 zs0)
 rfl
theorem ct_spec_l2Low (x : Nat) (A : Option Addr) (c : Nat) (a : Int) (i : Nat) (ha : Nn a i) (hi : i ≤ 100000) (hx : Sm x) : CtR Tryd.prog 90 [.slice A (ofN B32 x).length c, .int .i64 a] [Row .u64 A c (ofN B32 x)] .u64 (ofN B32 (x % 2 ^ i)) := by
 obtain ⟨rfl⟩ := ha
 refine ct_of Tryd.func90 rfl (by kernel_rfl) (fun B w0 => ?_)
 have h1 : Sm (x / 2 ^ i) := hx.mono (Nat.div_le_self _ _)
 have h2 : x / 2 ^ i * 2 ^ i ≤ x := Nat.div_mul_le_self _ _
 have h3 : x - x / 2 ^ i * 2 ^ i = x % 2 ^ i := by have := Nat.div_add_mod x (2 ^ i); rw [Nat.mul_comm] at this; omega
 rw [← h3]
 refine xr [] [(4, .slice none 0 0)] ?_
 refine xg ?_
 refine xn 3 [] [(7, .int .i64 (i : Int)), (6, .slice A (List.length (ofN B32 x)) c), (5, .slice A (List.length (ofN B32 x)) c)] ?_
 refine xcr 8 (ct_spec_l1Right (x) (A) (c) ((i : Int)) (i) ⟨rfl⟩ (by omega) hx) (zsS zi0 zs0) (fun A0 k0 => ?_)
 refine xn 5 [] [(9, .int .i64 (i : Int))] ?_
 refine xcr 10 (ct_spec_l1Left (x / 2 ^ i) (A0) (k0) ((i : Int)) (i) ⟨rfl⟩ (by omega) h1) (zsS zi0 zs0) (fun A1 k1 => ?_)
 refine xcr 11 (ct_spec_l1Sub (x) (x / 2 ^ i * 2 ^ i) (A) (A1) (c) (k1) hx h2) (zsS (ziS (ziS zi0)) (zsS zi0 zs0)) (fun A2 k2 => ?_)
 refine xz [] [(4, .slice A2 (List.length (ofN B32 (x - x / 2 ^ i * 2 ^ i))) k2)] ?_
 refine SW_ret ?_
 refine xe (A2, k2) (.slice A2 (List.length (ofN B32 (x - x / 2 ^ i * 2 ^ i))) k2) [] ?_ (zsS zi0 zs0)
 rfl
theorem ct_impl_Word_nat (x : Nat) (hx : x < B128) : CtR Tryd.prog 106 [.agg #[.int .u64 (hiI x), .int .u64 (loI x)]] [] .u64 (ofN B64 x) := by
 refine ct_of Tryd.func106 rfl (by kernel_rfl) (fun B w0 => ?_)
 obtain ⟨d, v⟩ := two_val hx
 obtain ⟨d2, n2, v2⟩ := ofN_spec B64_2 x
 have e : trimL [loI x, hiI x] = ofN B64 x := norm_inj B64_pos d.trim d2 (norm_trim _) n2 (by rw [val_trim, v2, v])
 refine xg ?_
 refine xb 1 [.int .u64 (hiI x), .int .u64 (loI x)] 28 (fun g0 => ?_)
 refine xz [] [(2, .slice none 0 0)] ?_
 refine xg ?_
 refine xn 4 [(1, [0]), (3, [0])] [(6, .int .u64 (hiI x)), (4, .int .u64 (loI x))] ?_
 refine xbl 7 [.int .u64 (loI x), .int .u64 (hiI x)] 26 2 (fun g1 => ?_)
 refine NW_fz 1 2 g1 .u64 [loI x, hiI x] [] 26 (by simp) (by simp) ?_
 have ct : CtR Tryd.prog 54 [.slice (some ⟨g1, 0, none⟩) 2 2] [Row .u64 (some ⟨g1, 0, none⟩) 2 [loI x, hiI x]] .u64 (ofN B64 x) := by
  rw [← e]
  exact ct_impl_trimmed [loI x, hiI x] _ 2 (by simp)
 refine xcr 8 ct (zsS zi0 zs0) (fun A0 k0 => ?_)
 refine xz [] [(2, .slice A0 (List.length (ofN B64 x)) k0)] ?_
 refine SW_ret ?_
 refine xe (A0, k0) (.slice A0 (List.length (ofN B64 x)) k0) [] ?_ (zsS zi0 zs0)
 rfl
theorem ct_spec_l2Word (x : Nat) (A : Option Addr) (c : Nat) (hx : x < B128) : CtV Tryd.prog 92 [.slice A (ofN B32 x).length c] [Row .u64 A c (ofN B32 x)] (.agg #[.int .u64 (hiI x), .int .u64 (loI x)]) := by
 refine ct_of Tryd.func92 rfl (by kernel_rfl) (fun B w0 => ?_)
 obtain ⟨d, n, v⟩ := ofN_spec B32_2 x
 obtain ⟨d2, n2, v2⟩ := ofN_spec B64_2 x
 have hl : (ofN B32 x).length ≤ 4 := ofN_len B32_2 (show x < B32 ^ 4 from hx)
 have ct := ct_spec_l1Out_own _ A c d n (by omega) _ d2 n2 (by rw [v2, v])
 have hl2 : (ofN B64 x).length ≤ 2 := ofN_len B64_2 hx
 obtain ⟨t1, t2, t3⟩ := two_digits (ofN B64 x) d2 hl2
 rw [v2] at t1 t2
 generalize ofN B64 x = y at *
 have w1 : Ve (rd (y ++ [0, 0]) ((1 : Nat) : Int)) (hiI x) := ⟨t2⟩
 have w0' : Ve (rd (y ++ [0, 0]) ((0 : Nat) : Int)) (loI x) := ⟨t1⟩
 have ly : 2 ≤ (y ++ [0, 0]).length := by simp
 refine xg ?_
 refine xb 2 [.int .u64 0, .int .u64 0] 28 (fun g0 => ?_)
 refine xz [] [] ?_
 refine xg ?_
 refine xn 1 [] [(4, .slice A (List.length (ofN B32 x)) c)] ?_
 refine xcu 5 ct (zsS zi0 zs0) (fun sl0 bs0 hO0 => ?_)
 refine xbl 6 [.int .u64 0, .int .u64 0] 26 2 (fun g1 => ?_)
 refine xow2 7 8 (g1) (2) [0, 0] hO0 (by first | omega | (simp <;> omega)) (fun sl1 bs1 hO1 => ?_)
 refine xz [] [(3, sl1)] ?_
 refine xd (fun hB => ?_)
 refine xdk [(0, []), (3, [])] [(11, sl1), (8, sl1)] hB ?_
 rcases hO1 with ⟨rfl, h1, rfl⟩ | ⟨g, r', c', hc, rfl, rfl⟩
 ·rw [h1] at ly
  exact absurd ly (by decide)
 ·refine xdoi 1 hB 9 26 (g) (List.length (y ++ [0, 0])) (c') 1 IntKind.i64 (1) ⟨rfl⟩ (by omega) ?_
  refine xdole 2 hB 10 1 (g) (1) IntKind.u64 (y ++ [0, 0]) (r') 26 (hiI x) w1 (by first | omega | (simp <;> omega)) ?_
  refine xdoi 4 hB 12 26 (g) (List.length (y ++ [0, 0])) (c') 0 IntKind.i64 (0) ⟨rfl⟩ (by omega) ?_
  refine xdole 5 hB 13 1 (g) (0) IntKind.u64 (y ++ [0, 0]) (r') 26 (loI x) w0' (by first | omega | (simp <;> omega)) ?_
  refine xdk [(6, [])] [(14, .agg #[.int .u64 (hiI x), .int .u64 (loI x)])] hB ?_
  refine xds 7 [0] [(0, [.int .u64 (hiI x), .int .u64 (loI x)])] ?_
  refine xdz ?_
  refine SW_ret ?_
  refine xe () (.agg #[.int .u64 (hiI x), .int .u64 (loI x)]) [0] ?_ trivial
  rfl
end Go.Proofs.YtgknelgplmohoaaDoor.M
end
section
namespace Go.Proofs.YtgknelgplmohoaaDoor.M
open Go.RowKit Go.Proofs.YtgknelgplmohoaaDoor.G Go.Proofs.YtgknelgplmohoaaDoorV.PrintWords Go.Proofs.YtgknelgplmohoaaDoorV.PrintLast Go.Proofs.YtgknelgplmohoaaDoor.X
set_option linter.unusedVariables false
set_option linter.unusedSimpArgs false
theorem ct_impl_one (a : Int) (i : Nat) (ha : Nn a i) (hi : i < 128) : CtV Tryd.prog 63 [.int .i64 a] [] (.agg #[.int .u64 (hiI (2 ^ i)), .int .u64 (loI (2 ^ i))]) := by
 obtain ⟨rfl⟩ := ha
 refine ct_of Tryd.func63 rfl (by kernel_rfl) (fun B w0 => ?_)
 have hs : ∀ p : Nat, p < 64 → Ve (shl .u64 1 (p : Int)) ((2 ^ p : Nat) : Int) := fun p hp => ⟨by
  have h := shl_nat 1 p (by omega)
  rw [Nat.one_mul, Nat.mod_eq_of_lt (Nat.pow_lt_pow_right (by decide) hp : 2 ^ p < 2 ^ 64)] at h
  exact h⟩
 by_cases h : 64 ≤ i
 ·have z : decide ((i : Int) ≥ 64) = true := decide_eq_true (by omega)
  have v1 : Ve (IntKind.i64.wrap ((i : Int) - 64)) ((i - 64 : Nat) : Int) := veI (by omega) (by omega)
  have v2 := hs (i - 64) (by omega)
  have e : 2 ^ i = 2 ^ (i - 64) * 18446744073709551616 := by rw [show (18446744073709551616 : Nat) = 2 ^ 64 from rfl, ← Nat.pow_add]; congr 1; omega
  have e1 : hiI (2 ^ i) = ((2 ^ (i - 64) : Nat) : Int) := by unfold hiI; rw [e, Nat.mul_div_cancel _ (by decide)]
  have e2 : loI (2 ^ i) = 0 := by unfold loI; rw [e, Nat.mul_mod_left]; rfl
  rw [e1, e2]
  refine xg ?_
  refine xb 2 [.int .u64 0, .int .u64 0] 28 (fun g0 => ?_)
  refine xz [] [] ?_
  refine SW_seq ?_
  refine xr [] [(4, .bool (decide ((i : Int) ≥ 64)))] ?_
  refine xst z ?_
  refine xg ?_
  refine xn 1 [] [(5, .int .i64 (i : Int))] ?_
  refine xve 6 IntKind.i64 (IntKind.wrap IntKind.i64 ((i : Int) - 64)) ((((i - 64) : Nat) : Int)) v1 ?_
  refine xve 7 IntKind.u64 (shl IntKind.u64 1 (((i - 64) : Nat) : Int)) ((((2 ^ (i - 64)) : Nat) : Int)) v2 ?_
  refine xy [(4, [0])] [] [(0, [.int .u64 (((2 ^ (i - 64)) : Nat) : Int), .int .u64 0])] ?_
  refine SW_ret ?_
  refine xe () (.agg #[.int .u64 (((2 ^ (i - 64)) : Nat) : Int), .int .u64 0]) [0] ?_ trivial
  rfl
 ·have z : decide ((i : Int) ≥ 64) = false := decide_eq_false (by omega)
  have v2 := hs i (by omega)
  have hlt : 2 ^ i < 18446744073709551616 := (Nat.pow_lt_pow_right (by decide) (by omega) : 2 ^ i < 2 ^ 64)
  have e1 : hiI (2 ^ i) = 0 := by unfold hiI; rw [Nat.div_eq_of_lt hlt]; rfl
  have e2 : loI (2 ^ i) = ((2 ^ i : Nat) : Int) := by unfold loI; rw [Nat.mod_eq_of_lt hlt]
  rw [e1, e2]
  refine xg ?_
  refine xb 2 [.int .u64 0, .int .u64 0] 28 (fun g0 => ?_)
  refine xz [] [] ?_
  refine SW_seq ?_
  refine xr [] [(4, .bool (decide ((i : Int) ≥ 64)))] ?_
  refine xsf z ?_
  refine SW_skip ?_
  refine xg ?_
  refine xn 1 [] [(9, .int .i64 (i : Int))] ?_
  refine xve 10 IntKind.u64 (shl IntKind.u64 1 (i : Int)) ((((2 ^ i) : Nat) : Int)) v2 ?_
  refine xy [(3, [0])] [] [(0, [.int .u64 0, .int .u64 (((2 ^ i) : Nat) : Int)])] ?_
  refine SW_ret ?_
  refine xe () (.agg #[.int .u64 0, .int .u64 (((2 ^ i) : Nat) : Int)]) [0] ?_ trivial
  rfl
theorem ct_impl_Word_right (x : Nat) (a : Int) (i : Nat) (ha : Nn a i) (hi : i ≤ 1000) (hx : x < B128) : CtV Tryd.prog 57 [.agg #[.int .u64 (hiI x), .int .u64 (loI x)], .int .i64 a] [] (.agg #[.int .u64 (hiI (x / 2 ^ i)), .int .u64 (loI (x / 2 ^ i))]) := by
 obtain ⟨rfl⟩ := ha
 refine ct_of Tryd.func57 rfl (by kernel_rfl) (fun B w0 => ?_)
 have h1 := hi_lt hx
 have h2 := lo_lt x
 by_cases c0 : i = 0
 ·subst c0
  rw [Nat.pow_zero, Nat.div_one]
  refine xg ?_
  refine xb 2 [.int .u64 (hiI x), .int .u64 (loI x)] 28 (fun g0 => ?_)
  refine xb 4 [.int .u64 0, .int .u64 0] 28 (fun g1 => ?_)
  refine xz [] [] ?_
  refine SW_seq ?_
  refine SW_block ?_
  refine xr [] [(5, .bool true)] ?_
  refine xs1 ?_
  refine xq [(0, [0]), (1, [1])] [] [(1, [.int .u64 (hiI x), .int .u64 (loI x)])] ?_
  refine SW_ret ?_
  refine xe () (.agg #[.int .u64 (hiI x), .int .u64 (loI x)]) [1] ?_ trivial
  rfl
 ·have z0 : ((i : Int) == 0) = false := by rw [beq_eq_false_iff_ne]; omega
  by_cases c1 : 128 ≤ i
  ·have z1 : decide ((i : Int) ≥ 128) = true := decide_eq_true (by omega)
   have e : x / 2 ^ i = 0 := Nat.div_eq_of_lt (Nat.lt_of_lt_of_le hx (by have : 2 ^ 128 ≤ 2 ^ i := Nat.pow_le_pow_right (by decide) c1; exact this))
   rw [e]
   refine xg ?_
   refine xb 2 [.int .u64 (hiI x), .int .u64 (loI x)] 28 (fun g0 => ?_)
   refine xb 4 [.int .u64 0, .int .u64 0] 28 (fun g1 => ?_)
   refine xz [] [] ?_
   refine SW_seq ?_
   refine SW_block ?_
   refine xr [] [(5, .bool ((i : Int) == 0))] ?_
   refine xsf z0 ?_
   refine xr [] [(9, .bool (decide ((i : Int) ≥ 128)))] ?_
   refine xst z1 ?_
   refine xq [(1, [1])] [] [] ?_
   refine SW_ret ?_
   refine xe () (.agg #[.int .u64 0, .int .u64 0]) [1] ?_ trivial
   rfl
  ·have z1 : decide ((i : Int) ≥ 128) = false := decide_eq_false (by omega)
   by_cases c2 : 64 ≤ i
   ·have z2 : decide ((i : Int) ≥ 64) = true := decide_eq_true (by omega)
    have v1 : Ve (IntKind.i64.wrap ((i : Int) - 64)) ((i - 64 : Nat) : Int) := veI (by omega) (by omega)
    have v2 : Ve (shf .u64 (hiI x) ((i - 64 : Nat) : Int)) ((x / 18446744073709551616 / 2 ^ (i - 64) : Nat) : Int) := ⟨shf_nat _ _ (by omega)⟩
    have e : x / 2 ^ i = x / 18446744073709551616 / 2 ^ (i - 64) := by rw [Nat.div_div_eq_div_mul, show (18446744073709551616 : Nat) = 2 ^ 64 from rfl, ← Nat.pow_add]; congr 2; omega
    have hlt : x / 18446744073709551616 / 2 ^ (i - 64) < 18446744073709551616 := Nat.lt_of_le_of_lt (Nat.div_le_self _ _) h1
    have e1 : hiI (x / 2 ^ i) = 0 := by unfold hiI; rw [e, Nat.div_eq_of_lt hlt]; rfl
    have e2 : loI (x / 2 ^ i) = ((x / 18446744073709551616 / 2 ^ (i - 64) : Nat) : Int) := by unfold loI; rw [e, Nat.mod_eq_of_lt hlt]
    rw [e1, e2]
    refine xg ?_
    refine xb 2 [.int .u64 (hiI x), .int .u64 (loI x)] 28 (fun g0 => ?_)
    refine xb 4 [.int .u64 0, .int .u64 0] 28 (fun g1 => ?_)
    refine xz [] [] ?_
    refine SW_seq ?_
    refine SW_block ?_
    refine xr [] [(5, .bool ((i : Int) == 0))] ?_
    refine xsf z0 ?_
    refine xr [] [(9, .bool (decide ((i : Int) ≥ 128)))] ?_
    refine xsf z1 ?_
    refine xr [] [(13, .bool (decide ((i : Int) ≥ 64)))] ?_
    refine xst z2 ?_
    refine xg ?_
    refine xn 3 [(1, [0])] [(18, .int .i64 (i : Int)), (17, .int .u64 (hiI x))] ?_
    refine xve 19 IntKind.i64 (IntKind.wrap IntKind.i64 ((i : Int) - 64)) ((((i - 64) : Nat) : Int)) v1 ?_
    refine xve 20 IntKind.u64 (shf IntKind.u64 (hiI x) (((i - 64) : Nat) : Int)) ((((x / 18446744073709551616 / 2 ^ (i - 64)) : Nat) : Int)) v2 ?_
    refine xy [(6, [1])] [] [(1, [.int .u64 0, .int .u64 (((x / 18446744073709551616 / 2 ^ (i - 64)) : Nat) : Int)])] ?_
    refine SW_ret ?_
    refine xe () (.agg #[.int .u64 0, .int .u64 (((x / 18446744073709551616 / 2 ^ (i - 64)) : Nat) : Int)]) [1] ?_ trivial
    rfl
   ·have z2 : decide ((i : Int) ≥ 64) = false := decide_eq_false (by omega)
    have hn : i < 64 := by omega
    obtain ⟨s1, s2⟩ := split_div x i hn
    have v1 : Ve (IntKind.i64.wrap (64 - (i : Int))) ((64 - i : Nat) : Int) := veI (by omega) (by omega)
    have v2 : Ve (shf .u64 (hiI x) (i : Int)) ((x / 18446744073709551616 / 2 ^ i : Nat) : Int) := ⟨shf_nat _ _ (by omega)⟩
    have v3 : Ve (shf .u64 (loI x) (i : Int)) ((x % 18446744073709551616 / 2 ^ i : Nat) : Int) := ⟨shf_nat _ _ (by omega)⟩
    have v4 : Ve (shl .u64 (hiI x) ((64 - i : Nat) : Int)) ((x / 18446744073709551616 * 2 ^ (64 - i) % 18446744073709551616 : Nat) : Int) := ⟨shl_nat _ _ (by omega)⟩
    have hl : x % 18446744073709551616 / 2 ^ i < 2 ^ (64 - i) := by rw [Nat.div_lt_iff_lt_mul (Nat.pow_pos (by decide)), ← Nat.pow_add, show 64 - i + i = 64 by omega]; exact h2
    have hd : 2 ^ (64 - i) ∣ x / 18446744073709551616 * 2 ^ (64 - i) % 18446744073709551616 := by
     rw [show (18446744073709551616 : Nat) = 2 ^ i * 2 ^ (64 - i) by rw [← Nat.pow_add, show i + (64 - i) = 64 by omega], Nat.mul_mod_mul_right]
     exact Nat.dvd_mul_left _ _
    have v5 : Ve (bits .or .u64 ((x % 18446744073709551616 / 2 ^ i : Nat) : Int) ((x / 18446744073709551616 * 2 ^ (64 - i) % 18446744073709551616 : Nat) : Int)) (loI (x / 2 ^ i)) := ⟨by
     rw [or_nat' (64 - i) _ _ (by omega) (Nat.mod_lt _ (by decide)) hd hl]
     unfold loI
     rw [s2]⟩
    have e1 : hiI (x / 2 ^ i) = ((x / 18446744073709551616 / 2 ^ i : Nat) : Int) := by unfold hiI; rw [s1]
    rw [e1]
    refine xg ?_
    refine xb 2 [.int .u64 (hiI x), .int .u64 (loI x)] 28 (fun g0 => ?_)
    refine xb 4 [.int .u64 0, .int .u64 0] 28 (fun g1 => ?_)
    refine xz [] [] ?_
    refine SW_seq ?_
    refine SW_block ?_
    refine xr [] [(5, .bool ((i : Int) == 0))] ?_
    refine xsf z0 ?_
    refine xr [] [(9, .bool (decide ((i : Int) ≥ 128)))] ?_
    refine xsf z1 ?_
    refine xr [] [(13, .bool (decide ((i : Int) ≥ 64)))] ?_
    refine xsf z2 ?_
    refine SW_skip ?_
    refine xd (fun hB => ?_)
    refine xdk [(0, []), (1, [0]), (2, []), (4, []), (5, [0]), (6, []), (8, []), (9, [0]), (10, [])] [(32, .int .i64 (i : Int)), (31, .int .u64 (hiI x)), (28, .int .i64 (i : Int)), (27, .int .u64 (loI x)), (24, .int .i64 (i : Int)), (23, .int .u64 (hiI x))] hB ?_
    refine xdve 3 hB 25 IntKind.u64 (shf IntKind.u64 (hiI x) (i : Int)) ((((x / 18446744073709551616 / 2 ^ i) : Nat) : Int)) v2 ?_
    refine xdve 7 hB 29 IntKind.u64 (shf IntKind.u64 (loI x) (i : Int)) ((((x % 18446744073709551616 / 2 ^ i) : Nat) : Int)) v3 ?_
    refine xdve 11 hB 33 IntKind.i64 (IntKind.wrap IntKind.i64 (64 - (i : Int))) ((((64 - i) : Nat) : Int)) v1 ?_
    refine xdve 12 hB 34 IntKind.u64 (shl IntKind.u64 (hiI x) (((64 - i) : Nat) : Int)) ((((x / 18446744073709551616 * 2 ^ (64 - i) % 18446744073709551616) : Nat) : Int)) v4 ?_
    refine xdve 13 hB 35 IntKind.u64 (bits BinOp.or IntKind.u64 (((x % 18446744073709551616 / 2 ^ i) : Nat) : Int) (((x / 18446744073709551616 * 2 ^ (64 - i) % 18446744073709551616) : Nat) : Int)) (loI (x / 2 ^ i)) v5 ?_
    refine xdk [(14, [])] [(36, .agg #[.int .u64 (((x / 18446744073709551616 / 2 ^ i) : Nat) : Int), .int .u64 (loI (x / 2 ^ i))])] hB ?_
    refine xds 15 [1] [(1, [.int .u64 (((x / 18446744073709551616 / 2 ^ i) : Nat) : Int), .int .u64 (loI (x / 2 ^ i))])] ?_
    refine xdz ?_
    refine SW_ret ?_
    refine xe () (.agg #[.int .u64 (((x / 18446744073709551616 / 2 ^ i) : Nat) : Int), .int .u64 (loI (x / 2 ^ i))]) [1] ?_ trivial
    rfl
end Go.Proofs.YtgknelgplmohoaaDoor.M
end
section
namespace Go.Proofs.YtgknelgplmohoaaDoor.M
open Go.RowKit Go.Proofs.YtgknelgplmohoaaDoor.G Go.Proofs.YtgknelgplmohoaaDoorV.PrintWords Go.Proofs.YtgknelgplmohoaaDoorV.PrintLast Go.Proofs.YtgknelgplmohoaaDoor.X
set_option linter.unusedVariables false
set_option linter.unusedSimpArgs false
theorem ct_impl_Word_left (h l : Int) (x : Nat) (hw : Wd h l x) (a : Int) (i : Nat) (ha : Nn a i) (hi : i < 128) (hx : x < B128) : CtV Tryd.prog 105 [.agg #[.int .u64 h, .int .u64 l], .int .i64 a] [] (.agg #[.int .u64 (hiI (x * 2 ^ i % B128)), .int .u64 (loI (x * 2 ^ i % B128))]) := by
 obtain ⟨rfl⟩ := ha
 obtain ⟨rfl, rfl⟩ := hw
 refine ct_of Tryd.func105 rfl (by kernel_rfl) (fun B w0 => ?_)
 have h1 := hi_lt hx
 have h2 := lo_lt x
 by_cases c0 : i = 0
 ·subst c0
  rw [Nat.pow_zero, Nat.mul_one, Nat.mod_eq_of_lt hx]
  refine xg ?_
  refine xb 2 [.int .u64 (hiI x), .int .u64 (loI x)] 28 (fun g0 => ?_)
  refine xb 4 [.int .u64 0, .int .u64 0] 28 (fun g1 => ?_)
  refine xz [] [] ?_
  refine SW_seq ?_
  refine SW_block ?_
  refine xr [] [(5, .bool true)] ?_
  refine xs1 ?_
  refine xq [(0, [0]), (1, [1])] [] [(1, [.int .u64 (hiI x), .int .u64 (loI x)])] ?_
  refine SW_ret ?_
  refine xe () (.agg #[.int .u64 (hiI x), .int .u64 (loI x)]) [1] ?_ trivial
  rfl
 ·have z0 : ((i : Int) == 0) = false := by rw [beq_eq_false_iff_ne]; omega
  by_cases c2 : 64 ≤ i
  ·have z2 : decide ((i : Int) ≥ 64) = true := decide_eq_true (by omega)
   have v1 : Ve (IntKind.i64.wrap ((i : Int) - 64)) ((i - 64 : Nat) : Int) := veI (by omega) (by omega)
   have v2 : Ve (shl .u64 (loI x) ((i - 64 : Nat) : Int)) ((x % 18446744073709551616 * 2 ^ (i - 64) % 18446744073709551616 : Nat) : Int) := ⟨shl_nat _ _ (by omega)⟩
   have e1 : x * 2 ^ i % B128 = (x % 18446744073709551616 * 2 ^ (i - 64) % 18446744073709551616) * 18446744073709551616 := by
    have e2 : 2 ^ i = 2 ^ (i - 64) * 18446744073709551616 := by rw [pow64, ← Nat.pow_add, show i - 64 + 64 = i by omega]
    rw [e2, ← Nat.mul_assoc, show B128 = 18446744073709551616 * 18446744073709551616 from rfl, Nat.mul_mod_mul_right]
    congr 1
    rw [Nat.mul_mod (x % 18446744073709551616), Nat.mod_mod, ← Nat.mul_mod]
   have e2 : hiI (x * 2 ^ i % B128) = ((x % 18446744073709551616 * 2 ^ (i - 64) % 18446744073709551616 : Nat) : Int) := by unfold hiI; rw [e1, Nat.mul_div_cancel _ (by decide)]
   have e3 : loI (x * 2 ^ i % B128) = 0 := by unfold loI; rw [e1, Nat.mul_mod_left]; rfl
   rw [e2, e3]
   refine xg ?_
   refine xb 2 [.int .u64 (hiI x), .int .u64 (loI x)] 28 (fun g0 => ?_)
   refine xb 4 [.int .u64 0, .int .u64 0] 28 (fun g1 => ?_)
   refine xz [] [] ?_
   refine SW_seq ?_
   refine SW_block ?_
   refine xr [] [(5, .bool ((i : Int) == 0))] ?_
   refine xsf z0 ?_
   refine xr [] [(9, .bool (decide ((i : Int) ≥ 64)))] ?_
   refine xst z2 ?_
   refine xg ?_
   refine xn 3 [(1, [0])] [(14, .int .i64 (i : Int)), (13, .int .u64 (loI x))] ?_
   refine xve 15 IntKind.i64 (IntKind.wrap IntKind.i64 ((i : Int) - 64)) ((((i - 64) : Nat) : Int)) v1 ?_
   refine xve 16 IntKind.u64 (shl IntKind.u64 (loI x) (((i - 64) : Nat) : Int)) ((((x % 18446744073709551616 * 2 ^ (i - 64) % 18446744073709551616) : Nat) : Int)) v2 ?_
   refine xy [(6, [1])] [] [(1, [.int .u64 (((x % 18446744073709551616 * 2 ^ (i - 64) % 18446744073709551616) : Nat) : Int), .int .u64 0])] ?_
   refine SW_ret ?_
   refine xe () (.agg #[.int .u64 (((x % 18446744073709551616 * 2 ^ (i - 64) % 18446744073709551616) : Nat) : Int), .int .u64 0]) [1] ?_ trivial
   rfl
  ·have z2 : decide ((i : Int) ≥ 64) = false := decide_eq_false (by omega)
   obtain ⟨s1, s2⟩ := mul_split x i (by omega)
   have e64 : (18446744073709551616 : Nat) = 2 ^ (64 - i) * 2 ^ i := by rw [← Nat.pow_add, show 64 - i + i = 64 by omega]
   have hl : x % 18446744073709551616 / 2 ^ (64 - i) < 2 ^ i := by rw [Nat.div_lt_iff_lt_mul (Nat.pow_pos (by decide)), Nat.mul_comm, ← e64]; exact lo_lt x
   have hd : 2 ^ i ∣ x / 18446744073709551616 * 2 ^ i % 18446744073709551616 := (Nat.dvd_mod_iff (by rw [e64]; exact Nat.dvd_mul_left _ _)).2 (Nat.dvd_mul_left _ _)
   have v1 : Ve (IntKind.i64.wrap (64 - (i : Int))) ((64 - i : Nat) : Int) := veI (by omega) (by omega)
   have v2 : Ve (shl .u64 (hiI x) (i : Int)) ((x / 18446744073709551616 * 2 ^ i % 18446744073709551616 : Nat) : Int) := ⟨shl_nat _ _ (by omega)⟩
   have v3 : Ve (shf .u64 (loI x) ((64 - i : Nat) : Int)) ((x % 18446744073709551616 / 2 ^ (64 - i) : Nat) : Int) := ⟨shf_nat _ _ (by omega)⟩
   have v4 : Ve (shl .u64 (loI x) (i : Int)) (loI (x * 2 ^ i % B128)) := ⟨by unfold loI; rw [shl_nat _ _ (by omega), s2]⟩
   have v5 : Ve (bits .or .u64 ((x / 18446744073709551616 * 2 ^ i % 18446744073709551616 : Nat) : Int) ((x % 18446744073709551616 / 2 ^ (64 - i) : Nat) : Int)) (hiI (x * 2 ^ i % B128)) := ⟨by
    rw [or_nat i _ _ (by omega) (Nat.mod_lt _ (by decide)) hd hl]
    unfold hiI
    rw [s1]⟩
   refine xg ?_
   refine xb 2 [.int .u64 (hiI x), .int .u64 (loI x)] 28 (fun g0 => ?_)
   refine xb 4 [.int .u64 0, .int .u64 0] 28 (fun g1 => ?_)
   refine xz [] [] ?_
   refine SW_seq ?_
   refine SW_block ?_
   refine xr [] [(5, .bool ((i : Int) == 0))] ?_
   refine xsf z0 ?_
   refine xr [] [(9, .bool (decide ((i : Int) ≥ 64)))] ?_
   refine xsf z2 ?_
   refine SW_skip ?_
   refine xd (fun hB => ?_)
   refine xdk [(0, []), (1, [0]), (2, []), (4, []), (5, [0]), (6, []), (10, []), (11, [0]), (12, [])] [(30, .int .i64 (i : Int)), (29, .int .u64 (loI x)), (24, .int .i64 (i : Int)), (23, .int .u64 (loI x)), (20, .int .i64 (i : Int)), (19, .int .u64 (hiI x))] hB ?_
   refine xdve 3 hB 21 IntKind.u64 (shl IntKind.u64 (hiI x) (i : Int)) ((((x / 18446744073709551616 * 2 ^ i % 18446744073709551616) : Nat) : Int)) v2 ?_
   refine xdve 7 hB 25 IntKind.i64 (IntKind.wrap IntKind.i64 (64 - (i : Int))) ((((64 - i) : Nat) : Int)) v1 ?_
   refine xdve 8 hB 26 IntKind.u64 (shf IntKind.u64 (loI x) (((64 - i) : Nat) : Int)) ((((x % 18446744073709551616 / 2 ^ (64 - i)) : Nat) : Int)) v3 ?_
   refine xdve 9 hB 27 IntKind.u64 (bits BinOp.or IntKind.u64 (((x / 18446744073709551616 * 2 ^ i % 18446744073709551616) : Nat) : Int) (((x % 18446744073709551616 / 2 ^ (64 - i)) : Nat) : Int)) (hiI (x * 2 ^ i % B128)) v5 ?_
   refine xdve 13 hB 31 IntKind.u64 (shl IntKind.u64 (loI x) (i : Int)) (loI (x * 2 ^ i % B128)) v4 ?_
   refine xdk [(14, [])] [(32, .agg #[.int .u64 (hiI (x * 2 ^ i % B128)), .int .u64 (loI (x * 2 ^ i % B128))])] hB ?_
   refine xds 15 [1] [(1, [.int .u64 (hiI (x * 2 ^ i % B128)), .int .u64 (loI (x * 2 ^ i % B128))])] ?_
   refine xdz ?_
   refine SW_ret ?_
   refine xe () (.agg #[.int .u64 (hiI (x * 2 ^ i % B128)), .int .u64 (loI (x * 2 ^ i % B128))]) [1] ?_ trivial
   rfl
theorem or64 (a b : Nat) (ha : a < 18446744073709551616) (hb : b < 18446744073709551616) : bits .or .u64 (a : Int) (b : Int) = ((a ||| b : Nat) : Int) := by
 have hlt : a ||| b < 2 ^ 64 := Nat.or_lt_two_pow ha hb
 show IntKind.u64.wrap ((BitVec.ofInt 64 (a : Int) ||| BitVec.ofInt 64 (b : Int)).toNat : Int) = _
 have e1 : (BitVec.ofInt 64 (a : Int) ||| BitVec.ofInt 64 (b : Int)).toNat = a ||| b := by
  rw [BitVec.toNat_or, BitVec.toNat_ofInt, BitVec.toNat_ofInt]
  congr 1 <;> omega
 rw [e1]
 exact wrap_u64_id ⟨by omega, by have : (a ||| b : Nat) < 18446744073709551616 := hlt; omega⟩
theorem ct_impl_Word_or (h l h' l' : Int) (x y : Nat) (hw : Wd h l x) (hw' : Wd h' l' y) (hx : x < B128) (hy : y < B128) : CtV Tryd.prog 62 [.agg #[.int .u64 h, .int .u64 l], .agg #[.int .u64 h', .int .u64 l']] [] (.agg #[.int .u64 (hiI (x ||| y)), .int .u64 (loI (x ||| y))]) := by
 obtain ⟨rfl, rfl⟩ := hw
 obtain ⟨rfl, rfl⟩ := hw'
 refine ct_of Tryd.func62 rfl (by kernel_rfl) (fun B w0 => ?_)
 have h1 : (x ||| y) / 18446744073709551616 = x / 18446744073709551616 ||| y / 18446744073709551616 := by
  rw [show (18446744073709551616 : Nat) = 2 ^ 64 from rfl, ← Nat.shiftRight_eq_div_pow, ← Nat.shiftRight_eq_div_pow, ← Nat.shiftRight_eq_div_pow, Nat.shiftRight_or_distrib]
 have h2 : (x ||| y) % 18446744073709551616 = x % 18446744073709551616 ||| y % 18446744073709551616 := by
  rw [show (18446744073709551616 : Nat) = 2 ^ 64 from rfl, Nat.or_mod_two_pow]
 have v1 : Ve (bits .or .u64 (hiI x) (hiI y)) (hiI (x ||| y)) := ⟨by unfold hiI; rw [or64 _ _ (hi_lt hx) (hi_lt hy), h1]⟩
 have v2 : Ve (bits .or .u64 (loI x) (loI y)) (loI (x ||| y)) := ⟨by unfold loI; rw [or64 _ _ (lo_lt x) (lo_lt y), h2]⟩
 refine xg ?_
 refine xb 2 [.int .u64 (hiI x), .int .u64 (loI x)] 28 (fun g0 => ?_)
 refine xb 3 [.int .u64 (hiI y), .int .u64 (loI y)] 28 (fun g1 => ?_)
 refine xb 4 [.int .u64 0, .int .u64 0] 28 (fun g2 => ?_)
 refine xz [] [] ?_
 refine xg ?_
 refine xn 4 [(1, [0]), (3, [1])] [(8, .int .u64 (hiI y)), (6, .int .u64 (hiI x))] ?_
 refine xve 9 IntKind.u64 (bits BinOp.or IntKind.u64 (hiI x) (hiI y)) (hiI (x ||| y)) v1 ?_
 refine xn 9 [(6, [0]), (8, [1])] [(13, .int .u64 (loI y)), (11, .int .u64 (loI x))] ?_
 refine xve 14 IntKind.u64 (bits BinOp.or IntKind.u64 (loI x) (loI y)) (loI (x ||| y)) v2 ?_
 refine xy [(11, [2])] [] [(2, [.int .u64 (hiI (x ||| y)), .int .u64 (loI (x ||| y))])] ?_
 refine SW_ret ?_
 refine xe () (.agg #[.int .u64 (hiI (x ||| y)), .int .u64 (loI (x ||| y))]) [2] ?_ trivial
 rfl
theorem ct_impl_Word_without (x y z : Nat) (h1 : Go.bits .andNot .u64 (hiI x) (hiI y) = hiI z) (h2 : Go.bits .andNot .u64 (loI x) (loI y) = loI z) : CtV Tryd.prog 104 [.agg #[.int .u64 (hiI x), .int .u64 (loI x)], .agg #[.int .u64 (hiI y), .int .u64 (loI y)]] [] (.agg #[.int .u64 (hiI z), .int .u64 (loI z)]) := by
 refine ct_of Tryd.func104 rfl (by kernel_rfl) (fun B w0 => ?_)
 have v1 : Ve (Go.bits .andNot .u64 (hiI x) (hiI y)) (hiI z) := ⟨h1⟩
 have v2 : Ve (Go.bits .andNot .u64 (loI x) (loI y)) (loI z) := ⟨h2⟩
 refine xg ?_
 refine xb 2 [.int .u64 (hiI x), .int .u64 (loI x)] 28 (fun g0 => ?_)
 refine xb 3 [.int .u64 (hiI y), .int .u64 (loI y)] 28 (fun g1 => ?_)
 refine xb 4 [.int .u64 0, .int .u64 0] 28 (fun g2 => ?_)
 refine xz [] [] ?_
 refine xg ?_
 refine xn 4 [(1, [0]), (3, [1])] [(8, .int .u64 (hiI y)), (6, .int .u64 (hiI x))] ?_
 refine xve 9 IntKind.u64 (bits BinOp.andNot IntKind.u64 (hiI x) (hiI y)) (hiI z) v1 ?_
 refine xn 9 [(6, [0]), (8, [1])] [(13, .int .u64 (loI y)), (11, .int .u64 (loI x))] ?_
 refine xve 14 IntKind.u64 (bits BinOp.andNot IntKind.u64 (loI x) (loI y)) (loI z) v2 ?_
 refine xy [(11, [2])] [] [(2, [.int .u64 (hiI z), .int .u64 (loI z)])] ?_
 refine SW_ret ?_
 refine xe () (.agg #[.int .u64 (hiI z), .int .u64 (loI z)]) [2] ?_ trivial
 rfl
theorem ct_impl_Word_low (x : Nat) (a : Int) (i : Nat) (ha : Nn a i) (hi : i < 128) (hx : x < B128) : CtV Tryd.prog 59 [.agg #[.int .u64 (hiI x), .int .u64 (loI x)], .int .i64 a] [] (.agg #[.int .u64 (hiI (x % 2 ^ i)), .int .u64 (loI (x % 2 ^ i))]) := by
 obtain ⟨rfl⟩ := ha
 refine ct_of Tryd.func59 rfl (by kernel_rfl) (fun B w0 => ?_)
 have hh := hi_lt hx
 have z : decide ((i : Int) ≥ 128) = false := decide_eq_false (by omega)
 have hq : x / 2 ^ i < B128 := Nat.lt_of_le_of_lt (Nat.div_le_self _ _) hx
 have hv : x / 2 ^ i * 2 ^ i < B128 := Nat.lt_of_le_of_lt (Nat.div_mul_le_self _ _) hx
 have co := ct_impl_Word_or (hiI x) (loI x) 0 0 x 0 ⟨rfl, rfl⟩ ⟨rfl, rfl⟩ hx (by decide)
 rw [Nat.or_zero] at co
 have cl' := ct_impl_Word_left (hiI (x / 2 ^ i)) (loI (x / 2 ^ i)) (x / 2 ^ i) ⟨rfl, rfl⟩ (i : Int) i ⟨rfl⟩ hi hq
 rw [Nat.mod_eq_of_lt hv] at cl'
 obtain ⟨k1, k2⟩ := high_cells x i
 have cw : Go.bits .andNot .u64 (hiI x) (hiI (x / 2 ^ i * 2 ^ i)) = hiI (x % 2 ^ i) ∧ Go.bits .andNot .u64 (loI x) (loI (x / 2 ^ i * 2 ^ i)) = loI (x % 2 ^ i) := by
  unfold hiI loI
  by_cases h : i < 64
  ·obtain ⟨a1, a2, a3, a4⟩ := k1 h
   rw [a1, a2, a3, a4, andNot_self _ hh, andNot_high _ i (lo_lt x) (by omega)]
   exact ⟨rfl, rfl⟩
  ·obtain ⟨a1, a2, a3, a4⟩ := k2 (by omega)
   rw [a1, a2, a3, a4, andNot_high _ (i - 64) hh (by omega), andNot_zero _ (lo_lt x)]
   exact ⟨rfl, rfl⟩
 have cwo := ct_impl_Word_without x (x / 2 ^ i * 2 ^ i) (x % 2 ^ i) cw.1 cw.2
 refine xg ?_
 refine xb 2 [.int .u64 (hiI x), .int .u64 (loI x)] 28 (fun g0 => ?_)
 refine xb 4 [.int .u64 0, .int .u64 0] 28 (fun g1 => ?_)
 refine xz [] [] ?_
 refine SW_seq ?_
 refine xr [] [(6, .bool (decide ((i : Int) ≥ 128)))] ?_
 refine xsf z ?_
 refine SW_skip ?_
 refine xd (fun hB => ?_)
 refine xdk [(0, [0]), (1, []), (3, [0]), (4, []), (6, [])] [(14, .int .i64 (i : Int)), (12, .int .i64 (i : Int)), (11, .agg #[.int .u64 (hiI x), .int .u64 (loI x)]), (9, .agg #[.int .u64 0, .int .u64 0]), (8, .agg #[.int .u64 (hiI x), .int .u64 (loI x)])] hB ?_
 refine xdv 2 10 co zs0 ?_
 refine xdv 5 13 (ct_impl_Word_right (x) ((i : Int)) (i) ⟨rfl⟩ (by omega) hx) zs0 ?_
 refine xdv 7 15 cl' zs0 ?_
 refine xdv 8 16 cwo zs0 ?_
 refine xds 9 [1] [(1, [.int .u64 (hiI (x % 2 ^ i)), .int .u64 (loI (x % 2 ^ i))])] ?_
 refine xdz ?_
 refine SW_ret ?_
 refine xe () (.agg #[.int .u64 (hiI (x % 2 ^ i)), .int .u64 (loI (x % 2 ^ i))]) [1] ?_ trivial
 rfl
end Go.Proofs.YtgknelgplmohoaaDoor.M
end
