import Derived.Test.YtgknelgplmohoaaDoorQFnShortestn
section
namespace Go.Proofs.YtgknelgplmohoaaDoor.M
open Go.RowKit Go.Proofs.YtgknelgplmohoaaDoor.G Go.Proofs.YtgknelgplmohoaaDoorV.PrintWords Go.Proofs.YtgknelgplmohoaaDoorV.PrintLast Go.Proofs.YtgknelgplmohoaaDoor.X
set_option linter.unusedVariables false
set_option linter.unusedSimpArgs false
theorem xvlE {X : Cx} {env : List (Nat × Value)} {bs : List Box} {fs : List Fact} {K : Exit → St → Prop} {ops : Array Oper} {j : Nat} (d : Nat) {k : IntKind} {ad : Addr} {c : Nat} {xs : List Int} (hF : In (Row k (some ad) c xs) fs) (i : Int) {q : Addr} (hq : ad.add i.toNat = q) {o : Oper} {t : TypeId} {a : Operand} (h0 : 0 ≤ i) (h1 : i < xs.length) (h : NW X ops (Nat.succ j) ⟨(d, .int k (rd xs i)) :: env, bs, fs⟩ K)
  (ho : ops[j]? = some o := by rfl) (hop : o.op = .load t a := by rfl) (hg : guardD ops env o = some true := by kernel_rfl) (hf : fitO X.n env o = true := by kernel_rfl) (hd : o.dst = some d := by rfl)
  (ha : evD env a = .pointer (some q) := by kernel_rfl) (ht : ∀ w, (isAgg t).run X.P w = .ok false w := by intro w; kernel_rfl) : NW X ops j ⟨env, bs, fs⟩ K :=
 xvl d hF i h0 h1 h ho hop hg hf hd (by rw [hq]; exact ha) ht
theorem apN_far (n U M : Nat) : apN (n * U) M = farN M U n := by
 unfold apN farN
 generalize n * U = x
 split <;> split <;> omega
theorem ct_laws_apart_far (n U M : Nat) (fx : Fr (ofN B64 (n * U)) (n * U)) (fy : Fr (ofN B64 M) M) (A A' : Option Addr) (c c' : Nat) : CtR Tryd.prog 12 [.slice A (ofN B64 (n * U)).length c, .slice A' (ofN B64 M).length c'] [Row .u64 A c (ofN B64 (n * U)), Row .u64 A' c' (ofN B64 M)] .u64 (ofN B64 (farN M U n)) := by
 have h := ct_laws_apart (n * U) M A A' c c' fx fy
 rw [apN_far] at h
 exact h
theorem far_lt {M U n k : Nat} (h1 : n * U < 2 ^ k) (h2 : M < 2 ^ k) : farN M U n < 2 ^ k := by
 unfold farN
 split <;> omega
theorem cLo_if (cl : Bool) {L t : Nat} (hL : 0 < L) (ht : 0 < t) : cLo cl L t = if L % t = 0 ∧ cl = true then L / t else L / t + 1 := by
 unfold cLo
 have h : L % t = 0 → 1 ≤ L / t := fun h => by
  have := Nat.div_add_mod L t
  rcases Nat.eq_zero_or_pos (L / t) with h0 | h0
  ·rw [h0, h, Nat.mul_zero] at this
   omega
  ·exact h0
 by_cases h1 : L % t = 0 ∧ cl = true
 ·rw [if_pos h1]
  exact Nat.max_eq_right (h h1.1)
 ·rw [if_neg h1]
  exact Nat.max_eq_right (Nat.succ_le_succ (Nat.zero_le _))
theorem cmp_one (a b : Nat) : (cmpN a b == 1) = decide (b < a) := by
 rw [Bool.eq_iff_iff, beq_iff_eq, decide_eq_true_iff]
 unfold cmpN
 split
 ·constructor <;> intro h <;> omega
 ·split
  ·constructor <;> intro h <;> omega
  ·constructor <;> intro h <;> omega
theorem far_rel (mid den n m : Nat) (e : Int) (he : -(kK : Int) ≤ e) : cmpN (farN (atN mid den e).1 (atN mid den e).2 n) (farN (atN mid den e).1 (atN mid den e).2 m) = cmpN (farN (s6 mid) (tU den e) n) (farN (s6 mid) (tU den e) m) := by
 obtain ⟨c, hc, h12⟩ := atN_scale kK e he
 unfold s6 tU
 rw [← (h12 mid den).1, ← (h12 mid den).2, farN_scale hc, farN_scale hc, Nat.mul_comm c, Nat.mul_comm c, cmpN_mul hc]
theorem shD_n {P : Nat} {emin : Int} {S : Nat} {q : Int} {cl : Bool} {eS u : Int} {D : Nat} (sd : ShD P emin S q cl eS u D) : D ≠ 0 ∧ D < 2 ^ 135 := by
 obtain ⟨s1, s2, s3, s4, s5, s6', s7⟩ := sd
 have hK := kK_eq
 have hV : tU (bndN P emin S q).2.2 u ≤ s6 (midN S q) := Nat.le_trans (s1.mono (by omega) s3) s1.lo
 have hc := (lh_cand (s1.p u) s1.lv s1.vh hV).1 s5
 obtain ⟨h1, h2, h3⟩ := ch_in (s1.p u) s1.lv s1.vh hV hc
 rw [s7] at h1 h2
 have h4 : 1 ≤ D := Nat.le_trans ((Nat.le_div_iff_mul_le (s1.p u)).2 (by omega)) h2
 have h5 := ((cand_iff (s1.p u) h4).2 h1).2
 have h6 := cHi_small (cl := cl) s1 (e := u) (by omega) (by omega)
 exact ⟨by omega, Nat.lt_of_le_of_lt h5 h6⟩
theorem ct_laws_FnShortest (A : Option Addr) (c : Nat) (bt : List Int) (dx : Dig 256 bt) :
  CtV Tryd.prog 6 [.slice A bt.length c] [Tabled, Row .u8 A c bt] (.bool true) := by
 by_cases hx : bt.length ≤ 1048576
 ·have z0 : decide ((bt.length : Int) > 1048576) = false := decide_eq_false (by omega)
  refine ct_of Tryd.func6 rfl (by kernel_rfl) (fun B w0 => ?_)
  have noweak := True.intro
  refine xr [] [(2, .bool false)] ?_
  refine SW_seq ?_
  refine xr [] [(31, .bool (decide ((((List.length bt) : Nat) : Int) > 1048576)))] ?_
  refine xsf z0 ?_
  refine SW_skip ?_
  refine xg ?_
  refine xn 1 [] [(33, .slice A (List.length bt) c)] ?_
  (refine xck 34 (ct_spec_DrawShortest (A) (c) (bt) hx dx) (zsS (ziS zi0) zs0) (fun zz => ?_); obtain ⟨⟨z1, z2⟩, p3⟩ := zz)
  refine xn 5 [] [(36, .agg #[.int .u64 (hiI z2), .int .u64 (loI z2)]), (35, .int .i64 z1)] ?_
  refine xb 4 [.int .u64 0, .int .u64 0] 28 (fun g0 => ?_)
  refine xy [(7, [0])] [(3, .int .i64 z1)] [(0, [.int .u64 (hiI z2), .int .u64 (loI z2)])] ?_
  refine xg ?_
  refine xn 2 [(1, [0])] [(38, .agg #[.int .u64 (hiI z2), .int .u64 (loI z2)]), (37, .int .i64 z1)] ?_
  rcases fd_or z1 with ⟨hf4, P, emin, emax, W, E, ex, d⟩ | ⟨hf4, hs, hl⟩
  ·have cs := ct_spec_Unpack d.h.toFmt z1 d.sf z2 p3.2
   have ci := ct_impl_Unpack d.h.toFmt z1 d.lf z2 p3.2
   rcases unp_form d.h z2 with hu | hu | ⟨cc, neg, S, q, hu, hSl, hv⟩
   ·rw [hu, badP, prtV] at cs ci
    have ks := ct_impl_Shortest0 d hf4 _ _ 0 (.inl rfl) false _ _ _ ci
    dsimp only at cs
    clear noweak ci
    refine xcv 39 cs zs0 ?_
    refine xz [] [(5, .int .i64 0)] ?_
    refine xg ?_
    refine xn 2 [(1, [0])] [(42, .agg #[.int .u64 (hiI z2), .int .u64 (loI z2)]), (41, .int .i64 z1)] ?_
    refine xcv 43 ks (zsS zi0 zs0) ?_
    refine xb 6 [.slice none 0 0, .int .i64 0, .bool false, .int .i64 0] 52 (fun g1 => ?_)
    refine xy [(4, [1])] [] [(1, [.slice none 0 0, .int .i64 0, .bool false, .int .i64 3])] ?_
    refine SW_seq ?_
    refine xr [] [(49, .bool true)] ?_
    refine xs1 ?_
    refine xr [(1, [1])] [(2, .bool true)] ?_
    refine SW_ret ?_
    refine xe () (.bool true) [] ?_ trivial
    rfl
   ·rw [hu, prtV] at cs ci
    have ks := ct_impl_Shortest0 d hf4 _ _ 5 (.inr (.inr (.inr rfl))) false _ _ _ ci
    dsimp only at cs
    clear noweak ci
    refine xcv 39 cs zs0 ?_
    refine xz [] [(5, .int .i64 5)] ?_
    refine xg ?_
    refine xn 2 [(1, [0])] [(42, .agg #[.int .u64 (hiI z2), .int .u64 (loI z2)]), (41, .int .i64 z1)] ?_
    refine xcv 43 ks (zsS zi0 zs0) ?_
    refine xb 6 [.slice none 0 0, .int .i64 0, .bool false, .int .i64 0] 52 (fun g1 => ?_)
    refine xy [(4, [1])] [] [] ?_
    refine SW_seq ?_
    refine xr [] [(49, .bool true)] ?_
    refine xs1 ?_
    refine xr [(1, [1])] [(2, .bool true)] ?_
    refine SW_ret ?_
    refine xe () (.bool true) [] ?_ trivial
    rfl
   ·by_cases hc : cc = 2 ∨ cc = 3
    ·rw [hu, prtV] at cs
     dsimp only at cs
     have hcl : Bool := decide (S % 2 = 0)
     obtain ⟨eS, u, D, sd⟩ := shD_ex d.h d.x1 hv hc (decide (S % 2 = 0))
     obtain ⟨D0, D135⟩ := shD_n sd
     obtain ⟨n, hg⟩ := digs_of D0
     have hl := sh_law sd hg
     have es := sd.es
     have us := sd.u1
     have us38 := sd.u38
     have hln := shD_len sd
     have hcut : (dropE (digT0 D)).2 ≤ 137 := by
      have h1 : 10 ^ (dropE (digT0 D)).2 ≤ D := by
       have h0 := hg.e
       have h2 := hg.n0
       calc 10 ^ (dropE (digT0 D)).2 = 1 * 10 ^ (dropE (digT0 D)).2 := (Nat.one_mul _).symm
        _ ≤ n * 10 ^ (dropE (digT0 D)).2 := Nat.mul_le_mul_right _ (by omega)
        _ = D := h0.symm
      have h2 : 2 ^ (dropE (digT0 D)).2 ≤ 10 ^ (dropE (digT0 D)).2 := Nat.pow_le_pow_left (by decide) _
      have h3 : (dropE (digT0 D)).2 < 135 := (Nat.pow_lt_pow_iff_right (show 1 < 2 by decide)).1 (by omega)
      omega
     have hnD : n ≤ D := by
      have h0 := hg.e
      calc n = n * 1 := (Nat.mul_one _).symm
       _ ≤ n * 10 ^ (dropE (digT0 D)).2 := Nat.mul_le_mul_left _ (Nat.pow_pos (by decide))
       _ = D := h0.symm
     have hdl : (dropE (digT0 D)).1.length ≤ 24320 := by
      unfold dropE
      dsimp only
      have := dropZ_len (digT0 D).reverse
      rw [List.length_reverse] at this ⊢
      omega
     have ki0 := ct_impl_Shortest d hf4 z2 p3.2 cc neg S q hu hv hc eS u D sd _ _ rfl rfl
     obtain ⟨ds, hds⟩ : ∃ ds, (dropE (digT0 D)).1 = ds := ⟨_, rfl⟩
     obtain ⟨ee, hee⟩ : ∃ ee, u + ((dropE (digT0 D)).2 : Int) = ee := ⟨_, rfl⟩
     have hk20 : ds.length ≤ 20000 := by
      rw [← hds]
      have h1 := digT0_pow D0
      have h2 : 2 ^ ((digT0 D).length - 1) ≤ 10 ^ ((digT0 D).length - 1) := Nat.pow_le_pow_left (by decide) _
      have h3 : (digT0 D).length - 1 < 135 := (Nat.pow_lt_pow_iff_right (show 1 < 2 by decide)).1 (by omega)
      unfold dropE
      dsimp only
      have := dropZ_len (digT0 D).reverse
      rw [List.length_reverse] at this ⊢
      omega
     rw [hds, hee] at hl ki0
     rw [hds] at hg hdl
     have ki := ctM_re (γ2 := Nat × List Value) (fun p => .agg #[.slice (some ⟨p.1, 0, none⟩) ds.length (ds.length + p.2.length), .int .i64 ee, .bool neg, .int .i64 0]) (fun p => [⟨p.1, X.cl .u8 ds p.2, 5⟩]) (fun _ => []) ki0 (fun p => ⟨(p.1.1, p.1.2.1), by rw [← p.2], rfl, rfl⟩)
     have rE : -5399 ≤ ee ∧ ee ≤ 5399 := by omega
     clear ki0 sd
     have dp : 0 < ds.length := List.length_pos_iff.2 hg.ne
     have cf := fun A c => ct_impl_NatFromText ds hg.dg hk20 dp A c
     rw [hg.v] at cf
     obtain ⟨w, hw⟩ : ∃ w, bndN P emin S q = w := ⟨_, rfl⟩
     obtain ⟨k, hk, ⟨l1, l2, l3⟩, g1, g2, g3⟩ := bnd_sm d.h d.x1 hv hc
     have hmidlt : midN S q < (bndN P emin S q).2.1 := by
      obtain ⟨⟨bS0, _⟩, _⟩ := vp_fin d.h d.x1 hv hc
      rw [(bnd_tq (P := P) (emin := emin) (S := S) (q := q)).2.1]
      exact Nat.mul_lt_mul_of_pos_right (show S * 2 ^ 2 < hi4 S by unfold hi4; omega) (Nat.pow_pos (by decide))
     have cB := ct_spec_Bounds d z2 p3.2 cc neg S q hu hv hc _ hw
     rw [hw] at l1 l2 l3 g1 g2 g3 hmidlt hl
     obtain ⟨lo, hi, den⟩ := w
     dsimp only at l1 l2 l3 g1 g2 g3 hmidlt hl
     obtain ⟨mid, hmd⟩ : ∃ mid, midN S q = mid := ⟨_, rfl⟩
     rw [hmd] at hmidlt hl
     have lm : mid < 2 ^ k := by omega
     obtain ⟨M7, hM7, hM8⟩ : ∃ M7 : Nat, k + 21601 ≤ M7 ∧ M7 ≤ 38601 := ⟨38601, by omega, by omega⟩
     have hK := kK_eq
     have n135 : n < 2 ^ 135 := by omega
     -- at the decimal's unit
     have bA := atN_lt3 (n := M7) (e := ee) l1 l3 (by omega) hM7
     have bB := (atN_lt3 (n := M7) (e := ee) l2 l3 (by omega) hM7).1
     have bC := (atN_lt3 (n := M7) (e := ee) lm l3 (by omega) hM7).1
     have c1 := fun L9 H9 M9 U9 => ct_laws_scaled d z2 p3.2 cc neg S q hu hv hc lo hi den mid hw ee (by omega) k l1 l2 l3 hk hmd lm L9 H9 M9 U9
     have iA := fun x => inJ_atN (decide (S % 2 = 0)) lo hi den ee (by omega) x
     have rA := fun n m => far_rel mid den n m ee (by omega)
     rw [atN_snd mid lo den ee] at rA
     obtain ⟨L9, hL9⟩ : ∃ x, (atN lo den ee).1 = x := ⟨_, rfl⟩
     obtain ⟨H9, hH9⟩ : ∃ x, (atN hi den ee).1 = x := ⟨_, rfl⟩
     obtain ⟨M9, hM9⟩ : ∃ x, (atN mid den ee).1 = x := ⟨_, rfl⟩
     obtain ⟨U9, hU9⟩ : ∃ x, (atN lo den ee).2 = x := ⟨_, rfl⟩
     replace c1 := c1 L9 H9 M9 U9 hL9 hH9 hM9 hU9
     rw [hL9, hU9] at bA
     rw [hH9] at bB
     rw [hM9] at bC
     rw [hL9, hH9, hU9] at iA
     rw [hM9, hU9] at rA
     have fL := Fr.of bA.1 (show M7 ≤ 76800 by omega)
     have fU := Fr.of bA.2 (show M7 ≤ 76800 by omega)
     have fH := Fr.of bB (show M7 ≤ 76800 by omega)
     have fM := Fr.of bC (show M7 ≤ 76800 by omega)
     -- at the next unit
     have bA' := atN_lt3 (n := M7) (e := ee + 1) l1 l3 (by omega) hM7
     have bB' := (atN_lt3 (n := M7) (e := ee + 1) l2 l3 (by omega) hM7).1
     have pU' := atN_pos (x := lo) (y := den) (e := ee + 1) g3
     have c2 := fun L9 H9 M9 U9 => ct_laws_scaled d z2 p3.2 cc neg S q hu hv hc lo hi den mid hw (ee + 1) (by omega) k l1 l2 l3 hk hmd lm L9 H9 M9 U9
     have iB := fun x => inJ_atN (decide (S % 2 = 0)) lo hi den (ee + 1) (by omega) x
     have cB2 := (atN_same (decide (S % 2 = 0)) lo den (ee + 1) (by omega)).1
     obtain ⟨Lx, hLx⟩ : ∃ x, (atN lo den (ee + 1)).1 = x := ⟨_, rfl⟩
     obtain ⟨Hx, hHx⟩ : ∃ x, (atN hi den (ee + 1)).1 = x := ⟨_, rfl⟩
     obtain ⟨Mx, hMx⟩ : ∃ x, (atN mid den (ee + 1)).1 = x := ⟨_, rfl⟩
     obtain ⟨Ux, hUx⟩ : ∃ x, (atN lo den (ee + 1)).2 = x := ⟨_, rfl⟩
     replace c2 := c2 Lx Hx Mx Ux hLx hHx hMx hUx
     rw [hLx, hUx] at bA' cB2
     rw [hHx] at bB'
     rw [hUx] at pU'
     rw [hLx, hHx, hUx] at iB
     have hLx0 : 0 < Lx := by
      rw [← hLx]
      unfold atN
      split
      ·exact g1
      ·exact Nat.mul_pos g1 (Nat.pow_pos (by decide))
     have fLx := Fr.of bA'.1 (show M7 ≤ 76800 by omega)
     have fUx := Fr.of bA'.2 (show M7 ≤ 76800 by omega)
     have fHx := Fr.of bB' (show M7 ≤ 76800 by omega)
     -- the law's answers
     obtain ⟨q1, q2, q3⟩ := hl
     rw [← iA] at q1
     rw [← iB, ← cB2] at q2
     have near : ∀ m, (m = n - 1 ∨ m = n + 1) → inJ (decide (S % 2 = 0)) L9 H9 (m * U9) = true → (cmpN (farN M9 U9 n) (farN M9 U9 m) == 1) = false ∧ ((cmpN (farN M9 U9 n) (farN M9 U9 m) == 0) = false ∨ n % 2 = 0) := fun m hm hi => by
      rw [iA] at hi
      rw [rA]
      rcases q3 m hm hi with z | ⟨z, z2⟩
      ·rw [cmpN_lt' z]
       exact ⟨rfl, .inl rfl⟩
      ·rw [z]
       refine ⟨?_, .inr z2⟩
       rw [cmp_one]
       exact decide_eq_false (Nat.lt_irrefl _)
     have fn := Fr.of n135 (by decide)
     have n0 := hg.n0
     have f1 : Fr [1] 1 := Fr.of1 (l := 1) (by decide)
     have bnU := mul_lt2 n135 bA.2
     have fnU := Fr.of bnU (by omega)
     have cmu := fun A A' c c' => ct_spec_NatMul_rows (ofN B64 n) (ofN B64 U9) n U9 fn fU fnU.sm A A' c c'
     have cwi := fun A A2 A3 c c2 c3 => ct_laws_within (n * U9) L9 H9 (decide (S % 2 = 0)) A A2 A3 c c2 c3 fnU fL fH true q1
     have y0 : (rd ds ((0 : Nat) : Int) == 48) = false := by rw [beq_eq_false_iff_ne]; exact hg.hd
     have y1 : (rd ds 0 == 48) = false := y0
     have y2 : (rd ds ((ds.length - 1 : Nat) : Int) == 48) = false := by rw [beq_eq_false_iff_ne]; exact hg.lt
     have vl : Ve (IntKind.i64.wrap ((ds.length : Int) - 1)) ((ds.length - 1 : Nat) : Int) := ⟨by rw [wrap_i64 (by omega)]; omega⟩
     have y3 : decide (ee > 6000) = false := decide_eq_false (by omega)
     have y4 : decide (ee < -6000) = false := decide_eq_false (by omega)
     have yc : (cc != 3 && cc != 2) = false := by rcases hc with rfl | rfl <;> rfl
     have autofz : True := trivial
     have hlt := hg.lt
     clear noweak rA iA iB cB2 q3 hg hv hu hL9 hH9 hM9 hU9 hLx hHx hMx hUx hw hmd hds hee hdl hln hcut hnD hmidlt g1 g2
     refine xcv 39 cs zs0 ?_
     refine xz [] [(5, .int .i64 cc)] ?_
     refine xg ?_
     refine xn 2 [(1, [0])] [(42, .agg #[.int .u64 (hiI z2), .int .u64 (loI z2)]), (41, .int .i64 z1)] ?_
     (refine xcm 43 [false] ki (zsS zi0 zs0) (fun zz => ?_); obtain ⟨z4, z5⟩ := zz)
     refine xb 6 [.slice none 0 0, .int .i64 0, .bool false, .int .i64 0] 52 (fun g4 => ?_)
     refine xy [(4, [2])] [] [(2, [.slice (some ⟨z4, 0, none⟩) (List.length ds) (List.length ds + List.length z5), .int .i64 ee, .bool neg, .int .i64 0])] ?_
     refine SW_cut (fun s' => Weak2 s' ⟨[(3, .int .i64 z1), (4, .pointer (some ⟨g0, 0, none⟩)), (6, .pointer (some ⟨g4, 0, none⟩))], [⟨g0, [.int .u64 (hiI z2), .int .u64 (loI z2)], 28⟩, ⟨z4, X.cl .u8 ds z5, 5⟩, ⟨g4, [.slice (some ⟨z4, 0, none⟩) ds.length (ds.length + z5.length), .int .i64 ee, .bool neg, .int .i64 0], 52⟩], []⟩) ?_ (fun s' hw => ?_)
     ·rcases hc with rfl | rfl
      ·refine xr [] [(49, .bool false)] ?_
       refine xs0 ?_
       refine SW_skip ?_
       exact xw2 [true, true, true] zs0
      ·refine xr [] [(49, .bool false)] ?_
       refine xs0 ?_
       refine SW_skip ?_
       exact xw2 [true, true, true] zs0
     refine SW_weak2 hw ?_
     clear hw
     refine xg ?_
     refine xn 2 [(1, [2])] [(56, .slice (some ⟨z4, 0, none⟩) (List.length ds) (List.length ds + List.length z5))] ?_
     refine NW_fz 1 (List.length ds + List.length z5) z4 IntKind.u8 (ds) (z5) 5 (by omega) (by omega) ?_
     refine xct 57 (cf _ _) (zsS zi0 zs0) (fun A0 k0 => ?_)
     refine xz [] [(8, .bool true), (7, .slice A0 (List.length (ofN B64 n)) k0)] ?_
     refine SW_cut (fun s' => ∃ (A7 : Option Addr) (c7 : Nat), Weak2 s' ⟨[(3, .int .i64 z1), (4, .pointer (some ⟨g0, 0, none⟩)), (6, .pointer (some ⟨g4, 0, none⟩)), (7, .slice A7 (ofN B64 n).length c7)], [⟨g0, [.int .u64 (hiI z2), .int .u64 (loI z2)], 28⟩, ⟨g4, [.slice (some ⟨z4, 0, none⟩) ds.length (ds.length + z5.length), .int .i64 ee, .bool neg, .int .i64 0], 52⟩], [Row .u8 (some ⟨z4, 0, none⟩) (ds.length + z5.length) ds, Row .u64 A7 c7 (ofN B64 n)]⟩) ?_ (fun s' hs' => ?_)
     ·refine xg ?_
      refine xn 5 [(4, [1])] [(64, .slice (some ⟨z4, 0, none⟩) (List.length ds) (List.length ds + List.length z5)), (62, .bool false)] ?_
      refine xoi 65 5 (z4) (List.length ds) (List.length ds + List.length z5) 0 IntKind.i64 (0) ⟨rfl⟩ (by omega) ?_
      refine xvl (ad := ⟨z4, 0, none⟩) 66 (.inr (.inl rfl)) 0 (by decide) (by omega) ?_
      refine xn 10 [] [(69, .bool (rd ds 0 == 48))] ?_
      refine xkf 69 y1 ?_
      refine xn 15 [(11, [1]), (13, [1])] [(74, .int .i64 (((List.length ds) : Nat) : Int)), (71, .slice (some ⟨z4, 0, none⟩) (List.length ds) (List.length ds + List.length z5))] ?_
      refine xve 75 IntKind.i64 (IntKind.wrap IntKind.i64 ((((List.length ds) : Nat) : Int) - 1)) ((((List.length ds - 1) : Nat) : Int)) vl ?_
      refine xoi 76 5 (z4) (List.length ds) (List.length ds + List.length z5) (List.length ds - 1) IntKind.i64 ((((List.length ds - 1) : Nat) : Int)) ⟨rfl⟩ (by omega) ?_
      refine xvlE (ad := ⟨z4, 0, none⟩) 77 (.inr (.inl rfl)) ((ds.length - 1 : Nat) : Int) (q := ⟨z4, ds.length - 1, none⟩) (by unfold Addr.add; simp; intro h; exact h.symm) (by omega) (by omega) ?_
      refine xn 21 [] [(80, .bool (rd ds (((List.length ds - 1) : Nat) : Int) == 48))] ?_
      refine xkf 80 y2 ?_
      refine xn 26 [(22, [1])] [(85, .bool (decide (ee > 6000)))] ?_
      refine xkf 85 y3 ?_
      refine xz [(27, [1])] [(89, .bool (decide (ee < -6000)))] ?_
      refine xsf y4 ?_
      refine SW_skip ?_
      refine ⟨(A0), (k0), xw2 [true, true] (zsS (ziS zi0) (zsS zi0 zs0))⟩
     obtain ⟨A7, c7, hw⟩ := hs'
     refine SW_weak2 hw ?_
     clear hw cf y0 y1 y2 vl y3 y4
     refine xg ?_
     refine xn 2 [(1, [0])] [(91, .agg #[.int .u64 (hiI z2), .int .u64 (loI z2)]), (90, .int .i64 z1)] ?_
     (refine xck 92 cB zs0 (fun zz => ?_); obtain ⟨⟨z6, z7⟩, ⟨⟨z8, z9⟩, ⟨z10, z11⟩⟩⟩ := zz)
     refine xz [] [(9, .bool (decide (S % 2 = 0)))] ?_
     refine xg ?_
     refine xn 4 [(1, [0]), (3, [1])] [(98, .int .i64 ee), (96, .agg #[.int .u64 (hiI z2), .int .u64 (loI z2)]), (95, .int .i64 z1)] ?_
     (refine xck 99 c1 zs0 (fun zz => ?_); obtain ⟨⟨z12, z13⟩, ⟨⟨z14, z15⟩, ⟨⟨z16, z17⟩, ⟨z18, z19⟩⟩⟩⟩ := zz)
     refine xz [] [(13, .slice z18 (List.length (ofN B64 U9)) z19), (12, .slice z16 (List.length (ofN B64 M9)) z17), (11, .slice z14 (List.length (ofN B64 H9)) z15), (10, .slice z12 (List.length (ofN B64 L9)) z13)] ?_
     refine xg ?_
     refine xn 2 [] [(105, .slice z18 (List.length (ofN B64 U9)) z19), (104, .slice A7 (List.length (ofN B64 n)) c7)] ?_
     refine xcr 106 (cmu _ _ _ _) (zsS (ziS (ziS (ziS (ziS (ziS (ziS (ziS (ziS zi0)))))))) (zsS (ziS (ziS (ziS zi0))) zs0)) (fun A8 k8 => ?_)
     refine xz [] [(14, .slice A8 (List.length (ofN B64 (n * U9))) k8)] ?_
     refine SW_cut (fun s' => ∃ (A1 A2 A3 A4 A5 : Option Addr) (c1' c2' c3' c4' c5' : Nat), Weak2 s' ⟨[(3, .int .i64 z1), (4, .pointer (some ⟨g0, 0, none⟩)), (6, .pointer (some ⟨g4, 0, none⟩)), (7, .slice A7 (ofN B64 n).length c7), (9, .bool (decide (S % 2 = 0))), (10, .slice A1 (ofN B64 L9).length c1'), (11, .slice A2 (ofN B64 H9).length c2'), (12, .slice A3 (ofN B64 M9).length c3'), (13, .slice A4 (ofN B64 U9).length c4'), (14, .slice A5 (ofN B64 (n * U9)).length c5')], [⟨g0, [.int .u64 (hiI z2), .int .u64 (loI z2)], 28⟩, ⟨g4, [.slice (some ⟨z4, 0, none⟩) ds.length (ds.length + z5.length), .int .i64 ee, .bool neg, .int .i64 0], 52⟩], [Row .u8 (some ⟨z4, 0, none⟩) (ds.length + z5.length) ds, Row .u64 A7 c7 (ofN B64 n), Row .u64 A1 c1' (ofN B64 L9), Row .u64 A2 c2' (ofN B64 H9), Row .u64 A3 c3' (ofN B64 M9), Row .u64 A4 c4' (ofN B64 U9), Row .u64 A5 c5' (ofN B64 (n * U9))]⟩) ?_ (fun s' hs' => ?_)
     ·refine xg ?_
      refine xn 4 [] [(110, .bool (decide (S % 2 = 0))), (109, .slice z14 (List.length (ofN B64 H9)) z15), (108, .slice z12 (List.length (ofN B64 L9)) z13), (107, .slice A8 (List.length (ofN B64 (n * U9))) k8)] ?_
      refine xcv 111 (cwi _ _ _ _ _ _) (zsS zi0 (zsS (ziS zi0) (zsS (ziS (ziS zi0)) zs0))) ?_
      refine xz [] [(112, .bool false)] ?_
      refine xs0 ?_
      refine SW_skip ?_
      refine ⟨(z12), (z14), (z16), (z18), (A8), (z13), (z15), (z17), (z19), (k8), xw2 [true, true] (zsS (ziS (ziS (ziS (ziS (ziS (ziS (ziS (ziS zi0)))))))) (zsS (ziS (ziS (ziS (ziS (ziS (ziS (ziS (ziS (ziS zi0))))))))) (zsS (ziS zi0) (zsS (ziS (ziS zi0)) (zsS (ziS (ziS (ziS zi0))) (zsS (ziS (ziS (ziS (ziS zi0)))) (zsS zi0 zs0)))))))⟩
     obtain ⟨A1, A2, A3, A4, A5, c1', c2', c3', c4', c5', hw⟩ := hs'
     refine SW_weak2 hw ?_
     clear hw c1 cwi cB
     refine SW_cut (fun s' => Weak2 s' ⟨[(3, .int .i64 z1), (4, .pointer (some ⟨g0, 0, none⟩)), (6, .pointer (some ⟨g4, 0, none⟩)), (7, .slice A7 (ofN B64 n).length c7), (9, .bool (decide (S % 2 = 0))), (10, .slice A1 (ofN B64 L9).length c1'), (11, .slice A2 (ofN B64 H9).length c2'), (12, .slice A3 (ofN B64 M9).length c3'), (13, .slice A4 (ofN B64 U9).length c4'), (14, .slice A5 (ofN B64 (n * U9)).length c5')], [⟨g0, [.int .u64 (hiI z2), .int .u64 (loI z2)], 28⟩, ⟨g4, [.slice (some ⟨z4, 0, none⟩) ds.length (ds.length + z5.length), .int .i64 ee, .bool neg, .int .i64 0], 52⟩], [Row .u8 (some ⟨z4, 0, none⟩) (ds.length + z5.length) ds, Row .u64 A7 c7 (ofN B64 n), Row .u64 A1 c1' (ofN B64 L9), Row .u64 A2 c2' (ofN B64 H9), Row .u64 A3 c3' (ofN B64 M9), Row .u64 A4 c4' (ofN B64 U9), Row .u64 A5 c5' (ofN B64 (n * U9))]⟩) ?_ (fun s' hw => ?_)
     ·by_cases hk1 : 1 < ds.length
      ·have y1 : decide ((ds.length : Int) > 1) = true := decide_eq_true (by omega)
       have k2 := q2 hk1
       rw [cLo_if _ hLx0 pU'] at k2
       have vE : Ve (IntKind.i64.wrap (ee + 1)) (ee + 1) := ⟨by rw [wrap_i64 (by omega)]⟩
       have bq : Lx / Ux < 2 ^ M7 := Nat.lt_of_le_of_lt (Nat.div_le_self ..) bA'.1
       have bq1 : Lx / Ux + 1 < 2 ^ (M7 + 1) := by rw [Nat.pow_succ]; omega
       have br : Lx % Ux < 2 ^ M7 := Nat.lt_of_le_of_lt (Nat.mod_le ..) bA'.1
       have fq := Fr.of bq (show M7 ≤ 76800 by omega)
       have fq1 := Fr.of bq1 (show M7 + 1 ≤ 76800 by omega)
       have bm : Lx / Ux * Ux < 2 ^ M7 := Nat.lt_of_le_of_lt (Nat.div_mul_le_self ..) bA'.1
       have bm1 : (Lx / Ux + 1) * Ux < 2 ^ (M7 + 1) := by rw [Nat.add_mul, Nat.one_mul, Nat.pow_succ]; omega
       have fm := Fr.of bm (show M7 ≤ 76800 by omega)
       have fm1 := Fr.of bm1 (show M7 + 1 ≤ 76800 by omega)
       have cDv := fun A A' c c' => ct_spec_NatDivMod_rows (ofN B64 Lx) (ofN B64 Ux) Lx Ux fLx fUx pU' A A' c c'
       have cM1 := fun A A' c c' => ct_spec_NatMul_rows (ofN B64 (Lx / Ux)) (ofN B64 Ux) (Lx / Ux) Ux fq fUx fm.sm A A' c c'
       by_cases hr : Lx % Ux = 0 ∧ S % 2 = 0
       ·rw [if_pos ⟨hr.1, decide_eq_true hr.2⟩] at k2
        have cW := fun A A2 A3 c c2 c3 => ct_laws_within (Lx / Ux * Ux) Lx Hx (decide (S % 2 = 0)) A A2 A3 c c2 c3 fm fLx fHx false k2
        have e0 : (ofN B64 (Lx % Ux)).length = 0 := (ofN_zero B64_2 _).2 hr.1
        have z9 : decide (((ofN B64 (Lx % Ux)).length : Int) > 0) = false := decide_eq_false (by omega)
        have z8 : (!decide (S % 2 = 0)) = false := by rw [decide_eq_true hr.2]; rfl
        refine xr [(1, [1])] [(116, .bool (decide ((((List.length ds) : Nat) : Int) > 1)))] ?_
        refine xst y1 ?_
        refine xg ?_
        refine xn 4 [(1, [0]), (3, [1])] [(121, .int .i64 ee), (119, .agg #[.int .u64 (hiI z2), .int .u64 (loI z2)]), (118, .int .i64 z1)] ?_
        refine xve 122 IntKind.i64 (IntKind.wrap IntKind.i64 (ee + 1)) (ee + 1) vE ?_
        (refine xck 123 c2 zs0 (fun zz => ?_); obtain ⟨⟨z20, z21⟩, ⟨⟨z22, z23⟩, ⟨⟨z24, z25⟩, ⟨z26, z27⟩⟩⟩⟩ := zz)
        refine xz [] [(18, .slice z26 (List.length (ofN B64 Ux)) z27), (16, .slice z22 (List.length (ofN B64 Hx)) z23), (15, .slice z20 (List.length (ofN B64 Lx)) z21)] ?_
        refine xg ?_
        refine xn 2 [] [(130, .slice z26 (List.length (ofN B64 Ux)) z27), (129, .slice z20 (List.length (ofN B64 Lx)) z21)] ?_
        (refine xck 131 (cDv _ _ _ _) (zsS zi0 (zsS (ziS (ziS (ziS zi0))) zs0)) (fun zz => ?_); obtain ⟨⟨z28, z29⟩, ⟨z30, z31⟩⟩ := zz)
        refine xz [] [(20, .slice z30 (List.length (ofN B64 (Lx % Ux))) z31), (19, .slice z28 (List.length (ofN B64 (Lx / Ux))) z29)] ?_
        refine xg ?_
        refine xn 2 [] [(136, .slice z26 (List.length (ofN B64 Ux)) z27), (135, .slice z28 (List.length (ofN B64 (Lx / Ux))) z29)] ?_
        refine xcr 137 (cM1 _ _ _ _) (zsS zi0 (zsS (ziS (ziS (ziS (ziS (ziS zi0))))) zs0)) (fun A9 k9 => ?_)
        refine xz [] [(22, .slice A9 (List.length (ofN B64 (Lx / Ux * Ux))) k9)] ?_
        refine SW_seq ?_
        refine xg ?_
        refine xn 4 [] [(141, .bool (decide ((((List.length (ofN B64 (Lx % Ux))) : Nat) : Int) > 0)))] ?_
        refine xkf 141 z9 ?_
        refine xz [] [(144, .bool !decide (S % 2 = 0))] ?_
        refine xsf z8 ?_
        refine SW_skip ?_
        refine xg ?_
        refine xn 4 [] [(153, .bool (decide (S % 2 = 0))), (152, .slice z22 (List.length (ofN B64 Hx)) z23), (151, .slice z20 (List.length (ofN B64 Lx)) z21), (150, .slice A9 (List.length (ofN B64 (Lx / Ux * Ux))) k9)] ?_
        refine xcv 154 (cW _ _ _ _ _ _) (zsS zi0 (zsS (ziS (ziS (ziS zi0))) (zsS (ziS (ziS (ziS (ziS zi0)))) zs0))) ?_
        refine xz [] [] ?_
        refine xs0 ?_
        refine SW_skip ?_
        exact xw2 [true, true] (zsS (ziS (ziS (ziS (ziS (ziS (ziS (ziS zi0))))))) (zsS (ziS (ziS (ziS (ziS (ziS (ziS (ziS (ziS zi0)))))))) (zsS (ziS (ziS (ziS (ziS (ziS (ziS (ziS (ziS (ziS zi0))))))))) (zsS (ziS (ziS (ziS (ziS (ziS (ziS (ziS (ziS (ziS (ziS zi0)))))))))) (zsS (ziS (ziS (ziS (ziS (ziS (ziS (ziS (ziS (ziS (ziS (ziS zi0))))))))))) (zsS (ziS (ziS (ziS (ziS (ziS (ziS (ziS (ziS (ziS (ziS (ziS (ziS zi0)))))))))))) (zsS (ziS (ziS (ziS (ziS (ziS (ziS (ziS (ziS (ziS (ziS (ziS (ziS (ziS zi0))))))))))))) zs0)))))))
       ·rw [if_neg (fun h => hr ⟨h.1, of_decide_eq_true h.2⟩)] at k2
        have cW := fun A A2 A3 c c2 c3 => ct_laws_within ((Lx / Ux + 1) * Ux) Lx Hx (decide (S % 2 = 0)) A A2 A3 c c2 c3 fm1 fLx fHx false k2
        have cA2 : ∀ (A8 : Option Addr) (c8 : Nat) (A9 : Option Addr) (c9 : Nat), CtR Tryd.prog 34 [.slice A8 (ofN B64 (Lx / Ux)).length c8, .slice A9 1 c9] [Row .u64 A8 c8 (ofN B64 (Lx / Ux)), Row .u64 A9 c9 [1]] .u64 (ofN B64 (Lx / Ux + 1)) := fun A8 c8 A9 c9 => ct_spec_NatAdd_rows (ofN B64 (Lx / Ux)) [1] (Lx / Ux) 1 fq f1 A8 A9 c8 c9
        have cM2 := fun A A' c c' => ct_spec_NatMul_rows (ofN B64 (Lx / Ux + 1)) (ofN B64 Ux) (Lx / Ux + 1) Ux fq1 fUx fm1.sm A A' c c'
        by_cases hr0 : Lx % Ux = 0
        ·have e0 : (ofN B64 (Lx % Ux)).length = 0 := (ofN_zero B64_2 _).2 hr0
         have z9 : decide (((ofN B64 (Lx % Ux)).length : Int) > 0) = false := decide_eq_false (by omega)
         have z8 : (!decide (S % 2 = 0)) = true := by rw [decide_eq_false (fun h => hr ⟨hr0, h⟩)]; rfl
         refine xr [(1, [1])] [(116, .bool (decide ((((List.length ds) : Nat) : Int) > 1)))] ?_
         refine xst y1 ?_
         refine xg ?_
         refine xn 4 [(1, [0]), (3, [1])] [(121, .int .i64 ee), (119, .agg #[.int .u64 (hiI z2), .int .u64 (loI z2)]), (118, .int .i64 z1)] ?_
         refine xve 122 IntKind.i64 (IntKind.wrap IntKind.i64 (ee + 1)) (ee + 1) vE ?_
         (refine xck 123 c2 zs0 (fun zz => ?_); obtain ⟨⟨z20, z21⟩, ⟨⟨z22, z23⟩, ⟨⟨z24, z25⟩, ⟨z26, z27⟩⟩⟩⟩ := zz)
         refine xz [] [(18, .slice z26 (List.length (ofN B64 Ux)) z27), (16, .slice z22 (List.length (ofN B64 Hx)) z23), (15, .slice z20 (List.length (ofN B64 Lx)) z21)] ?_
         refine xg ?_
         refine xn 2 [] [(130, .slice z26 (List.length (ofN B64 Ux)) z27), (129, .slice z20 (List.length (ofN B64 Lx)) z21)] ?_
         (refine xck 131 (cDv _ _ _ _) (zsS zi0 (zsS (ziS (ziS (ziS zi0))) zs0)) (fun zz => ?_); obtain ⟨⟨z28, z29⟩, ⟨z30, z31⟩⟩ := zz)
         refine xz [] [(20, .slice z30 (List.length (ofN B64 (Lx % Ux))) z31), (19, .slice z28 (List.length (ofN B64 (Lx / Ux))) z29)] ?_
         refine xg ?_
         refine xn 2 [] [(136, .slice z26 (List.length (ofN B64 Ux)) z27), (135, .slice z28 (List.length (ofN B64 (Lx / Ux))) z29)] ?_
         refine xcr 137 (cM1 _ _ _ _) (zsS zi0 (zsS (ziS (ziS (ziS (ziS (ziS zi0))))) zs0)) (fun A9 k9 => ?_)
         refine xz [] [(22, .slice A9 (List.length (ofN B64 (Lx / Ux * Ux))) k9)] ?_
         refine SW_seq ?_
         refine xg ?_
         refine xn 4 [] [(141, .bool (decide ((((List.length (ofN B64 (Lx % Ux))) : Nat) : Int) > 0)))] ?_
         refine xkf 141 z9 ?_
         refine xz [] [(144, .bool !decide (S % 2 = 0))] ?_
         refine xst z8 ?_
         refine SW_region ?_
         refine xn 1 [] [(145, .slice z28 (List.length (ofN B64 (Lx / Ux))) z29)] ?_
         refine xbl 146 [.int .u64 1] 26 1 (fun g5 => ?_)
         refine NW_fz 2 1 g5 IntKind.u64 [1] [] 26 (by simp) (by simp) ?_
         refine xcr 147 (cA2 _ _ _ _) (zsS (ziS (ziS zi0)) (zsS zi0 zs0)) (fun A10 k10 => ?_)
         refine xn 4 [] [(148, .slice z26 (List.length (ofN B64 Ux)) z27)] ?_
         refine xcr 149 (cM2 _ _ _ _) (zsS zi0 (zsS (ziS (ziS (ziS (ziS (ziS (ziS (ziS (ziS zi0)))))))) zs0)) (fun A11 k11 => ?_)
         refine xz [] [(22, .slice A11 (List.length (ofN B64 ((Lx / Ux + 1) * Ux))) k11)] ?_
         refine xg ?_
         refine xn 4 [] [(153, .bool (decide (S % 2 = 0))), (152, .slice z22 (List.length (ofN B64 Hx)) z23), (151, .slice z20 (List.length (ofN B64 Lx)) z21), (150, .slice A11 (List.length (ofN B64 ((Lx / Ux + 1) * Ux))) k11)] ?_
         refine xcv 154 (cW _ _ _ _ _ _) (zsS zi0 (zsS (ziS (ziS (ziS (ziS (ziS (ziS zi0)))))) (zsS (ziS (ziS (ziS (ziS (ziS (ziS (ziS zi0))))))) zs0))) ?_
         refine xz [] [] ?_
         refine xs0 ?_
         refine SW_skip ?_
         exact xw2 [true, true] (zsS (ziS (ziS (ziS (ziS (ziS (ziS (ziS (ziS (ziS (ziS zi0)))))))))) (zsS (ziS (ziS (ziS (ziS (ziS (ziS (ziS (ziS (ziS (ziS (ziS zi0))))))))))) (zsS (ziS (ziS (ziS (ziS (ziS (ziS (ziS (ziS (ziS (ziS (ziS (ziS zi0)))))))))))) (zsS (ziS (ziS (ziS (ziS (ziS (ziS (ziS (ziS (ziS (ziS (ziS (ziS (ziS zi0))))))))))))) (zsS (ziS (ziS (ziS (ziS (ziS (ziS (ziS (ziS (ziS (ziS (ziS (ziS (ziS (ziS zi0)))))))))))))) (zsS (ziS (ziS (ziS (ziS (ziS (ziS (ziS (ziS (ziS (ziS (ziS (ziS (ziS (ziS (ziS zi0))))))))))))))) (zsS (ziS (ziS (ziS (ziS (ziS (ziS (ziS (ziS (ziS (ziS (ziS (ziS (ziS (ziS (ziS (ziS zi0)))))))))))))))) zs0)))))))
        ·have e0 : ¬ (ofN B64 (Lx % Ux)).length = 0 := fun h => hr0 ((ofN_zero B64_2 _).1 h)
         have z9 : decide (((ofN B64 (Lx % Ux)).length : Int) > 0) = true := decide_eq_true (by omega)
         refine xr [(1, [1])] [(116, .bool (decide ((((List.length ds) : Nat) : Int) > 1)))] ?_
         refine xst y1 ?_
         refine xg ?_
         refine xn 4 [(1, [0]), (3, [1])] [(121, .int .i64 ee), (119, .agg #[.int .u64 (hiI z2), .int .u64 (loI z2)]), (118, .int .i64 z1)] ?_
         refine xve 122 IntKind.i64 (IntKind.wrap IntKind.i64 (ee + 1)) (ee + 1) vE ?_
         (refine xck 123 c2 zs0 (fun zz => ?_); obtain ⟨⟨z20, z21⟩, ⟨⟨z22, z23⟩, ⟨⟨z24, z25⟩, ⟨z26, z27⟩⟩⟩⟩ := zz)
         refine xz [] [(18, .slice z26 (List.length (ofN B64 Ux)) z27), (16, .slice z22 (List.length (ofN B64 Hx)) z23), (15, .slice z20 (List.length (ofN B64 Lx)) z21)] ?_
         refine xg ?_
         refine xn 2 [] [(130, .slice z26 (List.length (ofN B64 Ux)) z27), (129, .slice z20 (List.length (ofN B64 Lx)) z21)] ?_
         (refine xck 131 (cDv _ _ _ _) (zsS zi0 (zsS (ziS (ziS (ziS zi0))) zs0)) (fun zz => ?_); obtain ⟨⟨z28, z29⟩, ⟨z30, z31⟩⟩ := zz)
         refine xz [] [(20, .slice z30 (List.length (ofN B64 (Lx % Ux))) z31), (19, .slice z28 (List.length (ofN B64 (Lx / Ux))) z29)] ?_
         refine xg ?_
         refine xn 2 [] [(136, .slice z26 (List.length (ofN B64 Ux)) z27), (135, .slice z28 (List.length (ofN B64 (Lx / Ux))) z29)] ?_
         refine xcr 137 (cM1 _ _ _ _) (zsS zi0 (zsS (ziS (ziS (ziS (ziS (ziS zi0))))) zs0)) (fun A9 k9 => ?_)
         refine xz [] [(22, .slice A9 (List.length (ofN B64 (Lx / Ux * Ux))) k9)] ?_
         refine SW_seq ?_
         refine xg ?_
         refine xn 4 [] [(141, .bool (decide ((((List.length (ofN B64 (Lx % Ux))) : Nat) : Int) > 0)))] ?_
         refine xkt 141 z9 ?_
         refine xz [] [(144, .bool true)] ?_
         refine xs1 ?_
         refine SW_region ?_
         refine xn 1 [] [(145, .slice z28 (List.length (ofN B64 (Lx / Ux))) z29)] ?_
         refine xbl 146 [.int .u64 1] 26 1 (fun g5 => ?_)
         refine NW_fz 2 1 g5 IntKind.u64 [1] [] 26 (by simp) (by simp) ?_
         refine xcr 147 (cA2 _ _ _ _) (zsS (ziS (ziS zi0)) (zsS zi0 zs0)) (fun A10 k10 => ?_)
         refine xn 4 [] [(148, .slice z26 (List.length (ofN B64 Ux)) z27)] ?_
         refine xcr 149 (cM2 _ _ _ _) (zsS zi0 (zsS (ziS (ziS (ziS (ziS (ziS (ziS (ziS (ziS zi0)))))))) zs0)) (fun A11 k11 => ?_)
         refine xz [] [(22, .slice A11 (List.length (ofN B64 ((Lx / Ux + 1) * Ux))) k11)] ?_
         refine xg ?_
         refine xn 4 [] [(153, .bool (decide (S % 2 = 0))), (152, .slice z22 (List.length (ofN B64 Hx)) z23), (151, .slice z20 (List.length (ofN B64 Lx)) z21), (150, .slice A11 (List.length (ofN B64 ((Lx / Ux + 1) * Ux))) k11)] ?_
         refine xcv 154 (cW _ _ _ _ _ _) (zsS zi0 (zsS (ziS (ziS (ziS (ziS (ziS (ziS zi0)))))) (zsS (ziS (ziS (ziS (ziS (ziS (ziS (ziS zi0))))))) zs0))) ?_
         refine xz [] [] ?_
         refine xs0 ?_
         refine SW_skip ?_
         exact xw2 [true, true] (zsS (ziS (ziS (ziS (ziS (ziS (ziS (ziS (ziS (ziS (ziS zi0)))))))))) (zsS (ziS (ziS (ziS (ziS (ziS (ziS (ziS (ziS (ziS (ziS (ziS zi0))))))))))) (zsS (ziS (ziS (ziS (ziS (ziS (ziS (ziS (ziS (ziS (ziS (ziS (ziS zi0)))))))))))) (zsS (ziS (ziS (ziS (ziS (ziS (ziS (ziS (ziS (ziS (ziS (ziS (ziS (ziS zi0))))))))))))) (zsS (ziS (ziS (ziS (ziS (ziS (ziS (ziS (ziS (ziS (ziS (ziS (ziS (ziS (ziS zi0)))))))))))))) (zsS (ziS (ziS (ziS (ziS (ziS (ziS (ziS (ziS (ziS (ziS (ziS (ziS (ziS (ziS (ziS zi0))))))))))))))) (zsS (ziS (ziS (ziS (ziS (ziS (ziS (ziS (ziS (ziS (ziS (ziS (ziS (ziS (ziS (ziS (ziS zi0)))))))))))))))) zs0)))))))
      ·have y1 : decide ((ds.length : Int) > 1) = false := decide_eq_false (by omega)
       refine xr [(1, [1])] [(116, .bool (decide ((((List.length ds) : Nat) : Int) > 1)))] ?_
       refine xsf y1 ?_
       refine SW_skip ?_
       exact xw2 [true, true] (zsS zi0 (zsS (ziS zi0) (zsS (ziS (ziS zi0)) (zsS (ziS (ziS (ziS zi0))) (zsS (ziS (ziS (ziS (ziS zi0)))) (zsS (ziS (ziS (ziS (ziS (ziS zi0))))) (zsS (ziS (ziS (ziS (ziS (ziS (ziS zi0)))))) zs0)))))))
     refine SW_weak2 hw ?_
     clear hw c2
     have cS1 : ∀ (A8 : Option Addr) (c8 : Nat) (A9 : Option Addr) (c9 : Nat), CtRV Tryd.prog 35 [.slice A8 (ofN B64 n).length c8, .slice A9 1 c9] [Row .u64 A8 c8 (ofN B64 n), Row .u64 A9 c9 [1]] .u64 (ofN B64 (n - 1)) (.bool true) := fun A8 c8 A9 c9 => ct_spec_NatSub_fr n 1 (ofN B64 n) [1] fn f1 (by omega) A8 A9 c8 c9
     have cA1 : ∀ (A8 : Option Addr) (c8 : Nat) (A9 : Option Addr) (c9 : Nat), CtR Tryd.prog 34 [.slice A8 (ofN B64 n).length c8, .slice A9 1 c9] [Row .u64 A8 c8 (ofN B64 n), Row .u64 A9 c9 [1]] .u64 (ofN B64 (n + 1)) := fun A8 c8 A9 c9 => ct_spec_NatAdd_rows (ofN B64 n) [1] n 1 fn f1 A8 A9 c8 c9
     have hlen1 : 0 < (ofN B64 n).length := by
      rcases Nat.eq_zero_or_pos (ofN B64 n).length with h9 | h9
      ·have h8 := (ofN_zero B64_2 n).1 h9
       omega
      ·exact h9
     refine SW_know (ziS zi0) (fun w h => row_at h hlen1) (fun ⟨ad7, e7⟩ => ?_)
     subst e7
     have v5 : Ve (rd (ofN B64 n) ((0 : Nat) : Int)) ((n % B64 : Nat) : Int) := ⟨by rw [rd_limb, Nat.pow_zero, Nat.div_one]⟩
     have v6 : Ve (Int.tmod ((n % B64 : Nat) : Int) 2) ((n % B64 % 2 : Nat) : Int) := ⟨tmod_nat _ 2⟩
     have e6 : n % B64 % 2 = n % 2 := Nat.mod_mod_of_dvd _ (by decide)
     have bV : ∀ m, m ≤ n + 1 → m * U9 < 2 ^ (136 + M7) := fun m hm => mul_lt2 (by omega) bA.2
     have fV : ∀ m, m ≤ n + 1 → Fr (ofN B64 (m * U9)) (m * U9) := fun m hm => Fr.of (bV m hm) (by omega)
     have fF : ∀ m, m ≤ n + 1 → Fr (ofN B64 (farN M9 U9 m)) (farN M9 U9 m) := fun m hm => Fr.of (far_lt (bV m hm) (Nat.lt_of_lt_of_le bC (Nat.pow_le_pow_right (by decide) (by omega)))) (show 136 + M7 ≤ 76800 by omega)
     have cF0 := fun A A' c c' => ct_laws_apart_far n U9 M9 (fV n (by omega)) fM A A' c c'
     have fv1 := Fr.of (show n - 1 < 2 ^ 135 by omega) (by decide)
     have fv2 := Fr.of (show n + 1 < 2 ^ 136 by omega) (by decide)
     have cm1 := fun A A' c c' => ct_spec_NatMul_rows (ofN B64 (n - 1)) (ofN B64 U9) (n - 1) U9 fv1 fU (fV (n - 1) (by omega)).sm A A' c c'
     have cm2 := fun A A' c c' => ct_spec_NatMul_rows (ofN B64 (n + 1)) (ofN B64 U9) (n + 1) U9 fv2 fU (fV (n + 1) (by omega)).sm A A' c c'
     refine xg ?_
     refine xn 1 [] [(156, .slice (some ad7) (List.length (ofN B64 n)) c7)] ?_
     refine xbl 157 [.int .u64 1] 26 1 (fun g5 => ?_)
     refine NW_fz 2 1 g5 IntKind.u64 [1] [] 26 (by simp) (by simp) ?_
     refine xct 158 (cS1 _ _ _ _) (zsS (ziS (ziS zi0)) (zsS zi0 zs0)) (fun A9 k9 => ?_)
     refine xz [] [(23, .slice A9 (List.length (ofN B64 (n - 1))) k9)] ?_
     refine SW_seq ?_
     refine xg ?_
     refine xn 2 [] [(162, .slice (some ad7) (List.length (ofN B64 n)) c7), (161, .slice A9 (List.length (ofN B64 (n - 1))) k9)] ?_
     refine xbl 163 [.int .u64 1] 26 1 (fun g6 => ?_)
     refine NW_fz 2 1 g6 IntKind.u64 [1] [] 26 (by simp) (by simp) ?_
     refine xcr 164 (cA1 _ _ _ _) (zsS (ziS (ziS (ziS (ziS zi0)))) (zsS zi0 zs0)) (fun A10 k10 => ?_)
     refine xbl 165 [.slice A9 (List.length (ofN B64 (n - 1))) k9, .slice A10 (List.length (ofN B64 (n + 1))) k10] 23 2 (fun g7 => ?_)
     refine xz [] [(167, .int .i64 0), (166, .int .i64 2)] ?_
     refine SW_block ?_
     refine SW_unroll ?_
     refine LW_step ?_
     refine xr [] [(168, .bool true)] ?_
     refine SW_seq ?_
     refine xs1 ?_
     refine SW_skip ?_
     refine SW_cut (fun s' => Weak2 s' ⟨[(167, .int .i64 0), (166, .int .i64 2), (165, .slice (some ⟨g7, 0, none⟩) 2 2), (3, .int .i64 z1), (4, .pointer (some ⟨g0, 0, none⟩)), (6, .pointer (some ⟨g4, 0, none⟩)), (7, .slice (some ad7) (ofN B64 n).length c7), (9, .bool (decide (S % 2 = 0))), (10, .slice A1 (ofN B64 L9).length c1'), (11, .slice A2 (ofN B64 H9).length c2'), (12, .slice A3 (ofN B64 M9).length c3'), (13, .slice A4 (ofN B64 U9).length c4'), (14, .slice A5 (ofN B64 (n * U9)).length c5')], [⟨g0, [.int .u64 (hiI z2), .int .u64 (loI z2)], 28⟩, ⟨g7, [.slice A9 (ofN B64 (n - 1)).length k9, .slice A10 (ofN B64 (n + 1)).length k10], 23⟩], [Row .u64 A10 k10 (ofN B64 (n + 1)), Row .u64 A9 k9 (ofN B64 (n - 1)), Row .u64 (some ad7) c7 (ofN B64 n), Row .u64 A1 c1' (ofN B64 L9), Row .u64 A2 c2' (ofN B64 H9), Row .u64 A3 c3' (ofN B64 M9), Row .u64 A4 c4' (ofN B64 U9), Row .u64 A5 c5' (ofN B64 (n * U9))]⟩) ?_ (fun s' hw => ?_)
     ·by_cases hi : inJ (decide (S % 2 = 0)) L9 H9 ((n - 1) * U9) = true
      ·have cW := fun A A2 A3 c c2 c3 => ct_laws_within ((n - 1) * U9) L9 H9 (decide (S % 2 = 0)) A A2 A3 c c2 c3 (fV (n - 1) (by omega)) fL fH true hi
       have cF := fun A A' c c' => ct_laws_apart_far (n - 1) U9 M9 (fV (n - 1) (by omega)) fM A A' c c'
       have cC := fun A A' c c' => ct_spec_NatCmp_rows (ofN B64 (farN M9 U9 n)) (ofN B64 (farN M9 U9 (n - 1))) _ _ (fF n (by omega)) (fF (n - 1) (by omega)) A A' c c'
       obtain ⟨e1, e2⟩ := near (n - 1) (.inl rfl) hi
       by_cases e3 : (cmpN (farN M9 U9 n) (farN M9 U9 (n - 1)) == 0) = true
       ·have e4 : n % 2 = 0 := by
         rcases e2 with e2 | e2
         ·rw [e2] at e3
          exact absurd e3 (by decide)
         ·exact e2
        have z5 : (((n % B64 % 2 : Nat) : Int) == 1) = false := by rw [e6, e4]; rfl
        refine SW_block ?_
        refine xr [(1, [2])] [(26, .slice A9 (List.length (ofN B64 (n - 1))) k9)] ?_
        refine xg ?_
        refine xn 2 [] [(172, .slice A4 (List.length (ofN B64 U9)) c4'), (171, .slice A9 (List.length (ofN B64 (n - 1))) k9)] ?_
        refine xcr 173 (cm1 _ _ _ _) (zsS (ziS (ziS zi0)) (zsS (ziS (ziS (ziS (ziS (ziS (ziS (ziS (ziS (ziS zi0))))))))) zs0)) (fun A11 k11 => ?_)
        refine xz [] [(27, .slice A11 (List.length (ofN B64 ((n - 1) * U9))) k11)] ?_
        refine SW_seq ?_
        refine xg ?_
        refine xn 4 [] [(177, .bool (decide (S % 2 = 0))), (176, .slice A2 (List.length (ofN B64 H9)) c2'), (175, .slice A1 (List.length (ofN B64 L9)) c1'), (174, .slice A11 (List.length (ofN B64 ((n - 1) * U9))) k11)] ?_
        refine xcv 178 (cW _ _ _ _ _ _) (zsS zi0 (zsS (ziS (ziS (ziS (ziS (ziS (ziS (ziS zi0))))))) (zsS (ziS (ziS (ziS (ziS (ziS (ziS (ziS (ziS zi0)))))))) zs0))) ?_
        refine xz [] [(179, .bool false)] ?_
        refine xs0 ?_
        refine SW_skip ?_
        refine xg ?_
        refine xn 2 [] [(181, .slice A3 (List.length (ofN B64 M9)) c3'), (180, .slice A5 (List.length (ofN B64 (n * U9))) c5')] ?_
        refine xcr 182 (cF0 _ _ _ _) (zsS (ziS (ziS (ziS (ziS (ziS (ziS (ziS (ziS (ziS (ziS (ziS zi0))))))))))) (zsS (ziS (ziS (ziS (ziS (ziS (ziS (ziS (ziS (ziS zi0))))))))) zs0)) (fun A12 k12 => ?_)
        refine xn 5 [] [(184, .slice A3 (List.length (ofN B64 M9)) c3'), (183, .slice A11 (List.length (ofN B64 ((n - 1) * U9))) k11)] ?_
        refine xcr 185 (cF _ _ _ _) (zsS (ziS zi0) (zsS (ziS (ziS (ziS (ziS (ziS (ziS (ziS (ziS (ziS (ziS zi0)))))))))) zs0)) (fun A13 k13 => ?_)
        refine xcv 186 (cC _ _ _ _) (zsS (ziS zi0) (zsS zi0 zs0)) ?_
        refine xz [] [(28, .int .i64 (cmpN (farN M9 U9 n) (farN M9 U9 (n - 1))))] ?_
        refine xg ?_
        refine xn 3 [] [(189, .bool (cmpN (farN M9 U9 n) (farN M9 U9 (n - 1)) == 1))] ?_
        refine xkf 189 e1 ?_
        refine xn 6 [] [(192, .bool (cmpN (farN M9 U9 n) (farN M9 U9 (n - 1)) == 0))] ?_
        refine xkt 192 e3 ?_
        refine xn 7 [] [(193, .slice (some ad7) (List.length (ofN B64 n)) c7)] ?_
        refine xfi 194 26 (ad7) (List.length (ofN B64 n)) (c7) 0 IntKind.i64 (0) ⟨rfl⟩ (by omega) ?_
        refine xfle 195 (ziS (ziS (ziS (ziS (ziS (ziS (ziS (ziS zi0)))))))) (0) ((((n % B64) : Nat) : Int)) v5 (by omega) ?_
        refine xve 196 IntKind.u64 (Int.tmod (((n % B64) : Nat) : Int) 2) ((((n % B64 % 2) : Nat) : Int)) v6 ?_
        refine xz [] [(199, .bool ((((n % B64 % 2) : Nat) : Int) == 1))] ?_
        refine xsf z5 ?_
        refine SW_skip ?_
        exact xw2 [true, false, true] (zsS (ziS (ziS (ziS zi0))) (zsS (ziS (ziS (ziS (ziS (ziS zi0))))) (zsS (ziS (ziS (ziS (ziS (ziS (ziS (ziS (ziS zi0)))))))) (zsS (ziS (ziS (ziS (ziS (ziS (ziS (ziS (ziS (ziS zi0))))))))) (zsS (ziS (ziS (ziS (ziS (ziS (ziS (ziS (ziS (ziS (ziS zi0)))))))))) (zsS (ziS (ziS (ziS (ziS (ziS (ziS (ziS (ziS (ziS (ziS (ziS zi0))))))))))) (zsS (ziS (ziS (ziS (ziS (ziS (ziS (ziS (ziS (ziS (ziS (ziS (ziS zi0)))))))))))) (zsS (ziS (ziS (ziS (ziS (ziS (ziS (ziS (ziS (ziS (ziS (ziS (ziS (ziS zi0))))))))))))) zs0))))))))
       ·have z5 : (cmpN (farN M9 U9 n) (farN M9 U9 (n - 1)) == 0) = false := by rw [Bool.eq_false_iff]; exact e3
        refine SW_block ?_
        refine xr [(1, [2])] [(26, .slice A9 (List.length (ofN B64 (n - 1))) k9)] ?_
        refine xg ?_
        refine xn 2 [] [(172, .slice A4 (List.length (ofN B64 U9)) c4'), (171, .slice A9 (List.length (ofN B64 (n - 1))) k9)] ?_
        refine xcr 173 (cm1 _ _ _ _) (zsS (ziS (ziS zi0)) (zsS (ziS (ziS (ziS (ziS (ziS (ziS (ziS (ziS (ziS zi0))))))))) zs0)) (fun A11 k11 => ?_)
        refine xz [] [(27, .slice A11 (List.length (ofN B64 ((n - 1) * U9))) k11)] ?_
        refine SW_seq ?_
        refine xg ?_
        refine xn 4 [] [(177, .bool (decide (S % 2 = 0))), (176, .slice A2 (List.length (ofN B64 H9)) c2'), (175, .slice A1 (List.length (ofN B64 L9)) c1'), (174, .slice A11 (List.length (ofN B64 ((n - 1) * U9))) k11)] ?_
        refine xcv 178 (cW _ _ _ _ _ _) (zsS zi0 (zsS (ziS (ziS (ziS (ziS (ziS (ziS (ziS zi0))))))) (zsS (ziS (ziS (ziS (ziS (ziS (ziS (ziS (ziS zi0)))))))) zs0))) ?_
        refine xz [] [(179, .bool false)] ?_
        refine xs0 ?_
        refine SW_skip ?_
        refine xg ?_
        refine xn 2 [] [(181, .slice A3 (List.length (ofN B64 M9)) c3'), (180, .slice A5 (List.length (ofN B64 (n * U9))) c5')] ?_
        refine xcr 182 (cF0 _ _ _ _) (zsS (ziS (ziS (ziS (ziS (ziS (ziS (ziS (ziS (ziS (ziS (ziS zi0))))))))))) (zsS (ziS (ziS (ziS (ziS (ziS (ziS (ziS (ziS (ziS zi0))))))))) zs0)) (fun A12 k12 => ?_)
        refine xn 5 [] [(184, .slice A3 (List.length (ofN B64 M9)) c3'), (183, .slice A11 (List.length (ofN B64 ((n - 1) * U9))) k11)] ?_
        refine xcr 185 (cF _ _ _ _) (zsS (ziS zi0) (zsS (ziS (ziS (ziS (ziS (ziS (ziS (ziS (ziS (ziS (ziS zi0)))))))))) zs0)) (fun A13 k13 => ?_)
        refine xcv 186 (cC _ _ _ _) (zsS (ziS zi0) (zsS zi0 zs0)) ?_
        refine xz [] [(28, .int .i64 (cmpN (farN M9 U9 n) (farN M9 U9 (n - 1))))] ?_
        refine xg ?_
        refine xn 3 [] [(189, .bool (cmpN (farN M9 U9 n) (farN M9 U9 (n - 1)) == 1))] ?_
        refine xkf 189 e1 ?_
        refine xn 6 [] [(192, .bool (cmpN (farN M9 U9 n) (farN M9 U9 (n - 1)) == 0))] ?_
        refine xkf 192 z5 ?_
        refine xz [] [(199, .bool false)] ?_
        refine xs0 ?_
        refine SW_skip ?_
        exact xw2 [true, false, true] (zsS (ziS (ziS (ziS zi0))) (zsS (ziS (ziS (ziS (ziS (ziS zi0))))) (zsS (ziS (ziS (ziS (ziS (ziS (ziS (ziS (ziS zi0)))))))) (zsS (ziS (ziS (ziS (ziS (ziS (ziS (ziS (ziS (ziS zi0))))))))) (zsS (ziS (ziS (ziS (ziS (ziS (ziS (ziS (ziS (ziS (ziS zi0)))))))))) (zsS (ziS (ziS (ziS (ziS (ziS (ziS (ziS (ziS (ziS (ziS (ziS zi0))))))))))) (zsS (ziS (ziS (ziS (ziS (ziS (ziS (ziS (ziS (ziS (ziS (ziS (ziS zi0)))))))))))) (zsS (ziS (ziS (ziS (ziS (ziS (ziS (ziS (ziS (ziS (ziS (ziS (ziS (ziS zi0))))))))))))) zs0))))))))
      ·have cW := fun A A2 A3 c c2 c3 => ct_laws_within ((n - 1) * U9) L9 H9 (decide (S % 2 = 0)) A A2 A3 c c2 c3 (fV (n - 1) (by omega)) fL fH false (by rw [Bool.eq_false_iff]; exact hi)
       refine SW_block ?_
       refine xr [(1, [2])] [(26, .slice A9 (List.length (ofN B64 (n - 1))) k9)] ?_
       refine xg ?_
       refine xn 2 [] [(172, .slice A4 (List.length (ofN B64 U9)) c4'), (171, .slice A9 (List.length (ofN B64 (n - 1))) k9)] ?_
       refine xcr 173 (cm1 _ _ _ _) (zsS (ziS (ziS zi0)) (zsS (ziS (ziS (ziS (ziS (ziS (ziS (ziS (ziS (ziS zi0))))))))) zs0)) (fun A11 k11 => ?_)
       refine xz [] [(27, .slice A11 (List.length (ofN B64 ((n - 1) * U9))) k11)] ?_
       refine SW_seq ?_
       refine xg ?_
       refine xn 4 [] [(177, .bool (decide (S % 2 = 0))), (176, .slice A2 (List.length (ofN B64 H9)) c2'), (175, .slice A1 (List.length (ofN B64 L9)) c1'), (174, .slice A11 (List.length (ofN B64 ((n - 1) * U9))) k11)] ?_
       refine xcv 178 (cW _ _ _ _ _ _) (zsS zi0 (zsS (ziS (ziS (ziS (ziS (ziS (ziS (ziS zi0))))))) (zsS (ziS (ziS (ziS (ziS (ziS (ziS (ziS (ziS zi0)))))))) zs0))) ?_
       refine xz [] [(179, .bool true)] ?_
       refine xs1 ?_
       refine SW_exit ?_
       exact xw2 [true, false, true] (zsS (ziS zi0) (zsS (ziS (ziS (ziS zi0))) (zsS (ziS (ziS (ziS (ziS (ziS (ziS zi0)))))) (zsS (ziS (ziS (ziS (ziS (ziS (ziS (ziS zi0))))))) (zsS (ziS (ziS (ziS (ziS (ziS (ziS (ziS (ziS zi0)))))))) (zsS (ziS (ziS (ziS (ziS (ziS (ziS (ziS (ziS (ziS zi0))))))))) (zsS (ziS (ziS (ziS (ziS (ziS (ziS (ziS (ziS (ziS (ziS zi0)))))))))) (zsS (ziS (ziS (ziS (ziS (ziS (ziS (ziS (ziS (ziS (ziS (ziS zi0))))))))))) zs0))))))))
     refine SW_weak2 hw ?_
     clear hw
     refine xrl [] [(167, .int .i64 1)] ?_
     refine LW_step ?_
     refine xr [] [(168, .bool true)] ?_
     refine SW_seq ?_
     refine xs1 ?_
     refine SW_skip ?_
     refine SW_cut (fun s' => Weak2 s' ⟨[(167, .int .i64 1), (166, .int .i64 2), (165, .slice (some ⟨g7, 0, none⟩) 2 2), (3, .int .i64 z1), (4, .pointer (some ⟨g0, 0, none⟩)), (6, .pointer (some ⟨g4, 0, none⟩)), (7, .slice (some ad7) (ofN B64 n).length c7), (9, .bool (decide (S % 2 = 0))), (10, .slice A1 (ofN B64 L9).length c1'), (11, .slice A2 (ofN B64 H9).length c2'), (12, .slice A3 (ofN B64 M9).length c3'), (13, .slice A4 (ofN B64 U9).length c4'), (14, .slice A5 (ofN B64 (n * U9)).length c5')], [⟨g0, [.int .u64 (hiI z2), .int .u64 (loI z2)], 28⟩, ⟨g7, [.slice A9 (ofN B64 (n - 1)).length k9, .slice A10 (ofN B64 (n + 1)).length k10], 23⟩], [Row .u64 A10 k10 (ofN B64 (n + 1)), Row .u64 A9 k9 (ofN B64 (n - 1)), Row .u64 (some ad7) c7 (ofN B64 n), Row .u64 A1 c1' (ofN B64 L9), Row .u64 A2 c2' (ofN B64 H9), Row .u64 A3 c3' (ofN B64 M9), Row .u64 A4 c4' (ofN B64 U9), Row .u64 A5 c5' (ofN B64 (n * U9))]⟩) ?_ (fun s' hw => ?_)
     ·by_cases hi : inJ (decide (S % 2 = 0)) L9 H9 ((n + 1) * U9) = true
      ·have cW := fun A A2 A3 c c2 c3 => ct_laws_within ((n + 1) * U9) L9 H9 (decide (S % 2 = 0)) A A2 A3 c c2 c3 (fV (n + 1) (by omega)) fL fH true hi
       have cF := fun A A' c c' => ct_laws_apart_far (n + 1) U9 M9 (fV (n + 1) (by omega)) fM A A' c c'
       have cC := fun A A' c c' => ct_spec_NatCmp_rows (ofN B64 (farN M9 U9 n)) (ofN B64 (farN M9 U9 (n + 1))) _ _ (fF n (by omega)) (fF (n + 1) (by omega)) A A' c c'
       obtain ⟨e1, e2⟩ := near (n + 1) (.inr rfl) hi
       by_cases e3 : (cmpN (farN M9 U9 n) (farN M9 U9 (n + 1)) == 0) = true
       ·have e4 : n % 2 = 0 := by
         rcases e2 with e2 | e2
         ·rw [e2] at e3
          exact absurd e3 (by decide)
         ·exact e2
        have z5 : (((n % B64 % 2 : Nat) : Int) == 1) = false := by rw [e6, e4]; rfl
        refine SW_block ?_
        refine xr [(1, [1])] [(26, .slice A10 (List.length (ofN B64 (n + 1))) k10)] ?_
        refine xg ?_
        refine xn 2 [] [(172, .slice A4 (List.length (ofN B64 U9)) c4'), (171, .slice A10 (List.length (ofN B64 (n + 1))) k10)] ?_
        refine xcr 173 (cm2 _ _ _ _) (zsS zi0 (zsS (ziS (ziS (ziS (ziS (ziS (ziS zi0)))))) zs0)) (fun A11 k11 => ?_)
        refine xz [] [(27, .slice A11 (List.length (ofN B64 ((n + 1) * U9))) k11)] ?_
        refine SW_seq ?_
        refine xg ?_
        refine xn 4 [] [(177, .bool (decide (S % 2 = 0))), (176, .slice A2 (List.length (ofN B64 H9)) c2'), (175, .slice A1 (List.length (ofN B64 L9)) c1'), (174, .slice A11 (List.length (ofN B64 ((n + 1) * U9))) k11)] ?_
        refine xcv 178 (cW _ _ _ _ _ _) (zsS zi0 (zsS (ziS (ziS (ziS (ziS zi0)))) (zsS (ziS (ziS (ziS (ziS (ziS zi0))))) zs0))) ?_
        refine xz [] [(179, .bool false)] ?_
        refine xs0 ?_
        refine SW_skip ?_
        refine xg ?_
        refine xn 2 [] [(181, .slice A3 (List.length (ofN B64 M9)) c3'), (180, .slice A5 (List.length (ofN B64 (n * U9))) c5')] ?_
        refine xcr 182 (cF0 _ _ _ _) (zsS (ziS (ziS (ziS (ziS (ziS (ziS (ziS (ziS zi0)))))))) (zsS (ziS (ziS (ziS (ziS (ziS (ziS zi0)))))) zs0)) (fun A12 k12 => ?_)
        refine xn 5 [] [(184, .slice A3 (List.length (ofN B64 M9)) c3'), (183, .slice A11 (List.length (ofN B64 ((n + 1) * U9))) k11)] ?_
        refine xcr 185 (cF _ _ _ _) (zsS (ziS zi0) (zsS (ziS (ziS (ziS (ziS (ziS (ziS (ziS zi0))))))) zs0)) (fun A13 k13 => ?_)
        refine xcv 186 (cC _ _ _ _) (zsS (ziS zi0) (zsS zi0 zs0)) ?_
        refine xz [] [(28, .int .i64 (cmpN (farN M9 U9 n) (farN M9 U9 (n + 1))))] ?_
        refine xg ?_
        refine xn 3 [] [(189, .bool (cmpN (farN M9 U9 n) (farN M9 U9 (n + 1)) == 1))] ?_
        refine xkf 189 e1 ?_
        refine xn 6 [] [(192, .bool (cmpN (farN M9 U9 n) (farN M9 U9 (n + 1)) == 0))] ?_
        refine xkt 192 e3 ?_
        refine xn 7 [] [(193, .slice (some ad7) (List.length (ofN B64 n)) c7)] ?_
        refine xfi 194 26 (ad7) (List.length (ofN B64 n)) (c7) 0 IntKind.i64 (0) ⟨rfl⟩ (by omega) ?_
        refine xfle 195 (ziS (ziS (ziS (ziS (ziS zi0))))) (0) ((((n % B64) : Nat) : Int)) v5 (by omega) ?_
        refine xve 196 IntKind.u64 (Int.tmod (((n % B64) : Nat) : Int) 2) ((((n % B64 % 2) : Nat) : Int)) v6 ?_
        refine xz [] [(199, .bool ((((n % B64 % 2) : Nat) : Int) == 1))] ?_
        refine xsf z5 ?_
        refine SW_skip ?_
        exact xw2 [true, true] (zsS (ziS (ziS (ziS zi0))) (zsS (ziS (ziS (ziS (ziS zi0)))) (zsS (ziS (ziS (ziS (ziS (ziS zi0))))) (zsS (ziS (ziS (ziS (ziS (ziS (ziS zi0)))))) (zsS (ziS (ziS (ziS (ziS (ziS (ziS (ziS zi0))))))) (zsS (ziS (ziS (ziS (ziS (ziS (ziS (ziS (ziS zi0)))))))) (zsS (ziS (ziS (ziS (ziS (ziS (ziS (ziS (ziS (ziS zi0))))))))) (zsS (ziS (ziS (ziS (ziS (ziS (ziS (ziS (ziS (ziS (ziS zi0)))))))))) zs0))))))))
       ·have z5 : (cmpN (farN M9 U9 n) (farN M9 U9 (n + 1)) == 0) = false := by rw [Bool.eq_false_iff]; exact e3
        refine SW_block ?_
        refine xr [(1, [1])] [(26, .slice A10 (List.length (ofN B64 (n + 1))) k10)] ?_
        refine xg ?_
        refine xn 2 [] [(172, .slice A4 (List.length (ofN B64 U9)) c4'), (171, .slice A10 (List.length (ofN B64 (n + 1))) k10)] ?_
        refine xcr 173 (cm2 _ _ _ _) (zsS zi0 (zsS (ziS (ziS (ziS (ziS (ziS (ziS zi0)))))) zs0)) (fun A11 k11 => ?_)
        refine xz [] [(27, .slice A11 (List.length (ofN B64 ((n + 1) * U9))) k11)] ?_
        refine SW_seq ?_
        refine xg ?_
        refine xn 4 [] [(177, .bool (decide (S % 2 = 0))), (176, .slice A2 (List.length (ofN B64 H9)) c2'), (175, .slice A1 (List.length (ofN B64 L9)) c1'), (174, .slice A11 (List.length (ofN B64 ((n + 1) * U9))) k11)] ?_
        refine xcv 178 (cW _ _ _ _ _ _) (zsS zi0 (zsS (ziS (ziS (ziS (ziS zi0)))) (zsS (ziS (ziS (ziS (ziS (ziS zi0))))) zs0))) ?_
        refine xz [] [(179, .bool false)] ?_
        refine xs0 ?_
        refine SW_skip ?_
        refine xg ?_
        refine xn 2 [] [(181, .slice A3 (List.length (ofN B64 M9)) c3'), (180, .slice A5 (List.length (ofN B64 (n * U9))) c5')] ?_
        refine xcr 182 (cF0 _ _ _ _) (zsS (ziS (ziS (ziS (ziS (ziS (ziS (ziS (ziS zi0)))))))) (zsS (ziS (ziS (ziS (ziS (ziS (ziS zi0)))))) zs0)) (fun A12 k12 => ?_)
        refine xn 5 [] [(184, .slice A3 (List.length (ofN B64 M9)) c3'), (183, .slice A11 (List.length (ofN B64 ((n + 1) * U9))) k11)] ?_
        refine xcr 185 (cF _ _ _ _) (zsS (ziS zi0) (zsS (ziS (ziS (ziS (ziS (ziS (ziS (ziS zi0))))))) zs0)) (fun A13 k13 => ?_)
        refine xcv 186 (cC _ _ _ _) (zsS (ziS zi0) (zsS zi0 zs0)) ?_
        refine xz [] [(28, .int .i64 (cmpN (farN M9 U9 n) (farN M9 U9 (n + 1))))] ?_
        refine xg ?_
        refine xn 3 [] [(189, .bool (cmpN (farN M9 U9 n) (farN M9 U9 (n + 1)) == 1))] ?_
        refine xkf 189 e1 ?_
        refine xn 6 [] [(192, .bool (cmpN (farN M9 U9 n) (farN M9 U9 (n + 1)) == 0))] ?_
        refine xkf 192 z5 ?_
        refine xz [] [(199, .bool false)] ?_
        refine xs0 ?_
        refine SW_skip ?_
        exact xw2 [true, true] (zsS (ziS (ziS (ziS zi0))) (zsS (ziS (ziS (ziS (ziS zi0)))) (zsS (ziS (ziS (ziS (ziS (ziS zi0))))) (zsS (ziS (ziS (ziS (ziS (ziS (ziS zi0)))))) (zsS (ziS (ziS (ziS (ziS (ziS (ziS (ziS zi0))))))) (zsS (ziS (ziS (ziS (ziS (ziS (ziS (ziS (ziS zi0)))))))) (zsS (ziS (ziS (ziS (ziS (ziS (ziS (ziS (ziS (ziS zi0))))))))) (zsS (ziS (ziS (ziS (ziS (ziS (ziS (ziS (ziS (ziS (ziS zi0)))))))))) zs0))))))))
      ·have cW := fun A A2 A3 c c2 c3 => ct_laws_within ((n + 1) * U9) L9 H9 (decide (S % 2 = 0)) A A2 A3 c c2 c3 (fV (n + 1) (by omega)) fL fH false (by rw [Bool.eq_false_iff]; exact hi)
       refine SW_block ?_
       refine xr [(1, [1])] [(26, .slice A10 (List.length (ofN B64 (n + 1))) k10)] ?_
       refine xg ?_
       refine xn 2 [] [(172, .slice A4 (List.length (ofN B64 U9)) c4'), (171, .slice A10 (List.length (ofN B64 (n + 1))) k10)] ?_
       refine xcr 173 (cm2 _ _ _ _) (zsS zi0 (zsS (ziS (ziS (ziS (ziS (ziS (ziS zi0)))))) zs0)) (fun A11 k11 => ?_)
       refine xz [] [(27, .slice A11 (List.length (ofN B64 ((n + 1) * U9))) k11)] ?_
       refine SW_seq ?_
       refine xg ?_
       refine xn 4 [] [(177, .bool (decide (S % 2 = 0))), (176, .slice A2 (List.length (ofN B64 H9)) c2'), (175, .slice A1 (List.length (ofN B64 L9)) c1'), (174, .slice A11 (List.length (ofN B64 ((n + 1) * U9))) k11)] ?_
       refine xcv 178 (cW _ _ _ _ _ _) (zsS zi0 (zsS (ziS (ziS (ziS (ziS zi0)))) (zsS (ziS (ziS (ziS (ziS (ziS zi0))))) zs0))) ?_
       refine xz [] [(179, .bool true)] ?_
       refine xs1 ?_
       refine SW_exit ?_
       exact xw2 [true, true] (zsS (ziS zi0) (zsS (ziS (ziS zi0)) (zsS (ziS (ziS (ziS zi0))) (zsS (ziS (ziS (ziS (ziS zi0)))) (zsS (ziS (ziS (ziS (ziS (ziS zi0))))) (zsS (ziS (ziS (ziS (ziS (ziS (ziS zi0)))))) (zsS (ziS (ziS (ziS (ziS (ziS (ziS (ziS zi0))))))) (zsS (ziS (ziS (ziS (ziS (ziS (ziS (ziS (ziS zi0)))))))) zs0))))))))
     refine SW_weak2 hw ?_
     clear hw
     refine xrl [] [(167, .int .i64 2)] ?_
     refine LW_step ?_
     refine xr [] [(168, .bool false)] ?_
     refine SW_seq ?_
     refine xs0 ?_
     refine SW_exit ?_
     refine xr [] [(2, .bool true)] ?_
     refine SW_ret ?_
     refine xe () (.bool true) [] ?_ trivial
     rfl
    ·rw [hu, prtV] at cs ci
     have hc2 : cc = 0 ∨ cc = 1 ∨ cc = 4 ∨ cc = 5 := by rcases hv with ⟨z, _⟩ | ⟨z, _⟩ | ⟨z, _⟩ | ⟨z, _⟩ <;> omega
     have ks := ct_impl_Shortest0 d hf4 _ _ cc hc2 neg _ _ _ ci
     dsimp only at cs
     have y1 : (cc != 3) = true := by rw [bne_iff_ne]; omega
     have y2 : (cc != 2) = true := by rw [bne_iff_ne]; omega
     clear noweak ci
     refine xcv 39 cs zs0 ?_
     refine xz [] [(5, .int .i64 cc)] ?_
     refine xg ?_
     refine xn 2 [(1, [0])] [(42, .agg #[.int .u64 (hiI z2), .int .u64 (loI z2)]), (41, .int .i64 z1)] ?_
     refine xcv 43 ks (zsS zi0 zs0) ?_
     refine xb 6 [.slice none 0 0, .int .i64 0, .bool false, .int .i64 0] 52 (fun g1 => ?_)
     refine xy [(4, [1])] [] [(1, [.slice none 0 0, .int .i64 0, .bool (if cc = 0 then false else neg), .int .i64 (if cc = 0 then 3 else 0)])] ?_
     refine SW_seq ?_
     refine xg ?_
     refine xn 3 [] [(46, .bool (cc != 3))] ?_
     refine xkt 46 y1 ?_
     refine xz [] [(49, .bool (cc != 2))] ?_
     refine xst y2 ?_
     refine xr [(1, [1])] [(2, .bool true)] ?_
     refine SW_ret ?_
     refine xe () (.bool true) [] ?_ trivial
     rfl
  ·have cs := ct_spec_Unpack' z1 hs (hiI z2) (loI z2)
   have ks := ct_impl_Shortest4 z1 hf4 (hiI z2) (loI z2)
   clear noweak
   refine xcv 39 cs zs0 ?_
   refine xz [] [(5, .int .i64 0)] ?_
   refine xg ?_
   refine xn 2 [(1, [0])] [(42, .agg #[.int .u64 (hiI z2), .int .u64 (loI z2)]), (41, .int .i64 z1)] ?_
   refine xcv 43 ks (zsS zi0 zs0) ?_
   refine xb 6 [.slice none 0 0, .int .i64 0, .bool false, .int .i64 0] 52 (fun g1 => ?_)
   refine xy [(4, [1])] [] [(1, [.slice none 0 0, .int .i64 0, .bool false, .int .i64 4])] ?_
   refine SW_seq ?_
   refine xr [] [(49, .bool true)] ?_
   refine xs1 ?_
   refine xr [(1, [1])] [(2, .bool true)] ?_
   refine SW_ret ?_
   refine xe () (.bool true) [] ?_ trivial
   rfl
 ·have z0 : decide ((bt.length : Int) > 1048576) = true := decide_eq_true (by omega)
  refine ct_of Tryd.func6 rfl (by kernel_rfl) (fun B w0 => ?_)
  refine xr [] [(2, .bool false)] ?_
  refine SW_seq ?_
  refine xr [] [(31, .bool (decide ((((List.length bt) : Nat) : Int) > 1048576)))] ?_
  refine xst z0 ?_
  refine xr [] [(2, .bool true)] ?_
  refine SW_ret ?_
  refine xe () (.bool true) [] ?_ trivial
  rfl
end Go.Proofs.YtgknelgplmohoaaDoor.M
end
