import Derived.Test.YtdbnmdchecacdaaDoorQFnExactBoundsh
section
namespace Go.Proofs.YtdbnmdchecacdaaDoor.PB
open Go.RowKit Go.Proofs.YtdbnmdchecacdaaDoor.G Go.Proofs.YtdbnmdchecacdaaDoorV.PrintWords Go.Proofs.YtdbnmdchecacdaaDoorV.PrintLast Go.Proofs.YtdbnmdchecacdaaDoorV.PrintMore
attribute [local go_sem] max2_int min2_int max_two min_two max_three min_three max_four min_four run_Add64 run_Sub64 fld25_1
set_option linter.unusedVariables false
set_option linter.unusedSimpArgs false
def impl_Word_nat.f (a0_0 : Int) (a0_1 : Int) : Option (List Int) := some (trimL (([a0_1, a0_0] : List Int)))
set_option maxHeartbeats 8000000 in
set_option maxRecDepth 100000 in
theorem impl_Word_nat.calls (a0_0 : Int) (a0_1 : Int) (r : List Int) (w : World) (h : impl_Word_nat.f a0_0 a0_1 = some r) :
  Calls Tryd.prog 76 #[.agg #[.int .u64 a0_0, .int .u64 a0_1]] w fun e w' => ∃ v0_ : Value, e = .returned (v0_) ∧ Kd.R (Kd.int .u64) 22 w' w.heap.size (fun _ => True) v0_ r ∧ Below w.heap.size w w' := by
 have hu25 := Tryd.underlying25
 have HB := zM (Below.refl w.heap.size w)
 have H : (some (trimL (([a0_1, a0_0] : List Int)))) = some r := h
 clear h
 obtain ⟨y373, hy373⟩ : ∃ y_ : List Int, y_ = (([a0_1, a0_0] : List Int)) := ⟨_, rfl⟩
 replace H : (some (trimL y373)) = some r := by first | (rw [hy373]; with_reducible exact H) | (have H2_ := (Option.bind_some _ _).symm.trans H; rw [hy373]; with_reducible exact H2_) | (have H2_ := (Option.bind_some _ _).symm.trans H; with_reducible exact H2_) | with_reducible exact H | (rw [hy373]; exact H) | exact H
 have Ny373 := zM hy373
 clear hy373
 obtain ⟨y376, hy376⟩ : ∃ y_ : List Int, y_ = (trimL y373) := ⟨_, rfl⟩
 replace H : (some y376) = some r := by first | (rw [hy376]; with_reducible exact H) | (have H2_ := (Option.bind_some _ _).symm.trans H; rw [hy376]; with_reducible exact H2_) | (have H2_ := (Option.bind_some _ _).symm.trans H; with_reducible exact H2_) | with_reducible exact H | (rw [hy376]; exact H) | exact H
 have Ny376 := zM hy376
 clear hy376
 obtain rfl := Option.some.inj H
 go_enter Tryd.func76, Tryd.ntmps76
 go_wp2_with (first | ((with_reducible refine gate_dst (N := 1) rfl ?_); refine box_event ?hg (N := 1) ?hd (cs := #[.int .u64 a0_0, .int .u64 a0_1]) (t := 25) ?hr ?_; (case hd => rfl); (case hg => rfl); (case hr => first | (go_simp; done) | (go_simp; rfl)); intro gb372 hg w2 hbox hb; have n0_ := zM (below_step HB.out hb); have n1_ := zM (hbox); have n2_ := zM ((by rw [hg]; exact (below_size HB.out) : w.heap.size ≤ gb372)); have n3_ := zM ((by rw [hg]; exact (below_size HB.out) : w.heap.size ≤ gb372)); clear HB; have HB := n0_; have BK372 := n1_; have GW372 := n2_; have GE372 := n3_; clear n0_ n1_ n2_ n3_; clear hb hbox hg; have hcz3_0 : w2.cell? ⟨gb372, 0, none⟩ = some (.int .u64 a0_0) := (blk_cell BK372.out 0).trans rfl; have hcz3_1 : w2.cell? ⟨gb372, 1, none⟩ = some (.int .u64 a0_1) := (blk_cell BK372.out 1).trans rfl; have hfz3_0 := blk_frozen BK372.out 0; have hfz3_1 := blk_frozen BK372.out 1) | ((with_reducible refine gate_dst (N := 7) rfl ?_); refine Kd.R_lit (Kd.int .u64) _ 22 ?hg (N := 7) ?hd (xs := ([a0_1, a0_0] : List Int)) (inner := [.int .u64 a0_1, .int .u64 a0_0]) (ok := fun _ => True) (okp := fun _ => True) ?hr ?hp (fun _ hk => hk) trivial (Below.refl _ _) (Nat.le_refl _) (by simp) ?_; (case hd => rfl); (case hg => rfl); (case hr => first | (go_simp; done) | (go_simp; rfl)); (case hp => exact (Reps.one (show Kd.M (Kd.int .u64) _ _ _ a0_1 [.int .u64 a0_1] from rfl) (Reps.one (show Kd.M (Kd.int .u64) _ _ _ a0_0 [.int .u64 a0_0] from rfl) (Reps.none _ _)))); intro v374 w4 ho5 hb hg_ hnew_; clear hg_ hnew_; (first | rw [← Ny373.out] at ho5 | (simp only [Int.reduceToNat] at ho5; rw [← Ny373.out] at ho5)); have n0_ := zM (Kd.R_lower ho5 (below_size HB.out)); have n1_ := zM (blk_below BK372.out hb); have n2_ := zM (below_step HB.out hb); clear BK372; clear HB; have HO375 := n0_; have BK372 := n1_; have HB := n2_; clear n0_ n1_ n2_; clear hb ho5; obtain ⟨Ao7, co7, eo7⟩ := Kd.R_slice HO375.out; subst eo7) | ((with_reducible refine gate_callee (f := 103) rfl ?_); refine goesL_ (some 8) rfl rfl Tryd.func103 (by kernel_rfl) rfl #[.slice Ao7 y373.length co7] rfl (by first | rfl | (simp only [List.map_toArray, List.map_cons, List.map_nil, List.length_drop, List.length_take]; rfl)) ?_; (with_reducible refine (trimmed_calls Ao7 y373.length co7 y373 y376 _ (Kd.R_reads' HO375.out).1 Ny376.out ?sidea ?sideb).mono ?_); (case sidea => repeat (first | exact (Kd.R_reads' HO375.out).2.2 | (with_reducible refine Kd.C_alloc ?_ _) | (with_reducible refine Kd.C_drewN ?_ _) | (with_reducible refine Kd.C_drew ?_))); (case sideb => exact (Kd.R_reads' HO375.out).2.1); rintro e w' ⟨rfl, rfl⟩; refine ⟨_, rfl, ?_⟩; have nt_ := zM (R_trim HO375.out); rw [← Ny376.out] at nt_; clear HO375; have HO378 := nt_; clear nt_))
 go_ret
 exact ⟨_, by first | rfl | (simp [errW_none, errW_some] <;> rfl) | (simp [*, errW_none, errW_some] <;> rfl), by exact HO378.out, by repeat (first | (with_reducible first | exact HB.out | apply yA | apply yN | apply yD | refine below_set ?_ GE372.out) | exact HB.out)⟩
def impl_nat_left.l0 : Nat → Int → List Int → Int → List Int → Int → Int → Option (List Int)
 | 0, _, _, _, _, _, _ => none
 | k + 1, x1, x5, x6, x22, x23, x24 => if x24 < x23 then (if 0 ≤ x24 then (if x24 < (x22.length : Int) then (if 0 ≤ (wrap64 (x24 + (wrap64 (Int.tdiv x1 64)))) then (if (wrap64 (x24 + (wrap64 (Int.tdiv x1 64)))) < (x5.length : Int) then (if 0 ≤ x6 then ((some (x5.set ((wrap64 (x24 + (wrap64 (Int.tdiv x1 64)))) : Int).toNat (Go.bits .or .u64 (rd x5 (wrap64 (x24 + (wrap64 (Int.tdiv x1 64))))) (shl .u64 (rd x22 x24) x6)) : List Int)).bind fun y384 => (if x6 > 0 then (if 0 ≤ (wrap64 ((wrap64 (x24 + (wrap64 (Int.tdiv x1 64)))) + 1)) then (if (wrap64 ((wrap64 (x24 + (wrap64 (Int.tdiv x1 64)))) + 1)) < (x5.length : Int) then (if 0 ≤ (IntKind.u64.wrap (64 - x6)) then (impl_nat_left.l0 k x1 (y384.set ((wrap64 ((wrap64 (x24 + (wrap64 (Int.tdiv x1 64)))) + 1)) : Int).toNat (Go.bits .or .u64 (rd y384 (wrap64 ((wrap64 (x24 + (wrap64 (Int.tdiv x1 64)))) + 1))) (shr .u64 (rd x22 x24) (IntKind.u64.wrap (64 - x6))))) x6 x22 x23 (wrap64 (x24 + 1))) else (none)) else (none)) else (none)) else (impl_nat_left.l0 k x1 y384 x6 x22 x23 (wrap64 (x24 + 1))))) else (none)) else (none)) else (none)) else (none)) else (none)) else (some (trimL x5))
def impl_nat_left.f (k : Nat) (l0 : List Int) (a1 : Int) : Option (List Int) := if (l0.length : Int) = 0 then (some ([] : List Int)) else (if 0 ≤ (wrap64 ((wrap64 ((l0.length : Int) + (wrap64 (Int.tdiv a1 64)))) + 1)) then (if (wrap64 ((wrap64 ((l0.length : Int) + (wrap64 (Int.tdiv a1 64)))) + 1) : Int).toNat ≤ 35184372088832 then (impl_nat_left.l0 k a1 (List.replicate (wrap64 ((wrap64 ((l0.length : Int) + (wrap64 (Int.tdiv a1 64)))) + 1) : Int).toNat 0) (IntKind.u64.wrap (Int.tmod a1 64)) l0 (l0.length : Int) 0) else (none)) else (none))
set_option maxHeartbeats 8000000 in
set_option maxRecDepth 100000 in
theorem impl_nat_left.calls (k : Nat) (A0 : Option Addr) (c0 : Nat) (l0 : List Int) (a1 : Int) (r : List Int) (w : World) (hr0 : Kd.C (Kd.int .u64) w A0 l0.length l0) (hc0 : l0.length ≤ c0) (h : impl_nat_left.f k l0 a1 = some r) :
  Calls Tryd.prog 83 #[.slice A0 l0.length c0, .int .i64 a1] w fun e w' => ∃ v0_ : Value, e = .returned (v0_) ∧ Kd.R (Kd.int .u64) 22 w' w.heap.size (fun _ => True) v0_ r ∧ Below w.heap.size w w' := by
 have HR0 := zM hr0
 have HC0 := zM hc0
 clear hr0 hc0
 have HB := zM (Below.refl w.heap.size w)
 have H : (if (l0.length : Int) = 0 then (some ([] : List Int)) else (if 0 ≤ (wrap64 ((wrap64 ((l0.length : Int) + (wrap64 (Int.tdiv a1 64)))) + 1)) then (if (wrap64 ((wrap64 ((l0.length : Int) + (wrap64 (Int.tdiv a1 64)))) + 1) : Int).toNat ≤ 35184372088832 then (impl_nat_left.l0 k a1 (List.replicate (wrap64 ((wrap64 ((l0.length : Int) + (wrap64 (Int.tdiv a1 64)))) + 1) : Int).toNat 0) (IntKind.u64.wrap (Int.tmod a1 64)) l0 (l0.length : Int) 0) else (none)) else (none))) = some r := h
 clear h
 by_cases c3 : (l0.length : Int) = 0
 ·rw [if_pos c3] at H
  have c3b0 : ((l0.length : Int) == 0) = true := beq_iff_eq.mpr c3
  have c3b1 : ((l0.length : Int) != 0) = false := bne_eq_false_iff_eq.mpr c3
  clear c3
  obtain rfl := Option.some.inj H
  go_enter Tryd.func83, Tryd.ntmps83
  go_wp2
  go_ret
  exact ⟨_, by first | rfl | (simp [errW_none, errW_some] <;> rfl) | (simp [*, errW_none, errW_some] <;> rfl), by first | exact Kd.R_nil _ _ _ _ _ | exact Kd.N_nil _ _ _ _ _ | exact Kd.V_nil _ _ _ _ _ | exact Kd.Q_nil _ _ _ _ _ | exact Kd.S_nil _ _ _ _ _, by repeat (first | (with_reducible first | exact HB.out | apply yA | apply yN | apply yD) | exact HB.out)⟩
 ·rw [if_neg c3] at H
  have c3b0 : ((l0.length : Int) == 0) = false := beq_eq_false_iff_ne.mpr c3
  have c3b1 : ((l0.length : Int) != 0) = true := bne_iff_ne.mpr c3
  have c3b2 : ¬ (l0 = []) := fun h_ => c3 (by rw [h_]; rfl)
  obtain ⟨ji4, hji4⟩ : ∃ j_ : Int, (wrap64 ((wrap64 ((l0.length : Int) + (wrap64 (Int.tdiv a1 64)))) + 1)) = j_ := ⟨_, rfl⟩
  replace H : (if 0 ≤ (ji4) then (if (ji4 : Int).toNat ≤ 35184372088832 then (impl_nat_left.l0 k a1 (List.replicate (ji4 : Int).toNat 0) (IntKind.u64.wrap (Int.tmod a1 64)) l0 (l0.length : Int) 0) else (none)) else (none)) = some r := by first | (rw [hji4] at H; exact H) | (simp only [hji4] at H ⊢; exact H)
  have hji4w : (IntKind.i64.wrap ((wrap64 ((l0.length : Int) + (wrap64 (Int.tdiv a1 64)))) + 1)) = ji4 := (i64_w _).trans hji4
  by_cases c5 : 0 ≤ (ji4)
  ·rw [if_pos c5] at H
   have c5b0 := eq_true c5
   have c5b1 : decide (0 ≤ (ji4)) = true := decide_eq_true c5
   clear c5
   by_cases c6 : (ji4 : Int).toNat ≤ 35184372088832
   ·rw [if_pos c6] at H
    have c6b0 := eq_true c6
    have c6b1 : decide ((ji4 : Int).toNat ≤ 35184372088832) = true := decide_eq_true c6
    clear c6
    obtain ⟨y379, hy379⟩ : ∃ y_ : List Int, y_ = (List.replicate (ji4 : Int).toNat 0) := ⟨_, rfl⟩
    replace H : (impl_nat_left.l0 k a1 y379 (IntKind.u64.wrap (Int.tmod a1 64)) l0 (l0.length : Int) 0) = some r := by first | (rw [hy379]; with_reducible exact H) | (have H2_ := (Option.bind_some _ _).symm.trans H; rw [hy379]; with_reducible exact H2_) | (have H2_ := (Option.bind_some _ _).symm.trans H; with_reducible exact H2_) | with_reducible exact H | (rw [hy379]; exact H) | exact H
    have Ny379 := zM hy379
    clear hy379
    have H' := zM H
    clear H
    go_enter Tryd.func83, Tryd.ntmps83
    go_wp2_with (first | ((with_reducible refine gate_dst (N := 18) rfl ?_); refine Kd.R_make (Kd.int .u64) _ 22 rfl (N := 18) rfl 41 _ _ rfl ji4 rfl rfl Tryd.underlying41 (.int .u64 0) 8 info22 rfl (by decide) (by omega) 0 (ok := fun _ => True) (okp := fun _ => True) rfl (fun _ hk => hk) trivial (of_decide_eq_true (by first | (with_reducible assumption) | assumption)) (Nat.le_trans (Nat.mul_le_mul_right _ (of_decide_eq_true (by first | (with_reducible assumption) | assumption) : ji4.toNat ≤ 35184372088832)) (by omega)) (Below.refl _ _) (Nat.le_refl _) ?_; intro v380 w7 ho8 hb hg_ hnew_; clear hg_ hnew_; (first | rw [← Ny379.out] at ho8 | (simp only [Int.reduceToNat] at ho8; rw [← Ny379.out] at ho8)); have n0_ := zM (Kd.R_lower ho8 (below_size HB.out)); have n1_ := zM (below_step HB.out hb); clear HB; have HO381 := n0_; have HB := n1_; clear n0_ n1_; clear hb ho8))
    go_loopg [24] k (fun kq v24 w' => ∃ (x5_1 : List Int) (x24_1 : Int), v24 = .int .i64 x24_1 ∧ Aside0 (impl_nat_left.l0 kq a1 x5_1 (IntKind.u64.wrap (Int.tmod a1 64)) l0 (l0.length : Int) x24_1 = some r) ∧ Aside0 (kq ≤ k) ∧ Aside0 (Kd.R (Kd.int .u64) 22 w' w.heap.size (fun _ => True) v380 x5_1) ∧ Aside0 (Below w.heap.size w w'))
    case atStart => exact ⟨(y379), (0), (by first | rfl | (simp; done) | (simp [*]; done)), H', ⟨Nat.le_refl _⟩, ⟨by exact HO381.out⟩, ⟨by repeat (first | (with_reducible first | exact HB.out | apply yA | apply yN | apply yD) | exact HB.out)⟩⟩
    case round =>
     clear H'
     obtain ⟨x5_1, x24_1, rfl, HA, HK1, HO_5, HB⟩ := hrel
     cases gk with
     | zero => exact absurd HA.out (by simp [impl_nat_left.l0])
     | succ k1 =>
      have H := HA.out
      clear HA
      simp only [impl_nat_left.l0] at H
      by_cases c9 : x24_1 < (l0.length : Int)
      ·rw [if_pos c9] at H
       have c9b0 : decide (x24_1 < (l0.length : Int)) = true := decide_eq_true c9
       clear c9
       by_cases c10 : 0 ≤ x24_1
       ·rw [if_pos c10] at H
        have c10b0 : decide (0 ≤ x24_1) = true := decide_eq_true c10
        clear c10
        by_cases c11 : x24_1 < (l0.length : Int)
        ·rw [if_pos c11] at H
         have c11b0 : decide (x24_1 < (l0.length : Int)) = true := decide_eq_true c11
         clear c11
         obtain ⟨ji12, hji12⟩ : ∃ j_ : Int, (wrap64 (x24_1 + (wrap64 (Int.tdiv a1 64)))) = j_ := ⟨_, rfl⟩
         replace H : (if 0 ≤ (ji12) then (if (ji12) < (x5_1.length : Int) then (if 0 ≤ (IntKind.u64.wrap (Int.tmod a1 64)) then ((some (x5_1.set ((ji12) : Int).toNat (Go.bits .or .u64 (rd x5_1 (ji12)) (shl .u64 (rd l0 x24_1) (IntKind.u64.wrap (Int.tmod a1 64)))) : List Int)).bind fun y384 => (if (IntKind.u64.wrap (Int.tmod a1 64)) > 0 then (if 0 ≤ (wrap64 ((ji12) + 1)) then (if (wrap64 ((ji12) + 1)) < (x5_1.length : Int) then (if 0 ≤ (IntKind.u64.wrap (64 - (IntKind.u64.wrap (Int.tmod a1 64)))) then (impl_nat_left.l0 k1 a1 (y384.set ((wrap64 ((ji12) + 1)) : Int).toNat (Go.bits .or .u64 (rd y384 (wrap64 ((ji12) + 1))) (shr .u64 (rd l0 x24_1) (IntKind.u64.wrap (64 - (IntKind.u64.wrap (Int.tmod a1 64))))))) (IntKind.u64.wrap (Int.tmod a1 64)) l0 (l0.length : Int) (wrap64 (x24_1 + 1))) else (none)) else (none)) else (none)) else (impl_nat_left.l0 k1 a1 y384 (IntKind.u64.wrap (Int.tmod a1 64)) l0 (l0.length : Int) (wrap64 (x24_1 + 1))))) else (none)) else (none)) else (none)) = some r := by first | (rw [hji12] at H; exact H) | (simp only [hji12] at H ⊢; exact H)
         have hji12w : (IntKind.i64.wrap (x24_1 + (wrap64 (Int.tdiv a1 64)))) = ji12 := (i64_w _).trans hji12
         by_cases c13 : 0 ≤ (ji12)
         ·rw [if_pos c13] at H
          have c13b0 : decide (0 ≤ (ji12)) = true := decide_eq_true c13
          clear c13
          by_cases c14 : (ji12) < (x5_1.length : Int)
          ·rw [if_pos c14] at H
           have c14b0 : decide ((ji12) < (x5_1.length : Int)) = true := decide_eq_true c14
           clear c14
           obtain ⟨ji15, hji15⟩ : ∃ j_ : Int, (IntKind.u64.wrap (Int.tmod a1 64)) = j_ := ⟨_, rfl⟩
           replace H : (if 0 ≤ (ji15) then ((some (x5_1.set ((ji12) : Int).toNat (Go.bits .or .u64 (rd x5_1 (ji12)) (shl .u64 (rd l0 x24_1) (ji15))) : List Int)).bind fun y384 => (if (ji15) > 0 then (if 0 ≤ (wrap64 ((ji12) + 1)) then (if (wrap64 ((ji12) + 1)) < (x5_1.length : Int) then (if 0 ≤ (IntKind.u64.wrap (64 - (ji15))) then (impl_nat_left.l0 k1 a1 (y384.set ((wrap64 ((ji12) + 1)) : Int).toNat (Go.bits .or .u64 (rd y384 (wrap64 ((ji12) + 1))) (shr .u64 (rd l0 x24_1) (IntKind.u64.wrap (64 - (ji15)))))) (ji15) l0 (l0.length : Int) (wrap64 (x24_1 + 1))) else (none)) else (none)) else (none)) else (impl_nat_left.l0 k1 a1 y384 (ji15) l0 (l0.length : Int) (wrap64 (x24_1 + 1))))) else (none)) = some r := by first | (rw [hji15] at H; exact H) | (simp only [hji15] at H ⊢; exact H)
           by_cases c16 : 0 ≤ (ji15)
           ·rw [if_pos c16] at H
            have c16b0 := eq_true c16
            have c16b1 : decide (0 ≤ (ji15)) = true := decide_eq_true c16
            clear c16
            obtain ⟨ji17, hji17⟩ : ∃ j_ : Int, (shl .u64 (rd l0 x24_1) (ji15)) = j_ := ⟨_, rfl⟩
            replace H : ((some (x5_1.set ((ji12) : Int).toNat (Go.bits .or .u64 (rd x5_1 (ji12)) (ji17)) : List Int)).bind fun y384 => (if (ji15) > 0 then (if 0 ≤ (wrap64 ((ji12) + 1)) then (if (wrap64 ((ji12) + 1)) < (x5_1.length : Int) then (if 0 ≤ (IntKind.u64.wrap (64 - (ji15))) then (impl_nat_left.l0 k1 a1 (y384.set ((wrap64 ((ji12) + 1)) : Int).toNat (Go.bits .or .u64 (rd y384 (wrap64 ((ji12) + 1))) (shr .u64 (rd l0 x24_1) (IntKind.u64.wrap (64 - (ji15)))))) (ji15) l0 (l0.length : Int) (wrap64 (x24_1 + 1))) else (none)) else (none)) else (none)) else (impl_nat_left.l0 k1 a1 y384 (ji15) l0 (l0.length : Int) (wrap64 (x24_1 + 1))))) = some r := by first | (rw [hji17] at H; exact H) | (simp only [hji17] at H ⊢; exact H)
            have hji17_ : (IntKind.u64.wrap ((rd l0 x24_1) * 2 ^ min (ji15).toNat 64)) = ji17 := hji17
            have hji17z : (ji15) ≤ 64 → (IntKind.u64.wrap ((rd l0 x24_1) * 2 ^ (ji15).toNat)) = ji17 := shl_small hji17
            obtain ⟨y384, hy384⟩ : ∃ y_ : List Int, y_ = (x5_1.set ((ji12) : Int).toNat (Go.bits .or .u64 (rd x5_1 (ji12)) (ji17))) := ⟨_, rfl⟩
            replace H : (if (ji15) > 0 then (if 0 ≤ (wrap64 ((ji12) + 1)) then (if (wrap64 ((ji12) + 1)) < (x5_1.length : Int) then (if 0 ≤ (IntKind.u64.wrap (64 - (ji15))) then (impl_nat_left.l0 k1 a1 (y384.set ((wrap64 ((ji12) + 1)) : Int).toNat (Go.bits .or .u64 (rd y384 (wrap64 ((ji12) + 1))) (shr .u64 (rd l0 x24_1) (IntKind.u64.wrap (64 - (ji15)))))) (ji15) l0 (l0.length : Int) (wrap64 (x24_1 + 1))) else (none)) else (none)) else (none)) else (impl_nat_left.l0 k1 a1 y384 (ji15) l0 (l0.length : Int) (wrap64 (x24_1 + 1)))) = some r := by first | (rw [hy384]; with_reducible exact H) | (have H2_ := (Option.bind_some _ _).symm.trans H; rw [hy384]; with_reducible exact H2_) | (have H2_ := (Option.bind_some _ _).symm.trans H; with_reducible exact H2_) | with_reducible exact H | (rw [hy384]; exact H) | exact H
            have Ny384 := zM hy384
            clear hy384
            by_cases c19 : (ji15) > 0
            ·rw [if_pos c19] at H
             have c19b0 : decide (0 < (ji15)) = true := decide_eq_true c19
             clear c19
             obtain ⟨ji20, hji20⟩ : ∃ j_ : Int, (wrap64 ((ji12) + 1)) = j_ := ⟨_, rfl⟩
             replace H : (if 0 ≤ (ji20) then (if (ji20) < (x5_1.length : Int) then (if 0 ≤ (IntKind.u64.wrap (64 - (ji15))) then (impl_nat_left.l0 k1 a1 (y384.set ((ji20) : Int).toNat (Go.bits .or .u64 (rd y384 (ji20)) (shr .u64 (rd l0 x24_1) (IntKind.u64.wrap (64 - (ji15)))))) (ji15) l0 (l0.length : Int) (wrap64 (x24_1 + 1))) else (none)) else (none)) else (none)) = some r := by first | (rw [hji20] at H; exact H) | (simp only [hji20] at H ⊢; exact H)
             have hji20w : (IntKind.i64.wrap ((ji12) + 1)) = ji20 := (i64_w _).trans hji20
             by_cases c21 : 0 ≤ (ji20)
             ·rw [if_pos c21] at H
              have c21b0 : decide (0 ≤ (ji20)) = true := decide_eq_true c21
              clear c21
              by_cases c22 : (ji20) < (x5_1.length : Int)
              ·rw [if_pos c22] at H
               have c22b0 : decide ((ji20) < (x5_1.length : Int)) = true := decide_eq_true c22
               clear c22
               obtain ⟨ji23, hji23⟩ : ∃ j_ : Int, (IntKind.u64.wrap (64 - (ji15))) = j_ := ⟨_, rfl⟩
               replace H : (if 0 ≤ (ji23) then (impl_nat_left.l0 k1 a1 (y384.set ((ji20) : Int).toNat (Go.bits .or .u64 (rd y384 (ji20)) (shr .u64 (rd l0 x24_1) (ji23)))) (ji15) l0 (l0.length : Int) (wrap64 (x24_1 + 1))) else (none)) = some r := by first | (rw [hji23] at H; exact H) | (simp only [hji23] at H ⊢; exact H)
               by_cases c24 : 0 ≤ (ji23)
               ·rw [if_pos c24] at H
                have c24b0 := eq_true c24
                have c24b1 : decide (0 ≤ (ji23)) = true := decide_eq_true c24
                clear c24
                obtain ⟨ji25, hji25⟩ : ∃ j_ : Int, (shr .u64 (rd l0 x24_1) (ji23)) = j_ := ⟨_, rfl⟩
                replace H : (impl_nat_left.l0 k1 a1 (y384.set ((ji20) : Int).toNat (Go.bits .or .u64 (rd y384 (ji20)) (ji25))) (ji15) l0 (l0.length : Int) (wrap64 (x24_1 + 1))) = some r := by first | (rw [hji25] at H; exact H) | (simp only [hji25] at H ⊢; exact H)
                have hji25_ : ((rd l0 x24_1) / 2 ^ min (ji23).toNat 64) = ji25 := hji25
                have hji25z : (ji23) ≤ 64 → ((rd l0 x24_1) / 2 ^ (ji23).toNat) = ji25 := shr_small hji25
                obtain ⟨y386, hy386⟩ : ∃ y_ : List Int, y_ = (y384.set ((ji20) : Int).toNat (Go.bits .or .u64 (rd y384 (ji20)) (ji25))) := ⟨_, rfl⟩
                replace H : (impl_nat_left.l0 k1 a1 y386 (ji15) l0 (l0.length : Int) (wrap64 (x24_1 + 1))) = some r := by first | (rw [hy386]; with_reducible exact H) | (have H2_ := (Option.bind_some _ _).symm.trans H; rw [hy386]; with_reducible exact H2_) | (have H2_ := (Option.bind_some _ _).symm.trans H; with_reducible exact H2_) | with_reducible exact H | (rw [hy386]; exact H) | exact H
                have Ny386 := zM hy386
                clear hy386
                have H' := zM H
                clear H
                have p382 : 0 ≤ (x24_1 : Int) := of_decide_eq_true (by first | (with_reducible assumption) | assumption)
                have q382 : x24_1 < (l0.length : Int) := of_decide_eq_true (by first | (with_reducible assumption) | assumption)
                obtain ⟨ad382, e382, hx382_0⟩ := Kd.at_int HR0.out x24_1 p382 q382
                cases e382
                replace hx382_0 := (HB.out.cell (World.block_lt_of_cell? w _ hx382_0)).trans hx382_0
                replace p382 := eq_true p382
                replace q382 := eq_true q382
                obtain ⟨Ao27, co27, eo27⟩ := Kd.R_slice HO_5.out
                subst eo27
                have p383 : 0 ≤ ((ji12) : Int) := of_decide_eq_true (by first | (with_reducible assumption) | assumption)
                have q383 : (ji12) < (x5_1.length : Int) := of_decide_eq_true (by first | (with_reducible assumption) | assumption)
                obtain ⟨ad383, e383, hx383_0⟩ := Kd.at_int (Kd.R_reads' HO_5.out).2.2 (ji12) p383 q383
                cases e383
                replace p383 := eq_true p383
                replace q383 := eq_true q383
                have p18 : 0 ≤ ((ji12) : Int) := of_decide_eq_true (by first | (with_reducible assumption) | assumption)
                have q18 : ((ji12) : Int) < ((x5_1.length : Int) : Int) := of_decide_eq_true (by first | (with_reducible assumption) | assumption)
                obtain ⟨go18, co18, eo18, gb18, gl18, cl18, HG18⟩ := Kd.R_form HO_5.out (by omega)
                (first | cases eo18 | (injection eo18 with ea_ en_ ec_; (first | subst ea_ | (injection ea_ with ea_; subst ea_)); subst ec_; clear en_))
                have GB18 := zM gb18
                have GG18 := zM HG18
                clear gb18 gl18 HG18
                (first | simp only [add_plain] at hx383_0 | skip)
                obtain ⟨hx18_0, hf18_0⟩ := Kd.R_celln 0 HO_5.out ((ji12) : Int) p18 q18
                replace p18 := eq_true p18
                replace q18 := eq_true q18
                have HP28 := Kd.R_putg HO_5.out ((ji12) : Int) (Go.bits .or .u64 (rd x5_1 (ji12)) (ji17))
                go_wp2_with (first | ((with_reducible refine gate_store (t := 22) (p := 40) rfl ?_); refine store_event (t := 22) (p := 40) (v := ?vo_w29) (w1 := (wr.setCell ⟨go18, ((ji12) : Int).toNat, none⟩ (.int .u64 (Go.bits .or .u64 (rd x5_1 (ji12)) (ji17))))) ?hg ?ho ?hn ?hr ?_; (case ho => rfl); (case hg => rfl); (case hn => rfl); (case hr => first | (go_simp; done) | (go_simp; rfl)); intro w29 hw; have hg : wr.grownBy w29 (some go18) := (by rw [hw]; exact HP28.2); have hp_ : Kd.R (Kd.int .u64) 22 w29 w.heap.size (fun _ => True) (.slice (some ⟨go18, 0, none⟩) x5_1.length co27) y384 := (by rw [hw, Ny384.out]; exact HP28.1); clear HP28; have n0_ := zM (hp_); have n1_ := zM ((by rw [hw]; exact below_set (HB.out) GB18.out : Below w.heap.size w w29)); clear HO_5; clear HB; have HO_5 := n0_; have HB := n1_; clear n0_ n1_; clear hg hw hp_; have p385 : 0 ≤ ((ji20) : Int) := of_decide_eq_true (by first | (with_reducible assumption) | assumption); have q385 : (ji20) < (y384.length : Int) := (by have h_ : ((ji20) : Int) < ((x5_1.length : Int) : Int) := of_decide_eq_true (by first | (with_reducible assumption) | assumption); first | (have e_ := (Kd.R_reads' HO_5.out).1; omega) | simpa only [Ny384.out, List.length_set] using h_); have ql385 : (((ji20) : Int) < ((x5_1.length : Int) : Int)) = True := eq_true (of_decide_eq_true (by first | (with_reducible assumption) | assumption)); obtain ⟨ad385, e385, hx385_0⟩ := Kd.at_int (Kd.R_reads' HO_5.out).2.2 (ji20) p385 q385; obtain rfl : (⟨go18, 0, none⟩ : Addr) = ad385 := (by injection e385); (first | simp only [add_plain] at hx385_0 | simp only [add_at] at hx385_0 | simp only [Addr.add, Nat.zero_add] at hx385_0 | skip); replace p385 := eq_true p385; replace q385 := eq_true q385; have p26 : 0 ≤ ((ji20) : Int) := of_decide_eq_true (by first | (with_reducible assumption) | assumption); have q26 : ((ji20) : Int) < ((x5_1.length : Int) : Int) := of_decide_eq_true (by first | (with_reducible assumption) | assumption); obtain ⟨hx26_0, hf26_0⟩ := Kd.R_celln 0 HO_5.out ((ji20) : Int) p26 q26; replace p26 := eq_true p26; replace q26 := eq_true q26; obtain ⟨hy30_, hz30_⟩ := Kd.R_celln 0 HO_5.out ((ji20) : Int) (of_decide_eq_true (by first | (with_reducible assumption) | assumption)) (of_decide_eq_true (by first | (with_reducible assumption) | assumption)); have HP30 := Kd.R_putg HO_5.out ((ji20) : Int) (Go.bits .or .u64 (rd y384 (ji20)) (ji25))) | ((with_reducible refine gate_store (t := 22) (p := 56) rfl ?_); refine store_event (t := 22) (p := 56) (v := ?vo_w31) (w1 := (w29.setCell ⟨go18, ((ji20) : Int).toNat, none⟩ (.int .u64 (Go.bits .or .u64 (rd y384 (ji20)) (ji25))))) ?hg ?ho ?hn ?hr ?_; (case ho => rfl); (case hg => rfl); (case hn => rfl); (case hr => first | (go_simp; done) | (go_simp; rfl)); intro w31 hw; have hg : w29.grownBy w31 (some go18) := (by rw [hw]; exact HP30.2); have hp_ : Kd.R (Kd.int .u64) 22 w31 w.heap.size (fun _ => True) (.slice (some ⟨go18, 0, none⟩) x5_1.length co27) y386 := (by rw [hw, Ny386.out]; exact HP30.1); clear HP30; have n0_ := zM (hp_); have n1_ := zM ((by rw [hw]; exact below_set (HB.out) GB18.out : Below w.heap.size w w31)); clear HO_5; clear HB; have HO_5 := n0_; have HB := n1_; clear n0_ n1_; clear hg hw hp_))
                (try subst hji25)
                (try subst hji23)
                (try subst hji20)
                (try subst hji17)
                (try subst hji15)
                (try subst hji12)
                go_roundg k1
                case measure => have := HK1.out; omega
                case rel => exact ⟨(y386), (wrap64 (x24_1 + 1)), (by first | rfl | (simp; done) | (simp [*]; done)), H', ⟨by have := HK1.out; omega⟩, ⟨by exact HO_5.out⟩, ⟨by repeat (first | (with_reducible first | exact HB.out | apply yA | apply yN | apply yD) | exact HB.out)⟩⟩
               ·rw [if_neg c24] at H
                exact absurd H (by simp)
              ·rw [if_neg c22] at H
               exact absurd H (by simp)
             ·rw [if_neg c21] at H
              exact absurd H (by simp)
            ·rw [if_neg c19] at H
             have c19b0 : decide (0 < (ji15)) = false := decide_eq_false c19
             clear c19
             have H' := zM H
             clear H
             have p382 : 0 ≤ (x24_1 : Int) := of_decide_eq_true (by first | (with_reducible assumption) | assumption)
             have q382 : x24_1 < (l0.length : Int) := of_decide_eq_true (by first | (with_reducible assumption) | assumption)
             obtain ⟨ad382, e382, hx382_0⟩ := Kd.at_int HR0.out x24_1 p382 q382
             cases e382
             replace hx382_0 := (HB.out.cell (World.block_lt_of_cell? w _ hx382_0)).trans hx382_0
             replace p382 := eq_true p382
             replace q382 := eq_true q382
             obtain ⟨Ao32, co32, eo32⟩ := Kd.R_slice HO_5.out
             subst eo32
             have p383 : 0 ≤ ((ji12) : Int) := of_decide_eq_true (by first | (with_reducible assumption) | assumption)
             have q383 : (ji12) < (x5_1.length : Int) := of_decide_eq_true (by first | (with_reducible assumption) | assumption)
             obtain ⟨ad383, e383, hx383_0⟩ := Kd.at_int (Kd.R_reads' HO_5.out).2.2 (ji12) p383 q383
             cases e383
             replace p383 := eq_true p383
             replace q383 := eq_true q383
             have p18 : 0 ≤ ((ji12) : Int) := of_decide_eq_true (by first | (with_reducible assumption) | assumption)
             have q18 : ((ji12) : Int) < ((x5_1.length : Int) : Int) := of_decide_eq_true (by first | (with_reducible assumption) | assumption)
             obtain ⟨go18, co18, eo18, gb18, gl18, cl18, HG18⟩ := Kd.R_form HO_5.out (by omega)
             (first | cases eo18 | (injection eo18 with ea_ en_ ec_; (first | subst ea_ | (injection ea_ with ea_; subst ea_)); subst ec_; clear en_))
             have GB18 := zM gb18
             have GG18 := zM HG18
             clear gb18 gl18 HG18
             (first | simp only [add_plain] at hx383_0 | skip)
             obtain ⟨hx18_0, hf18_0⟩ := Kd.R_celln 0 HO_5.out ((ji12) : Int) p18 q18
             replace p18 := eq_true p18
             replace q18 := eq_true q18
             have HP33 := Kd.R_putg HO_5.out ((ji12) : Int) (Go.bits .or .u64 (rd x5_1 (ji12)) (ji17))
             go_wp2_with (first | ((with_reducible refine gate_store (t := 22) (p := 40) rfl ?_); refine store_event (t := 22) (p := 40) (v := ?vo_w34) (w1 := (wr.setCell ⟨go18, ((ji12) : Int).toNat, none⟩ (.int .u64 (Go.bits .or .u64 (rd x5_1 (ji12)) (ji17))))) ?hg ?ho ?hn ?hr ?_; (case ho => rfl); (case hg => rfl); (case hn => rfl); (case hr => first | (go_simp; done) | (go_simp; rfl)); intro w34 hw; have hg : wr.grownBy w34 (some go18) := (by rw [hw]; exact HP33.2); have hp_ : Kd.R (Kd.int .u64) 22 w34 w.heap.size (fun _ => True) (.slice (some ⟨go18, 0, none⟩) x5_1.length co32) y384 := (by rw [hw, Ny384.out]; exact HP33.1); clear HP33; have n0_ := zM (hp_); have n1_ := zM ((by rw [hw]; exact below_set (HB.out) GB18.out : Below w.heap.size w w34)); clear HO_5; clear HB; have HO_5 := n0_; have HB := n1_; clear n0_ n1_; clear hg hw hp_))
             (try subst hji17)
             (try subst hji15)
             (try subst hji12)
             go_roundg k1
             case measure => have := HK1.out; omega
             case rel => exact ⟨(y384), (wrap64 (x24_1 + 1)), (by first | rfl | (simp; done) | (simp [*]; done)), H', ⟨by have := HK1.out; omega⟩, ⟨by exact HO_5.out⟩, ⟨by repeat (first | (with_reducible first | exact HB.out | apply yA | apply yN | apply yD) | exact HB.out)⟩⟩
           ·rw [if_neg c16] at H
            exact absurd H (by simp)
          ·rw [if_neg c14] at H
           exact absurd H (by simp)
         ·rw [if_neg c13] at H
          exact absurd H (by simp)
        ·rw [if_neg c11] at H
         exact absurd H (by simp)
       ·rw [if_neg c10] at H
        exact absurd H (by simp)
      ·rw [if_neg c9] at H
       have c9b0 : decide (x24_1 < (l0.length : Int)) = false := decide_eq_false c9
       clear c9
       obtain ⟨y387, hy387⟩ : ∃ y_ : List Int, y_ = (trimL x5_1) := ⟨_, rfl⟩
       replace H : (some y387) = some r := by first | (rw [hy387]; with_reducible exact H) | (have H2_ := (Option.bind_some _ _).symm.trans H; rw [hy387]; with_reducible exact H2_) | (have H2_ := (Option.bind_some _ _).symm.trans H; with_reducible exact H2_) | with_reducible exact H | (rw [hy387]; exact H) | exact H
       have Ny387 := zM hy387
       clear hy387
       obtain rfl := Option.some.inj H
       obtain ⟨Ao36, co36, eo36⟩ := Kd.R_slice HO_5.out
       subst eo36
       go_wp2_with (first | ((with_reducible refine gate_callee (f := 103) rfl ?_); refine goesL_ (some 59) rfl rfl Tryd.func103 (by kernel_rfl) rfl #[.slice Ao36 x5_1.length co36] rfl (by first | rfl | (simp only [List.map_toArray, List.map_cons, List.map_nil, List.length_drop, List.length_take]; rfl)) ?_; (with_reducible refine (trimmed_calls Ao36 x5_1.length co36 x5_1 y387 _ (Kd.R_reads' HO_5.out).1 Ny387.out ?sidea ?sideb).mono ?_); (case sidea => repeat (first | exact (Kd.R_reads' HO_5.out).2.2 | (with_reducible refine Kd.C_alloc ?_ _) | (with_reducible refine Kd.C_drewN ?_ _) | (with_reducible refine Kd.C_drew ?_))); (case sideb => exact (Kd.R_reads' HO_5.out).2.1); rintro e w' ⟨rfl, rfl⟩; refine ⟨_, rfl, ?_⟩; have nt_ := zM (R_trim HO_5.out); rw [← Ny387.out] at nt_; clear HO_5; have HO389 := nt_; clear nt_))
       go_ret
       exact ⟨_, by first | rfl | (simp [errW_none, errW_some] <;> rfl) | (simp only [← hji4]; first | rfl | (simp [errW_none, errW_some] <;> rfl)) | (simp [*, errW_none, errW_some] <;> rfl), by exact HO389.out, by repeat (first | (with_reducible first | exact HB.out | apply yA | apply yN | apply yD) | exact HB.out)⟩
   ·rw [if_neg c6] at H
    exact absurd H (by simp)
  ·rw [if_neg c5] at H
   exact absurd H (by simp)
mutual
def impl_nat_add.j0 : Nat → List Int → List Int → Option (List Int)
 | 0, _, _ => none
 | k + 1, x0, x1 => if 0 ≤ (wrap64 ((x0.length : Int) + 1)) then (if (wrap64 ((x0.length : Int) + 1) : Int).toNat ≤ 35184372088832 then (impl_nat_add.l0 k x0 x1 (List.replicate (wrap64 ((x0.length : Int) + 1) : Int).toNat 0) 0 (x0.length : Int) 0) else (none)) else (none)
def impl_nat_add.l0 : Nat → List Int → List Int → List Int → Int → Int → Int → Option (List Int)
 | 0, _, _, _, _, _, _ => none
 | k + 1, x0, x1, x5, x6, x21, x22 => if x22 < x21 then (if x22 < (x1.length : Int) then (if 0 ≤ x22 then (if x22 < (x0.length : Int) then (if x6.toNat ≤ 1 then (if x22 < (x5.length : Int) then (impl_nat_add.l0 k x0 x1 (x5.set (x22 : Int).toNat (add64s (rd x0 x22) (rd x1 x22) x6)) (add64c (rd x0 x22) (rd x1 x22) x6) x21 (wrap64 (x22 + 1))) else (none)) else (none)) else (none)) else (none)) else (if 0 ≤ x22 then (if x22 < (x0.length : Int) then (if x6.toNat ≤ 1 then (if x22 < (x5.length : Int) then (impl_nat_add.l0 k x0 x1 (x5.set (x22 : Int).toNat (add64s (rd x0 x22) 0 x6)) (add64c (rd x0 x22) 0 x6) x21 (wrap64 (x22 + 1))) else (none)) else (none)) else (none)) else (none))) else (if 0 ≤ (x0.length : Int) then (if (x0.length : Int) < (x5.length : Int) then (some (trimL (x5.set ((x0.length : Int) : Int).toNat x6))) else (none)) else (none))
end
def impl_nat_add.f (k : Nat) (l0 : List Int) (l1 : List Int) : Option (List Int) := if (l0.length : Int) < (l1.length : Int) then (impl_nat_add.j0 k l1 l0) else (impl_nat_add.j0 k l0 l1)
set_option maxHeartbeats 8000000 in
set_option maxRecDepth 100000 in
theorem impl_nat_add.calls (k : Nat) (P0_ : Nat → Prop) (A0 : Option Addr) (c0 : Nat) (l0 : List Int) (P1_ : Nat → Prop) (A1 : Option Addr) (c1 : Nat) (l1 : List Int) (r : List Int) (w : World) (hs0 : Kd.V (Kd.int .u64) 22 w w.heap.size (fun k_ => P0_ k_) (.slice A0 l0.length c0) l0) (hs1 : Kd.V (Kd.int .u64) 22 w w.heap.size (fun k_ => P1_ k_) (.slice A1 l1.length c1) l1) (h : impl_nat_add.f k l0 l1 = some r) :
  Calls Tryd.prog 84 #[.slice A0 l0.length c0, .slice A1 l1.length c1] w fun e w' => ∃ v0_ : Value, e = .returned (v0_) ∧ Kd.R (Kd.int .u64) 22 w' w.heap.size (fun k_ => (w.heap.size ≤ k_)) v0_ r ∧ Below w.heap.size w w' := by
 have HO0 := zM (show Kd.V (Kd.int .u64) 22 w w.heap.size (fun k_ => ((P0_ k_ ∨ P1_ k_) ∨ w.heap.size ≤ k_)) (.slice A0 l0.length c0) l0 from Kd.V_mono hs0 (fun k_ hk => .inl (.inl hk)))
 have HO1 := zM (show Kd.V (Kd.int .u64) 22 w w.heap.size (fun k_ => ((P0_ k_ ∨ P1_ k_) ∨ w.heap.size ≤ k_)) (.slice A1 l1.length c1) l1 from Kd.V_mono hs1 (fun k_ hk => .inl (.inr hk)))
 have HB := zM (Below.refl w.heap.size w)
 have H : (if (l0.length : Int) < (l1.length : Int) then (impl_nat_add.j0 k l1 l0) else (impl_nat_add.j0 k l0 l1)) = some r := h
 clear h
 have HC3 := zM H
 clear H
 go_enter Tryd.func84, Tryd.ntmps84
 go_upto_if 13 with (fail)
 go_cut [0, 1] (fun v0 v1 wc => ∃ (kq : Nat) (x0_2 : List Int) (x1_2 : List Int), Aside0 (impl_nat_add.j0 kq x0_2 x1_2 = some r) ∧ Aside0 (kq ≤ k) ∧ Aside0 (Kd.V (Kd.int .u64) 22 wc w.heap.size (fun k_ => ((P0_ k_ ∨ P1_ k_) ∨ w.heap.size ≤ k_)) v0 x0_2) ∧ Aside0 (Kd.V (Kd.int .u64) 22 wc w.heap.size (fun k_ => ((P0_ k_ ∨ P1_ k_) ∨ w.heap.size ≤ k_)) v1 x1_2) ∧ Aside0 (Below w.heap.size w wc))
 case first =>
  have H := HC3.out
  clear HC3
  by_cases c4 : (l0.length : Int) < (l1.length : Int)
  ·rw [if_pos c4] at H
   have c4b0 : decide ((l0.length : Int) < (l1.length : Int)) = true := decide_eq_true c4
   have c4b1 : decide (l0.length < l1.length) = true := decide_eq_true (Int.ofNat_lt.mp c4)
   clear c4
   (first | rw [c4b0] | (simp only [i64_w, i32_w]; rw [c4b0]) | rw [c4b1] | (simp only [c4b1]) | skip)
   have H' := zM H
   clear H
   go_wp2
   go_meet
   case rel => exact ⟨_, (l1), (l0), H', ⟨by first | omega | exact Nat.le_refl _⟩, ⟨by (with_reducible repeat (first | apply Kd.V_alloc | apply Kd.V_drewN | apply Kd.V_drew)); exact HO1.out⟩, ⟨by (with_reducible repeat (first | apply Kd.V_alloc | apply Kd.V_drewN | apply Kd.V_drew)); exact HO0.out⟩, ⟨by repeat (first | (with_reducible first | exact HB.out | apply yA | apply yN | apply yD) | exact HB.out)⟩⟩
  ·rw [if_neg c4] at H
   have c4b0 : decide ((l0.length : Int) < (l1.length : Int)) = false := decide_eq_false c4
   have c4b1 : decide (l0.length < l1.length) = false := decide_eq_false (fun h => c4 (Int.ofNat_lt.mpr h))
   clear c4
   (first | rw [c4b0] | (simp only [i64_w, i32_w]; rw [c4b0]) | rw [c4b1] | (simp only [c4b1]) | skip)
   have H' := zM H
   clear H
   go_wp2
   go_meet
   case rel => exact ⟨_, (l0), (l1), H', ⟨by first | omega | exact Nat.le_refl _⟩, ⟨by (with_reducible repeat (first | apply Kd.V_alloc | apply Kd.V_drewN | apply Kd.V_drew)); exact HO0.out⟩, ⟨by (with_reducible repeat (first | apply Kd.V_alloc | apply Kd.V_drewN | apply Kd.V_drew)); exact HO1.out⟩, ⟨by repeat (first | (with_reducible first | exact HB.out | apply yA | apply yN | apply yD) | exact HB.out)⟩⟩
 case rest =>
  clear HC3
  obtain ⟨kq, x0_2, x1_2, HA, HJ2, HO_0, HO_1, HB⟩ := hcut
  cases kq with
  | zero => exact absurd HA.out (by simp [impl_nat_add.j0])
  | succ kj2 =>
   have H := HA.out
   clear HA
   simp only [impl_nat_add.j0] at H
   obtain ⟨ji5, hji5⟩ : ∃ j_ : Int, (wrap64 ((x0_2.length : Int) + 1)) = j_ := ⟨_, rfl⟩
   replace H : (if 0 ≤ (ji5) then (if (ji5 : Int).toNat ≤ 35184372088832 then (impl_nat_add.l0 kj2 x0_2 x1_2 (List.replicate (ji5 : Int).toNat 0) 0 (x0_2.length : Int) 0) else (none)) else (none)) = some r := by first | (rw [hji5] at H; exact H) | (simp only [hji5] at H ⊢; exact H)
   have hji5w : (IntKind.i64.wrap ((x0_2.length : Int) + 1)) = ji5 := (i64_w _).trans hji5
   by_cases c6 : 0 ≤ (ji5)
   ·rw [if_pos c6] at H
    have c6b0 := eq_true c6
    have c6b1 : decide (0 ≤ (ji5)) = true := decide_eq_true c6
    clear c6
    by_cases c7 : (ji5 : Int).toNat ≤ 35184372088832
    ·rw [if_pos c7] at H
     have c7b0 := eq_true c7
     have c7b1 : decide ((ji5 : Int).toNat ≤ 35184372088832) = true := decide_eq_true c7
     clear c7
     obtain ⟨y390, hy390⟩ : ∃ y_ : List Int, y_ = (List.replicate (ji5 : Int).toNat 0) := ⟨_, rfl⟩
     replace H : (impl_nat_add.l0 kj2 x0_2 x1_2 y390 0 (x0_2.length : Int) 0) = some r := by first | (rw [hy390]; with_reducible exact H) | (have H2_ := (Option.bind_some _ _).symm.trans H; rw [hy390]; with_reducible exact H2_) | (have H2_ := (Option.bind_some _ _).symm.trans H; with_reducible exact H2_) | with_reducible exact H | (rw [hy390]; exact H) | exact H
     have Ny390 := zM hy390
     clear hy390
     have H' := zM H
     clear H
     obtain ⟨Ao8, co8, eo8⟩ := Kd.V_slice HO_0.out
     subst eo8
     go_wp2_with (first | ((with_reducible refine gate_dst (N := 19) rfl ?_); refine Kd.R_make (Kd.int .u64) _ 22 rfl (N := 19) rfl 41 _ _ rfl ji5 rfl rfl Tryd.underlying41 (.int .u64 0) 8 info22 rfl (by decide) (by omega) 0 (ok := fun _ => True) (okp := fun _ => True) rfl (fun _ hk => hk) trivial (of_decide_eq_true (by first | (with_reducible assumption) | assumption)) (Nat.le_trans (Nat.mul_le_mul_right _ (of_decide_eq_true (by first | (with_reducible assumption) | assumption) : ji5.toNat ≤ 35184372088832)) (by omega)) (Below.refl _ _) (Nat.le_refl _) ?_; intro v391 w9 ho10 hb hg_ hnew_; clear hg_ hnew_; (first | rw [← Ny390.out] at ho10 | (simp only [Int.reduceToNat] at ho10; rw [← Ny390.out] at ho10)); have n0_ := zM (Kd.V_elder' (by (with_reducible repeat (first | apply Kd.V_alloc | apply Kd.V_drewN | apply Kd.V_drew)); exact HO_0.out) (Kd.R_base ho10) hb); have n1_ := zM (Kd.V_elder' (by (with_reducible repeat (first | apply Kd.V_alloc | apply Kd.V_drewN | apply Kd.V_drew)); exact HO_1.out) (Kd.R_base ho10) hb); have n2_ := zM (Kd.R_lower (Kd.R_newM (M := fun k_ => (w.heap.size ≤ k_)) ho10 (below_size HB.out) (fun k_ h_ => h_)) (below_size HB.out)); have n3_ := zM (below_step HB.out hb); clear HO_0; clear HO_1; clear HB; have HO_0 := n0_; have HO_1 := n1_; have HO392 := n2_; have HB := n3_; clear n0_ n1_ n2_ n3_; clear hb ho10))
     go_loopg [6, 22] kj2 (fun kq v6 v22 w' => ∃ (x5_2 : List Int) (x6_2 : Int) (x22_2 : Int), v6 = .int .u64 x6_2 ∧ v22 = .int .i64 x22_2 ∧ Aside0 (impl_nat_add.l0 kq x0_2 x1_2 x5_2 x6_2 (x0_2.length : Int) x22_2 = some r) ∧ Aside0 (kq ≤ kj2) ∧ Aside0 (Kd.V (Kd.int .u64) 22 w' w.heap.size (fun k_ => ((P0_ k_ ∨ P1_ k_) ∨ w.heap.size ≤ k_) ∧ some k_ ≠ (v391 : Value).ownBlock) (.slice Ao8 x0_2.length co8) x0_2) ∧ Aside0 (Kd.V (Kd.int .u64) 22 w' w.heap.size (fun k_ => ((P0_ k_ ∨ P1_ k_) ∨ w.heap.size ≤ k_) ∧ some k_ ≠ (v391 : Value).ownBlock) u1 x1_2) ∧ Aside0 (Kd.R (Kd.int .u64) 22 w' w.heap.size (fun k_ => (w.heap.size ≤ k_)) v391 x5_2) ∧ Aside0 (Below w.heap.size w w'))
     case atStart => exact ⟨(y390), (0), (0), (by first | rfl | (simp; done) | (simp [*]; done)), (by first | rfl | (simp; done) | (simp [*]; done)), H', ⟨Nat.le_refl _⟩, ⟨by (with_reducible repeat (first | apply Kd.V_alloc | apply Kd.V_drewN | apply Kd.V_drew)); exact HO_0.out⟩, ⟨by (with_reducible repeat (first | apply Kd.V_alloc | apply Kd.V_drewN | apply Kd.V_drew)); exact HO_1.out⟩, ⟨by exact Kd.R_mono HO392.out (fun _ hk => hk.1)⟩, ⟨by repeat (first | (with_reducible first | exact HB.out | apply yA | apply yN | apply yD) | exact HB.out)⟩⟩
     case round =>
      clear H'
      obtain ⟨x5_2, x6_2, x22_2, rfl, rfl, HA, HK2, HO_0, HO_1, HO_5, HB⟩ := hrel
      cases gk with
      | zero => exact absurd HA.out (by simp [impl_nat_add.l0])
      | succ k2 =>
       have H := HA.out
       clear HA
       simp only [impl_nat_add.l0] at H
       by_cases c11 : x22_2 < (x0_2.length : Int)
       ·rw [if_pos c11] at H
        have c11b0 : decide (x22_2 < (x0_2.length : Int)) = true := decide_eq_true c11
        clear c11
        by_cases c12 : x22_2 < (x1_2.length : Int)
        ·rw [if_pos c12] at H
         have c12b0 : decide (x22_2 < (x1_2.length : Int)) = true := decide_eq_true c12
         clear c12
         by_cases c13 : 0 ≤ x22_2
         ·rw [if_pos c13] at H
          have c13b0 : decide (0 ≤ x22_2) = true := decide_eq_true c13
          clear c13
          by_cases c14 : x22_2 < (x0_2.length : Int)
          ·rw [if_pos c14] at H
           have c14b0 : decide (x22_2 < (x0_2.length : Int)) = true := decide_eq_true c14
           clear c14
           by_cases c15 : x6_2.toNat ≤ 1
           ·rw [if_pos c15] at H
            have c15b0 := eq_true c15
            have c15b1 : decide (x6_2.toNat ≤ 1) = true := decide_eq_true c15
            clear c15
            by_cases c16 : x22_2 < (x5_2.length : Int)
            ·rw [if_pos c16] at H
             have c16b0 : decide (x22_2 < (x5_2.length : Int)) = true := decide_eq_true c16
             clear c16
             obtain ⟨y395, hy395⟩ : ∃ y_ : List Int, y_ = (x5_2.set (x22_2 : Int).toNat (add64s (rd x0_2 x22_2) (rd x1_2 x22_2) x6_2)) := ⟨_, rfl⟩
             replace H : (impl_nat_add.l0 k2 x0_2 x1_2 y395 (add64c (rd x0_2 x22_2) (rd x1_2 x22_2) x6_2) (x0_2.length : Int) (wrap64 (x22_2 + 1))) = some r := by first | (rw [hy395]; with_reducible exact H) | (have H2_ := (Option.bind_some _ _).symm.trans H; rw [hy395]; with_reducible exact H2_) | (have H2_ := (Option.bind_some _ _).symm.trans H; with_reducible exact H2_) | with_reducible exact H | (rw [hy395]; exact H) | exact H
             have Ny395 := zM hy395
             clear hy395
             have H' := zM H
             clear H
             obtain ⟨Ao18, co18, eo18⟩ := Kd.V_slice HO_1.out
             subst eo18
             have p393 : 0 ≤ (x22_2 : Int) := of_decide_eq_true (by first | (with_reducible assumption) | assumption)
             have q393 : x22_2 < (x1_2.length : Int) := of_decide_eq_true (by first | (with_reducible assumption) | assumption)
             obtain ⟨ad393, e393, hx393_0⟩ := Kd.at_int (Kd.V_reads' HO_1.out).2.2 x22_2 p393 q393
             cases e393
             replace p393 := eq_true p393
             replace q393 := eq_true q393
             have p394 : 0 ≤ (x22_2 : Int) := of_decide_eq_true (by first | (with_reducible assumption) | assumption)
             have q394 : x22_2 < (x0_2.length : Int) := of_decide_eq_true (by first | (with_reducible assumption) | assumption)
             obtain ⟨ad394, e394, hx394_0⟩ := Kd.at_int (Kd.V_reads' HO_0.out).2.2 x22_2 p394 q394
             cases e394
             replace p394 := eq_true p394
             replace q394 := eq_true q394
             have p17 : 0 ≤ (x22_2 : Int) := of_decide_eq_true (by first | (with_reducible assumption) | assumption)
             have q17 : (x22_2 : Int) < ((x5_2.length : Int) : Int) := of_decide_eq_true (by first | (with_reducible assumption) | assumption)
             obtain ⟨go17, co17, eo17, gb17, gl17, cl17, HG17⟩ := Kd.R_form HO_5.out (by omega)
             (first | cases eo17 | (injection eo17 with ea_ en_ ec_; (first | subst ea_ | (injection ea_ with ea_; subst ea_)); subst ec_; clear en_))
             have GB17 := zM gb17
             have GG17 := zM HG17
             clear gb17 gl17 HG17
             obtain ⟨hx17_0, hf17_0⟩ := Kd.R_celln 0 HO_5.out (x22_2 : Int) p17 q17
             replace p17 := eq_true p17
             replace q17 := eq_true q17
             have HP19 := Kd.R_putg HO_5.out (x22_2 : Int) (add64s (rd x0_2 x22_2) (rd x1_2 x22_2) x6_2)
             go_wp2_with (first | ((with_reducible refine gate_store (t := 22) (p := 45) rfl ?_); refine store_event (t := 22) (p := 45) (v := ?vo_w20) (w1 := (wr.setCell ⟨go17, (x22_2 : Int).toNat, none⟩ (.int .u64 (add64s (rd x0_2 x22_2) (rd x1_2 x22_2) x6_2)))) ?hg ?ho ?hn ?hr ?_; (case ho => rfl); (case hg => rfl); (case hn => rfl); (case hr => first | (go_simp; done) | (go_simp; rfl)); intro w20 hw; have hg : wr.grownBy w20 (some go17) := (by rw [hw]; exact HP19.2); have hp_ : Kd.R (Kd.int .u64) 22 w20 w.heap.size (fun k_ => (w.heap.size ≤ k_)) (.slice (some ⟨go17, 0, none⟩) x5_2.length co17) y395 := (by rw [hw, Ny395.out]; exact HP19.1); clear HP19; have n0_ := zM (Kd.V_afterv (v := (.slice (some ⟨go17, 0, none⟩) x5_2.length co17)) (v1 := (.slice (some ⟨go17, 0, none⟩) x5_2.length co17)) (ok := (fun k_ => ((P0_ k_ ∨ P1_ k_) ∨ w.heap.size ≤ k_))) (by (with_reducible repeat (first | apply Kd.V_alloc | apply Kd.V_drewN | apply Kd.V_drew)); exact HO_0.out) hg (.inl rfl)); have n1_ := zM (Kd.V_afterv (v := (.slice (some ⟨go17, 0, none⟩) x5_2.length co17)) (v1 := (.slice (some ⟨go17, 0, none⟩) x5_2.length co17)) (ok := (fun k_ => ((P0_ k_ ∨ P1_ k_) ∨ w.heap.size ≤ k_))) (by (with_reducible repeat (first | apply Kd.V_alloc | apply Kd.V_drewN | apply Kd.V_drew)); exact HO_1.out) hg (.inl rfl)); have n2_ := zM (hp_); have n3_ := zM ((by rw [hw]; exact below_set (HB.out) GB17.out : Below w.heap.size w w20)); clear HO_0; clear HO_1; clear HO_5; clear HB; have HO_0 := n0_; have HO_1 := n1_; have HO_5 := n2_; have HB := n3_; clear n0_ n1_ n2_ n3_; clear hg hw hp_))
             go_roundg k2
             case measure => have := HJ2.out; have := HK2.out; omega
             case rel => exact ⟨(y395), (add64c (rd x0_2 x22_2) (rd x1_2 x22_2) x6_2), (wrap64 (x22_2 + 1)), (by first | rfl | (simp; done) | (simp [*]; done)), (by first | rfl | (simp; done) | (simp [*]; done)), H', ⟨by have := HJ2.out; have := HK2.out; omega⟩, ⟨by (with_reducible repeat (first | apply Kd.V_alloc | apply Kd.V_drewN | apply Kd.V_drew)); exact HO_0.out⟩, ⟨by (with_reducible repeat (first | apply Kd.V_alloc | apply Kd.V_drewN | apply Kd.V_drew)); exact HO_1.out⟩, ⟨by exact HO_5.out⟩, ⟨by repeat (first | (with_reducible first | exact HB.out | apply yA | apply yN | apply yD) | exact HB.out)⟩⟩
            ·rw [if_neg c16] at H
             exact absurd H (by simp)
           ·rw [if_neg c15] at H
            exact absurd H (by simp)
          ·rw [if_neg c14] at H
           exact absurd H (by simp)
         ·rw [if_neg c13] at H
          exact absurd H (by simp)
        ·rw [if_neg c12] at H
         have c12b0 : decide (x22_2 < (x1_2.length : Int)) = false := decide_eq_false c12
         clear c12
         by_cases c21 : 0 ≤ x22_2
         ·rw [if_pos c21] at H
          have c21b0 : decide (0 ≤ x22_2) = true := decide_eq_true c21
          clear c21
          by_cases c22 : x22_2 < (x0_2.length : Int)
          ·rw [if_pos c22] at H
           have c22b0 : decide (x22_2 < (x0_2.length : Int)) = true := decide_eq_true c22
           clear c22
           by_cases c23 : x6_2.toNat ≤ 1
           ·rw [if_pos c23] at H
            have c23b0 := eq_true c23
            have c23b1 : decide (x6_2.toNat ≤ 1) = true := decide_eq_true c23
            clear c23
            by_cases c24 : x22_2 < (x5_2.length : Int)
            ·rw [if_pos c24] at H
             have c24b0 : decide (x22_2 < (x5_2.length : Int)) = true := decide_eq_true c24
             clear c24
             obtain ⟨y397, hy397⟩ : ∃ y_ : List Int, y_ = (x5_2.set (x22_2 : Int).toNat (add64s (rd x0_2 x22_2) 0 x6_2)) := ⟨_, rfl⟩
             replace H : (impl_nat_add.l0 k2 x0_2 x1_2 y397 (add64c (rd x0_2 x22_2) 0 x6_2) (x0_2.length : Int) (wrap64 (x22_2 + 1))) = some r := by first | (rw [hy397]; with_reducible exact H) | (have H2_ := (Option.bind_some _ _).symm.trans H; rw [hy397]; with_reducible exact H2_) | (have H2_ := (Option.bind_some _ _).symm.trans H; with_reducible exact H2_) | with_reducible exact H | (rw [hy397]; exact H) | exact H
             have Ny397 := zM hy397
             clear hy397
             have H' := zM H
             clear H
             obtain ⟨Ao26, co26, eo26⟩ := Kd.V_slice HO_1.out
             subst eo26
             have p396 : 0 ≤ (x22_2 : Int) := of_decide_eq_true (by first | (with_reducible assumption) | assumption)
             have q396 : x22_2 < (x0_2.length : Int) := of_decide_eq_true (by first | (with_reducible assumption) | assumption)
             obtain ⟨ad396, e396, hx396_0⟩ := Kd.at_int (Kd.V_reads' HO_0.out).2.2 x22_2 p396 q396
             cases e396
             replace p396 := eq_true p396
             replace q396 := eq_true q396
             have p25 : 0 ≤ (x22_2 : Int) := of_decide_eq_true (by first | (with_reducible assumption) | assumption)
             have q25 : (x22_2 : Int) < ((x5_2.length : Int) : Int) := of_decide_eq_true (by first | (with_reducible assumption) | assumption)
             obtain ⟨go25, co25, eo25, gb25, gl25, cl25, HG25⟩ := Kd.R_form HO_5.out (by omega)
             (first | cases eo25 | (injection eo25 with ea_ en_ ec_; (first | subst ea_ | (injection ea_ with ea_; subst ea_)); subst ec_; clear en_))
             have GB25 := zM gb25
             have GG25 := zM HG25
             clear gb25 gl25 HG25
             obtain ⟨hx25_0, hf25_0⟩ := Kd.R_celln 0 HO_5.out (x22_2 : Int) p25 q25
             replace p25 := eq_true p25
             replace q25 := eq_true q25
             have HP27 := Kd.R_putg HO_5.out (x22_2 : Int) (add64s (rd x0_2 x22_2) 0 x6_2)
             go_wp2_with (first | ((with_reducible refine gate_store (t := 22) (p := 45) rfl ?_); refine store_event (t := 22) (p := 45) (v := ?vo_w28) (w1 := (wr.setCell ⟨go25, (x22_2 : Int).toNat, none⟩ (.int .u64 (add64s (rd x0_2 x22_2) 0 x6_2)))) ?hg ?ho ?hn ?hr ?_; (case ho => rfl); (case hg => rfl); (case hn => rfl); (case hr => first | (go_simp; done) | (go_simp; rfl)); intro w28 hw; have hg : wr.grownBy w28 (some go25) := (by rw [hw]; exact HP27.2); have hp_ : Kd.R (Kd.int .u64) 22 w28 w.heap.size (fun k_ => (w.heap.size ≤ k_)) (.slice (some ⟨go25, 0, none⟩) x5_2.length co25) y397 := (by rw [hw, Ny397.out]; exact HP27.1); clear HP27; have n0_ := zM (Kd.V_afterv (v := (.slice (some ⟨go25, 0, none⟩) x5_2.length co25)) (v1 := (.slice (some ⟨go25, 0, none⟩) x5_2.length co25)) (ok := (fun k_ => ((P0_ k_ ∨ P1_ k_) ∨ w.heap.size ≤ k_))) (by (with_reducible repeat (first | apply Kd.V_alloc | apply Kd.V_drewN | apply Kd.V_drew)); exact HO_0.out) hg (.inl rfl)); have n1_ := zM (Kd.V_afterv (v := (.slice (some ⟨go25, 0, none⟩) x5_2.length co25)) (v1 := (.slice (some ⟨go25, 0, none⟩) x5_2.length co25)) (ok := (fun k_ => ((P0_ k_ ∨ P1_ k_) ∨ w.heap.size ≤ k_))) (by (with_reducible repeat (first | apply Kd.V_alloc | apply Kd.V_drewN | apply Kd.V_drew)); exact HO_1.out) hg (.inl rfl)); have n2_ := zM (hp_); have n3_ := zM ((by rw [hw]; exact below_set (HB.out) GB25.out : Below w.heap.size w w28)); clear HO_0; clear HO_1; clear HO_5; clear HB; have HO_0 := n0_; have HO_1 := n1_; have HO_5 := n2_; have HB := n3_; clear n0_ n1_ n2_ n3_; clear hg hw hp_))
             go_roundg k2
             case measure => have := HJ2.out; have := HK2.out; omega
             case rel => exact ⟨(y397), (add64c (rd x0_2 x22_2) 0 x6_2), (wrap64 (x22_2 + 1)), (by first | rfl | (simp; done) | (simp [*]; done)), (by first | rfl | (simp; done) | (simp [*]; done)), H', ⟨by have := HJ2.out; have := HK2.out; omega⟩, ⟨by (with_reducible repeat (first | apply Kd.V_alloc | apply Kd.V_drewN | apply Kd.V_drew)); exact HO_0.out⟩, ⟨by (with_reducible repeat (first | apply Kd.V_alloc | apply Kd.V_drewN | apply Kd.V_drew)); exact HO_1.out⟩, ⟨by exact HO_5.out⟩, ⟨by repeat (first | (with_reducible first | exact HB.out | apply yA | apply yN | apply yD) | exact HB.out)⟩⟩
            ·rw [if_neg c24] at H
             exact absurd H (by simp)
           ·rw [if_neg c23] at H
            exact absurd H (by simp)
          ·rw [if_neg c22] at H
           exact absurd H (by simp)
         ·rw [if_neg c21] at H
          exact absurd H (by simp)
       ·rw [if_neg c11] at H
        have c11b0 : decide (x22_2 < (x0_2.length : Int)) = false := decide_eq_false c11
        clear c11
        by_cases c29 : 0 ≤ (x0_2.length : Int)
        ·rw [if_pos c29] at H
         have c29b0 : decide (0 ≤ (x0_2.length : Int)) = true := decide_eq_true c29
         have c29b1 : decide (0 ≤ x0_2.length) = true := decide_eq_true (by omega)
         clear c29
         by_cases c30 : (x0_2.length : Int) < (x5_2.length : Int)
         ·rw [if_pos c30] at H
          have c30b0 : decide ((x0_2.length : Int) < (x5_2.length : Int)) = true := decide_eq_true c30
          have c30b1 : decide (x0_2.length < x5_2.length) = true := decide_eq_true (Int.ofNat_lt.mp c30)
          clear c30
          obtain ⟨y398, hy398⟩ : ∃ y_ : List Int, y_ = (x5_2.set ((x0_2.length : Int) : Int).toNat x6_2) := ⟨_, rfl⟩
          replace H : (some (trimL y398)) = some r := by first | (rw [hy398]; with_reducible exact H) | (have H2_ := (Option.bind_some _ _).symm.trans H; rw [hy398]; with_reducible exact H2_) | (have H2_ := (Option.bind_some _ _).symm.trans H; with_reducible exact H2_) | with_reducible exact H | (rw [hy398]; exact H) | exact H
          have Ny398 := zM hy398
          clear hy398
          obtain ⟨y399, hy399⟩ : ∃ y_ : List Int, y_ = (trimL y398) := ⟨_, rfl⟩
          replace H : (some y399) = some r := by first | (rw [hy399]; with_reducible exact H) | (have H2_ := (Option.bind_some _ _).symm.trans H; rw [hy399]; with_reducible exact H2_) | (have H2_ := (Option.bind_some _ _).symm.trans H; with_reducible exact H2_) | with_reducible exact H | (rw [hy399]; exact H) | exact H
          have Ny399 := zM hy399
          clear hy399
          obtain rfl := Option.some.inj H
          have p31 : 0 ≤ ((x0_2.length : Int) : Int) := of_decide_eq_true (by first | (with_reducible assumption) | assumption)
          have q31 : ((x0_2.length : Int) : Int) < ((x5_2.length : Int) : Int) := of_decide_eq_true (by first | (with_reducible assumption) | assumption)
          obtain ⟨go31, co31, eo31, gb31, gl31, cl31, HG31⟩ := Kd.R_form HO_5.out (by omega)
          (first | cases eo31 | (injection eo31 with ea_ en_ ec_; (first | subst ea_ | (injection ea_ with ea_; subst ea_)); subst ec_; clear en_))
          have GB31 := zM gb31
          have GG31 := zM HG31
          clear gb31 gl31 HG31
          obtain ⟨hx31_0, hf31_0⟩ := Kd.R_celln 0 HO_5.out ((x0_2.length : Int) : Int) p31 q31
          (try simp only [Go.IntWalk.toNatUp] at hx31_0)
          (try simp only [Go.IntWalk.toNatUp] at hf31_0)
          replace p31 := eq_true p31
          replace q31 := eq_true q31
          have HP32 := Kd.R_putg HO_5.out ((x0_2.length : Int) : Int) x6_2
          go_wp2_with (first | ((with_reducible refine gate_store (t := 22) (p := 51) rfl ?_); refine store_event (t := 22) (p := 51) (v := ?vo_w33) (w1 := (wr.setCell ⟨go31, ((x0_2.length : Int) : Int).toNat, none⟩ (.int .u64 x6_2))) ?hg ?ho ?hn ?hr ?_; (case ho => rfl); (case hg => rfl); (case hn => rfl); (case hr => first | (go_simp; done) | (go_simp; rfl)); intro w33 hw; have hg : wr.grownBy w33 (some go31) := (by rw [hw]; exact HP32.2); have hp_ : Kd.R (Kd.int .u64) 22 w33 w.heap.size (fun k_ => (w.heap.size ≤ k_)) (.slice (some ⟨go31, 0, none⟩) x5_2.length co31) y398 := (by rw [hw, Ny398.out]; exact HP32.1); clear HP32; have n0_ := zM (Kd.V_afterv (v := (.slice (some ⟨go31, 0, none⟩) x5_2.length co31)) (v1 := (.slice (some ⟨go31, 0, none⟩) x5_2.length co31)) (ok := (fun k_ => ((P0_ k_ ∨ P1_ k_) ∨ w.heap.size ≤ k_))) (by (with_reducible repeat (first | apply Kd.V_alloc | apply Kd.V_drewN | apply Kd.V_drew)); exact HO_0.out) hg (.inl rfl)); have n1_ := zM (Kd.V_afterv (v := (.slice (some ⟨go31, 0, none⟩) x5_2.length co31)) (v1 := (.slice (some ⟨go31, 0, none⟩) x5_2.length co31)) (ok := (fun k_ => ((P0_ k_ ∨ P1_ k_) ∨ w.heap.size ≤ k_))) (by (with_reducible repeat (first | apply Kd.V_alloc | apply Kd.V_drewN | apply Kd.V_drew)); exact HO_1.out) hg (.inl rfl)); have n2_ := zM (hp_); have n3_ := zM ((by rw [hw]; exact below_set (HB.out) GB31.out : Below w.heap.size w w33)); clear HO_0; clear HO_1; clear HO_5; clear HB; have HO_0 := n0_; have HO_1 := n1_; have HO_5 := n2_; have HB := n3_; clear n0_ n1_ n2_ n3_; clear hg hw hp_) | ((with_reducible refine gate_callee (f := 103) rfl ?_); refine goesL_ (some 53) rfl rfl Tryd.func103 (by kernel_rfl) rfl #[.slice (some ⟨go31, 0, none⟩) x5_2.length co31] rfl (by first | rfl | (simp only [List.map_toArray, List.map_cons, List.map_nil, List.length_drop, List.length_take]; rfl)) ?_; (with_reducible refine (trimmed_calls (some ⟨go31, 0, none⟩) x5_2.length co31 y398 y399 _ (Kd.R_reads' HO_5.out).1 Ny399.out ?sidea ?sideb).mono ?_); (case sidea => repeat (first | exact (Kd.R_reads' HO_5.out).2.2 | (with_reducible refine Kd.C_alloc ?_ _) | (with_reducible refine Kd.C_drewN ?_ _) | (with_reducible refine Kd.C_drew ?_))); (case sideb => exact (Kd.R_reads' HO_5.out).2.1); rintro e w' ⟨rfl, rfl⟩; refine ⟨_, rfl, ?_⟩; have nt_ := zM (R_trim HO_5.out); rw [← Ny399.out] at nt_; clear HO_5; have HO401 := nt_; clear nt_))
          go_ret
          exact ⟨_, by first | rfl | (simp [errW_none, errW_some] <;> rfl) | (simp only [← hji5]; first | rfl | (simp [errW_none, errW_some] <;> rfl)) | (simp [*, errW_none, errW_some] <;> rfl), by exact HO401.out, by repeat (first | (with_reducible first | exact HB.out | apply yA | apply yN | apply yD) | exact HB.out)⟩
         ·rw [if_neg c30] at H
          exact absurd H (by simp)
        ·rw [if_neg c29] at H
         exact absurd H (by simp)
    ·rw [if_neg c7] at H
     exact absurd H (by simp)
   ·rw [if_neg c6] at H
    exact absurd H (by simp)
def impl_word.f (a0 : Int) : Option (List Int) := some (trimL (([a0] : List Int)))
set_option maxHeartbeats 8000000 in
set_option maxRecDepth 100000 in
theorem impl_word.calls (a0 : Int) (r : List Int) (w : World) (h : impl_word.f a0 = some r) :
  Calls Tryd.prog 85 #[.int .u64 a0] w fun e w' => ∃ v0_ : Value, e = .returned (v0_) ∧ Kd.R (Kd.int .u64) 22 w' w.heap.size (fun _ => True) v0_ r ∧ Below w.heap.size w w' := by
 have HB := zM (Below.refl w.heap.size w)
 have H : (some (trimL (([a0] : List Int)))) = some r := h
 clear h
 obtain ⟨y402, hy402⟩ : ∃ y_ : List Int, y_ = (([a0] : List Int)) := ⟨_, rfl⟩
 replace H : (some (trimL y402)) = some r := by first | (rw [hy402]; with_reducible exact H) | (have H2_ := (Option.bind_some _ _).symm.trans H; rw [hy402]; with_reducible exact H2_) | (have H2_ := (Option.bind_some _ _).symm.trans H; with_reducible exact H2_) | with_reducible exact H | (rw [hy402]; exact H) | exact H
 have Ny402 := zM hy402
 clear hy402
 obtain ⟨y405, hy405⟩ : ∃ y_ : List Int, y_ = (trimL y402) := ⟨_, rfl⟩
 replace H : (some y405) = some r := by first | (rw [hy405]; with_reducible exact H) | (have H2_ := (Option.bind_some _ _).symm.trans H; rw [hy405]; with_reducible exact H2_) | (have H2_ := (Option.bind_some _ _).symm.trans H; with_reducible exact H2_) | with_reducible exact H | (rw [hy405]; exact H) | exact H
 have Ny405 := zM hy405
 clear hy405
 obtain rfl := Option.some.inj H
 go_enter Tryd.func85, Tryd.ntmps85
 go_wp2_with (first | ((with_reducible refine gate_dst (N := 4) rfl ?_); refine Kd.R_lit (Kd.int .u64) _ 22 ?hg (N := 4) ?hd (xs := ([a0] : List Int)) (inner := [.int .u64 a0]) (ok := fun _ => True) (okp := fun _ => True) ?hr ?hp (fun _ hk => hk) trivial (Below.refl _ _) (Nat.le_refl _) (by simp) ?_; (case hd => rfl); (case hg => rfl); (case hr => first | (go_simp; done) | (go_simp; rfl)); (case hp => exact (Reps.one (show Kd.M (Kd.int .u64) _ _ _ a0 [.int .u64 a0] from rfl) (Reps.none _ _))); intro v403 w2 ho3 hb hg_ hnew_; clear hg_ hnew_; (first | rw [← Ny402.out] at ho3 | (simp only [Int.reduceToNat] at ho3; rw [← Ny402.out] at ho3)); have n0_ := zM (Kd.R_lower ho3 (below_size HB.out)); have n1_ := zM (below_step HB.out hb); clear HB; have HO404 := n0_; have HB := n1_; clear n0_ n1_; clear hb ho3; obtain ⟨Ao5, co5, eo5⟩ := Kd.R_slice HO404.out; subst eo5) | ((with_reducible refine gate_callee (f := 103) rfl ?_); refine goesL_ (some 5) rfl rfl Tryd.func103 (by kernel_rfl) rfl #[.slice Ao5 y402.length co5] rfl (by first | rfl | (simp only [List.map_toArray, List.map_cons, List.map_nil, List.length_drop, List.length_take]; rfl)) ?_; (with_reducible refine (trimmed_calls Ao5 y402.length co5 y402 y405 _ (Kd.R_reads' HO404.out).1 Ny405.out ?sidea ?sideb).mono ?_); (case sidea => repeat (first | exact (Kd.R_reads' HO404.out).2.2 | (with_reducible refine Kd.C_alloc ?_ _) | (with_reducible refine Kd.C_drewN ?_ _) | (with_reducible refine Kd.C_drew ?_))); (case sideb => exact (Kd.R_reads' HO404.out).2.1); rintro e w' ⟨rfl, rfl⟩; refine ⟨_, rfl, ?_⟩; have nt_ := zM (R_trim HO404.out); rw [← Ny405.out] at nt_; clear HO404; have HO407 := nt_; clear nt_))
 go_ret
 exact ⟨_, by first | rfl | (simp [errW_none, errW_some] <;> rfl) | (simp [*, errW_none, errW_some] <;> rfl), by exact HO407.out, by repeat (first | (with_reducible first | exact HB.out | apply yA | apply yN | apply yD) | exact HB.out)⟩
def impl_nat_sub.l0 : Nat → List Int → List Int → List Int → Int → Int → Int → Option (List Int)
 | 0, _, _, _, _, _, _ => none
 | k + 1, x0, x1, x5, x6, x13, x14 => if x14 < x13 then (if x14 < (x1.length : Int) then (if 0 ≤ x14 then (if x14 < (x0.length : Int) then (if x6.toNat ≤ 1 then (if x14 < (x5.length : Int) then (impl_nat_sub.l0 k x0 x1 (x5.set (x14 : Int).toNat (sub64s (rd x0 x14) (rd x1 x14) x6)) (sub64c (rd x0 x14) (rd x1 x14) x6) x13 (wrap64 (x14 + 1))) else (none)) else (none)) else (none)) else (none)) else (if 0 ≤ x14 then (if x14 < (x0.length : Int) then (if x6.toNat ≤ 1 then (if x14 < (x5.length : Int) then (impl_nat_sub.l0 k x0 x1 (x5.set (x14 : Int).toNat (sub64s (rd x0 x14) 0 x6)) (sub64c (rd x0 x14) 0 x6) x13 (wrap64 (x14 + 1))) else (none)) else (none)) else (none)) else (none))) else (some (trimL x5))
def impl_nat_sub.f (k : Nat) (l0 : List Int) (l1 : List Int) : Option (List Int) := if 0 ≤ (l0.length : Int) then (if ((l0.length : Int) : Int).toNat ≤ 35184372088832 then (impl_nat_sub.l0 k l0 l1 (List.replicate ((l0.length : Int) : Int).toNat 0) 0 (l0.length : Int) 0) else (none)) else (none)
set_option maxHeartbeats 8000000 in
set_option maxRecDepth 100000 in
theorem impl_nat_sub.calls (k : Nat) (A0 : Option Addr) (c0 : Nat) (l0 : List Int) (A1 : Option Addr) (c1 : Nat) (l1 : List Int) (r : List Int) (w : World) (hr0 : Kd.C (Kd.int .u64) w A0 l0.length l0) (hc0 : l0.length ≤ c0) (hr1 : Kd.C (Kd.int .u64) w A1 l1.length l1) (hc1 : l1.length ≤ c1) (h : impl_nat_sub.f k l0 l1 = some r) :
  Calls Tryd.prog 86 #[.slice A0 l0.length c0, .slice A1 l1.length c1] w fun e w' => ∃ v0_ : Value, e = .returned (v0_) ∧ Kd.R (Kd.int .u64) 22 w' w.heap.size (fun _ => True) v0_ r ∧ Below w.heap.size w w' := by
 have HR0 := zM hr0
 have HC0 := zM hc0
 clear hr0 hc0
 have HR1 := zM hr1
 have HC1 := zM hc1
 clear hr1 hc1
 have HB := zM (Below.refl w.heap.size w)
 have H : (if 0 ≤ (l0.length : Int) then (if ((l0.length : Int) : Int).toNat ≤ 35184372088832 then (impl_nat_sub.l0 k l0 l1 (List.replicate ((l0.length : Int) : Int).toNat 0) 0 (l0.length : Int) 0) else (none)) else (none)) = some r := h
 clear h
 by_cases c3 : 0 ≤ (l0.length : Int)
 ·rw [if_pos c3] at H
  have c3b0 := eq_true c3
  have c3b1 : decide (0 ≤ (l0.length : Int)) = true := decide_eq_true c3
  clear c3
  by_cases c4 : ((l0.length : Int) : Int).toNat ≤ 35184372088832
  ·rw [if_pos c4] at H
   have c4b0 := eq_true c4
   have c4b1 : decide (((l0.length : Int) : Int).toNat ≤ 35184372088832) = true := decide_eq_true c4
   clear c4
   obtain ⟨y408, hy408⟩ : ∃ y_ : List Int, y_ = (List.replicate ((l0.length : Int) : Int).toNat 0) := ⟨_, rfl⟩
   replace H : (impl_nat_sub.l0 k l0 l1 y408 0 (l0.length : Int) 0) = some r := by first | (rw [hy408]; with_reducible exact H) | (have H2_ := (Option.bind_some _ _).symm.trans H; rw [hy408]; with_reducible exact H2_) | (have H2_ := (Option.bind_some _ _).symm.trans H; with_reducible exact H2_) | with_reducible exact H | (rw [hy408]; exact H) | exact H
   have Ny408 := zM hy408
   clear hy408
   have H' := zM H
   clear H
   go_enter Tryd.func86, Tryd.ntmps86
   go_wp2_with (first | ((with_reducible refine gate_dst (N := 11) rfl ?_); refine Kd.R_make (Kd.int .u64) _ 22 rfl (N := 11) rfl 41 _ _ rfl (l0.length : Int) rfl rfl Tryd.underlying41 (.int .u64 0) 8 info22 rfl (by decide) (by omega) 0 (ok := fun _ => True) (okp := fun _ => True) rfl (fun _ hk => hk) trivial (of_decide_eq_true (by first | (with_reducible assumption) | assumption)) (Nat.le_trans (Nat.mul_le_mul_right _ (of_decide_eq_true (by first | (with_reducible assumption) | assumption) : (l0.length : Int).toNat ≤ 35184372088832)) (by omega)) (Below.refl _ _) (Nat.le_refl _) ?_; intro v409 w5 ho6 hb hg_ hnew_; clear hg_ hnew_; (first | rw [← Ny408.out] at ho6 | (simp only [Int.reduceToNat] at ho6; rw [← Ny408.out] at ho6)); have n0_ := zM (Kd.R_lower ho6 (below_size HB.out)); have n1_ := zM (below_step HB.out hb); clear HB; have HO410 := n0_; have HB := n1_; clear n0_ n1_; clear hb ho6))
   go_loopg [6, 14] k (fun kq v6 v14 w' => ∃ (x5_1 : List Int) (x6_1 : Int) (x14_1 : Int), v6 = .int .u64 x6_1 ∧ v14 = .int .i64 x14_1 ∧ Aside0 (impl_nat_sub.l0 kq l0 l1 x5_1 x6_1 (l0.length : Int) x14_1 = some r) ∧ Aside0 (kq ≤ k) ∧ Aside0 (Kd.R (Kd.int .u64) 22 w' w.heap.size (fun _ => True) v409 x5_1) ∧ Aside0 (Below w.heap.size w w'))
   case atStart => exact ⟨(y408), (0), (0), (by first | rfl | (simp; done) | (simp [*]; done)), (by first | rfl | (simp; done) | (simp [*]; done)), H', ⟨Nat.le_refl _⟩, ⟨by exact HO410.out⟩, ⟨by repeat (first | (with_reducible first | exact HB.out | apply yA | apply yN | apply yD) | exact HB.out)⟩⟩
   case round =>
    clear H'
    obtain ⟨x5_1, x6_1, x14_1, rfl, rfl, HA, HK1, HO_5, HB⟩ := hrel
    cases gk with
    | zero => exact absurd HA.out (by simp [impl_nat_sub.l0])
    | succ k1 =>
     have H := HA.out
     clear HA
     simp only [impl_nat_sub.l0] at H
     by_cases c7 : x14_1 < (l0.length : Int)
     ·rw [if_pos c7] at H
      have c7b0 : decide (x14_1 < (l0.length : Int)) = true := decide_eq_true c7
      clear c7
      by_cases c8 : x14_1 < (l1.length : Int)
      ·rw [if_pos c8] at H
       have c8b0 : decide (x14_1 < (l1.length : Int)) = true := decide_eq_true c8
       clear c8
       by_cases c9 : 0 ≤ x14_1
       ·rw [if_pos c9] at H
        have c9b0 : decide (0 ≤ x14_1) = true := decide_eq_true c9
        clear c9
        by_cases c10 : x14_1 < (l0.length : Int)
        ·rw [if_pos c10] at H
         have c10b0 : decide (x14_1 < (l0.length : Int)) = true := decide_eq_true c10
         clear c10
         by_cases c11 : x6_1.toNat ≤ 1
         ·rw [if_pos c11] at H
          have c11b0 := eq_true c11
          have c11b1 : decide (x6_1.toNat ≤ 1) = true := decide_eq_true c11
          clear c11
          by_cases c12 : x14_1 < (x5_1.length : Int)
          ·rw [if_pos c12] at H
           have c12b0 : decide (x14_1 < (x5_1.length : Int)) = true := decide_eq_true c12
           clear c12
           obtain ⟨y413, hy413⟩ : ∃ y_ : List Int, y_ = (x5_1.set (x14_1 : Int).toNat (sub64s (rd l0 x14_1) (rd l1 x14_1) x6_1)) := ⟨_, rfl⟩
           replace H : (impl_nat_sub.l0 k1 l0 l1 y413 (sub64c (rd l0 x14_1) (rd l1 x14_1) x6_1) (l0.length : Int) (wrap64 (x14_1 + 1))) = some r := by first | (rw [hy413]; with_reducible exact H) | (have H2_ := (Option.bind_some _ _).symm.trans H; rw [hy413]; with_reducible exact H2_) | (have H2_ := (Option.bind_some _ _).symm.trans H; with_reducible exact H2_) | with_reducible exact H | (rw [hy413]; exact H) | exact H
           have Ny413 := zM hy413
           clear hy413
           have H' := zM H
           clear H
           have p411 : 0 ≤ (x14_1 : Int) := of_decide_eq_true (by first | (with_reducible assumption) | assumption)
           have q411 : x14_1 < (l1.length : Int) := of_decide_eq_true (by first | (with_reducible assumption) | assumption)
           obtain ⟨ad411, e411, hx411_0⟩ := Kd.at_int HR1.out x14_1 p411 q411
           cases e411
           replace hx411_0 := (HB.out.cell (World.block_lt_of_cell? w _ hx411_0)).trans hx411_0
           replace p411 := eq_true p411
           replace q411 := eq_true q411
           have p412 : 0 ≤ (x14_1 : Int) := of_decide_eq_true (by first | (with_reducible assumption) | assumption)
           have q412 : x14_1 < (l0.length : Int) := of_decide_eq_true (by first | (with_reducible assumption) | assumption)
           obtain ⟨ad412, e412, hx412_0⟩ := Kd.at_int HR0.out x14_1 p412 q412
           cases e412
           replace hx412_0 := (HB.out.cell (World.block_lt_of_cell? w _ hx412_0)).trans hx412_0
           replace p412 := eq_true p412
           replace q412 := eq_true q412
           have p13 : 0 ≤ (x14_1 : Int) := of_decide_eq_true (by first | (with_reducible assumption) | assumption)
           have q13 : (x14_1 : Int) < ((x5_1.length : Int) : Int) := of_decide_eq_true (by first | (with_reducible assumption) | assumption)
           obtain ⟨go13, co13, eo13, gb13, gl13, cl13, HG13⟩ := Kd.R_form HO_5.out (by omega)
           (first | cases eo13 | (injection eo13 with ea_ en_ ec_; (first | subst ea_ | (injection ea_ with ea_; subst ea_)); subst ec_; clear en_))
           have GB13 := zM gb13
           have GG13 := zM HG13
           clear gb13 gl13 HG13
           obtain ⟨hx13_0, hf13_0⟩ := Kd.R_celln 0 HO_5.out (x14_1 : Int) p13 q13
           replace p13 := eq_true p13
           replace q13 := eq_true q13
           have HP14 := Kd.R_putg HO_5.out (x14_1 : Int) (sub64s (rd l0 x14_1) (rd l1 x14_1) x6_1)
           go_wp2_with (first | ((with_reducible refine gate_store (t := 22) (p := 37) rfl ?_); refine store_event (t := 22) (p := 37) (v := ?vo_w15) (w1 := (wr.setCell ⟨go13, (x14_1 : Int).toNat, none⟩ (.int .u64 (sub64s (rd l0 x14_1) (rd l1 x14_1) x6_1)))) ?hg ?ho ?hn ?hr ?_; (case ho => rfl); (case hg => rfl); (case hn => rfl); (case hr => first | (go_simp; done) | (go_simp; rfl)); intro w15 hw; have hg : wr.grownBy w15 (some go13) := (by rw [hw]; exact HP14.2); have hp_ : Kd.R (Kd.int .u64) 22 w15 w.heap.size (fun _ => True) (.slice (some ⟨go13, 0, none⟩) x5_1.length co13) y413 := (by rw [hw, Ny413.out]; exact HP14.1); clear HP14; have n0_ := zM (hp_); have n1_ := zM ((by rw [hw]; exact below_set (HB.out) GB13.out : Below w.heap.size w w15)); clear HO_5; clear HB; have HO_5 := n0_; have HB := n1_; clear n0_ n1_; clear hg hw hp_))
           go_roundg k1
           case measure => have := HK1.out; omega
           case rel => exact ⟨(y413), (sub64c (rd l0 x14_1) (rd l1 x14_1) x6_1), (wrap64 (x14_1 + 1)), (by first | rfl | (simp; done) | (simp [*]; done)), (by first | rfl | (simp; done) | (simp [*]; done)), H', ⟨by have := HK1.out; omega⟩, ⟨by exact HO_5.out⟩, ⟨by repeat (first | (with_reducible first | exact HB.out | apply yA | apply yN | apply yD) | exact HB.out)⟩⟩
          ·rw [if_neg c12] at H
           exact absurd H (by simp)
         ·rw [if_neg c11] at H
          exact absurd H (by simp)
        ·rw [if_neg c10] at H
         exact absurd H (by simp)
       ·rw [if_neg c9] at H
        exact absurd H (by simp)
      ·rw [if_neg c8] at H
       have c8b0 : decide (x14_1 < (l1.length : Int)) = false := decide_eq_false c8
       clear c8
       by_cases c16 : 0 ≤ x14_1
       ·rw [if_pos c16] at H
        have c16b0 : decide (0 ≤ x14_1) = true := decide_eq_true c16
        clear c16
        by_cases c17 : x14_1 < (l0.length : Int)
        ·rw [if_pos c17] at H
         have c17b0 : decide (x14_1 < (l0.length : Int)) = true := decide_eq_true c17
         clear c17
         by_cases c18 : x6_1.toNat ≤ 1
         ·rw [if_pos c18] at H
          have c18b0 := eq_true c18
          have c18b1 : decide (x6_1.toNat ≤ 1) = true := decide_eq_true c18
          clear c18
          by_cases c19 : x14_1 < (x5_1.length : Int)
          ·rw [if_pos c19] at H
           have c19b0 : decide (x14_1 < (x5_1.length : Int)) = true := decide_eq_true c19
           clear c19
           obtain ⟨y415, hy415⟩ : ∃ y_ : List Int, y_ = (x5_1.set (x14_1 : Int).toNat (sub64s (rd l0 x14_1) 0 x6_1)) := ⟨_, rfl⟩
           replace H : (impl_nat_sub.l0 k1 l0 l1 y415 (sub64c (rd l0 x14_1) 0 x6_1) (l0.length : Int) (wrap64 (x14_1 + 1))) = some r := by first | (rw [hy415]; with_reducible exact H) | (have H2_ := (Option.bind_some _ _).symm.trans H; rw [hy415]; with_reducible exact H2_) | (have H2_ := (Option.bind_some _ _).symm.trans H; with_reducible exact H2_) | with_reducible exact H | (rw [hy415]; exact H) | exact H
           have Ny415 := zM hy415
           clear hy415
           have H' := zM H
           clear H
           have p414 : 0 ≤ (x14_1 : Int) := of_decide_eq_true (by first | (with_reducible assumption) | assumption)
           have q414 : x14_1 < (l0.length : Int) := of_decide_eq_true (by first | (with_reducible assumption) | assumption)
           obtain ⟨ad414, e414, hx414_0⟩ := Kd.at_int HR0.out x14_1 p414 q414
           cases e414
           replace hx414_0 := (HB.out.cell (World.block_lt_of_cell? w _ hx414_0)).trans hx414_0
           replace p414 := eq_true p414
           replace q414 := eq_true q414
           have p20 : 0 ≤ (x14_1 : Int) := of_decide_eq_true (by first | (with_reducible assumption) | assumption)
           have q20 : (x14_1 : Int) < ((x5_1.length : Int) : Int) := of_decide_eq_true (by first | (with_reducible assumption) | assumption)
           obtain ⟨go20, co20, eo20, gb20, gl20, cl20, HG20⟩ := Kd.R_form HO_5.out (by omega)
           (first | cases eo20 | (injection eo20 with ea_ en_ ec_; (first | subst ea_ | (injection ea_ with ea_; subst ea_)); subst ec_; clear en_))
           have GB20 := zM gb20
           have GG20 := zM HG20
           clear gb20 gl20 HG20
           obtain ⟨hx20_0, hf20_0⟩ := Kd.R_celln 0 HO_5.out (x14_1 : Int) p20 q20
           replace p20 := eq_true p20
           replace q20 := eq_true q20
           have HP21 := Kd.R_putg HO_5.out (x14_1 : Int) (sub64s (rd l0 x14_1) 0 x6_1)
           go_wp2_with (first | ((with_reducible refine gate_store (t := 22) (p := 37) rfl ?_); refine store_event (t := 22) (p := 37) (v := ?vo_w22) (w1 := (wr.setCell ⟨go20, (x14_1 : Int).toNat, none⟩ (.int .u64 (sub64s (rd l0 x14_1) 0 x6_1)))) ?hg ?ho ?hn ?hr ?_; (case ho => rfl); (case hg => rfl); (case hn => rfl); (case hr => first | (go_simp; done) | (go_simp; rfl)); intro w22 hw; have hg : wr.grownBy w22 (some go20) := (by rw [hw]; exact HP21.2); have hp_ : Kd.R (Kd.int .u64) 22 w22 w.heap.size (fun _ => True) (.slice (some ⟨go20, 0, none⟩) x5_1.length co20) y415 := (by rw [hw, Ny415.out]; exact HP21.1); clear HP21; have n0_ := zM (hp_); have n1_ := zM ((by rw [hw]; exact below_set (HB.out) GB20.out : Below w.heap.size w w22)); clear HO_5; clear HB; have HO_5 := n0_; have HB := n1_; clear n0_ n1_; clear hg hw hp_))
           go_roundg k1
           case measure => have := HK1.out; omega
           case rel => exact ⟨(y415), (sub64c (rd l0 x14_1) 0 x6_1), (wrap64 (x14_1 + 1)), (by first | rfl | (simp; done) | (simp [*]; done)), (by first | rfl | (simp; done) | (simp [*]; done)), H', ⟨by have := HK1.out; omega⟩, ⟨by exact HO_5.out⟩, ⟨by repeat (first | (with_reducible first | exact HB.out | apply yA | apply yN | apply yD) | exact HB.out)⟩⟩
          ·rw [if_neg c19] at H
           exact absurd H (by simp)
         ·rw [if_neg c18] at H
          exact absurd H (by simp)
        ·rw [if_neg c17] at H
         exact absurd H (by simp)
       ·rw [if_neg c16] at H
        exact absurd H (by simp)
     ·rw [if_neg c7] at H
      have c7b0 : decide (x14_1 < (l0.length : Int)) = false := decide_eq_false c7
      clear c7
      obtain ⟨y416, hy416⟩ : ∃ y_ : List Int, y_ = (trimL x5_1) := ⟨_, rfl⟩
      replace H : (some y416) = some r := by first | (rw [hy416]; with_reducible exact H) | (have H2_ := (Option.bind_some _ _).symm.trans H; rw [hy416]; with_reducible exact H2_) | (have H2_ := (Option.bind_some _ _).symm.trans H; with_reducible exact H2_) | with_reducible exact H | (rw [hy416]; exact H) | exact H
      have Ny416 := zM hy416
      clear hy416
      obtain rfl := Option.some.inj H
      obtain ⟨Ao24, co24, eo24⟩ := Kd.R_slice HO_5.out
      subst eo24
      go_wp2_with (first | ((with_reducible refine gate_callee (f := 103) rfl ?_); refine goesL_ (some 40) rfl rfl Tryd.func103 (by kernel_rfl) rfl #[.slice Ao24 x5_1.length co24] rfl (by first | rfl | (simp only [List.map_toArray, List.map_cons, List.map_nil, List.length_drop, List.length_take]; rfl)) ?_; (with_reducible refine (trimmed_calls Ao24 x5_1.length co24 x5_1 y416 _ (Kd.R_reads' HO_5.out).1 Ny416.out ?sidea ?sideb).mono ?_); (case sidea => repeat (first | exact (Kd.R_reads' HO_5.out).2.2 | (with_reducible refine Kd.C_alloc ?_ _) | (with_reducible refine Kd.C_drewN ?_ _) | (with_reducible refine Kd.C_drew ?_))); (case sideb => exact (Kd.R_reads' HO_5.out).2.1); rintro e w' ⟨rfl, rfl⟩; refine ⟨_, rfl, ?_⟩; have nt_ := zM (R_trim HO_5.out); rw [← Ny416.out] at nt_; clear HO_5; have HO418 := nt_; clear nt_))
      go_ret
      exact ⟨_, by first | rfl | (simp [errW_none, errW_some] <;> rfl) | (simp [*, errW_none, errW_some] <;> rfl), by exact HO418.out, by repeat (first | (with_reducible first | exact HB.out | apply yA | apply yN | apply yD) | exact HB.out)⟩
  ·rw [if_neg c4] at H
   exact absurd H (by simp)
 ·rw [if_neg c3] at H
  exact absurd H (by simp)
end Go.Proofs.YtdbnmdchecacdaaDoor.PB
end
section
namespace Go.Proofs.YtdbnmdchecacdaaDoor.M
open Go.RowKit Go.Proofs.YtdbnmdchecacdaaDoor.G Go.Proofs.YtdbnmdchecacdaaDoorV.PrintWords Go.Proofs.YtdbnmdchecacdaaDoorV.PrintLast Go.Proofs.YtdbnmdchecacdaaDoorV.PrintMore Go.Proofs.YtdbnmdchecacdaaDoor.PB
set_option linter.unusedVariables false
set_option linter.unusedSimpArgs false
theorem add64_spec (a b c : Int) (ha : 0 ≤ a ∧ a < (B64 : Int)) (hb : 0 ≤ b ∧ b < (B64 : Int)) (hc : 0 ≤ c ∧ c ≤ 1) :
    0 ≤ add64s a b c ∧ add64s a b c < (B64 : Int) ∧ 0 ≤ add64c a b c ∧ add64c a b c ≤ 1 ∧ (add64s a b c).toNat + B64 * (add64c a b c).toNat = a.toNat + b.toNat + c.toNat := by
  unfold add64s add64c
  unfold B64 at *
  omega
theorem sub64_spec (a b c : Int) (ha : 0 ≤ a ∧ a < (B64 : Int)) (hb : 0 ≤ b ∧ b < (B64 : Int)) (hc : 0 ≤ c ∧ c ≤ 1) :
    0 ≤ sub64s a b c ∧ sub64s a b c < (B64 : Int) ∧ 0 ≤ sub64c a b c ∧ sub64c a b c ≤ 1 ∧ (sub64s a b c).toNat + b.toNat + c.toNat = a.toNat + B64 * (sub64c a b c).toNat := by
  unfold sub64s sub64c
  unfold B64 at *
  split <;> omega
theorem fill_set (acc : List Int) (n i : Nat) (x : Int) (hi : acc.length = i) (h : i < n) : (acc ++ List.replicate (n - i) 0).set i x = (acc ++ [x]) ++ List.replicate (n - (i + 1)) 0 := by
  obtain ⟨m, hm⟩ : ∃ m, n - i = m + 1 := ⟨n - i - 1, by omega⟩
  rw [hm, show n - (i + 1) = m by omega, List.replicate_succ, List.set_append_right _ _ (by omega), hi, Nat.sub_self]
  simp
theorem iadd_loop (a b : List Int) (ha : Dig B64 a) (hb : Dig B64 b) (hl : b.length ≤ a.length) (hm : a.length ≤ 1073741824) (d : Nat) : ∀ (i : Nat) (acc : List Int) (c : Int), i + d = a.length → acc.length = i → Dig B64 acc → 0 ≤ c ∧ c ≤ 1 →
    val B64 acc + B64 ^ i * c.toNat = val B64 (a.take i) + val B64 (b.take i) →
    ∃ r, Ev (fun k => impl_nat_add.l0 k a b (acc ++ List.replicate (a.length + 1 - i) 0) c (a.length : Int) (i : Int)) r ∧ Dig B64 r ∧ Norm r ∧ val B64 r = val B64 a + val B64 b ∧ r.length ≤ a.length + 1 := by
  induction d with
  | zero =>
    intro i acc c hi hac hd hc hv
    refine ⟨trimL (acc ++ [c]), Ev.step (f := fun _ => some (trimL (acc ++ [c]))) (fun k => ?_) (Ev.now _), (hd.snoc ?_).trim, norm_trim _, ?_, ?_⟩
    · have hlen : (acc ++ List.replicate (a.length + 1 - i) 0).length = a.length + 1 := by rw [List.length_append, List.length_replicate]; omega
      simp only [impl_nat_add.l0]
      rw [if_neg (by omega), if_pos (by omega), if_pos (by rw [hlen]; omega), Int.toNat_natCast, show a.length = i by omega, fill_set acc (i + 1) i c hac (by omega)]
      simp
    · unfold B64; omega
    · rw [val_trim, val_snoc, hac, hv, val_take_all _ a _ (by omega), val_take_all _ b _ (by omega)]
    · have := trimL_length (acc ++ [c])
      rw [List.length_append, List.length_singleton] at this
      omega
  | succ d ih =>
    intro i acc c hi hac hd hc hv
    have dx := ha.rd B64_pos (i : Int)
    have dy := hb.rd B64_pos (i : Int)
    have hlen : (acc ++ List.replicate (a.length + 1 - i) 0).length = a.length + 1 := by rw [List.length_append, List.length_replicate]; omega
    obtain ⟨s1, s2, s3, s4, s5⟩ := add64_spec _ _ _ dx dy hc
    obtain ⟨r, hr, h2⟩ := ih (i + 1) (acc ++ [add64s (rd a (i : Int)) (rd b (i : Int)) c]) (add64c (rd a (i : Int)) (rd b (i : Int)) c) (by omega) (by simp [hac]) (hd.snoc ⟨s1, s2⟩) ⟨s3, s4⟩ (by
      rw [val_snoc, hac, val_take_succ, val_take_succ, Nat.pow_succ, Nat.mul_assoc, Nat.add_assoc, ← Nat.mul_add, s5, Nat.mul_add, Nat.mul_add]
      omega)
    refine ⟨r, Ev.step (fun k => ?_) hr, h2⟩
    simp only [impl_nat_add.l0]
    rw [if_pos (by omega)]
    by_cases h : (i : Int) < (b.length : Int)
    · rw [if_pos h, if_pos (by omega), if_pos (by omega), if_pos (by omega), if_pos (by rw [hlen]; omega), Int.toNat_natCast, fill_set acc _ i _ hac (by omega), wrap64_id (by omega)]
      rfl
    · have h0 : rd b (i : Int) = 0 := rd_of_ge b _ (by omega)
      rw [h0]
      rw [if_neg h, if_pos (by omega), if_pos (by omega), if_pos (by omega), if_pos (by rw [hlen]; omega), Int.toNat_natCast, fill_set acc _ i _ hac (by omega), wrap64_id (by omega)]
      rfl
theorem iadd_ev (a b : List Int) (ha : Dig B64 a) (hb : Dig B64 b) (la : a.length ≤ 1073741824) (lb : b.length ≤ 1073741824) :
    ∃ r, Ev (fun k => impl_nat_add.f k a b) r ∧ Dig B64 r ∧ Norm r ∧ val B64 r = val B64 a + val B64 b ∧ r.length ≤ max a.length b.length + 1 := by
  have key : ∀ x y : List Int, Dig B64 x → Dig B64 y → y.length ≤ x.length → x.length ≤ 1073741824 →
      ∃ r, Ev (fun k => impl_nat_add.j0 k x y) r ∧ Dig B64 r ∧ Norm r ∧ val B64 r = val B64 x + val B64 y ∧ r.length ≤ x.length + 1 := by
    intro x y hx hy hl hm
    obtain ⟨r, hr, h2⟩ := iadd_loop x y hx hy hl hm x.length 0 [] 0 (by omega) rfl (Dig.nil _) (by omega) (by simp [val])
    refine ⟨r, Ev.step (fun k => ?_) hr, h2⟩
    simp only [impl_nat_add.j0]
    rw [wrap64_id (by omega), if_pos (by omega), if_pos (by omega)]
    rfl
  by_cases h : (a.length : Int) < (b.length : Int)
  · obtain ⟨r, hr, h1, h2, h3, h4⟩ := key b a hb ha (by omega) (by omega)
    refine ⟨r, Ev.congr (fun k => ?_) hr, h1, h2, by omega, by omega⟩
    unfold impl_nat_add.f
    rw [if_pos h]
  · obtain ⟨r, hr, h1, h2, h3, h4⟩ := key a b ha hb (by omega) (by omega)
    refine ⟨r, Ev.congr (fun k => ?_) hr, h1, h2, by omega, by omega⟩
    unfold impl_nat_add.f
    rw [if_neg h]
end Go.Proofs.YtdbnmdchecacdaaDoor.M
end
section
namespace Go.Proofs.YtdbnmdchecacdaaDoor.M
open Go.RowKit Go.Proofs.YtdbnmdchecacdaaDoor.G Go.Proofs.YtdbnmdchecacdaaDoorV.PrintWords Go.Proofs.YtdbnmdchecacdaaDoorV.PrintLast Go.Proofs.YtdbnmdchecacdaaDoorV.PrintMore Go.Proofs.YtdbnmdchecacdaaDoor.PB
set_option linter.unusedVariables false
set_option linter.unusedSimpArgs false
theorem wf_u64 {l : List Int} (h : ∀ x ∈ l, (Lit.int .u64 x).wf = true) : Dig B64 l := by
  intro x hx
  have := h x hx
  simp [Lit.wf, IntKind.min, IntKind.max, IntKind.signed, IntKind.bits] at this
  unfold B64
  omega
def IsNat (l : List Int) (v : Nat) : Prop := Dig B64 l ∧ Norm l ∧ val B64 l = v
theorem IsNat.uniq {a b : List Int} {v : Nat} (h : IsNat a v) (k : IsNat b v) : a = b := norm_inj B64_pos h.1 k.1 h.2.1 k.2.1 (h.2.2.trans k.2.2.symm)
theorem IsNat.nil : IsNat [] 0 := ⟨Dig.nil _, norm_nil, rfl⟩
theorem IsNat.out {l : List Int} {v : Nat} (hd : Dig B32 l) (hn : Norm l) (hv : val B32 l = v) : IsNat (outL l) v := ⟨outL_dig hd, outL_norm hd hn, by rw [outL_val hd, hv]⟩
end Go.Proofs.YtdbnmdchecacdaaDoor.M
end
section
namespace Go.Proofs.YtdbnmdchecacdaaDoor.M
open Go.RowKit Go.Proofs.YtdbnmdchecacdaaDoor.G Go.Proofs.YtdbnmdchecacdaaDoorV.PrintWords Go.Proofs.YtdbnmdchecacdaaDoorV.PrintLast Go.Proofs.YtdbnmdchecacdaaDoorV.PrintMore Go.Proofs.YtdbnmdchecacdaaDoor.PB
set_option linter.unusedVariables false
set_option linter.unusedSimpArgs false
theorem cast_dig {B n : Nat} (h : n < B) : 0 ≤ (n : Int) ∧ (n : Int) < (B : Int) := by omega
theorem low32_nat (n : Nat) (h : n < 18446744073709551616) : bits .and .u64 (n : Int) 4294967295 = ((n % 4294967296 : Nat) : Int) := by
  rw [and_low32 _ (by omega) (by omega)]
  omega
def sl (B P : Nat) : Nat → List Int → List Int
  | c, [] => [(c : Int)]
  | c, x :: l => (((x.toNat * P + c) % B : Nat) : Int) :: sl B P ((x.toNat * P + c) / B) l
theorem sl_val (B P : Nat) : ∀ (l : List Int) (c : Nat), val B (sl B P c l) = val B l * P + c
  | [], c => by simp [sl, val]
  | x :: l, c => by
    simp only [sl, val_cons, Int.toNat_natCast]
    rw [sl_val B P l, Nat.mul_add, Nat.add_mul, Nat.mul_assoc]
    have h := Nat.mod_add_div (x.toNat * P + c) B
    generalize (x.toNat * P + c) % B = m at *
    generalize B * ((x.toNat * P + c) / B) = q at *
    omega
theorem carry_lt {B P x c : Nat} (hx : x < B) (hc : c < P) : (x * P + c) / B < P := by
  have hB : 0 < B := by omega
  refine Nat.div_lt_of_lt_mul ?_
  have h := Nat.mul_le_mul_right P (show x + 1 ≤ B from hx)
  rw [Nat.add_mul, Nat.one_mul] at h
  omega
theorem sl_dig {B P : Nat} (hB : 0 < B) (hP : P ≤ B) : ∀ (l : List Int) (c : Nat), Dig B l → c < P → Dig B (sl B P c l)
  | [], c, _, hc => Dig.cons (by omega) (Dig.nil _)
  | x :: l, c, h, hc => by
    have hx := h x (by simp)
    have h1 := Nat.mod_lt (x.toNat * P + c) hB
    exact Dig.cons (by omega) (sl_dig hB hP l _ (fun y hy => h y (List.mem_cons_of_mem _ hy)) (carry_lt (by omega) hc))
theorem sl_length (B P : Nat) : ∀ (l : List Int) (c : Nat), (sl B P c l).length = l.length + 1
  | [], c => rfl
  | x :: l, c => by simp only [sl, List.length_cons, sl_length B P l]
def sr (B P : Nat) : List Int → List Int
  | [] => []
  | x :: l => (((x.toNat + B * ((rd l 0).toNat % P)) / P : Nat) : Int) :: sr B P l
theorem val_mod (B P : Nat) (h : P ∣ B) (l : List Int) : val B l % P = (rd l 0).toNat % P := by
  cases l with
  | nil => rfl
  | cons x l =>
    obtain ⟨K, rfl⟩ := h
    rw [val_cons, Nat.mul_assoc, Nat.add_mul_mod_self_left]
    rfl
theorem sr_val {B P : Nat} (hP : 0 < P) (h : P ∣ B) : ∀ l : List Int, val B (sr B P l) = val B l / P
  | [] => by simp [sr, val]
  | x :: l => by
    simp only [sr, val_cons, Int.toNat_natCast]
    rw [sr_val hP h l, ← val_mod B P h l]
    have h1 := Nat.mod_add_div (val B l) P
    have h2 : x.toNat + B * val B l = x.toNat + B * (val B l % P) + P * (B * (val B l / P)) := by
      have h3 := congrArg (B * ·) h1
      simp only [Nat.mul_add] at h3
      rw [Nat.mul_left_comm] at h3
      omega
    rw [h2, Nat.add_mul_div_left _ _ hP]
theorem quot_lt {B P x y : Nat} (hP : 0 < P) (hx : x < B) : (x + B * (y % P)) / P < B := by
  have h1 := Nat.mod_lt y hP
  refine Nat.div_lt_of_lt_mul ?_
  have h := Nat.mul_le_mul_left B (show y % P + 1 ≤ P from h1)
  rw [Nat.mul_add, Nat.mul_one, Nat.mul_comm B P] at h
  omega
theorem sr_dig {B P : Nat} (hP : 0 < P) : ∀ l : List Int, Dig B l → Dig B (sr B P l)
  | [], _ => Dig.nil _
  | x :: l, h => by
    have hx := h x (by simp)
    have h1 : (x.toNat + B * ((rd l 0).toNat % P)) / P < B := quot_lt hP (by omega)
    exact Dig.cons (cast_dig h1) (sr_dig hP l (fun y hy => h y (List.mem_cons_of_mem _ hy)))
theorem sr_length (B P : Nat) : ∀ l : List Int, (sr B P l).length = l.length
  | [] => rfl
  | x :: l => by simp only [sr, List.length_cons, sr_length B P l]
theorem div_split {B P x y : Nat} (hP : 0 < P) (hx : x < B) : (x + B * y) / P % B = (x + B * (y % P)) / P := by
  have h1 := Nat.mod_add_div y P
  have h2 : x + B * y = x + B * (y % P) + P * (B * (y / P)) := by
    have h3 := congrArg (B * ·) h1
    simp only [Nat.mul_add] at h3
    rw [Nat.mul_left_comm] at h3
    omega
  rw [h2, Nat.add_mul_div_left _ _ hP, Nat.add_mul_mod_self_left, Nat.mod_eq_of_lt (quot_lt hP hx)]
theorem tdiv_nat (m d : Nat) : Int.tdiv (m : Int) (d : Int) = ((m / d : Nat) : Int) := by rw [Int.tdiv_eq_ediv_of_nonneg (by omega)]; rfl
theorem tmod_nat (m d : Nat) : Int.tmod (m : Int) (d : Int) = ((m % d : Nat) : Int) := by rw [Int.tmod_eq_emod_of_nonneg (by omega)]; rfl
theorem wtdiv (m d : Nat) (h : m ≤ 9223372036854775807) : wrap64 (Int.tdiv (m : Int) (d : Int)) = ((m / d : Nat) : Int) := by
  have := Nat.div_le_self m d
  rw [tdiv_nat]
  generalize m / d = q at *
  rw [wrap64_id (by omega)]
theorem wtmod (m d : Nat) (h : m ≤ 9223372036854775807) : IntKind.u64.wrap (Int.tmod (m : Int) (d : Int)) = ((m % d : Nat) : Int) := by
  have := Nat.mod_le m d
  rw [tmod_nat]
  generalize m % d = q at *
  rw [wrap_u64_id (by omega)]
theorem shl_nat (x p : Nat) (hp : p ≤ 64) : shl .u64 (x : Int) (p : Int) = ((x * 2 ^ p % 18446744073709551616 : Nat) : Int) := by
  unfold shl
  rw [wrap_u64, Int.toNat_natCast, show IntKind.u64.bits = 64 from rfl, Nat.min_eq_left hp, show ((x : Int) * 2 ^ p) = ((x * 2 ^ p : Nat) : Int) by simp]
  exact (Int.natCast_emod _ 18446744073709551616).symm
theorem shr_nat (x p : Nat) (hp : p ≤ 64) : shr .u64 (x : Int) (p : Int) = ((x / 2 ^ p : Nat) : Int) := by
  unfold shr
  rw [Int.toNat_natCast, show IntKind.u64.bits = 64 from rfl, Nat.min_eq_left hp]
  simp
theorem or_nat (p x y : Nat) (hp : p ≤ 64) (hx : x < 18446744073709551616) (h : 2 ^ p ∣ x) (hy : y < 2 ^ p) : bits .or .u64 (x : Int) (y : Int) = ((x + y : Nat) : Int) := by
  have h64 : 2 ^ p ≤ 2 ^ 64 := Nat.pow_le_pow_right (by omega) hp
  have hc : ((2 : Int) ^ p) = ((2 ^ p : Nat) : Int) := by simp
  rw [or_join p x y (by omega) (by rw [hc]; have := Nat.mod_eq_zero_of_dvd h; omega) (by omega) (by omega) (by rw [hc]; omega) (by omega)]
  omega
theorem or_nat' (p x y : Nat) (hp : p ≤ 64) (hx : x < 18446744073709551616) (h : 2 ^ p ∣ x) (hy : y < 2 ^ p) : bits .or .u64 (y : Int) (x : Int) = ((y + x : Nat) : Int) := by
  rw [bits_or_comm, or_nat p x y hp hx h hy, Nat.add_comm]
theorem pow_split (w p : Nat) (h : p ≤ w) : 2 ^ w = 2 ^ (w - p) * 2 ^ p := by rw [← Nat.pow_add]; congr 1; omega
theorem pow_div_mod (v w n : Nat) : v / 2 ^ n = v / (2 ^ w) ^ (n / w) / 2 ^ (n % w) := by
  rw [Nat.div_div_eq_div_mul, ← Nat.pow_mul, ← Nat.pow_add]
  congr 2
  exact (Nat.div_add_mod n w).symm
theorem pow_mul_mod (v w n : Nat) : v * 2 ^ n = (2 ^ w) ^ (n / w) * (v * 2 ^ (n % w)) := by
  rw [Nat.mul_left_comm, ← Nat.pow_mul, ← Nat.pow_add, Nat.div_add_mod]
theorem B32_pow : B32 = 2 ^ 32 := by unfold B32; rfl
theorem B64_pow : B64 = 2 ^ 64 := by unfold B64; rfl
theorem val_drop (B : Nat) (hB : 0 < B) {l : List Int} (h : Dig B l) (d : Nat) : val B (l.drop d) = val B l / B ^ d := by
  rcases Nat.lt_or_ge l.length d with hl | hl
  · rw [List.drop_eq_nil_of_le (by omega), Nat.div_eq_of_lt]
    · rfl
    · have h1 := val_lt h
      have h2 : B ^ l.length ≤ B ^ d := Nat.pow_le_pow_right hB (by omega)
      omega
  · have h1 := val_split B l d hl
    have h2 := val_lt (h.take d)
    rw [List.length_take, Nat.min_eq_left hl] at h2
    rw [h1, Nat.add_mul_div_left _ _ (Nat.pow_pos hB), Nat.div_eq_of_lt h2]
    omega
theorem val_shl (B d : Nat) (l : List Int) : val B (List.replicate d 0 ++ l) = B ^ d * val B l := by
  rw [val_append, val_zeros, List.length_replicate]
  omega
theorem sleft_loop (a : List Int) (ha : Dig B32 a) (la : a.length ≤ 1073741824) (n : Nat) (hn : n ≤ 1000000) (rest : List Int) : ∀ (i : Nat) (acc : List Int) (c : Nat), a.drop i = rest → i ≤ a.length → c < 2 ^ (n % 32) → acc.length ≤ 80000 + i →
    Ev (fun k => spec_l1Left.l0 k a (n : Int) acc (c : Int) (i : Int)) (trimL (acc ++ sl B32 (2 ^ (n % 32)) c rest)) := by
  have hp : n % 32 < 32 := Nat.mod_lt _ (by omega)
  have hP : 2 ^ (n % 32) ≤ 2 ^ 31 := Nat.pow_le_pow_right (by omega) (by omega)
  have hw := wtmod n 32 (by omega)
  have step : ∀ (x c : Nat), x < 4294967296 → c < 2 ^ (n % 32) → bits .or .u64 (shl .u64 (x : Int) ((n % 32 : Nat) : Int)) (c : Int) = ((x * 2 ^ (n % 32) + c : Nat) : Int) ∧ x * 2 ^ (n % 32) + c < 18446744073709551616 := by
    intro x c hx hc
    have h1 : x * 2 ^ (n % 32) ≤ 4294967295 * 2 ^ 31 := Nat.mul_le_mul (by omega) hP
    rw [shl_nat _ _ (by omega), Nat.mod_eq_of_lt (by omega), or_nat (n % 32) _ _ (by omega) (by omega) (Nat.dvd_mul_left _ _) hc]
    exact ⟨rfl, by omega⟩
  induction rest with
  | nil =>
    intro i acc c hr hi hc hac
    have hlen := congrArg List.length hr
    rw [List.length_drop] at hlen
    simp at hlen
    have h0 : rd a (i : Int) = 0 := rd_of_ge a _ (by simp; omega)
    obtain ⟨s1, s2⟩ := step 0 c (by omega) hc
    refine Ev.step (f := fun k => spec_l1Left.l0 k a (n : Int) (acc ++ [(c : Int)]) 0 ((i + 1 : Nat) : Int)) (fun k => ?_) (Ev.step (f := fun _ => some (trimL (acc ++ sl B32 (2 ^ (n % 32)) c []))) (fun k => ?_) (Ev.now _))
    · simp only [spec_l1Left.l0]
      rw [if_pos (by omega), at_eq _ _ (by omega), h0, Option.bind_some, show ((32 : Int)) = ((32 : Nat) : Int) from rfl, hw, if_pos (by omega), if_pos (by omega)]
      rw [show (0 : Int) = ((0 : Nat) : Int) from rfl, s1, and_low32 _ (by omega) (by omega), wrap64_id (by omega)]
      rw [Nat.zero_mul, Nat.zero_add, show ((c : Int) % 4294967296) = (c : Int) by omega, show ((c : Int) / 4294967296) = ((0 : Nat) : Int) by omega]
      rfl
    · simp only [spec_l1Left.l0]
      rw [if_neg (by omega), trim_eq _ (by simp; omega)]
      rfl
  | cons x rest ih =>
    intro i acc c hr hi hc hac
    have hlen := congrArg List.length hr
    rw [List.length_drop] at hlen
    simp at hlen
    have hx : rd a (i : Int) = x := rd_of_drop hr
    have dx := ha.rd B32_pos (i : Int)
    rw [hx] at dx
    unfold B32 at dx
    obtain ⟨y, rfl⟩ : ∃ y : Nat, x = (y : Int) := ⟨x.toNat, by omega⟩
    obtain ⟨s1, s2⟩ := step y c (by omega) hc
    have hc2 : (y * 2 ^ (n % 32) + c) / B32 < 2 ^ (n % 32) := carry_lt (by unfold B32; omega) hc
    refine Ev.step (fun k => ?_) (ev_to (ih (i + 1) (acc ++ [(((y * 2 ^ (n % 32) + c) % B32 : Nat) : Int)]) ((y * 2 ^ (n % 32) + c) / B32) (drop_succ_of hr) (by omega) hc2 (by simp; omega)) (by simp [sl]))
    simp only [spec_l1Left.l0]
    rw [if_pos (by omega), at_eq _ _ (by omega), hx, Option.bind_some, show ((32 : Int)) = ((32 : Nat) : Int) from rfl, hw, if_pos (by omega), if_pos (by omega)]
    rw [s1, and_low32 _ (by omega) (by omega), wrap64_id (by omega)]
    unfold B32
    rfl
theorem sleft_ev (a : List Int) (ha : Dig B32 a) (la : a.length ≤ 1073741824) (n : Nat) (hn : n ≤ 1000000) :
    ∃ r, Ev (fun k => spec_l1Left.f k a (n : Int)) r ∧ Dig B32 r ∧ Norm r ∧ val B32 r = val B32 a * 2 ^ n ∧ r.length ≤ 1000000 + a.length + 1 := by
  have hp : n % 32 < 32 := Nat.mod_lt _ (by omega)
  have hP : 2 ^ (n % 32) ≤ B32 := by rw [B32_pow]; exact Nat.pow_le_pow_right (by omega) (by omega)
  have hP0 : 0 < 2 ^ (n % 32) := Nat.pow_pos (by omega)
  have hd := Nat.div_le_self n 32
  have h := sleft_loop a ha la n hn a 0 (List.replicate (n / 32) 0) 0 rfl (by omega) hP0 (by simp; omega)
  refine ⟨_, Ev.congr (fun k => ?_) h, ((Dig.zeros B32_pos _).append (sl_dig B32_pos hP _ _ ha hP0)).trim, norm_trim _, ?_, ?_⟩
  · unfold spec_l1Left.f
    rw [show ((32 : Int)) = ((32 : Nat) : Int) from rfl, wtdiv n 32 (by omega), if_pos (by omega), if_pos (by omega)]
    rfl
  · rw [val_trim, val_shl, sl_val, pow_mul_mod (val B32 a) 32 n, ← B32_pow]
    rfl
  · have := trimL_length (List.replicate (n / 32) 0 ++ sl B32 (2 ^ (n % 32)) 0 a)
    rw [List.length_append, List.length_replicate, sl_length] at this
    omega
theorem sright_loop (a : List Int) (ha : Dig B32 a) (la : a.length ≤ 1073741824) (n : Nat) (hn : n ≤ 1000000) (rest : List Int) : ∀ (i : Nat) (acc : List Int), a.drop i = rest → i ≤ 1073741824 + 1000000 → acc.length ≤ i →
    Ev (fun k => spec_l1Right.l0 k a (n : Int) acc (i : Int)) (trimL (acc ++ sr B32 (2 ^ (n % 32)) rest)) := by
  have hp : n % 32 < 32 := Nat.mod_lt _ (by omega)
  have hP0 : 0 < 2 ^ (n % 32) := Nat.pow_pos (by omega)
  have hw := wtmod n 32 (by omega)
  induction rest with
  | nil =>
    intro i acc hr hi hac
    have hlen := congrArg List.length hr
    rw [List.length_drop] at hlen
    simp at hlen
    refine Ev.step (f := fun _ => some (trimL (acc ++ sr B32 (2 ^ (n % 32)) []))) (fun k => ?_) (Ev.now _)
    simp only [spec_l1Right.l0]
    rw [if_neg (by omega), trim_eq _ (by omega), Option.bind_some, sr, List.append_nil]
  | cons x rest ih =>
    intro i acc hr hi hac
    have hlen := congrArg List.length hr
    rw [List.length_drop] at hlen
    simp at hlen
    have hx : rd a (i : Int) = x := rd_of_drop hr
    have dx := ha.rd B32_pos (i : Int)
    have dy := ha.rd B32_pos ((i : Int) + 1)
    rw [hx] at dx
    have hy : rd a ((i : Int) + 1) = rd rest 0 := by
      rw [← drop_succ_of hr]
      show a.getD _ 0 = (a.drop (i + 1)).getD 0 0
      simp [List.getD_eq_getElem?_getD]
    rw [hy] at dy
    unfold B32 at dx dy
    obtain ⟨u, rfl⟩ : ∃ u : Nat, x = (u : Int) := ⟨x.toNat, by omega⟩
    obtain ⟨v, hv⟩ : ∃ v : Nat, rd rest 0 = (v : Int) := ⟨(rd rest 0).toNat, by omega⟩
    rw [hv] at dy hy
    have h1 := div_split (B := B32) (P := 2 ^ (n % 32)) (x := u) (y := v) hP0 (by unfold B32; omega)
    unfold B32 at h1
    refine Ev.step (fun k => ?_) (ev_to (ih (i + 1) (acc ++ [(((u + B32 * (v % 2 ^ (n % 32))) / 2 ^ (n % 32) : Nat) : Int)]) (drop_succ_of hr) (by omega) (by simp; omega)) (by simp [sr, hv]))
    have h2 : (u + 4294967296 * v) / 2 ^ (n % 32) ≤ u + 4294967296 * v := Nat.div_le_self _ _
    simp only [spec_l1Right.l0]
    rw [if_pos (by omega), at_eq _ _ (by omega), hx, Option.bind_some, wrap64_id (by omega), at_eq _ _ (by omega), hy, Option.bind_some, show ((32 : Int)) = ((32 : Nat) : Int) from rfl, hw, if_pos (by omega), if_pos (by omega)]
    rw [wrap_u64_id (by omega), show ((v : Int) * 4294967296) = ((v * 4294967296 : Nat) : Int) by omega, or_nat' 32 (v * 4294967296) u (by omega) (by omega) ⟨v, by rw [Nat.mul_comm]⟩ (by omega), shr_nat _ _ (by omega), Nat.mul_comm v, low32_nat _ (by omega), h1]
    unfold B32
    rfl
theorem sright_ev (a : List Int) (ha : Dig B32 a) (la : a.length ≤ 1073741824) (n : Nat) (hn : n ≤ 1000000) :
    ∃ r, Ev (fun k => spec_l1Right.f k a (n : Int)) r ∧ Dig B32 r ∧ Norm r ∧ val B32 r = val B32 a / 2 ^ n ∧ r.length ≤ a.length := by
  have hp : n % 32 < 32 := Nat.mod_lt _ (by omega)
  have hP0 : 0 < 2 ^ (n % 32) := Nat.pow_pos (by omega)
  have hd := Nat.div_le_self n 32
  have hdv : 2 ^ (n % 32) ∣ B32 := by rw [B32_pow]; exact Nat.pow_dvd_pow 2 (by omega)
  have h := sright_loop a ha la n hn (a.drop (n / 32)) (n / 32) [] rfl (by omega) (by simp)
  refine ⟨_, Ev.congr (fun k => ?_) h, ?_, norm_trim _, ?_, ?_⟩
  · unfold spec_l1Right.f
    rw [show ((32 : Int)) = ((32 : Nat) : Int) from rfl, wtdiv n 32 (by omega)]
  · rw [List.nil_append]
    exact (sr_dig hP0 _ (ha.drop _)).trim
  · rw [List.nil_append, val_trim, sr_val hP0 hdv, val_drop B32 B32_pos ha, pow_div_mod _ 32 n, ← B32_pow]
  · rw [List.nil_append]
    have := trimL_length (sr B32 (2 ^ (n % 32)) (a.drop (n / 32)))
    rw [sr_length, List.length_drop] at this
    omega
end Go.Proofs.YtdbnmdchecacdaaDoor.M
end
section
namespace Go.Proofs.YtdbnmdchecacdaaDoor.PB
open Go.RowKit Go.Proofs.YtdbnmdchecacdaaDoor.G Go.Proofs.YtdbnmdchecacdaaDoorV.PrintWords Go.Proofs.YtdbnmdchecacdaaDoorV.PrintLast Go.Proofs.YtdbnmdchecacdaaDoorV.PrintMore
attribute [local go_sem] max2_int min2_int max_two min_two max_three min_three max_four min_four run_Add64 run_Sub64 fld25_1
set_option linter.unusedVariables false
set_option linter.unusedSimpArgs false
mutual
def spec_Unpack.j0 : Nat → List Int → Int → Int → Int → Int → Int → Int → Bool → Option (Int × Bool × Int × Int × Int)
 | 0, _, _, _, _, _, _, _, _ => none
 | k + 1, x6, x7, x209000, x209001, x209002, x209003, x209004, x209005 => (spec_l2Low.f k x6 x7).bind fun t213 => (spec_Unpack.l0 k x6 x7 t213 0 (wrap64 (x209004 - 1)) x209000 x209001 x209002 x209003 x209004 x209005)
def spec_Unpack.l0 : Nat → List Int → Int → List Int → Int → Int → Int → Int → Int → Int → Int → Bool → Option (Int × Bool × Int × Int × Int)
 | 0, _, _, _, _, _, _, _, _, _, _, _ => none
 | k + 1, x6, x7, x8, x9, x10, x209000, x209001, x209002, x209003, x209004, x209005 => if x10 ≥ 0 then ((spec_l1Bit.f x6 (wrap64 (x7 + x10))).bind fun t216 => (spec_Unpack.l0 k x6 x7 x8 (wrap64 ((wrap64 (x9 * 2)) + (wrap64 (t216)))) (wrap64 (x10 - 1)) x209000 x209001 x209002 x209003 x209004 x209005)) else ((spec_l1Bit.f x6 (wrap64 (x209003 - 1))).bind fun t217 => (spec_Unpack.l1 k x8 x9 1 0 x209000 x209001 x209002 x209003 x209004 x209005 0 (t217 == 1) 0 0 0))
def spec_Unpack.l1 : Nat → List Int → Int → Int → Int → Int → Int → Int → Int → Int → Bool → Int → Bool → Int → Int → Int → Option (Int × Bool × Int × Int × Int)
 | 0, _, _, _, _, _, _, _, _, _, _, _, _, _, _, _ => none
 | k + 1, x8, x9, x12, x13, x209000, x209001, x209002, x209003, x209004, x209005, x219000, x219001, x219002, x219003, x219004 => if x13 < x209004 then (spec_Unpack.l1 k x8 x9 (wrap64 (x12 * 2)) (wrap64 (x13 + 1)) x209000 x209001 x209002 x209003 x209004 x209005 x219000 x219001 x219002 x219003 x219004) else (if x209005 = true then ((spec_l1Bit.f x8 (wrap64 (x209000 - 1))).bind fun t219 => ((spec_l2Low.f k x8 (wrap64 (x209000 - 1))).bind fun t220 => (if x9 = 0 then (if t219 = 1 then (some (0, false, 0, 0, 0)) else (if x9 > 0 then (some (0, false, 0, 0, 0)) else (spec_Unpack.j3 k x9 (wrap64 (x12 - 1)) t220 x209000 x209001 x209002 x209003 x209004 x209005 x219000 x219001 x219002 x219003 x219004))) else (if x9 > 0 then (if t219 = 1 then (spec_Unpack.j3 k x9 (wrap64 (x12 - 1)) t220 x209000 x209001 x209002 x209003 x209004 x209005 x219000 x219001 x219002 x219003 x219004) else (some (0, false, 0, 0, 0))) else (spec_Unpack.j3 k x9 (wrap64 (x12 - 1)) t220 x209000 x209001 x209002 x209003 x209004 x209005 x219000 x219001 x219002 x219003 x219004))))) else (spec_Unpack.j3 k x9 (wrap64 (x12 - 1)) x8 x209000 x209001 x209002 x209003 x209004 x209005 x219000 x219001 x219002 x219003 x219004))
def spec_Unpack.j3 : Nat → Int → Int → List Int → Int → Int → Int → Int → Int → Bool → Int → Bool → Int → Int → Int → Option (Int × Bool × Int × Int × Int)
 | 0, _, _, _, _, _, _, _, _, _, _, _, _, _, _ => none
 | k + 1, x9, x12, x15, x209000, x209001, x209002, x209003, x209004, x209005, x219000, x219001, x219002, x219003, x219004 => if x9 = x12 then (spec_Unpack.j4 k x9 x12 x15 ((x15.length : Int) == 0) x209000 x209001 x209002 x209003 x209004 x209005 x219000 x219001 x219002 x219003 x219004) else (spec_Unpack.j4 k x9 x12 x15 false x209000 x209001 x209002 x209003 x209004 x209005 x219000 x219001 x219002 x219003 x219004)
def spec_Unpack.j4 : Nat → Int → Int → List Int → Bool → Int → Int → Int → Int → Int → Bool → Int → Bool → Int → Int → Int → Option (Int × Bool × Int × Int × Int)
 | 0, _, _, _, _, _, _, _, _, _, _, _, _, _, _, _ => none
 | k + 1, x9, x12, x15, x119, x209000, x209001, x209002, x209003, x209004, x209005, x219000, x219001, x219002, x219003, x219004 => if x119 = true then (some (4, x219001, x219002, x219003, x219004)) else (if x9 = x12 then (some (5, false, 0, 0, 0)) else (if x9 = 0 then (spec_Unpack.j5 k x9 x15 ((x15.length : Int) == 0) x209000 x209001 x209002 x209003 x209004 x209005 x219000 x219001 x219002 x219003 x219004) else (spec_Unpack.j5 k x9 x15 false x209000 x209001 x209002 x209003 x209004 x209005 x219000 x219001 x219002 x219003 x219004)))
def spec_Unpack.j5 : Nat → Int → List Int → Bool → Int → Int → Int → Int → Int → Bool → Int → Bool → Int → Int → Int → Option (Int × Bool × Int × Int × Int)
 | 0, _, _, _, _, _, _, _, _, _, _, _, _, _, _ => none
 | k + 1, x9, x15, x134, x209000, x209001, x209002, x209003, x209004, x209005, x219000, x219001, x219002, x219003, x219004 => if x134 = true then (some (1, x219001, x219002, x219003, x219004)) else (if x9 = 0 then ((spec_l2Word.f k x15).bind fun bt223 => (some (2, x219001, bt223.1, bt223.2, wrap64 ((wrap64 (x209001 - x209000)) + 1)))) else ((spec_l2Two.f k (wrap64 (x209000 - 1))).bind fun t225 => ((spec_l1Add.f k x15 t225).bind fun t228 => ((spec_l2Word.f k t228).bind fun bt231 => (some (3, x219001, bt231.1, bt231.2, wrap64 ((wrap64 ((wrap64 (x9 - x209002)) - x209000)) + 1)))))))
end
def spec_Unpack.f (k : Nat) (a0 : Int) (a1_0 : Int) (a1_1 : Int) : Option (Int × Bool × Int × Int × Int) := (spec_Describe.f a0).bind fun bt202 => (if bt202.1 = 0 then (some (0, false, 0, 0, 0)) else ((spec_l2Of.f k a1_0 a1_1).bind fun t209 => ((spec_l1Bits.f k t209).bind fun t212 => (if t212 > bt202.2.2.2.1 then (some (0, false, 0, 0, 0)) else (if bt202.2.2.2.2.2 = true then (spec_Unpack.j0 k t209 bt202.1 bt202.1 bt202.2.1 bt202.2.2.1 bt202.2.2.2.1 bt202.2.2.2.2.1 bt202.2.2.2.2.2) else (spec_Unpack.j0 k t209 (wrap64 (bt202.1 - 1)) bt202.1 bt202.2.1 bt202.2.2.1 bt202.2.2.2.1 bt202.2.2.2.2.1 bt202.2.2.2.2.2))))))
set_option maxHeartbeats 8000000 in
set_option maxRecDepth 100000 in
theorem spec_Unpack.calls (k : Nat) (a0 : Int) (a1_0 : Int) (a1_1 : Int) (r1 : Int) (r2 : Bool) (r3 : Int) (r4 : Int) (r5 : Int) (w : World) (h : spec_Unpack.f k a0 a1_0 a1_1 = some (r1, r2, r3, r4, r5)) :
  Calls Tryd.prog 15 #[.int .i64 a0, .agg #[.int .u64 a1_0, .int .u64 a1_1]] w fun e w' => e = .returned (.agg #[.int .i64 r1, .bool r2, .int .u64 r3, .int .u64 r4, .int .i64 r5]) ∧ Below w.heap.size w w' := by
 have hu25 := Tryd.underlying25
 have hu27 := Tryd.underlying27
 have hu83 := Tryd.underlying83
 have HB := zM (Below.refl w.heap.size w)
 have H : ((spec_Describe.f a0).bind fun bt202 => (if bt202.1 = 0 then (some (0, false, 0, 0, 0)) else ((spec_l2Of.f k a1_0 a1_1).bind fun t209 => ((spec_l1Bits.f k t209).bind fun t212 => (if t212 > bt202.2.2.2.1 then (some (0, false, 0, 0, 0)) else (if bt202.2.2.2.2.2 = true then (spec_Unpack.j0 k t209 bt202.1 bt202.1 bt202.2.1 bt202.2.2.1 bt202.2.2.2.1 bt202.2.2.2.2.1 bt202.2.2.2.2.2) else (spec_Unpack.j0 k t209 (wrap64 (bt202.1 - 1)) bt202.1 bt202.2.1 bt202.2.2.1 bt202.2.2.2.1 bt202.2.2.2.2.1 bt202.2.2.2.2.2))))))) = some (r1, r2, r3, r4, r5) := h
 clear h
 replace H := Option.bind_eq_some_iff.mp H
 obtain ⟨⟨t202, t203, t204, t205, t206, t207⟩, A30, H⟩ := H
 replace H : (if t202 = 0 then (some (0, false, 0, 0, 0)) else ((spec_l2Of.f k a1_0 a1_1).bind fun t209 => ((spec_l1Bits.f k t209).bind fun t212 => (if t212 > t205 then (some (0, false, 0, 0, 0)) else (if t207 = true then (spec_Unpack.j0 k t209 t202 t202 t203 t204 t205 t206 t207) else (spec_Unpack.j0 k t209 (wrap64 (t202 - 1)) t202 t203 t204 t205 t206 t207)))))) = some (r1, r2, r3, r4, r5) := H
 have A3 := zM A30
 clear A30
 by_cases c4 : t202 = 0
 ·rw [if_pos c4] at H
  have c4b0 : (t202 == 0) = true := beq_iff_eq.mpr c4
  have c4b1 : (t202 != 0) = false := bne_eq_false_iff_eq.mpr c4
  clear c4
  simp only [Option.some.injEq, Prod.mk.injEq] at H
  obtain ⟨rfl, rfl, rfl, rfl, rfl⟩ := H
  go_enter Tryd.func15, Tryd.ntmps15
  go_wp2_with (first | ((with_reducible refine gate_dst (N := 3) rfl ?_); refine box_event ?hg (N := 3) ?hd (cs := #[.int .u64 a1_0, .int .u64 a1_1]) (t := 25) ?hr ?_; (case hd => rfl); (case hg => rfl); (case hr => first | (go_simp; done) | (go_simp; rfl)); intro gb200 hg w5 hbox hb; have n0_ := zM (below_step HB.out hb); have n1_ := zM (hbox); have n2_ := zM ((by rw [hg]; exact (below_size HB.out) : w.heap.size ≤ gb200)); have n3_ := zM ((by rw [hg]; exact (below_size HB.out) : w.heap.size ≤ gb200)); clear HB; have HB := n0_; have BK200 := n1_; have GW200 := n2_; have GE200 := n3_; clear n0_ n1_ n2_ n3_; clear hb hbox hg) | ((with_reducible refine gate_dst (N := 4) rfl ?_); refine box_event ?hg (N := 4) ?hd (cs := #[.int .i64 0, .bool false, .int .u64 0, .int .u64 0, .int .i64 0]) (t := 27) ?hr ?_; (case hd => rfl); (case hg => rfl); (case hr => first | (go_simp; done) | (go_simp; rfl)); intro gb201 hg w6 hbox hb; have n0_ := zM (blk_below BK200.out hb); have n1_ := zM (below_step HB.out hb); have n2_ := zM (hbox); have n3_ := zM ((by rw [hg]; exact (below_size HB.out) : w.heap.size ≤ gb201)); have n4_ := zM ((by rw [hg]; exact (below_size HB.out) : w.heap.size ≤ gb201)); have n5_ := zM ((by rw [hg]; exact Nat.ne_of_lt (blk_lt BK200.out) : gb200 ≠ gb201)); have n6_ := zM ((by rw [hg]; exact Nat.ne_of_gt (blk_lt BK200.out) : gb201 ≠ gb200)); clear BK200; clear HB; have BK200 := n0_; have HB := n1_; have BK201 := n2_; have GW201 := n3_; have GE201 := n4_; have NB200_201 := n5_; have NB201_200 := n6_; clear n0_ n1_ n2_ n3_ n4_ n5_ n6_; clear hb hbox hg) | (go_at_call 57; (with_reducible refine (spec_Describe.calls a0 t202 t203 t204 t205 t206 t207 _ A3.out).mono ?_); rintro e w7 ⟨rfl, hb⟩; have n0_ := zM (blk_below BK200.out hb); have n1_ := zM (blk_below BK201.out hb); have n2_ := zM (below_step HB.out hb); clear BK200; clear BK201; clear HB; have BK200 := n0_; have BK201 := n1_; have HB := n2_; clear n0_ n1_ n2_; (try clear hb); (try clear hb2); (try clear hk); (try clear hi)) | ((with_reducible refine gate_dst (N := 5) rfl ?_); refine box_event ?hg (N := 5) ?hd (cs := #[.int .i64 0, .int .i64 0, .int .i64 0, .int .i64 0, .int .i64 0, .bool false]) (t := 83) ?hr ?_; (case hd => rfl); (case hg => rfl); (case hr => first | (go_simp; done) | (go_simp; rfl)); intro gb208 hg w8 hbox hb; have n0_ := zM (blk_below BK200.out hb); have n1_ := zM (blk_below BK201.out hb); have n2_ := zM (below_step HB.out hb); have n3_ := zM (hbox); have n4_ := zM ((by rw [hg]; exact (below_size HB.out) : w.heap.size ≤ gb208)); have n5_ := zM ((by rw [hg]; exact (below_size HB.out) : w.heap.size ≤ gb208)); have n6_ := zM ((by rw [hg]; exact Nat.ne_of_lt (blk_lt BK200.out) : gb200 ≠ gb208)); have n7_ := zM ((by rw [hg]; exact Nat.ne_of_gt (blk_lt BK200.out) : gb208 ≠ gb200)); have n8_ := zM ((by rw [hg]; exact Nat.ne_of_lt (blk_lt BK201.out) : gb201 ≠ gb208)); have n9_ := zM ((by rw [hg]; exact Nat.ne_of_gt (blk_lt BK201.out) : gb208 ≠ gb201)); clear BK200; clear BK201; clear HB; have BK200 := n0_; have BK201 := n1_; have HB := n2_; have BK208 := n3_; have GW208 := n4_; have GE208 := n5_; have NB200_208 := n6_; have NB208_200 := n7_; have NB201_208 := n8_; have NB208_201 := n9_; clear n0_ n1_ n2_ n3_ n4_ n5_ n6_ n7_ n8_ n9_; clear hb hbox hg; have hnb9 := NB208_200.out; have hnc9 := NB200_208.out; have hnb10 := NB208_201.out; have hnc10 := NB201_208.out; have hcz11_0 : w8.cell? ⟨gb208, 0, none⟩ = some (.int .i64 0) := (blk_cell BK208.out 0).trans rfl; have hcz11_1 : w8.cell? ⟨gb208, 1, none⟩ = some (.int .i64 0) := (blk_cell BK208.out 1).trans rfl; have hcz11_2 : w8.cell? ⟨gb208, 2, none⟩ = some (.int .i64 0) := (blk_cell BK208.out 2).trans rfl; have hcz11_3 : w8.cell? ⟨gb208, 3, none⟩ = some (.int .i64 0) := (blk_cell BK208.out 3).trans rfl; have hcz11_4 : w8.cell? ⟨gb208, 4, none⟩ = some (.int .i64 0) := (blk_cell BK208.out 4).trans rfl; have hcz11_5 : w8.cell? ⟨gb208, 5, none⟩ = some (.bool false) := (blk_cell BK208.out 5).trans rfl; have hfz11_0 := blk_frozen BK208.out 0; have hfz11_1 := blk_frozen BK208.out 1; have hfz11_2 := blk_frozen BK208.out 2; have hfz11_3 := blk_frozen BK208.out 3; have hfz11_4 := blk_frozen BK208.out 4; have hfz11_5 := blk_frozen BK208.out 5; have hnb12 := NB201_200.out; have hnc12 := NB200_201.out; have hcz13_0 : w8.cell? ⟨gb201, 0, none⟩ = some (.int .i64 0) := (blk_cell BK201.out 0).trans rfl; have hcz13_1 : w8.cell? ⟨gb201, 1, none⟩ = some (.bool false) := (blk_cell BK201.out 1).trans rfl; have hcz13_2 : w8.cell? ⟨gb201, 2, none⟩ = some (.int .u64 0) := (blk_cell BK201.out 2).trans rfl; have hcz13_3 : w8.cell? ⟨gb201, 3, none⟩ = some (.int .u64 0) := (blk_cell BK201.out 3).trans rfl; have hcz13_4 : w8.cell? ⟨gb201, 4, none⟩ = some (.int .i64 0) := (blk_cell BK201.out 4).trans rfl; have hfz13_0 := blk_frozen BK201.out 0; have hfz13_1 := blk_frozen BK201.out 1; have hfz13_2 := blk_frozen BK201.out 2; have hfz13_3 := blk_frozen BK201.out 3; have hfz13_4 := blk_frozen BK201.out 4))
  refine bodyPost_ret (results_cell_row rfl _ _ gb201 27 #[.int .i64 0, .bool false, .int .u64 0, .int .u64 0, .int .i64 0] (0, 0) _ rfl (by refine blk_put (cs := #[.int .i64 0, .bool false, .int .u64 0, .int .u64 0, .int .i64 0]) ?_ 4 _ rfl; refine blk_put (cs := #[.int .i64 0, .bool false, .int .u64 0, .int .u64 0, .int .i64 0]) ?_ 3 _ rfl; refine blk_put (cs := #[.int .i64 0, .bool false, .int .u64 0, .int .u64 0, .int .i64 0]) ?_ 2 _ rfl; refine blk_put (cs := #[.int .i64 0, .bool false, .int .u64 0, .int .u64 0, .int .i64 0]) ?_ 1 _ rfl; refine blk_put (cs := #[.int .i64 0, .bool false, .int .u64 0, .int .u64 0, .int .i64 0]) ?_ 0 _ rfl; refine blk_far ?_ NB201_208.out _; refine blk_far ?_ NB201_208.out _; refine blk_far ?_ NB201_208.out _; refine blk_far ?_ NB201_208.out _; refine blk_far ?_ NB201_208.out _; refine blk_far ?_ NB201_208.out _; exact BK201.out) Tryd.underlying27 rfl (by kernel_rfl)) rfl ?_
  exact ⟨by first | rfl | (simp [errW_none, errW_some] <;> rfl) | (simp [*, errW_none, errW_some] <;> rfl), by repeat (first | (with_reducible first | exact HB.out | apply yA | apply yN | apply yD | refine below_set ?_ GE200.out | refine below_set ?_ GE201.out | refine below_set ?_ GE208.out) | exact HB.out)⟩
 ·rw [if_neg c4] at H
  have c4b0 : (t202 == 0) = false := beq_eq_false_iff_ne.mpr c4
  have c4b1 : (t202 != 0) = true := bne_iff_ne.mpr c4
  replace H := Option.bind_eq_some_iff.mp H
  obtain ⟨t209, A140, H⟩ := H
  replace H : ((spec_l1Bits.f k t209).bind fun t212 => (if t212 > t205 then (some (0, false, 0, 0, 0)) else (if t207 = true then (spec_Unpack.j0 k t209 t202 t202 t203 t204 t205 t206 t207) else (spec_Unpack.j0 k t209 (wrap64 (t202 - 1)) t202 t203 t204 t205 t206 t207)))) = some (r1, r2, r3, r4, r5) := H
  have A14 := zM A140
  clear A140
  replace H := Option.bind_eq_some_iff.mp H
  obtain ⟨t212, A150, H⟩ := H
  replace H : (if t212 > t205 then (some (0, false, 0, 0, 0)) else (if t207 = true then (spec_Unpack.j0 k t209 t202 t202 t203 t204 t205 t206 t207) else (spec_Unpack.j0 k t209 (wrap64 (t202 - 1)) t202 t203 t204 t205 t206 t207))) = some (r1, r2, r3, r4, r5) := H
  have A15 := zM A150
  clear A150
  by_cases c16 : t212 > t205
  ·rw [if_pos c16] at H
   have c16b0 : decide (t205 < t212) = true := decide_eq_true c16
   clear c16
   simp only [Option.some.injEq, Prod.mk.injEq] at H
   obtain ⟨rfl, rfl, rfl, rfl, rfl⟩ := H
   go_enter Tryd.func15, Tryd.ntmps15
   go_wp2_with (first | ((with_reducible refine gate_dst (N := 3) rfl ?_); refine box_event ?hg (N := 3) ?hd (cs := #[.int .u64 a1_0, .int .u64 a1_1]) (t := 25) ?hr ?_; (case hd => rfl); (case hg => rfl); (case hr => first | (go_simp; done) | (go_simp; rfl)); intro gb200 hg w17 hbox hb; have n0_ := zM (below_step HB.out hb); have n1_ := zM (hbox); have n2_ := zM ((by rw [hg]; exact (below_size HB.out) : w.heap.size ≤ gb200)); have n3_ := zM ((by rw [hg]; exact (below_size HB.out) : w.heap.size ≤ gb200)); clear HB; have HB := n0_; have BK200 := n1_; have GW200 := n2_; have GE200 := n3_; clear n0_ n1_ n2_ n3_; clear hb hbox hg) | ((with_reducible refine gate_dst (N := 4) rfl ?_); refine box_event ?hg (N := 4) ?hd (cs := #[.int .i64 0, .bool false, .int .u64 0, .int .u64 0, .int .i64 0]) (t := 27) ?hr ?_; (case hd => rfl); (case hg => rfl); (case hr => first | (go_simp; done) | (go_simp; rfl)); intro gb201 hg w18 hbox hb; have n0_ := zM (blk_below BK200.out hb); have n1_ := zM (below_step HB.out hb); have n2_ := zM (hbox); have n3_ := zM ((by rw [hg]; exact (below_size HB.out) : w.heap.size ≤ gb201)); have n4_ := zM ((by rw [hg]; exact (below_size HB.out) : w.heap.size ≤ gb201)); have n5_ := zM ((by rw [hg]; exact Nat.ne_of_lt (blk_lt BK200.out) : gb200 ≠ gb201)); have n6_ := zM ((by rw [hg]; exact Nat.ne_of_gt (blk_lt BK200.out) : gb201 ≠ gb200)); clear BK200; clear HB; have BK200 := n0_; have HB := n1_; have BK201 := n2_; have GW201 := n3_; have GE201 := n4_; have NB200_201 := n5_; have NB201_200 := n6_; clear n0_ n1_ n2_ n3_ n4_ n5_ n6_; clear hb hbox hg) | (go_at_call 57; (with_reducible refine (spec_Describe.calls a0 t202 t203 t204 t205 t206 t207 _ A3.out).mono ?_); rintro e w19 ⟨rfl, hb⟩; have n0_ := zM (blk_below BK200.out hb); have n1_ := zM (blk_below BK201.out hb); have n2_ := zM (below_step HB.out hb); clear BK200; clear BK201; clear HB; have BK200 := n0_; have BK201 := n1_; have HB := n2_; clear n0_ n1_ n2_; (try clear hb); (try clear hb2); (try clear hk); (try clear hi)) | ((with_reducible refine gate_dst (N := 5) rfl ?_); refine box_event ?hg (N := 5) ?hd (cs := #[.int .i64 0, .int .i64 0, .int .i64 0, .int .i64 0, .int .i64 0, .bool false]) (t := 83) ?hr ?_; (case hd => rfl); (case hg => rfl); (case hr => first | (go_simp; done) | (go_simp; rfl)); intro gb208 hg w20 hbox hb; have n0_ := zM (blk_below BK200.out hb); have n1_ := zM (blk_below BK201.out hb); have n2_ := zM (below_step HB.out hb); have n3_ := zM (hbox); have n4_ := zM ((by rw [hg]; exact (below_size HB.out) : w.heap.size ≤ gb208)); have n5_ := zM ((by rw [hg]; exact (below_size HB.out) : w.heap.size ≤ gb208)); have n6_ := zM ((by rw [hg]; exact Nat.ne_of_lt (blk_lt BK200.out) : gb200 ≠ gb208)); have n7_ := zM ((by rw [hg]; exact Nat.ne_of_gt (blk_lt BK200.out) : gb208 ≠ gb200)); have n8_ := zM ((by rw [hg]; exact Nat.ne_of_lt (blk_lt BK201.out) : gb201 ≠ gb208)); have n9_ := zM ((by rw [hg]; exact Nat.ne_of_gt (blk_lt BK201.out) : gb208 ≠ gb201)); clear BK200; clear BK201; clear HB; have BK200 := n0_; have BK201 := n1_; have HB := n2_; have BK208 := n3_; have GW208 := n4_; have GE208 := n5_; have NB200_208 := n6_; have NB208_200 := n7_; have NB201_208 := n8_; have NB208_201 := n9_; clear n0_ n1_ n2_ n3_ n4_ n5_ n6_ n7_ n8_ n9_; clear hb hbox hg; have hnb21 := NB208_200.out; have hnc21 := NB200_208.out; have hnb22 := NB208_201.out; have hnc22 := NB201_208.out; have hcz23_0 : w20.cell? ⟨gb208, 0, none⟩ = some (.int .i64 0) := (blk_cell BK208.out 0).trans rfl; have hcz23_1 : w20.cell? ⟨gb208, 1, none⟩ = some (.int .i64 0) := (blk_cell BK208.out 1).trans rfl; have hcz23_2 : w20.cell? ⟨gb208, 2, none⟩ = some (.int .i64 0) := (blk_cell BK208.out 2).trans rfl; have hcz23_3 : w20.cell? ⟨gb208, 3, none⟩ = some (.int .i64 0) := (blk_cell BK208.out 3).trans rfl; have hcz23_4 : w20.cell? ⟨gb208, 4, none⟩ = some (.int .i64 0) := (blk_cell BK208.out 4).trans rfl; have hcz23_5 : w20.cell? ⟨gb208, 5, none⟩ = some (.bool false) := (blk_cell BK208.out 5).trans rfl; have hfz23_0 := blk_frozen BK208.out 0; have hfz23_1 := blk_frozen BK208.out 1; have hfz23_2 := blk_frozen BK208.out 2; have hfz23_3 := blk_frozen BK208.out 3; have hfz23_4 := blk_frozen BK208.out 4; have hfz23_5 := blk_frozen BK208.out 5; have hnb24 := NB200_201.out; have hnc24 := NB201_200.out; have hcz25_0 : w20.cell? ⟨gb200, 0, none⟩ = some (.int .u64 a1_0) := (blk_cell BK200.out 0).trans rfl; have hcz25_1 : w20.cell? ⟨gb200, 1, none⟩ = some (.int .u64 a1_1) := (blk_cell BK200.out 1).trans rfl; have hfz25_0 := blk_frozen BK200.out 0; have hfz25_1 := blk_frozen BK200.out 1) | (go_at_call 58; (with_reducible refine (spec_l2Of.calls k a1_0 a1_1 t209 _ A14.out).mono ?_); rintro e w26 ⟨v210, rfl, ho0, hb⟩; have n0_ := zM (Kd.R_lower ho0 (below_size (by repeat (first | (with_reducible first | exact HB.out | apply yA | apply yN | apply yD | refine below_set ?_ GE200.out | refine below_set ?_ GE201.out | refine below_set ?_ GE208.out) | exact HB.out)))); have n1_ := zM (blk_below (g := gb200) (o := .cells #[.int .u64 a1_0, .int .u64 a1_1] 25 (0, 0)) (by refine blk_far ?_ NB200_208.out _; refine blk_far ?_ NB200_208.out _; refine blk_far ?_ NB200_208.out _; refine blk_far ?_ NB200_208.out _; refine blk_far ?_ NB200_208.out _; refine blk_far ?_ NB200_208.out _; exact BK200.out) hb); have n2_ := zM (blk_below (g := gb201) (o := .cells #[.int .i64 0, .bool false, .int .u64 0, .int .u64 0, .int .i64 0] 27 (0, 0)) (by refine blk_far ?_ NB201_208.out _; refine blk_far ?_ NB201_208.out _; refine blk_far ?_ NB201_208.out _; refine blk_far ?_ NB201_208.out _; refine blk_far ?_ NB201_208.out _; refine blk_far ?_ NB201_208.out _; exact BK201.out) hb); have n3_ := zM (blk_below (g := gb208) (o := .cells #[.int .i64 t202, .int .i64 t203, .int .i64 t204, .int .i64 t205, .int .i64 t206, .bool t207] 83 (0, 0)) (by refine blk_put (cs := #[.int .i64 t202, .int .i64 t203, .int .i64 t204, .int .i64 t205, .int .i64 t206, .bool false]) ?_ 5 _ rfl; refine blk_put (cs := #[.int .i64 t202, .int .i64 t203, .int .i64 t204, .int .i64 t205, .int .i64 0, .bool false]) ?_ 4 _ rfl; refine blk_put (cs := #[.int .i64 t202, .int .i64 t203, .int .i64 t204, .int .i64 0, .int .i64 0, .bool false]) ?_ 3 _ rfl; refine blk_put (cs := #[.int .i64 t202, .int .i64 t203, .int .i64 0, .int .i64 0, .int .i64 0, .bool false]) ?_ 2 _ rfl; refine blk_put (cs := #[.int .i64 t202, .int .i64 0, .int .i64 0, .int .i64 0, .int .i64 0, .bool false]) ?_ 1 _ rfl; refine blk_put (cs := #[.int .i64 0, .int .i64 0, .int .i64 0, .int .i64 0, .int .i64 0, .bool false]) ?_ 0 _ rfl; exact BK208.out) hb); have n4_ := zM (below_step (by repeat (first | (with_reducible first | exact HB.out | apply yA | apply yN | apply yD | refine below_set ?_ GE200.out | refine below_set ?_ GE201.out | refine below_set ?_ GE208.out) | exact HB.out)) hb); clear BK200; clear BK201; clear BK208; clear HB; have HO211 := n0_; have BK200 := n1_; have BK201 := n2_; have BK208 := n3_; have HB := n4_; clear n0_ n1_ n2_ n3_ n4_; (try clear hb); (try clear hb2); (try clear hk); (try clear hi); (try clear ho0); obtain ⟨Ao27, co27, eo27⟩ := Kd.R_slice HO211.out; subst eo27))
   repeat (go_quiet (first | (go_at_call 59; (with_reducible refine (spec_l1Bits.calls k _ _ t209 t212 _ ?side1 ?side2 A15.out).mono ?_); (case side1 => repeat (first | exact (Kd.R_reads' HO211.out).2.2 | (with_reducible refine Kd.C_alloc ?_ _) | (with_reducible refine Kd.C_drewN ?_ _) | (with_reducible refine Kd.C_drew ?_))); (case side2 => exact (Kd.R_reads' HO211.out).2.1); rintro e w' ⟨rfl, ⟨nd, rfl⟩⟩; (try first | exact ⟨rfl, _, World.drewN_drewN _ _ _⟩ | exact ⟨rfl, _, Eq.trans (World.drewN_drewN _ _ _) (congrArg (World.drewN _) (Nat.add_assoc _ _ _))⟩); have hcz28_0 : w26.cell? ⟨gb208, 0, none⟩ = some (.int .i64 t202) := (blk_cell BK208.out 0).trans rfl; have hcz28_1 : w26.cell? ⟨gb208, 1, none⟩ = some (.int .i64 t203) := (blk_cell BK208.out 1).trans rfl; have hcz28_2 : w26.cell? ⟨gb208, 2, none⟩ = some (.int .i64 t204) := (blk_cell BK208.out 2).trans rfl; have hcz28_3 : w26.cell? ⟨gb208, 3, none⟩ = some (.int .i64 t205) := (blk_cell BK208.out 3).trans rfl; have hcz28_4 : w26.cell? ⟨gb208, 4, none⟩ = some (.int .i64 t206) := (blk_cell BK208.out 4).trans rfl; have hcz28_5 : w26.cell? ⟨gb208, 5, none⟩ = some (.bool t207) := (blk_cell BK208.out 5).trans rfl; have hfz28_0 := blk_frozen BK208.out 0; have hfz28_1 := blk_frozen BK208.out 1; have hfz28_2 := blk_frozen BK208.out 2; have hfz28_3 := blk_frozen BK208.out 3; have hfz28_4 := blk_frozen BK208.out 4; have hfz28_5 := blk_frozen BK208.out 5; have hcz29_0 : w26.cell? ⟨gb201, 0, none⟩ = some (.int .i64 0) := (blk_cell BK201.out 0).trans rfl; have hcz29_1 : w26.cell? ⟨gb201, 1, none⟩ = some (.bool false) := (blk_cell BK201.out 1).trans rfl; have hcz29_2 : w26.cell? ⟨gb201, 2, none⟩ = some (.int .u64 0) := (blk_cell BK201.out 2).trans rfl; have hcz29_3 : w26.cell? ⟨gb201, 3, none⟩ = some (.int .u64 0) := (blk_cell BK201.out 3).trans rfl; have hcz29_4 : w26.cell? ⟨gb201, 4, none⟩ = some (.int .i64 0) := (blk_cell BK201.out 4).trans rfl; have hfz29_0 := blk_frozen BK201.out 0; have hfz29_1 := blk_frozen BK201.out 1; have hfz29_2 := blk_frozen BK201.out 2; have hfz29_3 := blk_frozen BK201.out 3; have hfz29_4 := blk_frozen BK201.out 4)); try go_wp2_with (first | fail))
   refine bodyPost_ret (results_cell_row rfl _ _ gb201 27 #[.int .i64 0, .bool false, .int .u64 0, .int .u64 0, .int .i64 0] (0, 0) _ rfl (by refine blk_put (cs := #[.int .i64 0, .bool false, .int .u64 0, .int .u64 0, .int .i64 0]) ?_ 4 _ rfl; refine blk_put (cs := #[.int .i64 0, .bool false, .int .u64 0, .int .u64 0, .int .i64 0]) ?_ 3 _ rfl; refine blk_put (cs := #[.int .i64 0, .bool false, .int .u64 0, .int .u64 0, .int .i64 0]) ?_ 2 _ rfl; refine blk_put (cs := #[.int .i64 0, .bool false, .int .u64 0, .int .u64 0, .int .i64 0]) ?_ 1 _ rfl; refine blk_put (cs := #[.int .i64 0, .bool false, .int .u64 0, .int .u64 0, .int .i64 0]) ?_ 0 _ rfl; (with_reducible repeat (first | apply zN | apply zD | apply zA)); exact BK201.out) Tryd.underlying27 rfl (by kernel_rfl)) rfl ?_
   exact ⟨by first | rfl | (simp [errW_none, errW_some] <;> rfl) | (simp [*, errW_none, errW_some] <;> rfl), by repeat (first | (with_reducible first | exact HB.out | apply yA | apply yN | apply yD | refine below_set ?_ GE200.out | refine below_set ?_ GE201.out | refine below_set ?_ GE208.out) | exact HB.out)⟩
  ·rw [if_neg c16] at H
   have c16b0 : decide (t205 < t212) = false := decide_eq_false c16
   clear c16
   have HC30 := zM H
   clear H
   go_enter Tryd.func15, Tryd.ntmps15
   go_upto_if 34 with (first | ((with_reducible refine gate_dst (N := 3) rfl ?_); refine box_event ?hg (N := 3) ?hd (cs := #[.int .u64 a1_0, .int .u64 a1_1]) (t := 25) ?hr ?_; (case hd => rfl); (case hg => rfl); (case hr => first | (go_simp; done) | (go_simp; rfl)); intro gb200 hg w31 hbox hb; have n0_ := zM (below_step HB.out hb); have n1_ := zM (hbox); have n2_ := zM ((by rw [hg]; exact (below_size HB.out) : w.heap.size ≤ gb200)); have n3_ := zM ((by rw [hg]; exact (below_size HB.out) : w.heap.size ≤ gb200)); clear HB; have HB := n0_; have BK200 := n1_; have GW200 := n2_; have GE200 := n3_; clear n0_ n1_ n2_ n3_; clear hb hbox hg) | ((with_reducible refine gate_dst (N := 4) rfl ?_); refine box_event ?hg (N := 4) ?hd (cs := #[.int .i64 0, .bool false, .int .u64 0, .int .u64 0, .int .i64 0]) (t := 27) ?hr ?_; (case hd => rfl); (case hg => rfl); (case hr => first | (go_simp; done) | (go_simp; rfl)); intro gb201 hg w32 hbox hb; have n0_ := zM (blk_below BK200.out hb); have n1_ := zM (below_step HB.out hb); have n2_ := zM (hbox); have n3_ := zM ((by rw [hg]; exact (below_size HB.out) : w.heap.size ≤ gb201)); have n4_ := zM ((by rw [hg]; exact (below_size HB.out) : w.heap.size ≤ gb201)); have n5_ := zM ((by rw [hg]; exact Nat.ne_of_lt (blk_lt BK200.out) : gb200 ≠ gb201)); have n6_ := zM ((by rw [hg]; exact Nat.ne_of_gt (blk_lt BK200.out) : gb201 ≠ gb200)); clear BK200; clear HB; have BK200 := n0_; have HB := n1_; have BK201 := n2_; have GW201 := n3_; have GE201 := n4_; have NB200_201 := n5_; have NB201_200 := n6_; clear n0_ n1_ n2_ n3_ n4_ n5_ n6_; clear hb hbox hg) | (go_at_call 57; (with_reducible refine (spec_Describe.calls a0 t202 t203 t204 t205 t206 t207 _ A3.out).mono ?_); rintro e w33 ⟨rfl, hb⟩; have n0_ := zM (blk_below BK200.out hb); have n1_ := zM (blk_below BK201.out hb); have n2_ := zM (below_step HB.out hb); clear BK200; clear BK201; clear HB; have BK200 := n0_; have BK201 := n1_; have HB := n2_; clear n0_ n1_ n2_; (try clear hb); (try clear hb2); (try clear hk); (try clear hi)) | ((with_reducible refine gate_dst (N := 5) rfl ?_); refine box_event ?hg (N := 5) ?hd (cs := #[.int .i64 0, .int .i64 0, .int .i64 0, .int .i64 0, .int .i64 0, .bool false]) (t := 83) ?hr ?_; (case hd => rfl); (case hg => rfl); (case hr => first | (go_simp; done) | (go_simp; rfl)); intro gb208 hg w34 hbox hb; have n0_ := zM (blk_below BK200.out hb); have n1_ := zM (blk_below BK201.out hb); have n2_ := zM (below_step HB.out hb); have n3_ := zM (hbox); have n4_ := zM ((by rw [hg]; exact (below_size HB.out) : w.heap.size ≤ gb208)); have n5_ := zM ((by rw [hg]; exact (below_size HB.out) : w.heap.size ≤ gb208)); have n6_ := zM ((by rw [hg]; exact Nat.ne_of_lt (blk_lt BK200.out) : gb200 ≠ gb208)); have n7_ := zM ((by rw [hg]; exact Nat.ne_of_gt (blk_lt BK200.out) : gb208 ≠ gb200)); have n8_ := zM ((by rw [hg]; exact Nat.ne_of_lt (blk_lt BK201.out) : gb201 ≠ gb208)); have n9_ := zM ((by rw [hg]; exact Nat.ne_of_gt (blk_lt BK201.out) : gb208 ≠ gb201)); clear BK200; clear BK201; clear HB; have BK200 := n0_; have BK201 := n1_; have HB := n2_; have BK208 := n3_; have GW208 := n4_; have GE208 := n5_; have NB200_208 := n6_; have NB208_200 := n7_; have NB201_208 := n8_; have NB208_201 := n9_; clear n0_ n1_ n2_ n3_ n4_ n5_ n6_ n7_ n8_ n9_; clear hb hbox hg; have hnb35 := NB208_200.out; have hnc35 := NB200_208.out; have hnb36 := NB208_201.out; have hnc36 := NB201_208.out; have hcz37_0 : w34.cell? ⟨gb208, 0, none⟩ = some (.int .i64 0) := (blk_cell BK208.out 0).trans rfl; have hcz37_1 : w34.cell? ⟨gb208, 1, none⟩ = some (.int .i64 0) := (blk_cell BK208.out 1).trans rfl; have hcz37_2 : w34.cell? ⟨gb208, 2, none⟩ = some (.int .i64 0) := (blk_cell BK208.out 2).trans rfl; have hcz37_3 : w34.cell? ⟨gb208, 3, none⟩ = some (.int .i64 0) := (blk_cell BK208.out 3).trans rfl; have hcz37_4 : w34.cell? ⟨gb208, 4, none⟩ = some (.int .i64 0) := (blk_cell BK208.out 4).trans rfl; have hcz37_5 : w34.cell? ⟨gb208, 5, none⟩ = some (.bool false) := (blk_cell BK208.out 5).trans rfl; have hfz37_0 := blk_frozen BK208.out 0; have hfz37_1 := blk_frozen BK208.out 1; have hfz37_2 := blk_frozen BK208.out 2; have hfz37_3 := blk_frozen BK208.out 3; have hfz37_4 := blk_frozen BK208.out 4; have hfz37_5 := blk_frozen BK208.out 5; have hnb38 := NB200_201.out; have hnc38 := NB201_200.out; have hcz39_0 : w34.cell? ⟨gb200, 0, none⟩ = some (.int .u64 a1_0) := (blk_cell BK200.out 0).trans rfl; have hcz39_1 : w34.cell? ⟨gb200, 1, none⟩ = some (.int .u64 a1_1) := (blk_cell BK200.out 1).trans rfl; have hfz39_0 := blk_frozen BK200.out 0; have hfz39_1 := blk_frozen BK200.out 1) | (go_at_call 58; (with_reducible refine (spec_l2Of.calls k a1_0 a1_1 t209 _ A14.out).mono ?_); rintro e w40 ⟨v210, rfl, ho0, hb⟩; have n0_ := zM (Kd.R_lower ho0 (below_size (by repeat (first | (with_reducible first | exact HB.out | apply yA | apply yN | apply yD | refine below_set ?_ GE200.out | refine below_set ?_ GE201.out | refine below_set ?_ GE208.out) | exact HB.out)))); have n1_ := zM (blk_below (g := gb200) (o := .cells #[.int .u64 a1_0, .int .u64 a1_1] 25 (0, 0)) (by refine blk_far ?_ NB200_208.out _; refine blk_far ?_ NB200_208.out _; refine blk_far ?_ NB200_208.out _; refine blk_far ?_ NB200_208.out _; refine blk_far ?_ NB200_208.out _; refine blk_far ?_ NB200_208.out _; exact BK200.out) hb); have n2_ := zM (blk_below (g := gb201) (o := .cells #[.int .i64 0, .bool false, .int .u64 0, .int .u64 0, .int .i64 0] 27 (0, 0)) (by refine blk_far ?_ NB201_208.out _; refine blk_far ?_ NB201_208.out _; refine blk_far ?_ NB201_208.out _; refine blk_far ?_ NB201_208.out _; refine blk_far ?_ NB201_208.out _; refine blk_far ?_ NB201_208.out _; exact BK201.out) hb); have n3_ := zM (blk_below (g := gb208) (o := .cells #[.int .i64 t202, .int .i64 t203, .int .i64 t204, .int .i64 t205, .int .i64 t206, .bool t207] 83 (0, 0)) (by refine blk_put (cs := #[.int .i64 t202, .int .i64 t203, .int .i64 t204, .int .i64 t205, .int .i64 t206, .bool false]) ?_ 5 _ rfl; refine blk_put (cs := #[.int .i64 t202, .int .i64 t203, .int .i64 t204, .int .i64 t205, .int .i64 0, .bool false]) ?_ 4 _ rfl; refine blk_put (cs := #[.int .i64 t202, .int .i64 t203, .int .i64 t204, .int .i64 0, .int .i64 0, .bool false]) ?_ 3 _ rfl; refine blk_put (cs := #[.int .i64 t202, .int .i64 t203, .int .i64 0, .int .i64 0, .int .i64 0, .bool false]) ?_ 2 _ rfl; refine blk_put (cs := #[.int .i64 t202, .int .i64 0, .int .i64 0, .int .i64 0, .int .i64 0, .bool false]) ?_ 1 _ rfl; refine blk_put (cs := #[.int .i64 0, .int .i64 0, .int .i64 0, .int .i64 0, .int .i64 0, .bool false]) ?_ 0 _ rfl; exact BK208.out) hb); have n4_ := zM (below_step (by repeat (first | (with_reducible first | exact HB.out | apply yA | apply yN | apply yD | refine below_set ?_ GE200.out | refine below_set ?_ GE201.out | refine below_set ?_ GE208.out) | exact HB.out)) hb); clear BK200; clear BK201; clear BK208; clear HB; have HO211 := n0_; have BK200 := n1_; have BK201 := n2_; have BK208 := n3_; have HB := n4_; clear n0_ n1_ n2_ n3_ n4_; (try clear hb); (try clear hb2); (try clear hk); (try clear hi); (try clear ho0); obtain ⟨Ao41, co41, eo41⟩ := Kd.R_slice HO211.out; subst eo41))
   repeat (go_quiet (first | (go_at_call 59; (with_reducible refine (spec_l1Bits.calls k _ _ t209 t212 _ ?side1 ?side2 A15.out).mono ?_); (case side1 => repeat (first | exact (Kd.R_reads' HO211.out).2.2 | (with_reducible refine Kd.C_alloc ?_ _) | (with_reducible refine Kd.C_drewN ?_ _) | (with_reducible refine Kd.C_drew ?_))); (case side2 => exact (Kd.R_reads' HO211.out).2.1); rintro e w' ⟨rfl, ⟨nd, rfl⟩⟩; (try first | exact ⟨rfl, _, World.drewN_drewN _ _ _⟩ | exact ⟨rfl, _, Eq.trans (World.drewN_drewN _ _ _) (congrArg (World.drewN _) (Nat.add_assoc _ _ _))⟩); have hcz42_0 : w40.cell? ⟨gb208, 0, none⟩ = some (.int .i64 t202) := (blk_cell BK208.out 0).trans rfl; have hcz42_1 : w40.cell? ⟨gb208, 1, none⟩ = some (.int .i64 t203) := (blk_cell BK208.out 1).trans rfl; have hcz42_2 : w40.cell? ⟨gb208, 2, none⟩ = some (.int .i64 t204) := (blk_cell BK208.out 2).trans rfl; have hcz42_3 : w40.cell? ⟨gb208, 3, none⟩ = some (.int .i64 t205) := (blk_cell BK208.out 3).trans rfl; have hcz42_4 : w40.cell? ⟨gb208, 4, none⟩ = some (.int .i64 t206) := (blk_cell BK208.out 4).trans rfl; have hcz42_5 : w40.cell? ⟨gb208, 5, none⟩ = some (.bool t207) := (blk_cell BK208.out 5).trans rfl; have hfz42_0 := blk_frozen BK208.out 0; have hfz42_1 := blk_frozen BK208.out 1; have hfz42_2 := blk_frozen BK208.out 2; have hfz42_3 := blk_frozen BK208.out 3; have hfz42_4 := blk_frozen BK208.out 4; have hfz42_5 := blk_frozen BK208.out 5)); go_upto_if 34 with (first | fail))
   (try simp only [Act.put, xT, xZ, xS])
   go_cut [7] (fun v7 wc => ∃ (kq : Nat) (x7_29 : Int), v7 = .int .i64 x7_29 ∧ Aside0 (spec_Unpack.j0 kq t209 x7_29 t202 t203 t204 t205 t206 t207 = some (r1, r2, r3, r4, r5)) ∧ Aside0 (kq ≤ k) ∧ Aside0 (Kd.R (Kd.int .u64) 22 wc w.heap.size (fun _ => True) (.slice Ao41 t209.length co41) t209) ∧ Aside0 (wc.heap[gb200]? = some (.cells #[.int .u64 a1_0, .int .u64 a1_1] 25 (0, 0))) ∧ Aside0 (wc.heap[gb201]? = some (.cells #[.int .i64 0, .bool false, .int .u64 0, .int .u64 0, .int .i64 0] 27 (0, 0))) ∧ Aside0 (wc.heap[gb208]? = some (.cells #[.int .i64 t202, .int .i64 t203, .int .i64 t204, .int .i64 t205, .int .i64 t206, .bool t207] 83 (0, 0))) ∧ Aside0 (Below w.heap.size w wc))
   case first =>
    have H := HC30.out
    clear HC30
    by_cases c43 : t207 = true
    ·subst c43
     have H1 : (spec_Unpack.j0 k t209 t202 t202 t203 t204 t205 t206 true) = some (r1, r2, r3, r4, r5) := by rw [if_pos rfl] at H; exact H
     clear H
     have H := H1
     clear H1
     have H' := zM H
     clear H
     have hnb44 := NB208_200.out
     have hnc44 := NB200_208.out
     have hnb45 := NB208_201.out
     have hnc45 := NB201_208.out
     have hcz46_0 : w40.cell? ⟨gb208, 0, none⟩ = some (.int .i64 t202) := (blk_cell BK208.out 0).trans rfl
     have hcz46_1 : w40.cell? ⟨gb208, 1, none⟩ = some (.int .i64 t203) := (blk_cell BK208.out 1).trans rfl
     have hcz46_2 : w40.cell? ⟨gb208, 2, none⟩ = some (.int .i64 t204) := (blk_cell BK208.out 2).trans rfl
     have hcz46_3 : w40.cell? ⟨gb208, 3, none⟩ = some (.int .i64 t205) := (blk_cell BK208.out 3).trans rfl
     have hcz46_4 : w40.cell? ⟨gb208, 4, none⟩ = some (.int .i64 t206) := (blk_cell BK208.out 4).trans rfl
     have hcz46_5 : w40.cell? ⟨gb208, 5, none⟩ = some (.bool true) := (blk_cell BK208.out 5).trans rfl
     have hfz46_0 := blk_frozen BK208.out 0
     have hfz46_1 := blk_frozen BK208.out 1
     have hfz46_2 := blk_frozen BK208.out 2
     have hfz46_3 := blk_frozen BK208.out 3
     have hfz46_4 := blk_frozen BK208.out 4
     have hfz46_5 := blk_frozen BK208.out 5
     go_wp2
     repeat (go_quiet (fail); try go_wp2)
     go_meet
     case rel => exact ⟨_, (t202), (by first | rfl | (simp; done) | (simp [*]; done)), H', ⟨by first | omega | exact Nat.le_refl _⟩, ⟨by (with_reducible repeat (first | apply Kd.R_alloc | apply Kd.R_drewN | apply Kd.R_drew)); exact HO211.out⟩, ⟨by (with_reducible repeat (first | apply zN | apply zD | apply zA)); exact BK200.out⟩, ⟨by (with_reducible repeat (first | apply zN | apply zD | apply zA)); exact BK201.out⟩, ⟨by (with_reducible repeat (first | apply zN | apply zD | apply zA)); exact BK208.out⟩, ⟨by repeat (first | (with_reducible first | exact HB.out | apply yA | apply yN | apply yD | refine below_set ?_ GE200.out | refine below_set ?_ GE201.out | refine below_set ?_ GE208.out) | exact HB.out)⟩⟩
    ·replace c43 := Bool.eq_false_iff.mpr c43
     subst c43
     have H1 : (spec_Unpack.j0 k t209 (wrap64 (t202 - 1)) t202 t203 t204 t205 t206 false) = some (r1, r2, r3, r4, r5) := by rw [if_neg (show ¬ (false = true) by decide)] at H; exact H
     clear H
     have H := H1
     clear H1
     have H' := zM H
     clear H
     go_wp2
     repeat (go_quiet (fail); try go_wp2)
     go_meet
     case rel => exact ⟨_, (wrap64 (t202 - 1)), (by first | rfl | (simp; done) | (simp [*]; done)), H', ⟨by first | omega | exact Nat.le_refl _⟩, ⟨by (with_reducible repeat (first | apply Kd.R_alloc | apply Kd.R_drewN | apply Kd.R_drew)); exact HO211.out⟩, ⟨by (with_reducible repeat (first | apply zN | apply zD | apply zA)); exact BK200.out⟩, ⟨by (with_reducible repeat (first | apply zN | apply zD | apply zA)); exact BK201.out⟩, ⟨by (with_reducible repeat (first | apply zN | apply zD | apply zA)); exact BK208.out⟩, ⟨by repeat (first | (with_reducible first | exact HB.out | apply yA | apply yN | apply yD | refine below_set ?_ GE200.out | refine below_set ?_ GE201.out | refine below_set ?_ GE208.out) | exact HB.out)⟩⟩
   case rest =>
    clear HC30
    obtain ⟨kq, x7_29, rfl, HA, HJ29, HO_6, BK200, BK201, BK208, HB⟩ := hcut
    cases kq with
    | zero => exact absurd HA.out (by simp [spec_Unpack.j0])
    | succ kj29 =>
     have H := HA.out
     clear HA
     simp only [spec_Unpack.j0] at H
     replace H := Option.bind_eq_some_iff.mp H
     obtain ⟨t213, A470, H⟩ := H
     replace H : (spec_Unpack.l0 kj29 t209 x7_29 t213 0 (wrap64 (t206 - 1)) t202 t203 t204 t205 t206 t207) = some (r1, r2, r3, r4, r5) := H
     have A47 := zM A470
     clear A470
     have H' := zM H
     clear H
     go_wp2_with (first | (go_at_call 60; (with_reducible refine (spec_l2Low.calls kj29 _ _ t209 x7_29 t213 _ ?side1 ?side2 A47.out).mono ?_); (case side1 => repeat (first | exact (Kd.R_reads' HO_6.out).2.2 | (with_reducible refine Kd.C_alloc ?_ _) | (with_reducible refine Kd.C_drewN ?_ _) | (with_reducible refine Kd.C_drew ?_))); (case side2 => exact (Kd.R_reads' HO_6.out).2.1); rintro e w48 ⟨v214, rfl, ho0, hb⟩; have n0_ := zM (Kd.R_elder' (by exact HO_6.out) (Kd.R_base ho0) hb); have n1_ := zM (Kd.R_lower (Kd.R_new' ho0 (Kd.R_lt (by exact HO_6.out))) (below_size HB.out)); have n2_ := zM (blk_below BK200.out hb); have n3_ := zM (blk_below BK201.out hb); have n4_ := zM (blk_below BK208.out hb); have n5_ := zM (below_step HB.out hb); clear HO_6; clear BK200; clear BK201; clear BK208; clear HB; have HO_6 := n0_; have HO215 := n1_; have BK200 := n2_; have BK201 := n3_; have BK208 := n4_; have HB := n5_; clear n0_ n1_ n2_ n3_ n4_ n5_; (try clear hb); (try clear hb2); (try clear hk); (try clear hi); (try clear ho0); have hnb49 := NB208_200.out; have hnc49 := NB200_208.out; have hnb50 := NB208_201.out; have hnc50 := NB201_208.out; have hcz51_0 : w48.cell? ⟨gb208, 0, none⟩ = some (.int .i64 t202) := (blk_cell BK208.out 0).trans rfl; have hcz51_1 : w48.cell? ⟨gb208, 1, none⟩ = some (.int .i64 t203) := (blk_cell BK208.out 1).trans rfl; have hcz51_2 : w48.cell? ⟨gb208, 2, none⟩ = some (.int .i64 t204) := (blk_cell BK208.out 2).trans rfl; have hcz51_3 : w48.cell? ⟨gb208, 3, none⟩ = some (.int .i64 t205) := (blk_cell BK208.out 3).trans rfl; have hcz51_4 : w48.cell? ⟨gb208, 4, none⟩ = some (.int .i64 t206) := (blk_cell BK208.out 4).trans rfl; have hcz51_5 : w48.cell? ⟨gb208, 5, none⟩ = some (.bool t207) := (blk_cell BK208.out 5).trans rfl; have hfz51_0 := blk_frozen BK208.out 0; have hfz51_1 := blk_frozen BK208.out 1; have hfz51_2 := blk_frozen BK208.out 2; have hfz51_3 := blk_frozen BK208.out 3; have hfz51_4 := blk_frozen BK208.out 4; have hfz51_5 := blk_frozen BK208.out 5))
     go_loopg [9, 10] kj29 (fun kq v9 v10 w' => ∃ (x9_2 : Int) (x10_2 : Int), v9 = .int .i64 x9_2 ∧ v10 = .int .i64 x10_2 ∧ Aside0 (spec_Unpack.l0 kq t209 x7_29 t213 x9_2 x10_2 t202 t203 t204 t205 t206 t207 = some (r1, r2, r3, r4, r5)) ∧ Aside0 (kq ≤ kj29) ∧ Aside0 (Kd.R (Kd.int .u64) 22 w' w.heap.size (fun k_ => some k_ ≠ (v214 : Value).ownBlock) (.slice Ao41 t209.length co41) t209) ∧ Aside0 (Kd.R (Kd.int .u64) 22 w' w.heap.size (fun k_ => some k_ ≠ ((.slice Ao41 t209.length co41) : Value).ownBlock) v214 t213) ∧ Aside0 (w'.heap[gb200]? = some (.cells #[.int .u64 a1_0, .int .u64 a1_1] 25 (0, 0))) ∧ Aside0 (w'.heap[gb201]? = some (.cells #[.int .i64 0, .bool false, .int .u64 0, .int .u64 0, .int .i64 0] 27 (0, 0))) ∧ Aside0 (w'.heap[gb208]? = some (.cells #[.int .i64 t202, .int .i64 t203, .int .i64 t204, .int .i64 t205, .int .i64 t206, .bool t207] 83 (0, 0))) ∧ Aside0 (Below w.heap.size w w'))
     case atStart => exact ⟨(0), (wrap64 (t206 - 1)), (by first | rfl | (simp; done) | (simp [*]; done)), (by first | rfl | (simp; done) | (simp [*]; done)), H', ⟨Nat.le_refl _⟩, ⟨by exact Kd.R_mono HO_6.out (fun _ hk => hk.2)⟩, ⟨by exact Kd.R_mono HO215.out (fun _ hk => hk.2)⟩, ⟨by exact BK200.out⟩, ⟨by exact BK201.out⟩, ⟨by exact BK208.out⟩, ⟨by repeat (first | (with_reducible first | exact HB.out | apply yA | apply yN | apply yD | refine below_set ?_ GE200.out | refine below_set ?_ GE201.out | refine below_set ?_ GE208.out) | exact HB.out)⟩⟩
     case round =>
      clear H'
      obtain ⟨x9_2, x10_2, rfl, rfl, HA, HK2, HO_6, HO_8, BK200, BK201, BK208, HB⟩ := hrel
      cases gk with
      | zero => exact absurd HA.out (by simp [spec_Unpack.l0])
      | succ k2 =>
       have H := HA.out
       clear HA
       simp only [spec_Unpack.l0] at H
       by_cases c52 : x10_2 ≥ 0
       ·rw [if_pos c52] at H
        have c52b0 : decide (0 ≤ x10_2) = true := decide_eq_true c52
        clear c52
        replace H := Option.bind_eq_some_iff.mp H
        obtain ⟨t216, A530, H⟩ := H
        replace H : (spec_Unpack.l0 k2 t209 x7_29 t213 (wrap64 ((wrap64 (x9_2 * 2)) + (wrap64 (t216)))) (wrap64 (x10_2 - 1)) t202 t203 t204 t205 t206 t207) = some (r1, r2, r3, r4, r5) := H
        have A53 := zM A530
        clear A530
        have H' := zM H
        clear H
        go_wp2_with (first | (go_at_call 61; (with_reducible refine (spec_l1Bit.calls _ _ t209 (wrap64 (x7_29 + x10_2)) t216 _ ?side1 ?side2 A53.out).mono ?_); (case side1 => repeat (first | exact (Kd.R_reads' HO_6.out).2.2 | (with_reducible refine Kd.C_alloc ?_ _) | (with_reducible refine Kd.C_drewN ?_ _) | (with_reducible refine Kd.C_drew ?_))); (case side2 => exact (Kd.R_reads' HO_6.out).2.1); rintro e w' ⟨rfl, ⟨nd, rfl⟩⟩; (try first | exact ⟨rfl, _, World.drewN_drewN _ _ _⟩ | exact ⟨rfl, _, Eq.trans (World.drewN_drewN _ _ _) (congrArg (World.drewN _) (Nat.add_assoc _ _ _))⟩)))
        go_roundg k2
        case measure => have := HJ29.out; have := HK2.out; omega
        case rel => exact ⟨(wrap64 ((wrap64 (x9_2 * 2)) + (wrap64 (t216)))), (wrap64 (x10_2 - 1)), (by first | rfl | (simp; done) | (simp [*]; done)), (by first | rfl | (simp; done) | (simp [*]; done)), H', ⟨by have := HJ29.out; have := HK2.out; omega⟩, ⟨by (with_reducible repeat (first | apply Kd.R_alloc | apply Kd.R_drewN | apply Kd.R_drew)); exact HO_6.out⟩, ⟨by (with_reducible repeat (first | apply Kd.R_alloc | apply Kd.R_drewN | apply Kd.R_drew)); exact HO_8.out⟩, ⟨by (with_reducible repeat (first | apply zN | apply zD | apply zA)); exact BK200.out⟩, ⟨by (with_reducible repeat (first | apply zN | apply zD | apply zA)); exact BK201.out⟩, ⟨by (with_reducible repeat (first | apply zN | apply zD | apply zA)); exact BK208.out⟩, ⟨by repeat (first | (with_reducible first | exact HB.out | apply yA | apply yN | apply yD | refine below_set ?_ GE200.out | refine below_set ?_ GE201.out | refine below_set ?_ GE208.out) | exact HB.out)⟩⟩
       ·rw [if_neg c52] at H
        have c52b0 : decide (0 ≤ x10_2) = false := decide_eq_false c52
        clear c52
        replace H := Option.bind_eq_some_iff.mp H
        obtain ⟨t217, A540, H⟩ := H
        replace H : (spec_Unpack.l1 k2 t213 x9_2 1 0 t202 t203 t204 t205 t206 t207 0 (t217 == 1) 0 0 0) = some (r1, r2, r3, r4, r5) := H
        have A54 := zM A540
        clear A540
        have H' := zM H
        clear H
        have hnb55 := NB208_200.out
        have hnc55 := NB200_208.out
        have hnb56 := NB208_201.out
        have hnc56 := NB201_208.out
        have hcz57_0 : wr.cell? ⟨gb208, 0, none⟩ = some (.int .i64 t202) := (blk_cell BK208.out 0).trans rfl
        have hcz57_1 : wr.cell? ⟨gb208, 1, none⟩ = some (.int .i64 t203) := (blk_cell BK208.out 1).trans rfl
        have hcz57_2 : wr.cell? ⟨gb208, 2, none⟩ = some (.int .i64 t204) := (blk_cell BK208.out 2).trans rfl
        have hcz57_3 : wr.cell? ⟨gb208, 3, none⟩ = some (.int .i64 t205) := (blk_cell BK208.out 3).trans rfl
        have hcz57_4 : wr.cell? ⟨gb208, 4, none⟩ = some (.int .i64 t206) := (blk_cell BK208.out 4).trans rfl
        have hcz57_5 : wr.cell? ⟨gb208, 5, none⟩ = some (.bool t207) := (blk_cell BK208.out 5).trans rfl
        have hfz57_0 := blk_frozen BK208.out 0
        have hfz57_1 := blk_frozen BK208.out 1
        have hfz57_2 := blk_frozen BK208.out 2
        have hfz57_3 := blk_frozen BK208.out 3
        have hfz57_4 := blk_frozen BK208.out 4
        have hfz57_5 := blk_frozen BK208.out 5
        go_wp2_with (first | (go_at_call 61; (with_reducible refine (spec_l1Bit.calls _ _ t209 (wrap64 (t205 - 1)) t217 _ ?side1 ?side2 A54.out).mono ?_); (case side1 => repeat (first | exact (Kd.R_reads' HO_6.out).2.2 | (with_reducible refine Kd.C_alloc ?_ _) | (with_reducible refine Kd.C_drewN ?_ _) | (with_reducible refine Kd.C_drew ?_))); (case side2 => exact (Kd.R_reads' HO_6.out).2.1); rintro e w' ⟨rfl, ⟨nd, rfl⟩⟩; (try first | exact ⟨rfl, _, World.drewN_drewN _ _ _⟩ | exact ⟨rfl, _, Eq.trans (World.drewN_drewN _ _ _) (congrArg (World.drewN _) (Nat.add_assoc _ _ _))⟩)) | ((with_reducible refine gate_dst (N := 11) rfl ?_); refine box_event ?hg (N := 11) ?hd (cs := #[.int .i64 0, .bool false, .int .u64 0, .int .u64 0, .int .i64 0]) (t := 27) ?hr ?_; (case hd => rfl); (case hg => rfl); (case hr => first | (go_simp; done) | (go_simp; rfl)); intro gb218 hg w58 hbox hb; have n0_ := zM (Kd.R_below (by (with_reducible repeat (first | apply Kd.R_alloc | apply Kd.R_drewN | apply Kd.R_drew)); exact HO_6.out) hb); have n1_ := zM (Kd.R_below (by (with_reducible repeat (first | apply Kd.R_alloc | apply Kd.R_drewN | apply Kd.R_drew)); exact HO_8.out) hb); have n2_ := zM (blk_below (g := gb200) (o := .cells #[.int .u64 a1_0, .int .u64 a1_1] 25 (0, 0)) (by (with_reducible repeat (first | apply zN | apply zD | apply zA)); exact BK200.out) hb); have n3_ := zM (blk_below (g := gb201) (o := .cells #[.int .i64 0, .bool false, .int .u64 0, .int .u64 0, .int .i64 0] 27 (0, 0)) (by (with_reducible repeat (first | apply zN | apply zD | apply zA)); exact BK201.out) hb); have n4_ := zM (blk_below (g := gb208) (o := .cells #[.int .i64 t202, .int .i64 t203, .int .i64 t204, .int .i64 t205, .int .i64 t206, .bool t207] 83 (0, 0)) (by (with_reducible repeat (first | apply zN | apply zD | apply zA)); exact BK208.out) hb); have n5_ := zM (below_step (by repeat (first | (with_reducible first | exact HB.out | apply yA | apply yN | apply yD | refine below_set ?_ GE200.out | refine below_set ?_ GE201.out | refine below_set ?_ GE208.out) | exact HB.out)) hb); have n6_ := zM (hbox); have n7_ := zM ((by rw [hg]; exact (below_size (by repeat (first | (with_reducible first | exact HB.out | apply yA | apply yN | apply yD | refine below_set ?_ GE200.out | refine below_set ?_ GE201.out | refine below_set ?_ GE208.out) | exact HB.out))) : w.heap.size ≤ gb218)); have n8_ := zM ((by rw [hg]; exact (below_size (by repeat (first | (with_reducible first | exact HB.out | apply yA | apply yN | apply yD | refine below_set ?_ GE200.out | refine below_set ?_ GE201.out | refine below_set ?_ GE208.out) | exact HB.out))) : w.heap.size ≤ gb218)); have n9_ := zM ((by rw [hg]; exact Nat.ne_of_lt (blk_lt (g := gb200) (o := .cells #[.int .u64 a1_0, .int .u64 a1_1] 25 (0, 0)) (by (with_reducible repeat (first | apply zN | apply zD | apply zA)); exact BK200.out)) : gb200 ≠ gb218)); have n10_ := zM ((by rw [hg]; exact Nat.ne_of_gt (blk_lt (g := gb200) (o := .cells #[.int .u64 a1_0, .int .u64 a1_1] 25 (0, 0)) (by (with_reducible repeat (first | apply zN | apply zD | apply zA)); exact BK200.out)) : gb218 ≠ gb200)); have n11_ := zM ((by rw [hg]; exact Nat.ne_of_lt (blk_lt (g := gb201) (o := .cells #[.int .i64 0, .bool false, .int .u64 0, .int .u64 0, .int .i64 0] 27 (0, 0)) (by (with_reducible repeat (first | apply zN | apply zD | apply zA)); exact BK201.out)) : gb201 ≠ gb218)); have n12_ := zM ((by rw [hg]; exact Nat.ne_of_gt (blk_lt (g := gb201) (o := .cells #[.int .i64 0, .bool false, .int .u64 0, .int .u64 0, .int .i64 0] 27 (0, 0)) (by (with_reducible repeat (first | apply zN | apply zD | apply zA)); exact BK201.out)) : gb218 ≠ gb201)); have n13_ := zM ((by rw [hg]; exact Nat.ne_of_lt (blk_lt (g := gb208) (o := .cells #[.int .i64 t202, .int .i64 t203, .int .i64 t204, .int .i64 t205, .int .i64 t206, .bool t207] 83 (0, 0)) (by (with_reducible repeat (first | apply zN | apply zD | apply zA)); exact BK208.out)) : gb208 ≠ gb218)); have n14_ := zM ((by rw [hg]; exact Nat.ne_of_gt (blk_lt (g := gb208) (o := .cells #[.int .i64 t202, .int .i64 t203, .int .i64 t204, .int .i64 t205, .int .i64 t206, .bool t207] 83 (0, 0)) (by (with_reducible repeat (first | apply zN | apply zD | apply zA)); exact BK208.out)) : gb218 ≠ gb208)); clear HO_6; clear HO_8; clear BK200; clear BK201; clear BK208; clear HB; have HO_6 := n0_; have HO_8 := n1_; have BK200 := n2_; have BK201 := n3_; have BK208 := n4_; have HB := n5_; have BK218 := n6_; have GW218 := n7_; have GE218 := n8_; have NB200_218 := n9_; have NB218_200 := n10_; have NB201_218 := n11_; have NB218_201 := n12_; have NB208_218 := n13_; have NB218_208 := n14_; clear n0_ n1_ n2_ n3_ n4_ n5_ n6_ n7_ n8_ n9_ n10_ n11_ n12_ n13_ n14_; clear hb hbox hg; have hnb59 := NB218_200.out; have hnc59 := NB200_218.out; have hnb60 := NB218_201.out; have hnc60 := NB201_218.out; have hnb61 := NB218_208.out; have hnc61 := NB208_218.out; have hcz62_0 : w58.cell? ⟨gb218, 0, none⟩ = some (.int .i64 0) := (blk_cell BK218.out 0).trans rfl; have hcz62_1 : w58.cell? ⟨gb218, 1, none⟩ = some (.bool false) := (blk_cell BK218.out 1).trans rfl; have hcz62_2 : w58.cell? ⟨gb218, 2, none⟩ = some (.int .u64 0) := (blk_cell BK218.out 2).trans rfl; have hcz62_3 : w58.cell? ⟨gb218, 3, none⟩ = some (.int .u64 0) := (blk_cell BK218.out 3).trans rfl; have hcz62_4 : w58.cell? ⟨gb218, 4, none⟩ = some (.int .i64 0) := (blk_cell BK218.out 4).trans rfl; have hfz62_0 := blk_frozen BK218.out 0; have hfz62_1 := blk_frozen BK218.out 1; have hfz62_2 := blk_frozen BK218.out 2; have hfz62_3 := blk_frozen BK218.out 3; have hfz62_4 := blk_frozen BK218.out 4))
        go_loopg [12, 13] k2 (fun kq v12 v13 w' => ∃ (x12_3 : Int) (x13_3 : Int), v12 = .int .i64 x12_3 ∧ v13 = .int .i64 x13_3 ∧ Aside0 (spec_Unpack.l1 kq t213 x9_2 x12_3 x13_3 t202 t203 t204 t205 t206 t207 0 (t217 == 1) 0 0 0 = some (r1, r2, r3, r4, r5)) ∧ Aside0 (kq ≤ k2) ∧ Aside0 (Kd.R (Kd.int .u64) 22 w' w.heap.size (fun _ => True) v214 t213) ∧ Aside0 (w'.heap[gb200]? = some (.cells #[.int .u64 a1_0, .int .u64 a1_1] 25 (0, 0))) ∧ Aside0 (w'.heap[gb201]? = some (.cells #[.int .i64 0, .bool false, .int .u64 0, .int .u64 0, .int .i64 0] 27 (0, 0))) ∧ Aside0 (w'.heap[gb208]? = some (.cells #[.int .i64 t202, .int .i64 t203, .int .i64 t204, .int .i64 t205, .int .i64 t206, .bool t207] 83 (0, 0))) ∧ Aside0 (w'.heap[gb218]? = some (.cells #[.int .i64 0, .bool (t217 == 1), .int .u64 0, .int .u64 0, .int .i64 0] 27 (0, 0))) ∧ Aside0 (Below w.heap.size w w'))
        case atStart => exact ⟨(1), (0), (by first | rfl | (simp; done) | (simp [*]; done)), (by first | rfl | (simp; done) | (simp [*]; done)), H', ⟨Nat.le_refl _⟩, ⟨by exact Kd.R_mono (Kd.R_far (p := ⟨gb218, 4, none⟩) (Kd.R_far (p := ⟨gb218, 3, none⟩) (Kd.R_far (p := ⟨gb218, 2, none⟩) (Kd.R_far (p := ⟨gb218, 1, none⟩) (Kd.R_far (p := ⟨gb218, 0, none⟩) (Kd.R_types HO_8.out BK218.out (by decide)) (fun _ hk => hk.2) (.int .i64 0)) (fun _ hk => hk.2) (.bool (t217 == 1))) (fun _ hk => hk.2) (.int .u64 0)) (fun _ hk => hk.2) (.int .u64 0)) (fun _ hk => hk.2) (.int .i64 0)) (fun _ hk => trivial)⟩, ⟨by refine blk_far ?_ NB200_218.out _; refine blk_far ?_ NB200_218.out _; refine blk_far ?_ NB200_218.out _; refine blk_far ?_ NB200_218.out _; refine blk_far ?_ NB200_218.out _; exact BK200.out⟩, ⟨by refine blk_far ?_ NB201_218.out _; refine blk_far ?_ NB201_218.out _; refine blk_far ?_ NB201_218.out _; refine blk_far ?_ NB201_218.out _; refine blk_far ?_ NB201_218.out _; exact BK201.out⟩, ⟨by refine blk_far ?_ NB208_218.out _; refine blk_far ?_ NB208_218.out _; refine blk_far ?_ NB208_218.out _; refine blk_far ?_ NB208_218.out _; refine blk_far ?_ NB208_218.out _; exact BK208.out⟩, ⟨by refine blk_put (cs := #[.int .i64 0, .bool (t217 == 1), .int .u64 0, .int .u64 0, .int .i64 0]) ?_ 4 _ rfl; refine blk_put (cs := #[.int .i64 0, .bool (t217 == 1), .int .u64 0, .int .u64 0, .int .i64 0]) ?_ 3 _ rfl; refine blk_put (cs := #[.int .i64 0, .bool (t217 == 1), .int .u64 0, .int .u64 0, .int .i64 0]) ?_ 2 _ rfl; refine blk_put (cs := #[.int .i64 0, .bool false, .int .u64 0, .int .u64 0, .int .i64 0]) ?_ 1 _ rfl; refine blk_put (cs := #[.int .i64 0, .bool false, .int .u64 0, .int .u64 0, .int .i64 0]) ?_ 0 _ rfl; exact BK218.out⟩, ⟨by repeat (first | (with_reducible first | exact HB.out | apply yA | apply yN | apply yD | refine below_set ?_ GE200.out | refine below_set ?_ GE201.out | refine below_set ?_ GE208.out | refine below_set ?_ GE218.out) | exact HB.out)⟩⟩
        case round =>
         clear H'
         obtain ⟨x12_3, x13_3, rfl, rfl, HA, HK3, HO_8, BK200, BK201, BK208, BK218, HB⟩ := hrel
         cases gk with
         | zero => exact absurd HA.out (by simp [spec_Unpack.l1])
         | succ k3 =>
          have H := HA.out
          clear HA
          simp only [spec_Unpack.l1] at H
          by_cases c63 : x13_3 < t206
          ·rw [if_pos c63] at H
           have c63b0 : decide (x13_3 < t206) = true := decide_eq_true c63
           clear c63
           have H' := zM H
           clear H
           have hnb64 := NB208_200.out
           have hnc64 := NB200_208.out
           have hnb65 := NB208_201.out
           have hnc65 := NB201_208.out
           have hnb66 := NB208_218.out
           have hnc66 := NB218_208.out
           have hcz67_0 : wr.cell? ⟨gb208, 0, none⟩ = some (.int .i64 t202) := (blk_cell BK208.out 0).trans rfl
           have hcz67_1 : wr.cell? ⟨gb208, 1, none⟩ = some (.int .i64 t203) := (blk_cell BK208.out 1).trans rfl
           have hcz67_2 : wr.cell? ⟨gb208, 2, none⟩ = some (.int .i64 t204) := (blk_cell BK208.out 2).trans rfl
           have hcz67_3 : wr.cell? ⟨gb208, 3, none⟩ = some (.int .i64 t205) := (blk_cell BK208.out 3).trans rfl
           have hcz67_4 : wr.cell? ⟨gb208, 4, none⟩ = some (.int .i64 t206) := (blk_cell BK208.out 4).trans rfl
           have hcz67_5 : wr.cell? ⟨gb208, 5, none⟩ = some (.bool t207) := (blk_cell BK208.out 5).trans rfl
           have hfz67_0 := blk_frozen BK208.out 0
           have hfz67_1 := blk_frozen BK208.out 1
           have hfz67_2 := blk_frozen BK208.out 2
           have hfz67_3 := blk_frozen BK208.out 3
           have hfz67_4 := blk_frozen BK208.out 4
           have hfz67_5 := blk_frozen BK208.out 5
           go_wp2
           repeat (go_quiet (fail); try go_wp2)
           go_roundg k3
           case measure => have := HJ29.out; have := HK2.out; have := HK3.out; omega
           case rel => exact ⟨(wrap64 (x12_3 * 2)), (wrap64 (x13_3 + 1)), (by first | rfl | (simp; done) | (simp [*]; done)), (by first | rfl | (simp; done) | (simp [*]; done)), H', ⟨by have := HJ29.out; have := HK2.out; have := HK3.out; omega⟩, ⟨by exact HO_8.out⟩, ⟨by exact BK200.out⟩, ⟨by exact BK201.out⟩, ⟨by exact BK208.out⟩, ⟨by exact BK218.out⟩, ⟨by repeat (first | (with_reducible first | exact HB.out | apply yA | apply yN | apply yD | refine below_set ?_ GE200.out | refine below_set ?_ GE201.out | refine below_set ?_ GE208.out | refine below_set ?_ GE218.out) | exact HB.out)⟩⟩
          ·rw [if_neg c63] at H
           have c63b0 : decide (x13_3 < t206) = false := decide_eq_false c63
           clear c63
           have HC68 := zM H
           clear H
           have hnb69 := NB208_200.out
           have hnc69 := NB200_208.out
           have hnb70 := NB208_201.out
           have hnc70 := NB201_208.out
           have hnb71 := NB208_218.out
           have hnc71 := NB218_208.out
           have hcz72_0 : wr.cell? ⟨gb208, 0, none⟩ = some (.int .i64 t202) := (blk_cell BK208.out 0).trans rfl
           have hcz72_1 : wr.cell? ⟨gb208, 1, none⟩ = some (.int .i64 t203) := (blk_cell BK208.out 1).trans rfl
           have hcz72_2 : wr.cell? ⟨gb208, 2, none⟩ = some (.int .i64 t204) := (blk_cell BK208.out 2).trans rfl
           have hcz72_3 : wr.cell? ⟨gb208, 3, none⟩ = some (.int .i64 t205) := (blk_cell BK208.out 3).trans rfl
           have hcz72_4 : wr.cell? ⟨gb208, 4, none⟩ = some (.int .i64 t206) := (blk_cell BK208.out 4).trans rfl
           have hcz72_5 : wr.cell? ⟨gb208, 5, none⟩ = some (.bool t207) := (blk_cell BK208.out 5).trans rfl
           have hfz72_0 := blk_frozen BK208.out 0
           have hfz72_1 := blk_frozen BK208.out 1
           have hfz72_2 := blk_frozen BK208.out 2
           have hfz72_3 := blk_frozen BK208.out 3
           have hfz72_4 := blk_frozen BK208.out 4
           have hfz72_5 := blk_frozen BK208.out 5
           go_upto_if 75 with (fail)
           repeat (go_quiet (fail); go_upto_if 75 with (fail))
           go_cut [15] (fun v15 wc => ∃ (kq : Nat) (x15_67 : List Int) (x202000_67 : Int) (x202001_67 : Bool) (x202002_67 : Int) (x202003_67 : Int) (x202004_67 : Int), Aside0 (spec_Unpack.j3 kq x9_2 (wrap64 (x12_3 - 1)) x15_67 t202 t203 t204 t205 t206 t207 0 (t217 == 1) 0 0 0 = some (r1, r2, r3, r4, r5)) ∧ Aside0 (kq ≤ k3) ∧ Aside0 (Kd.R (Kd.int .u64) 22 wc w.heap.size (fun _ => True) v15 x15_67) ∧ Aside0 (wc.heap[gb200]? = some (.cells #[.int .u64 a1_0, .int .u64 a1_1] 25 (0, 0))) ∧ Aside0 (wc.heap[gb201]? = some (.cells #[.int .i64 x202000_67, .bool x202001_67, .int .u64 x202002_67, .int .u64 x202003_67, .int .i64 x202004_67] 27 (0, 0))) ∧ Aside0 (wc.heap[gb208]? = some (.cells #[.int .i64 t202, .int .i64 t203, .int .i64 t204, .int .i64 t205, .int .i64 t206, .bool t207] 83 (0, 0))) ∧ Aside0 (wc.heap[gb218]? = some (.cells #[.int .i64 0, .bool (t217 == 1), .int .u64 0, .int .u64 0, .int .i64 0] 27 (0, 0))) ∧ Aside0 (Below w.heap.size w wc))
           case first =>
            have H := HC68.out
            clear HC68
            by_cases c73 : t207 = true
            ·subst c73
             have H1 : ((spec_l1Bit.f t213 (wrap64 (t202 - 1))).bind fun t219 => ((spec_l2Low.f k3 t213 (wrap64 (t202 - 1))).bind fun t220 => (if x9_2 = 0 then (if t219 = 1 then (some (0, false, 0, 0, 0)) else (if x9_2 > 0 then (some (0, false, 0, 0, 0)) else (spec_Unpack.j3 k3 x9_2 (wrap64 (x12_3 - 1)) t220 t202 t203 t204 t205 t206 true 0 (t217 == 1) 0 0 0))) else (if x9_2 > 0 then (if t219 = 1 then (spec_Unpack.j3 k3 x9_2 (wrap64 (x12_3 - 1)) t220 t202 t203 t204 t205 t206 true 0 (t217 == 1) 0 0 0) else (some (0, false, 0, 0, 0))) else (spec_Unpack.j3 k3 x9_2 (wrap64 (x12_3 - 1)) t220 t202 t203 t204 t205 t206 true 0 (t217 == 1) 0 0 0))))) = some (r1, r2, r3, r4, r5) := by rw [if_pos rfl] at H; exact H
             clear H
             have H := H1
             clear H1
             replace H := Option.bind_eq_some_iff.mp H
             obtain ⟨t219, A740, H⟩ := H
             replace H : ((spec_l2Low.f k3 t213 (wrap64 (t202 - 1))).bind fun t220 => (if x9_2 = 0 then (if t219 = 1 then (some (0, false, 0, 0, 0)) else (if x9_2 > 0 then (some (0, false, 0, 0, 0)) else (spec_Unpack.j3 k3 x9_2 (wrap64 (x12_3 - 1)) t220 t202 t203 t204 t205 t206 true 0 (t217 == 1) 0 0 0))) else (if x9_2 > 0 then (if t219 = 1 then (spec_Unpack.j3 k3 x9_2 (wrap64 (x12_3 - 1)) t220 t202 t203 t204 t205 t206 true 0 (t217 == 1) 0 0 0) else (some (0, false, 0, 0, 0))) else (spec_Unpack.j3 k3 x9_2 (wrap64 (x12_3 - 1)) t220 t202 t203 t204 t205 t206 true 0 (t217 == 1) 0 0 0)))) = some (r1, r2, r3, r4, r5) := H
             have A74 := zM A740
             clear A740
             replace H := Option.bind_eq_some_iff.mp H
             obtain ⟨t220, A750, H⟩ := H
             replace H : (if x9_2 = 0 then (if t219 = 1 then (some (0, false, 0, 0, 0)) else (if x9_2 > 0 then (some (0, false, 0, 0, 0)) else (spec_Unpack.j3 k3 x9_2 (wrap64 (x12_3 - 1)) t220 t202 t203 t204 t205 t206 true 0 (t217 == 1) 0 0 0))) else (if x9_2 > 0 then (if t219 = 1 then (spec_Unpack.j3 k3 x9_2 (wrap64 (x12_3 - 1)) t220 t202 t203 t204 t205 t206 true 0 (t217 == 1) 0 0 0) else (some (0, false, 0, 0, 0))) else (spec_Unpack.j3 k3 x9_2 (wrap64 (x12_3 - 1)) t220 t202 t203 t204 t205 t206 true 0 (t217 == 1) 0 0 0))) = some (r1, r2, r3, r4, r5) := H
             have A75 := zM A750
             clear A750
             by_cases c76 : x9_2 = 0
             ·rw [if_pos c76] at H
              have c76b0 : (x9_2 == 0) = true := beq_iff_eq.mpr c76
              have c76b1 : (x9_2 != 0) = false := bne_eq_false_iff_eq.mpr c76
              clear c76
              (first | rw [c76b0] | (simp only [i64_w, i32_w]; rw [c76b0]) | rw [c76b1] | (simp only [c76b1]) | skip)
              by_cases c77 : t219 = 1
              ·rw [if_pos c77] at H
               have c77b0 : (t219 == 1) = true := beq_iff_eq.mpr c77
               have c77b1 : (t219 != 1) = false := bne_eq_false_iff_eq.mpr c77
               clear c77
               simp only [Option.some.injEq, Prod.mk.injEq] at H
               obtain ⟨rfl, rfl, rfl, rfl, rfl⟩ := H
               have hnb78 := NB208_200.out
               have hnc78 := NB200_208.out
               have hnb79 := NB208_201.out
               have hnc79 := NB201_208.out
               have hnb80 := NB208_218.out
               have hnc80 := NB218_208.out
               have hcz81_0 : wr.cell? ⟨gb208, 0, none⟩ = some (.int .i64 t202) := (blk_cell BK208.out 0).trans rfl
               have hcz81_1 : wr.cell? ⟨gb208, 1, none⟩ = some (.int .i64 t203) := (blk_cell BK208.out 1).trans rfl
               have hcz81_2 : wr.cell? ⟨gb208, 2, none⟩ = some (.int .i64 t204) := (blk_cell BK208.out 2).trans rfl
               have hcz81_3 : wr.cell? ⟨gb208, 3, none⟩ = some (.int .i64 t205) := (blk_cell BK208.out 3).trans rfl
               have hcz81_4 : wr.cell? ⟨gb208, 4, none⟩ = some (.int .i64 t206) := (blk_cell BK208.out 4).trans rfl
               have hcz81_5 : wr.cell? ⟨gb208, 5, none⟩ = some (.bool true) := (blk_cell BK208.out 5).trans rfl
               have hfz81_0 := blk_frozen BK208.out 0
               have hfz81_1 := blk_frozen BK208.out 1
               have hfz81_2 := blk_frozen BK208.out 2
               have hfz81_3 := blk_frozen BK208.out 3
               have hfz81_4 := blk_frozen BK208.out 4
               have hfz81_5 := blk_frozen BK208.out 5
               obtain ⟨Ao82, co82, eo82⟩ := Kd.R_slice HO_8.out
               subst eo82
               go_wp2_with (first | (go_at_call 61; (with_reducible refine (spec_l1Bit.calls _ _ t213 (wrap64 (t202 - 1)) t219 _ ?side1 ?side2 A74.out).mono ?_); (case side1 => repeat (first | exact (Kd.R_reads' HO_8.out).2.2 | (with_reducible refine Kd.C_alloc ?_ _) | (with_reducible refine Kd.C_drewN ?_ _) | (with_reducible refine Kd.C_drew ?_))); (case side2 => exact (Kd.R_reads' HO_8.out).2.1); rintro e w' ⟨rfl, ⟨nd, rfl⟩⟩; (try first | exact ⟨rfl, _, World.drewN_drewN _ _ _⟩ | exact ⟨rfl, _, Eq.trans (World.drewN_drewN _ _ _) (congrArg (World.drewN _) (Nat.add_assoc _ _ _))⟩)) | (go_at_call 60; (with_reducible refine (spec_l2Low.calls k3 _ _ t213 (wrap64 (t202 - 1)) t220 _ ?side1 ?side2 A75.out).mono ?_); (case side1 => repeat (first | exact (Kd.R_reads' HO_8.out).2.2 | (with_reducible refine Kd.C_alloc ?_ _) | (with_reducible refine Kd.C_drewN ?_ _) | (with_reducible refine Kd.C_drew ?_))); (case side2 => exact (Kd.R_reads' HO_8.out).2.1); rintro e w83 ⟨v221, rfl, ho0, hb⟩; have n0_ := zM (Kd.R_elder' (by (with_reducible repeat (first | apply Kd.R_alloc | apply Kd.R_drewN | apply Kd.R_drew)); exact HO_8.out) (Kd.R_base ho0) hb); have n1_ := zM (Kd.R_lower (Kd.R_new' ho0 (Kd.R_lt (by (with_reducible repeat (first | apply Kd.R_alloc | apply Kd.R_drewN | apply Kd.R_drew)); exact HO_8.out))) (below_size (by repeat (first | (with_reducible first | exact HB.out | apply yA | apply yN | apply yD | refine below_set ?_ GE200.out | refine below_set ?_ GE201.out | refine below_set ?_ GE208.out | refine below_set ?_ GE218.out) | exact HB.out)))); have n2_ := zM (blk_below (g := gb200) (o := .cells #[.int .u64 a1_0, .int .u64 a1_1] 25 (0, 0)) (by (with_reducible repeat (first | apply zN | apply zD | apply zA)); exact BK200.out) hb); have n3_ := zM (blk_below (g := gb201) (o := .cells #[.int .i64 0, .bool false, .int .u64 0, .int .u64 0, .int .i64 0] 27 (0, 0)) (by (with_reducible repeat (first | apply zN | apply zD | apply zA)); exact BK201.out) hb); have n4_ := zM (blk_below (g := gb208) (o := .cells #[.int .i64 t202, .int .i64 t203, .int .i64 t204, .int .i64 t205, .int .i64 t206, .bool true] 83 (0, 0)) (by (with_reducible repeat (first | apply zN | apply zD | apply zA)); exact BK208.out) hb); have n5_ := zM (blk_below (g := gb218) (o := .cells #[.int .i64 0, .bool (t217 == 1), .int .u64 0, .int .u64 0, .int .i64 0] 27 (0, 0)) (by (with_reducible repeat (first | apply zN | apply zD | apply zA)); exact BK218.out) hb); have n6_ := zM (below_step (by repeat (first | (with_reducible first | exact HB.out | apply yA | apply yN | apply yD | refine below_set ?_ GE200.out | refine below_set ?_ GE201.out | refine below_set ?_ GE208.out | refine below_set ?_ GE218.out) | exact HB.out)) hb); clear HO_8; clear BK200; clear BK201; clear BK208; clear BK218; clear HB; have HO_8 := n0_; have HO222 := n1_; have BK200 := n2_; have BK201 := n3_; have BK208 := n4_; have BK218 := n5_; have HB := n6_; clear n0_ n1_ n2_ n3_ n4_ n5_ n6_; (try clear hb); (try clear hb2); (try clear hk); (try clear hi); (try clear ho0); have hnb84 := NB201_200.out; have hnc84 := NB200_201.out; have hnb85 := NB201_218.out; have hnc85 := NB218_201.out; have hcz86_0 : w83.cell? ⟨gb201, 0, none⟩ = some (.int .i64 0) := (blk_cell BK201.out 0).trans rfl; have hcz86_1 : w83.cell? ⟨gb201, 1, none⟩ = some (.bool false) := (blk_cell BK201.out 1).trans rfl; have hcz86_2 : w83.cell? ⟨gb201, 2, none⟩ = some (.int .u64 0) := (blk_cell BK201.out 2).trans rfl; have hcz86_3 : w83.cell? ⟨gb201, 3, none⟩ = some (.int .u64 0) := (blk_cell BK201.out 3).trans rfl; have hcz86_4 : w83.cell? ⟨gb201, 4, none⟩ = some (.int .i64 0) := (blk_cell BK201.out 4).trans rfl; have hfz86_0 := blk_frozen BK201.out 0; have hfz86_1 := blk_frozen BK201.out 1; have hfz86_2 := blk_frozen BK201.out 2; have hfz86_3 := blk_frozen BK201.out 3; have hfz86_4 := blk_frozen BK201.out 4))
               refine bodyPost_ret (results_cell_row rfl _ _ gb201 27 #[.int .i64 0, .bool false, .int .u64 0, .int .u64 0, .int .i64 0] (0, 0) _ rfl (by refine blk_put (cs := #[.int .i64 0, .bool false, .int .u64 0, .int .u64 0, .int .i64 0]) ?_ 4 _ rfl; refine blk_put (cs := #[.int .i64 0, .bool false, .int .u64 0, .int .u64 0, .int .i64 0]) ?_ 3 _ rfl; refine blk_put (cs := #[.int .i64 0, .bool false, .int .u64 0, .int .u64 0, .int .i64 0]) ?_ 2 _ rfl; refine blk_put (cs := #[.int .i64 0, .bool false, .int .u64 0, .int .u64 0, .int .i64 0]) ?_ 1 _ rfl; refine blk_put (cs := #[.int .i64 0, .bool false, .int .u64 0, .int .u64 0, .int .i64 0]) ?_ 0 _ rfl; exact BK201.out) Tryd.underlying27 rfl (by kernel_rfl)) rfl ?_
               exact ⟨by first | rfl | (simp [errW_none, errW_some] <;> rfl) | (simp [*, errW_none, errW_some] <;> rfl), by repeat (first | (with_reducible first | exact HB.out | apply yA | apply yN | apply yD | refine below_set ?_ GE200.out | refine below_set ?_ GE201.out | refine below_set ?_ GE208.out | refine below_set ?_ GE218.out) | exact HB.out)⟩
              ·rw [if_neg c77] at H
               have c77b0 : (t219 == 1) = false := beq_eq_false_iff_ne.mpr c77
               have c77b1 : (t219 != 1) = true := bne_iff_ne.mpr c77
               by_cases c87 : x9_2 > 0
               ·rw [if_pos c87] at H
                have c87b0 : decide (0 < x9_2) = true := decide_eq_true c87
                clear c87
                simp only [Option.some.injEq, Prod.mk.injEq] at H
                obtain ⟨rfl, rfl, rfl, rfl, rfl⟩ := H
                have hnb88 := NB208_200.out
                have hnc88 := NB200_208.out
                have hnb89 := NB208_201.out
                have hnc89 := NB201_208.out
                have hnb90 := NB208_218.out
                have hnc90 := NB218_208.out
                have hcz91_0 : wr.cell? ⟨gb208, 0, none⟩ = some (.int .i64 t202) := (blk_cell BK208.out 0).trans rfl
                have hcz91_1 : wr.cell? ⟨gb208, 1, none⟩ = some (.int .i64 t203) := (blk_cell BK208.out 1).trans rfl
                have hcz91_2 : wr.cell? ⟨gb208, 2, none⟩ = some (.int .i64 t204) := (blk_cell BK208.out 2).trans rfl
                have hcz91_3 : wr.cell? ⟨gb208, 3, none⟩ = some (.int .i64 t205) := (blk_cell BK208.out 3).trans rfl
                have hcz91_4 : wr.cell? ⟨gb208, 4, none⟩ = some (.int .i64 t206) := (blk_cell BK208.out 4).trans rfl
                have hcz91_5 : wr.cell? ⟨gb208, 5, none⟩ = some (.bool true) := (blk_cell BK208.out 5).trans rfl
                have hfz91_0 := blk_frozen BK208.out 0
                have hfz91_1 := blk_frozen BK208.out 1
                have hfz91_2 := blk_frozen BK208.out 2
                have hfz91_3 := blk_frozen BK208.out 3
                have hfz91_4 := blk_frozen BK208.out 4
                have hfz91_5 := blk_frozen BK208.out 5
                obtain ⟨Ao92, co92, eo92⟩ := Kd.R_slice HO_8.out
                subst eo92
                go_wp2_with (first | (go_at_call 61; (with_reducible refine (spec_l1Bit.calls _ _ t213 (wrap64 (t202 - 1)) t219 _ ?side1 ?side2 A74.out).mono ?_); (case side1 => repeat (first | exact (Kd.R_reads' HO_8.out).2.2 | (with_reducible refine Kd.C_alloc ?_ _) | (with_reducible refine Kd.C_drewN ?_ _) | (with_reducible refine Kd.C_drew ?_))); (case side2 => exact (Kd.R_reads' HO_8.out).2.1); rintro e w' ⟨rfl, ⟨nd, rfl⟩⟩; (try first | exact ⟨rfl, _, World.drewN_drewN _ _ _⟩ | exact ⟨rfl, _, Eq.trans (World.drewN_drewN _ _ _) (congrArg (World.drewN _) (Nat.add_assoc _ _ _))⟩)) | (go_at_call 60; (with_reducible refine (spec_l2Low.calls k3 _ _ t213 (wrap64 (t202 - 1)) t220 _ ?side1 ?side2 A75.out).mono ?_); (case side1 => repeat (first | exact (Kd.R_reads' HO_8.out).2.2 | (with_reducible refine Kd.C_alloc ?_ _) | (with_reducible refine Kd.C_drewN ?_ _) | (with_reducible refine Kd.C_drew ?_))); (case side2 => exact (Kd.R_reads' HO_8.out).2.1); rintro e w93 ⟨v221, rfl, ho0, hb⟩; have n0_ := zM (Kd.R_elder' (by (with_reducible repeat (first | apply Kd.R_alloc | apply Kd.R_drewN | apply Kd.R_drew)); exact HO_8.out) (Kd.R_base ho0) hb); have n1_ := zM (Kd.R_lower (Kd.R_new' ho0 (Kd.R_lt (by (with_reducible repeat (first | apply Kd.R_alloc | apply Kd.R_drewN | apply Kd.R_drew)); exact HO_8.out))) (below_size (by repeat (first | (with_reducible first | exact HB.out | apply yA | apply yN | apply yD | refine below_set ?_ GE200.out | refine below_set ?_ GE201.out | refine below_set ?_ GE208.out | refine below_set ?_ GE218.out) | exact HB.out)))); have n2_ := zM (blk_below (g := gb200) (o := .cells #[.int .u64 a1_0, .int .u64 a1_1] 25 (0, 0)) (by (with_reducible repeat (first | apply zN | apply zD | apply zA)); exact BK200.out) hb); have n3_ := zM (blk_below (g := gb201) (o := .cells #[.int .i64 0, .bool false, .int .u64 0, .int .u64 0, .int .i64 0] 27 (0, 0)) (by (with_reducible repeat (first | apply zN | apply zD | apply zA)); exact BK201.out) hb); have n4_ := zM (blk_below (g := gb208) (o := .cells #[.int .i64 t202, .int .i64 t203, .int .i64 t204, .int .i64 t205, .int .i64 t206, .bool true] 83 (0, 0)) (by (with_reducible repeat (first | apply zN | apply zD | apply zA)); exact BK208.out) hb); have n5_ := zM (blk_below (g := gb218) (o := .cells #[.int .i64 0, .bool (t217 == 1), .int .u64 0, .int .u64 0, .int .i64 0] 27 (0, 0)) (by (with_reducible repeat (first | apply zN | apply zD | apply zA)); exact BK218.out) hb); have n6_ := zM (below_step (by repeat (first | (with_reducible first | exact HB.out | apply yA | apply yN | apply yD | refine below_set ?_ GE200.out | refine below_set ?_ GE201.out | refine below_set ?_ GE208.out | refine below_set ?_ GE218.out) | exact HB.out)) hb); clear HO_8; clear BK200; clear BK201; clear BK208; clear BK218; clear HB; have HO_8 := n0_; have HO222 := n1_; have BK200 := n2_; have BK201 := n3_; have BK208 := n4_; have BK218 := n5_; have HB := n6_; clear n0_ n1_ n2_ n3_ n4_ n5_ n6_; (try clear hb); (try clear hb2); (try clear hk); (try clear hi); (try clear ho0); have hnb94 := NB201_200.out; have hnc94 := NB200_201.out; have hnb95 := NB201_218.out; have hnc95 := NB218_201.out; have hcz96_0 : w93.cell? ⟨gb201, 0, none⟩ = some (.int .i64 0) := (blk_cell BK201.out 0).trans rfl; have hcz96_1 : w93.cell? ⟨gb201, 1, none⟩ = some (.bool false) := (blk_cell BK201.out 1).trans rfl; have hcz96_2 : w93.cell? ⟨gb201, 2, none⟩ = some (.int .u64 0) := (blk_cell BK201.out 2).trans rfl; have hcz96_3 : w93.cell? ⟨gb201, 3, none⟩ = some (.int .u64 0) := (blk_cell BK201.out 3).trans rfl; have hcz96_4 : w93.cell? ⟨gb201, 4, none⟩ = some (.int .i64 0) := (blk_cell BK201.out 4).trans rfl; have hfz96_0 := blk_frozen BK201.out 0; have hfz96_1 := blk_frozen BK201.out 1; have hfz96_2 := blk_frozen BK201.out 2; have hfz96_3 := blk_frozen BK201.out 3; have hfz96_4 := blk_frozen BK201.out 4))
                refine bodyPost_ret (results_cell_row rfl _ _ gb201 27 #[.int .i64 0, .bool false, .int .u64 0, .int .u64 0, .int .i64 0] (0, 0) _ rfl (by refine blk_put (cs := #[.int .i64 0, .bool false, .int .u64 0, .int .u64 0, .int .i64 0]) ?_ 4 _ rfl; refine blk_put (cs := #[.int .i64 0, .bool false, .int .u64 0, .int .u64 0, .int .i64 0]) ?_ 3 _ rfl; refine blk_put (cs := #[.int .i64 0, .bool false, .int .u64 0, .int .u64 0, .int .i64 0]) ?_ 2 _ rfl; refine blk_put (cs := #[.int .i64 0, .bool false, .int .u64 0, .int .u64 0, .int .i64 0]) ?_ 1 _ rfl; refine blk_put (cs := #[.int .i64 0, .bool false, .int .u64 0, .int .u64 0, .int .i64 0]) ?_ 0 _ rfl; exact BK201.out) Tryd.underlying27 rfl (by kernel_rfl)) rfl ?_
                exact ⟨by first | rfl | (simp [errW_none, errW_some] <;> rfl) | (simp [*, errW_none, errW_some] <;> rfl), by repeat (first | (with_reducible first | exact HB.out | apply yA | apply yN | apply yD | refine below_set ?_ GE200.out | refine below_set ?_ GE201.out | refine below_set ?_ GE208.out | refine below_set ?_ GE218.out) | exact HB.out)⟩
               ·rw [if_neg c87] at H
                have c87b0 : decide (0 < x9_2) = false := decide_eq_false c87
                clear c87
                have H' := zM H
                clear H
                have hnb97 := NB208_200.out
                have hnc97 := NB200_208.out
                have hnb98 := NB208_201.out
                have hnc98 := NB201_208.out
                have hnb99 := NB208_218.out
                have hnc99 := NB218_208.out
                have hcz100_0 : wr.cell? ⟨gb208, 0, none⟩ = some (.int .i64 t202) := (blk_cell BK208.out 0).trans rfl
                have hcz100_1 : wr.cell? ⟨gb208, 1, none⟩ = some (.int .i64 t203) := (blk_cell BK208.out 1).trans rfl
                have hcz100_2 : wr.cell? ⟨gb208, 2, none⟩ = some (.int .i64 t204) := (blk_cell BK208.out 2).trans rfl
                have hcz100_3 : wr.cell? ⟨gb208, 3, none⟩ = some (.int .i64 t205) := (blk_cell BK208.out 3).trans rfl
                have hcz100_4 : wr.cell? ⟨gb208, 4, none⟩ = some (.int .i64 t206) := (blk_cell BK208.out 4).trans rfl
                have hcz100_5 : wr.cell? ⟨gb208, 5, none⟩ = some (.bool true) := (blk_cell BK208.out 5).trans rfl
                have hfz100_0 := blk_frozen BK208.out 0
                have hfz100_1 := blk_frozen BK208.out 1
                have hfz100_2 := blk_frozen BK208.out 2
                have hfz100_3 := blk_frozen BK208.out 3
                have hfz100_4 := blk_frozen BK208.out 4
                have hfz100_5 := blk_frozen BK208.out 5
                obtain ⟨Ao101, co101, eo101⟩ := Kd.R_slice HO_8.out
                subst eo101
                go_wp2_with (first | (go_at_call 61; (with_reducible refine (spec_l1Bit.calls _ _ t213 (wrap64 (t202 - 1)) t219 _ ?side1 ?side2 A74.out).mono ?_); (case side1 => repeat (first | exact (Kd.R_reads' HO_8.out).2.2 | (with_reducible refine Kd.C_alloc ?_ _) | (with_reducible refine Kd.C_drewN ?_ _) | (with_reducible refine Kd.C_drew ?_))); (case side2 => exact (Kd.R_reads' HO_8.out).2.1); rintro e w' ⟨rfl, ⟨nd, rfl⟩⟩; (try first | exact ⟨rfl, _, World.drewN_drewN _ _ _⟩ | exact ⟨rfl, _, Eq.trans (World.drewN_drewN _ _ _) (congrArg (World.drewN _) (Nat.add_assoc _ _ _))⟩)) | (go_at_call 60; (with_reducible refine (spec_l2Low.calls k3 _ _ t213 (wrap64 (t202 - 1)) t220 _ ?side1 ?side2 A75.out).mono ?_); (case side1 => repeat (first | exact (Kd.R_reads' HO_8.out).2.2 | (with_reducible refine Kd.C_alloc ?_ _) | (with_reducible refine Kd.C_drewN ?_ _) | (with_reducible refine Kd.C_drew ?_))); (case side2 => exact (Kd.R_reads' HO_8.out).2.1); rintro e w102 ⟨v221, rfl, ho0, hb⟩; have n0_ := zM (Kd.R_elder' (by (with_reducible repeat (first | apply Kd.R_alloc | apply Kd.R_drewN | apply Kd.R_drew)); exact HO_8.out) (Kd.R_base ho0) hb); have n1_ := zM (Kd.R_lower (Kd.R_new' ho0 (Kd.R_lt (by (with_reducible repeat (first | apply Kd.R_alloc | apply Kd.R_drewN | apply Kd.R_drew)); exact HO_8.out))) (below_size (by repeat (first | (with_reducible first | exact HB.out | apply yA | apply yN | apply yD | refine below_set ?_ GE200.out | refine below_set ?_ GE201.out | refine below_set ?_ GE208.out | refine below_set ?_ GE218.out) | exact HB.out)))); have n2_ := zM (blk_below (g := gb200) (o := .cells #[.int .u64 a1_0, .int .u64 a1_1] 25 (0, 0)) (by (with_reducible repeat (first | apply zN | apply zD | apply zA)); exact BK200.out) hb); have n3_ := zM (blk_below (g := gb201) (o := .cells #[.int .i64 0, .bool false, .int .u64 0, .int .u64 0, .int .i64 0] 27 (0, 0)) (by (with_reducible repeat (first | apply zN | apply zD | apply zA)); exact BK201.out) hb); have n4_ := zM (blk_below (g := gb208) (o := .cells #[.int .i64 t202, .int .i64 t203, .int .i64 t204, .int .i64 t205, .int .i64 t206, .bool true] 83 (0, 0)) (by (with_reducible repeat (first | apply zN | apply zD | apply zA)); exact BK208.out) hb); have n5_ := zM (blk_below (g := gb218) (o := .cells #[.int .i64 0, .bool (t217 == 1), .int .u64 0, .int .u64 0, .int .i64 0] 27 (0, 0)) (by (with_reducible repeat (first | apply zN | apply zD | apply zA)); exact BK218.out) hb); have n6_ := zM (below_step (by repeat (first | (with_reducible first | exact HB.out | apply yA | apply yN | apply yD | refine below_set ?_ GE200.out | refine below_set ?_ GE201.out | refine below_set ?_ GE208.out | refine below_set ?_ GE218.out) | exact HB.out)) hb); clear HO_8; clear BK200; clear BK201; clear BK208; clear BK218; clear HB; have HO_8 := n0_; have HO222 := n1_; have BK200 := n2_; have BK201 := n3_; have BK208 := n4_; have BK218 := n5_; have HB := n6_; clear n0_ n1_ n2_ n3_ n4_ n5_ n6_; (try clear hb); (try clear hb2); (try clear hk); (try clear hi); (try clear ho0)))
                go_meet
                case rel => exact ⟨_, (t220), (0), (false), (0), (0), (0), H', ⟨by have := HJ29.out; have := HK2.out; have := HK3.out; first | omega | exact Nat.le_refl _⟩, ⟨by exact Kd.R_mono HO222.out (fun _ hk => trivial)⟩, ⟨by exact BK200.out⟩, ⟨by exact BK201.out⟩, ⟨by exact BK208.out⟩, ⟨by exact BK218.out⟩, ⟨by repeat (first | (with_reducible first | exact HB.out | apply yA | apply yN | apply yD | refine below_set ?_ GE200.out | refine below_set ?_ GE201.out | refine below_set ?_ GE208.out | refine below_set ?_ GE218.out) | exact HB.out)⟩⟩
             ·rw [if_neg c76] at H
              have c76b0 : (x9_2 == 0) = false := beq_eq_false_iff_ne.mpr c76
              have c76b1 : (x9_2 != 0) = true := bne_iff_ne.mpr c76
              (first | rw [c76b0] | (simp only [i64_w, i32_w]; rw [c76b0]) | rw [c76b1] | (simp only [c76b1]) | skip)
              by_cases c103 : x9_2 > 0
              ·rw [if_pos c103] at H
               have c103b0 : decide (0 < x9_2) = true := decide_eq_true c103
               clear c103
               by_cases c104 : t219 = 1
               ·rw [if_pos c104] at H
                have c104b0 : (t219 == 1) = true := beq_iff_eq.mpr c104
                have c104b1 : (t219 != 1) = false := bne_eq_false_iff_eq.mpr c104
                clear c104
                have H' := zM H
                clear H
                have hnb105 := NB208_200.out
                have hnc105 := NB200_208.out
                have hnb106 := NB208_201.out
                have hnc106 := NB201_208.out
                have hnb107 := NB208_218.out
                have hnc107 := NB218_208.out
                have hcz108_0 : wr.cell? ⟨gb208, 0, none⟩ = some (.int .i64 t202) := (blk_cell BK208.out 0).trans rfl
                have hcz108_1 : wr.cell? ⟨gb208, 1, none⟩ = some (.int .i64 t203) := (blk_cell BK208.out 1).trans rfl
                have hcz108_2 : wr.cell? ⟨gb208, 2, none⟩ = some (.int .i64 t204) := (blk_cell BK208.out 2).trans rfl
                have hcz108_3 : wr.cell? ⟨gb208, 3, none⟩ = some (.int .i64 t205) := (blk_cell BK208.out 3).trans rfl
                have hcz108_4 : wr.cell? ⟨gb208, 4, none⟩ = some (.int .i64 t206) := (blk_cell BK208.out 4).trans rfl
                have hcz108_5 : wr.cell? ⟨gb208, 5, none⟩ = some (.bool true) := (blk_cell BK208.out 5).trans rfl
                have hfz108_0 := blk_frozen BK208.out 0
                have hfz108_1 := blk_frozen BK208.out 1
                have hfz108_2 := blk_frozen BK208.out 2
                have hfz108_3 := blk_frozen BK208.out 3
                have hfz108_4 := blk_frozen BK208.out 4
                have hfz108_5 := blk_frozen BK208.out 5
                obtain ⟨Ao109, co109, eo109⟩ := Kd.R_slice HO_8.out
                subst eo109
                go_wp2_with (first | (go_at_call 61; (with_reducible refine (spec_l1Bit.calls _ _ t213 (wrap64 (t202 - 1)) t219 _ ?side1 ?side2 A74.out).mono ?_); (case side1 => repeat (first | exact (Kd.R_reads' HO_8.out).2.2 | (with_reducible refine Kd.C_alloc ?_ _) | (with_reducible refine Kd.C_drewN ?_ _) | (with_reducible refine Kd.C_drew ?_))); (case side2 => exact (Kd.R_reads' HO_8.out).2.1); rintro e w' ⟨rfl, ⟨nd, rfl⟩⟩; (try first | exact ⟨rfl, _, World.drewN_drewN _ _ _⟩ | exact ⟨rfl, _, Eq.trans (World.drewN_drewN _ _ _) (congrArg (World.drewN _) (Nat.add_assoc _ _ _))⟩)) | (go_at_call 60; (with_reducible refine (spec_l2Low.calls k3 _ _ t213 (wrap64 (t202 - 1)) t220 _ ?side1 ?side2 A75.out).mono ?_); (case side1 => repeat (first | exact (Kd.R_reads' HO_8.out).2.2 | (with_reducible refine Kd.C_alloc ?_ _) | (with_reducible refine Kd.C_drewN ?_ _) | (with_reducible refine Kd.C_drew ?_))); (case side2 => exact (Kd.R_reads' HO_8.out).2.1); rintro e w110 ⟨v221, rfl, ho0, hb⟩; have n0_ := zM (Kd.R_elder' (by (with_reducible repeat (first | apply Kd.R_alloc | apply Kd.R_drewN | apply Kd.R_drew)); exact HO_8.out) (Kd.R_base ho0) hb); have n1_ := zM (Kd.R_lower (Kd.R_new' ho0 (Kd.R_lt (by (with_reducible repeat (first | apply Kd.R_alloc | apply Kd.R_drewN | apply Kd.R_drew)); exact HO_8.out))) (below_size (by repeat (first | (with_reducible first | exact HB.out | apply yA | apply yN | apply yD | refine below_set ?_ GE200.out | refine below_set ?_ GE201.out | refine below_set ?_ GE208.out | refine below_set ?_ GE218.out) | exact HB.out)))); have n2_ := zM (blk_below (g := gb200) (o := .cells #[.int .u64 a1_0, .int .u64 a1_1] 25 (0, 0)) (by (with_reducible repeat (first | apply zN | apply zD | apply zA)); exact BK200.out) hb); have n3_ := zM (blk_below (g := gb201) (o := .cells #[.int .i64 0, .bool false, .int .u64 0, .int .u64 0, .int .i64 0] 27 (0, 0)) (by (with_reducible repeat (first | apply zN | apply zD | apply zA)); exact BK201.out) hb); have n4_ := zM (blk_below (g := gb208) (o := .cells #[.int .i64 t202, .int .i64 t203, .int .i64 t204, .int .i64 t205, .int .i64 t206, .bool true] 83 (0, 0)) (by (with_reducible repeat (first | apply zN | apply zD | apply zA)); exact BK208.out) hb); have n5_ := zM (blk_below (g := gb218) (o := .cells #[.int .i64 0, .bool (t217 == 1), .int .u64 0, .int .u64 0, .int .i64 0] 27 (0, 0)) (by (with_reducible repeat (first | apply zN | apply zD | apply zA)); exact BK218.out) hb); have n6_ := zM (below_step (by repeat (first | (with_reducible first | exact HB.out | apply yA | apply yN | apply yD | refine below_set ?_ GE200.out | refine below_set ?_ GE201.out | refine below_set ?_ GE208.out | refine below_set ?_ GE218.out) | exact HB.out)) hb); clear HO_8; clear BK200; clear BK201; clear BK208; clear BK218; clear HB; have HO_8 := n0_; have HO222 := n1_; have BK200 := n2_; have BK201 := n3_; have BK208 := n4_; have BK218 := n5_; have HB := n6_; clear n0_ n1_ n2_ n3_ n4_ n5_ n6_; (try clear hb); (try clear hb2); (try clear hk); (try clear hi); (try clear ho0)))
                go_meet
                case rel => exact ⟨_, (t220), (0), (false), (0), (0), (0), H', ⟨by have := HJ29.out; have := HK2.out; have := HK3.out; first | omega | exact Nat.le_refl _⟩, ⟨by exact Kd.R_mono HO222.out (fun _ hk => trivial)⟩, ⟨by exact BK200.out⟩, ⟨by exact BK201.out⟩, ⟨by exact BK208.out⟩, ⟨by exact BK218.out⟩, ⟨by repeat (first | (with_reducible first | exact HB.out | apply yA | apply yN | apply yD | refine below_set ?_ GE200.out | refine below_set ?_ GE201.out | refine below_set ?_ GE208.out | refine below_set ?_ GE218.out) | exact HB.out)⟩⟩
               ·rw [if_neg c104] at H
                have c104b0 : (t219 == 1) = false := beq_eq_false_iff_ne.mpr c104
                have c104b1 : (t219 != 1) = true := bne_iff_ne.mpr c104
                simp only [Option.some.injEq, Prod.mk.injEq] at H
                obtain ⟨rfl, rfl, rfl, rfl, rfl⟩ := H
                have hnb111 := NB208_200.out
                have hnc111 := NB200_208.out
                have hnb112 := NB208_201.out
                have hnc112 := NB201_208.out
                have hnb113 := NB208_218.out
                have hnc113 := NB218_208.out
                have hcz114_0 : wr.cell? ⟨gb208, 0, none⟩ = some (.int .i64 t202) := (blk_cell BK208.out 0).trans rfl
                have hcz114_1 : wr.cell? ⟨gb208, 1, none⟩ = some (.int .i64 t203) := (blk_cell BK208.out 1).trans rfl
                have hcz114_2 : wr.cell? ⟨gb208, 2, none⟩ = some (.int .i64 t204) := (blk_cell BK208.out 2).trans rfl
                have hcz114_3 : wr.cell? ⟨gb208, 3, none⟩ = some (.int .i64 t205) := (blk_cell BK208.out 3).trans rfl
                have hcz114_4 : wr.cell? ⟨gb208, 4, none⟩ = some (.int .i64 t206) := (blk_cell BK208.out 4).trans rfl
                have hcz114_5 : wr.cell? ⟨gb208, 5, none⟩ = some (.bool true) := (blk_cell BK208.out 5).trans rfl
                have hfz114_0 := blk_frozen BK208.out 0
                have hfz114_1 := blk_frozen BK208.out 1
                have hfz114_2 := blk_frozen BK208.out 2
                have hfz114_3 := blk_frozen BK208.out 3
                have hfz114_4 := blk_frozen BK208.out 4
                have hfz114_5 := blk_frozen BK208.out 5
                obtain ⟨Ao115, co115, eo115⟩ := Kd.R_slice HO_8.out
                subst eo115
                go_wp2_with (first | (go_at_call 61; (with_reducible refine (spec_l1Bit.calls _ _ t213 (wrap64 (t202 - 1)) t219 _ ?side1 ?side2 A74.out).mono ?_); (case side1 => repeat (first | exact (Kd.R_reads' HO_8.out).2.2 | (with_reducible refine Kd.C_alloc ?_ _) | (with_reducible refine Kd.C_drewN ?_ _) | (with_reducible refine Kd.C_drew ?_))); (case side2 => exact (Kd.R_reads' HO_8.out).2.1); rintro e w' ⟨rfl, ⟨nd, rfl⟩⟩; (try first | exact ⟨rfl, _, World.drewN_drewN _ _ _⟩ | exact ⟨rfl, _, Eq.trans (World.drewN_drewN _ _ _) (congrArg (World.drewN _) (Nat.add_assoc _ _ _))⟩)) | (go_at_call 60; (with_reducible refine (spec_l2Low.calls k3 _ _ t213 (wrap64 (t202 - 1)) t220 _ ?side1 ?side2 A75.out).mono ?_); (case side1 => repeat (first | exact (Kd.R_reads' HO_8.out).2.2 | (with_reducible refine Kd.C_alloc ?_ _) | (with_reducible refine Kd.C_drewN ?_ _) | (with_reducible refine Kd.C_drew ?_))); (case side2 => exact (Kd.R_reads' HO_8.out).2.1); rintro e w116 ⟨v221, rfl, ho0, hb⟩; have n0_ := zM (Kd.R_elder' (by (with_reducible repeat (first | apply Kd.R_alloc | apply Kd.R_drewN | apply Kd.R_drew)); exact HO_8.out) (Kd.R_base ho0) hb); have n1_ := zM (Kd.R_lower (Kd.R_new' ho0 (Kd.R_lt (by (with_reducible repeat (first | apply Kd.R_alloc | apply Kd.R_drewN | apply Kd.R_drew)); exact HO_8.out))) (below_size (by repeat (first | (with_reducible first | exact HB.out | apply yA | apply yN | apply yD | refine below_set ?_ GE200.out | refine below_set ?_ GE201.out | refine below_set ?_ GE208.out | refine below_set ?_ GE218.out) | exact HB.out)))); have n2_ := zM (blk_below (g := gb200) (o := .cells #[.int .u64 a1_0, .int .u64 a1_1] 25 (0, 0)) (by (with_reducible repeat (first | apply zN | apply zD | apply zA)); exact BK200.out) hb); have n3_ := zM (blk_below (g := gb201) (o := .cells #[.int .i64 0, .bool false, .int .u64 0, .int .u64 0, .int .i64 0] 27 (0, 0)) (by (with_reducible repeat (first | apply zN | apply zD | apply zA)); exact BK201.out) hb); have n4_ := zM (blk_below (g := gb208) (o := .cells #[.int .i64 t202, .int .i64 t203, .int .i64 t204, .int .i64 t205, .int .i64 t206, .bool true] 83 (0, 0)) (by (with_reducible repeat (first | apply zN | apply zD | apply zA)); exact BK208.out) hb); have n5_ := zM (blk_below (g := gb218) (o := .cells #[.int .i64 0, .bool (t217 == 1), .int .u64 0, .int .u64 0, .int .i64 0] 27 (0, 0)) (by (with_reducible repeat (first | apply zN | apply zD | apply zA)); exact BK218.out) hb); have n6_ := zM (below_step (by repeat (first | (with_reducible first | exact HB.out | apply yA | apply yN | apply yD | refine below_set ?_ GE200.out | refine below_set ?_ GE201.out | refine below_set ?_ GE208.out | refine below_set ?_ GE218.out) | exact HB.out)) hb); clear HO_8; clear BK200; clear BK201; clear BK208; clear BK218; clear HB; have HO_8 := n0_; have HO222 := n1_; have BK200 := n2_; have BK201 := n3_; have BK208 := n4_; have BK218 := n5_; have HB := n6_; clear n0_ n1_ n2_ n3_ n4_ n5_ n6_; (try clear hb); (try clear hb2); (try clear hk); (try clear hi); (try clear ho0); have hnb117 := NB201_200.out; have hnc117 := NB200_201.out; have hnb118 := NB201_218.out; have hnc118 := NB218_201.out; have hcz119_0 : w116.cell? ⟨gb201, 0, none⟩ = some (.int .i64 0) := (blk_cell BK201.out 0).trans rfl; have hcz119_1 : w116.cell? ⟨gb201, 1, none⟩ = some (.bool false) := (blk_cell BK201.out 1).trans rfl; have hcz119_2 : w116.cell? ⟨gb201, 2, none⟩ = some (.int .u64 0) := (blk_cell BK201.out 2).trans rfl; have hcz119_3 : w116.cell? ⟨gb201, 3, none⟩ = some (.int .u64 0) := (blk_cell BK201.out 3).trans rfl; have hcz119_4 : w116.cell? ⟨gb201, 4, none⟩ = some (.int .i64 0) := (blk_cell BK201.out 4).trans rfl; have hfz119_0 := blk_frozen BK201.out 0; have hfz119_1 := blk_frozen BK201.out 1; have hfz119_2 := blk_frozen BK201.out 2; have hfz119_3 := blk_frozen BK201.out 3; have hfz119_4 := blk_frozen BK201.out 4))
                refine bodyPost_ret (results_cell_row rfl _ _ gb201 27 #[.int .i64 0, .bool false, .int .u64 0, .int .u64 0, .int .i64 0] (0, 0) _ rfl (by refine blk_put (cs := #[.int .i64 0, .bool false, .int .u64 0, .int .u64 0, .int .i64 0]) ?_ 4 _ rfl; refine blk_put (cs := #[.int .i64 0, .bool false, .int .u64 0, .int .u64 0, .int .i64 0]) ?_ 3 _ rfl; refine blk_put (cs := #[.int .i64 0, .bool false, .int .u64 0, .int .u64 0, .int .i64 0]) ?_ 2 _ rfl; refine blk_put (cs := #[.int .i64 0, .bool false, .int .u64 0, .int .u64 0, .int .i64 0]) ?_ 1 _ rfl; refine blk_put (cs := #[.int .i64 0, .bool false, .int .u64 0, .int .u64 0, .int .i64 0]) ?_ 0 _ rfl; exact BK201.out) Tryd.underlying27 rfl (by kernel_rfl)) rfl ?_
                exact ⟨by first | rfl | (simp [errW_none, errW_some] <;> rfl) | (simp [*, errW_none, errW_some] <;> rfl), by repeat (first | (with_reducible first | exact HB.out | apply yA | apply yN | apply yD | refine below_set ?_ GE200.out | refine below_set ?_ GE201.out | refine below_set ?_ GE208.out | refine below_set ?_ GE218.out) | exact HB.out)⟩
              ·rw [if_neg c103] at H
               have c103b0 : decide (0 < x9_2) = false := decide_eq_false c103
               clear c103
               have H' := zM H
               clear H
               have hnb120 := NB208_200.out
               have hnc120 := NB200_208.out
               have hnb121 := NB208_201.out
               have hnc121 := NB201_208.out
               have hnb122 := NB208_218.out
               have hnc122 := NB218_208.out
               have hcz123_0 : wr.cell? ⟨gb208, 0, none⟩ = some (.int .i64 t202) := (blk_cell BK208.out 0).trans rfl
               have hcz123_1 : wr.cell? ⟨gb208, 1, none⟩ = some (.int .i64 t203) := (blk_cell BK208.out 1).trans rfl
               have hcz123_2 : wr.cell? ⟨gb208, 2, none⟩ = some (.int .i64 t204) := (blk_cell BK208.out 2).trans rfl
               have hcz123_3 : wr.cell? ⟨gb208, 3, none⟩ = some (.int .i64 t205) := (blk_cell BK208.out 3).trans rfl
               have hcz123_4 : wr.cell? ⟨gb208, 4, none⟩ = some (.int .i64 t206) := (blk_cell BK208.out 4).trans rfl
               have hcz123_5 : wr.cell? ⟨gb208, 5, none⟩ = some (.bool true) := (blk_cell BK208.out 5).trans rfl
               have hfz123_0 := blk_frozen BK208.out 0
               have hfz123_1 := blk_frozen BK208.out 1
               have hfz123_2 := blk_frozen BK208.out 2
               have hfz123_3 := blk_frozen BK208.out 3
               have hfz123_4 := blk_frozen BK208.out 4
               have hfz123_5 := blk_frozen BK208.out 5
               obtain ⟨Ao124, co124, eo124⟩ := Kd.R_slice HO_8.out
               subst eo124
               go_wp2_with (first | (go_at_call 61; (with_reducible refine (spec_l1Bit.calls _ _ t213 (wrap64 (t202 - 1)) t219 _ ?side1 ?side2 A74.out).mono ?_); (case side1 => repeat (first | exact (Kd.R_reads' HO_8.out).2.2 | (with_reducible refine Kd.C_alloc ?_ _) | (with_reducible refine Kd.C_drewN ?_ _) | (with_reducible refine Kd.C_drew ?_))); (case side2 => exact (Kd.R_reads' HO_8.out).2.1); rintro e w' ⟨rfl, ⟨nd, rfl⟩⟩; (try first | exact ⟨rfl, _, World.drewN_drewN _ _ _⟩ | exact ⟨rfl, _, Eq.trans (World.drewN_drewN _ _ _) (congrArg (World.drewN _) (Nat.add_assoc _ _ _))⟩)) | (go_at_call 60; (with_reducible refine (spec_l2Low.calls k3 _ _ t213 (wrap64 (t202 - 1)) t220 _ ?side1 ?side2 A75.out).mono ?_); (case side1 => repeat (first | exact (Kd.R_reads' HO_8.out).2.2 | (with_reducible refine Kd.C_alloc ?_ _) | (with_reducible refine Kd.C_drewN ?_ _) | (with_reducible refine Kd.C_drew ?_))); (case side2 => exact (Kd.R_reads' HO_8.out).2.1); rintro e w125 ⟨v221, rfl, ho0, hb⟩; have n0_ := zM (Kd.R_elder' (by (with_reducible repeat (first | apply Kd.R_alloc | apply Kd.R_drewN | apply Kd.R_drew)); exact HO_8.out) (Kd.R_base ho0) hb); have n1_ := zM (Kd.R_lower (Kd.R_new' ho0 (Kd.R_lt (by (with_reducible repeat (first | apply Kd.R_alloc | apply Kd.R_drewN | apply Kd.R_drew)); exact HO_8.out))) (below_size (by repeat (first | (with_reducible first | exact HB.out | apply yA | apply yN | apply yD | refine below_set ?_ GE200.out | refine below_set ?_ GE201.out | refine below_set ?_ GE208.out | refine below_set ?_ GE218.out) | exact HB.out)))); have n2_ := zM (blk_below (g := gb200) (o := .cells #[.int .u64 a1_0, .int .u64 a1_1] 25 (0, 0)) (by (with_reducible repeat (first | apply zN | apply zD | apply zA)); exact BK200.out) hb); have n3_ := zM (blk_below (g := gb201) (o := .cells #[.int .i64 0, .bool false, .int .u64 0, .int .u64 0, .int .i64 0] 27 (0, 0)) (by (with_reducible repeat (first | apply zN | apply zD | apply zA)); exact BK201.out) hb); have n4_ := zM (blk_below (g := gb208) (o := .cells #[.int .i64 t202, .int .i64 t203, .int .i64 t204, .int .i64 t205, .int .i64 t206, .bool true] 83 (0, 0)) (by (with_reducible repeat (first | apply zN | apply zD | apply zA)); exact BK208.out) hb); have n5_ := zM (blk_below (g := gb218) (o := .cells #[.int .i64 0, .bool (t217 == 1), .int .u64 0, .int .u64 0, .int .i64 0] 27 (0, 0)) (by (with_reducible repeat (first | apply zN | apply zD | apply zA)); exact BK218.out) hb); have n6_ := zM (below_step (by repeat (first | (with_reducible first | exact HB.out | apply yA | apply yN | apply yD | refine below_set ?_ GE200.out | refine below_set ?_ GE201.out | refine below_set ?_ GE208.out | refine below_set ?_ GE218.out) | exact HB.out)) hb); clear HO_8; clear BK200; clear BK201; clear BK208; clear BK218; clear HB; have HO_8 := n0_; have HO222 := n1_; have BK200 := n2_; have BK201 := n3_; have BK208 := n4_; have BK218 := n5_; have HB := n6_; clear n0_ n1_ n2_ n3_ n4_ n5_ n6_; (try clear hb); (try clear hb2); (try clear hk); (try clear hi); (try clear ho0)))
               go_meet
               case rel => exact ⟨_, (t220), (0), (false), (0), (0), (0), H', ⟨by have := HJ29.out; have := HK2.out; have := HK3.out; first | omega | exact Nat.le_refl _⟩, ⟨by exact Kd.R_mono HO222.out (fun _ hk => trivial)⟩, ⟨by exact BK200.out⟩, ⟨by exact BK201.out⟩, ⟨by exact BK208.out⟩, ⟨by exact BK218.out⟩, ⟨by repeat (first | (with_reducible first | exact HB.out | apply yA | apply yN | apply yD | refine below_set ?_ GE200.out | refine below_set ?_ GE201.out | refine below_set ?_ GE208.out | refine below_set ?_ GE218.out) | exact HB.out)⟩⟩
            ·replace c73 := Bool.eq_false_iff.mpr c73
             subst c73
             have H1 : (spec_Unpack.j3 k3 x9_2 (wrap64 (x12_3 - 1)) t213 t202 t203 t204 t205 t206 false 0 (t217 == 1) 0 0 0) = some (r1, r2, r3, r4, r5) := by rw [if_neg (show ¬ (false = true) by decide)] at H; exact H
             clear H
             have H := H1
             clear H1
             have H' := zM H
             clear H
             go_wp2
             repeat (go_quiet (fail); try go_wp2)
             go_meet
             case rel => exact ⟨_, (t213), (0), (false), (0), (0), (0), H', ⟨by have := HJ29.out; have := HK2.out; have := HK3.out; first | omega | exact Nat.le_refl _⟩, ⟨by exact HO_8.out⟩, ⟨by exact BK200.out⟩, ⟨by exact BK201.out⟩, ⟨by exact BK208.out⟩, ⟨by exact BK218.out⟩, ⟨by repeat (first | (with_reducible first | exact HB.out | apply yA | apply yN | apply yD | refine below_set ?_ GE200.out | refine below_set ?_ GE201.out | refine below_set ?_ GE208.out | refine below_set ?_ GE218.out) | exact HB.out)⟩⟩
           case rest =>
            clear HC68
            obtain ⟨kq, x15_67, x202000_67, x202001_67, x202002_67, x202003_67, x202004_67, HA, HJ67, HO_15, BK200, BK201, BK208, BK218, HB⟩ := hcut
            cases kq with
            | zero => exact absurd HA.out (by simp [spec_Unpack.j3])
            | succ kj67 =>
             have H := HA.out
             clear HA
             simp only [spec_Unpack.j3] at H
             have HC126 := zM H
             clear H
             go_upto_region 33 with (fail)
             repeat (go_quiet (fail); go_upto_region 33 with (fail))
             go_cut [119] (fun v119 wc => ∃ (kq : Nat) (x119_125 : Bool), v119 = .bool x119_125 ∧ Aside0 (spec_Unpack.j4 kq x9_2 (wrap64 (x12_3 - 1)) x15_67 x119_125 t202 t203 t204 t205 t206 t207 0 (t217 == 1) 0 0 0 = some (r1, r2, r3, r4, r5)) ∧ Aside0 (kq ≤ kj67) ∧ Aside0 (Kd.R (Kd.int .u64) 22 wc w.heap.size (fun _ => True) u15 x15_67) ∧ Aside0 (wc.heap[gb200]? = some (.cells #[.int .u64 a1_0, .int .u64 a1_1] 25 (0, 0))) ∧ Aside0 (wc.heap[gb201]? = some (.cells #[.int .i64 x202000_67, .bool x202001_67, .int .u64 x202002_67, .int .u64 x202003_67, .int .i64 x202004_67] 27 (0, 0))) ∧ Aside0 (wc.heap[gb208]? = some (.cells #[.int .i64 t202, .int .i64 t203, .int .i64 t204, .int .i64 t205, .int .i64 t206, .bool t207] 83 (0, 0))) ∧ Aside0 (wc.heap[gb218]? = some (.cells #[.int .i64 0, .bool (t217 == 1), .int .u64 0, .int .u64 0, .int .i64 0] 27 (0, 0))) ∧ Aside0 (Below w.heap.size w wc))
             case first =>
              have H := HC126.out
              clear HC126
              by_cases c127 : x9_2 = (wrap64 (x12_3 - 1))
              ·rw [if_pos c127] at H
               have c127b0 : (x9_2 == (wrap64 (x12_3 - 1))) = true := beq_iff_eq.mpr c127
               have c127b1 : (x9_2 != (wrap64 (x12_3 - 1))) = false := bne_eq_false_iff_eq.mpr c127
               clear c127
               (first | rw [c127b0] | (simp only [i64_w, i32_w]; rw [c127b0]) | rw [c127b1] | (simp only [c127b1]) | skip)
               have H' := zM H
               clear H
               obtain ⟨Ao128, co128, eo128⟩ := Kd.R_slice HO_15.out
               subst eo128
               go_wp2
               repeat (go_quiet (fail); try go_wp2)
               go_meet
               case rel => exact ⟨_, (((x15_67.length : Int) == 0)), (by first | rfl | (simp; done) | (simp [*]; done)), H', ⟨by have := HJ29.out; have := HK2.out; have := HK3.out; have := HJ67.out; first | omega | exact Nat.le_refl _⟩, ⟨by exact HO_15.out⟩, ⟨by exact BK200.out⟩, ⟨by exact BK201.out⟩, ⟨by exact BK208.out⟩, ⟨by exact BK218.out⟩, ⟨by repeat (first | (with_reducible first | exact HB.out | apply yA | apply yN | apply yD | refine below_set ?_ GE200.out | refine below_set ?_ GE201.out | refine below_set ?_ GE208.out | refine below_set ?_ GE218.out) | exact HB.out)⟩⟩
              ·rw [if_neg c127] at H
               have c127b0 : (x9_2 == (wrap64 (x12_3 - 1))) = false := beq_eq_false_iff_ne.mpr c127
               have c127b1 : (x9_2 != (wrap64 (x12_3 - 1))) = true := bne_iff_ne.mpr c127
               (first | rw [c127b0] | (simp only [i64_w, i32_w]; rw [c127b0]) | rw [c127b1] | (simp only [c127b1]) | skip)
               have H' := zM H
               clear H
               go_wp2
               repeat (go_quiet (fail); try go_wp2)
               go_meet
               case rel => exact ⟨_, (false), (by first | rfl | (simp; done) | (simp [*]; done)), H', ⟨by have := HJ29.out; have := HK2.out; have := HK3.out; have := HJ67.out; first | omega | exact Nat.le_refl _⟩, ⟨by exact HO_15.out⟩, ⟨by exact BK200.out⟩, ⟨by exact BK201.out⟩, ⟨by exact BK208.out⟩, ⟨by exact BK218.out⟩, ⟨by repeat (first | (with_reducible first | exact HB.out | apply yA | apply yN | apply yD | refine below_set ?_ GE200.out | refine below_set ?_ GE201.out | refine below_set ?_ GE208.out | refine below_set ?_ GE218.out) | exact HB.out)⟩⟩
             case rest =>
              clear HC126
              obtain ⟨kq, x119_125, rfl, HA, HJ125, HO_15, BK200, BK201, BK208, BK218, HB⟩ := hcut
              cases kq with
              | zero => exact absurd HA.out (by simp [spec_Unpack.j4])
              | succ kj125 =>
               have H := HA.out
               clear HA
               simp only [spec_Unpack.j4] at H
               by_cases c129 : x119_125 = true
               ·subst c129
                have H1 : (some (4, (t217 == 1), 0, 0, 0)) = some (r1, r2, r3, r4, r5) := by rw [if_pos rfl] at H; exact H
                clear H
                have H := H1
                clear H1
                simp only [Option.some.injEq, Prod.mk.injEq] at H
                obtain ⟨rfl, rfl, rfl, rfl, rfl⟩ := H
                have hnb130 := NB218_200.out
                have hnc130 := NB200_218.out
                have hnb131 := NB218_201.out
                have hnc131 := NB201_218.out
                have hnb132 := NB218_208.out
                have hnc132 := NB208_218.out
                have hcz133_0 : wc.cell? ⟨gb218, 0, none⟩ = some (.int .i64 0) := (blk_cell BK218.out 0).trans rfl
                have hcz133_1 : wc.cell? ⟨gb218, 1, none⟩ = some (.bool (t217 == 1)) := (blk_cell BK218.out 1).trans rfl
                have hcz133_2 : wc.cell? ⟨gb218, 2, none⟩ = some (.int .u64 0) := (blk_cell BK218.out 2).trans rfl
                have hcz133_3 : wc.cell? ⟨gb218, 3, none⟩ = some (.int .u64 0) := (blk_cell BK218.out 3).trans rfl
                have hcz133_4 : wc.cell? ⟨gb218, 4, none⟩ = some (.int .i64 0) := (blk_cell BK218.out 4).trans rfl
                have hfz133_0 := blk_frozen BK218.out 0
                have hfz133_1 := blk_frozen BK218.out 1
                have hfz133_2 := blk_frozen BK218.out 2
                have hfz133_3 := blk_frozen BK218.out 3
                have hfz133_4 := blk_frozen BK218.out 4
                have hnb134 := NB201_200.out
                have hnc134 := NB200_201.out
                have hnb135 := NB201_208.out
                have hnc135 := NB208_201.out
                have hcz136_0 : wc.cell? ⟨gb201, 0, none⟩ = some (.int .i64 x202000_67) := (blk_cell BK201.out 0).trans rfl
                have hcz136_1 : wc.cell? ⟨gb201, 1, none⟩ = some (.bool x202001_67) := (blk_cell BK201.out 1).trans rfl
                have hcz136_2 : wc.cell? ⟨gb201, 2, none⟩ = some (.int .u64 x202002_67) := (blk_cell BK201.out 2).trans rfl
                have hcz136_3 : wc.cell? ⟨gb201, 3, none⟩ = some (.int .u64 x202003_67) := (blk_cell BK201.out 3).trans rfl
                have hcz136_4 : wc.cell? ⟨gb201, 4, none⟩ = some (.int .i64 x202004_67) := (blk_cell BK201.out 4).trans rfl
                have hfz136_0 := blk_frozen BK201.out 0
                have hfz136_1 := blk_frozen BK201.out 1
                have hfz136_2 := blk_frozen BK201.out 2
                have hfz136_3 := blk_frozen BK201.out 3
                have hfz136_4 := blk_frozen BK201.out 4
                go_wp2
                repeat (go_quiet (fail); try go_wp2)
                refine bodyPost_ret (results_cell_row rfl _ _ gb201 27 #[.int .i64 4, .bool (t217 == 1), .int .u64 0, .int .u64 0, .int .i64 0] (0, 0) _ rfl (by refine blk_put (cs := #[.int .i64 4, .bool (t217 == 1), .int .u64 0, .int .u64 0, .int .i64 x202004_67]) ?_ 4 _ rfl; refine blk_put (cs := #[.int .i64 4, .bool (t217 == 1), .int .u64 0, .int .u64 x202003_67, .int .i64 x202004_67]) ?_ 3 _ rfl; refine blk_put (cs := #[.int .i64 4, .bool (t217 == 1), .int .u64 x202002_67, .int .u64 x202003_67, .int .i64 x202004_67]) ?_ 2 _ rfl; refine blk_put (cs := #[.int .i64 4, .bool x202001_67, .int .u64 x202002_67, .int .u64 x202003_67, .int .i64 x202004_67]) ?_ 1 _ rfl; refine blk_put (cs := #[.int .i64 x202000_67, .bool x202001_67, .int .u64 x202002_67, .int .u64 x202003_67, .int .i64 x202004_67]) ?_ 0 _ rfl; refine blk_far ?_ NB201_218.out _; exact BK201.out) Tryd.underlying27 rfl (by kernel_rfl)) rfl ?_
                exact ⟨by first | rfl | (simp [errW_none, errW_some] <;> rfl) | (simp [*, errW_none, errW_some] <;> rfl), by repeat (first | (with_reducible first | exact HB.out | apply yA | apply yN | apply yD | refine below_set ?_ GE200.out | refine below_set ?_ GE201.out | refine below_set ?_ GE208.out | refine below_set ?_ GE218.out) | exact HB.out)⟩
               ·replace c129 := Bool.eq_false_iff.mpr c129
                subst c129
                have H1 : (if x9_2 = (wrap64 (x12_3 - 1)) then (some (5, false, 0, 0, 0)) else (if x9_2 = 0 then (spec_Unpack.j5 kj125 x9_2 x15_67 ((x15_67.length : Int) == 0) t202 t203 t204 t205 t206 t207 0 (t217 == 1) 0 0 0) else (spec_Unpack.j5 kj125 x9_2 x15_67 false t202 t203 t204 t205 t206 t207 0 (t217 == 1) 0 0 0))) = some (r1, r2, r3, r4, r5) := by rw [if_neg (show ¬ (false = true) by decide)] at H; exact H
                clear H
                have H := H1
                clear H1
                by_cases c137 : x9_2 = (wrap64 (x12_3 - 1))
                ·rw [if_pos c137] at H
                 have c137b0 : (x9_2 == (wrap64 (x12_3 - 1))) = true := beq_iff_eq.mpr c137
                 have c137b1 : (x9_2 != (wrap64 (x12_3 - 1))) = false := bne_eq_false_iff_eq.mpr c137
                 clear c137
                 simp only [Option.some.injEq, Prod.mk.injEq] at H
                 obtain ⟨rfl, rfl, rfl, rfl, rfl⟩ := H
                 have hnb138 := NB201_200.out
                 have hnc138 := NB200_201.out
                 have hnb139 := NB201_208.out
                 have hnc139 := NB208_201.out
                 have hnb140 := NB201_218.out
                 have hnc140 := NB218_201.out
                 have hcz141_0 : wc.cell? ⟨gb201, 0, none⟩ = some (.int .i64 x202000_67) := (blk_cell BK201.out 0).trans rfl
                 have hcz141_1 : wc.cell? ⟨gb201, 1, none⟩ = some (.bool x202001_67) := (blk_cell BK201.out 1).trans rfl
                 have hcz141_2 : wc.cell? ⟨gb201, 2, none⟩ = some (.int .u64 x202002_67) := (blk_cell BK201.out 2).trans rfl
                 have hcz141_3 : wc.cell? ⟨gb201, 3, none⟩ = some (.int .u64 x202003_67) := (blk_cell BK201.out 3).trans rfl
                 have hcz141_4 : wc.cell? ⟨gb201, 4, none⟩ = some (.int .i64 x202004_67) := (blk_cell BK201.out 4).trans rfl
                 have hfz141_0 := blk_frozen BK201.out 0
                 have hfz141_1 := blk_frozen BK201.out 1
                 have hfz141_2 := blk_frozen BK201.out 2
                 have hfz141_3 := blk_frozen BK201.out 3
                 have hfz141_4 := blk_frozen BK201.out 4
                 go_wp2
                 repeat (go_quiet (fail); try go_wp2)
                 refine bodyPost_ret (results_cell_row rfl _ _ gb201 27 #[.int .i64 5, .bool false, .int .u64 0, .int .u64 0, .int .i64 0] (0, 0) _ rfl (by refine blk_put (cs := #[.int .i64 5, .bool false, .int .u64 0, .int .u64 0, .int .i64 x202004_67]) ?_ 4 _ rfl; refine blk_put (cs := #[.int .i64 5, .bool false, .int .u64 0, .int .u64 x202003_67, .int .i64 x202004_67]) ?_ 3 _ rfl; refine blk_put (cs := #[.int .i64 5, .bool false, .int .u64 x202002_67, .int .u64 x202003_67, .int .i64 x202004_67]) ?_ 2 _ rfl; refine blk_put (cs := #[.int .i64 5, .bool x202001_67, .int .u64 x202002_67, .int .u64 x202003_67, .int .i64 x202004_67]) ?_ 1 _ rfl; refine blk_put (cs := #[.int .i64 x202000_67, .bool x202001_67, .int .u64 x202002_67, .int .u64 x202003_67, .int .i64 x202004_67]) ?_ 0 _ rfl; exact BK201.out) Tryd.underlying27 rfl (by kernel_rfl)) rfl ?_
                 exact ⟨by first | rfl | (simp [errW_none, errW_some] <;> rfl) | (simp [*, errW_none, errW_some] <;> rfl), by repeat (first | (with_reducible first | exact HB.out | apply yA | apply yN | apply yD | refine below_set ?_ GE200.out | refine below_set ?_ GE201.out | refine below_set ?_ GE208.out | refine below_set ?_ GE218.out) | exact HB.out)⟩
                ·rw [if_neg c137] at H
                 have c137b0 : (x9_2 == (wrap64 (x12_3 - 1))) = false := beq_eq_false_iff_ne.mpr c137
                 have c137b1 : (x9_2 != (wrap64 (x12_3 - 1))) = true := bne_iff_ne.mpr c137
                 have HC142 := zM H
                 clear H
                 go_upto_region 37 with (fail)
                 repeat (go_quiet (fail); go_upto_region 37 with (fail))
                 go_cut [134] (fun v134 wc => ∃ (kq : Nat) (x134_141 : Bool), v134 = .bool x134_141 ∧ Aside0 (spec_Unpack.j5 kq x9_2 x15_67 x134_141 t202 t203 t204 t205 t206 t207 0 (t217 == 1) 0 0 0 = some (r1, r2, r3, r4, r5)) ∧ Aside0 (kq ≤ kj125) ∧ Aside0 (Kd.R (Kd.int .u64) 22 wc w.heap.size (fun _ => True) u15 x15_67) ∧ Aside0 (wc.heap[gb200]? = some (.cells #[.int .u64 a1_0, .int .u64 a1_1] 25 (0, 0))) ∧ Aside0 (wc.heap[gb201]? = some (.cells #[.int .i64 x202000_67, .bool x202001_67, .int .u64 x202002_67, .int .u64 x202003_67, .int .i64 x202004_67] 27 (0, 0))) ∧ Aside0 (wc.heap[gb208]? = some (.cells #[.int .i64 t202, .int .i64 t203, .int .i64 t204, .int .i64 t205, .int .i64 t206, .bool t207] 83 (0, 0))) ∧ Aside0 (wc.heap[gb218]? = some (.cells #[.int .i64 0, .bool (t217 == 1), .int .u64 0, .int .u64 0, .int .i64 0] 27 (0, 0))) ∧ Aside0 (Below w.heap.size w wc))
                 case first =>
                  have H := HC142.out
                  clear HC142
                  by_cases c143 : x9_2 = 0
                  ·rw [if_pos c143] at H
                   have c143b0 : (x9_2 == 0) = true := beq_iff_eq.mpr c143
                   have c143b1 : (x9_2 != 0) = false := bne_eq_false_iff_eq.mpr c143
                   clear c143
                   (first | rw [c143b0] | (simp only [i64_w, i32_w]; rw [c143b0]) | rw [c143b1] | (simp only [c143b1]) | skip)
                   have H' := zM H
                   clear H
                   obtain ⟨Ao144, co144, eo144⟩ := Kd.R_slice HO_15.out
                   subst eo144
                   go_wp2
                   repeat (go_quiet (fail); try go_wp2)
                   go_meet
                   case rel => exact ⟨_, (((x15_67.length : Int) == 0)), (by first | rfl | (simp; done) | (simp [*]; done)), H', ⟨by have := HJ29.out; have := HK2.out; have := HK3.out; have := HJ67.out; have := HJ125.out; first | omega | exact Nat.le_refl _⟩, ⟨by exact HO_15.out⟩, ⟨by exact BK200.out⟩, ⟨by exact BK201.out⟩, ⟨by exact BK208.out⟩, ⟨by exact BK218.out⟩, ⟨by repeat (first | (with_reducible first | exact HB.out | apply yA | apply yN | apply yD | refine below_set ?_ GE200.out | refine below_set ?_ GE201.out | refine below_set ?_ GE208.out | refine below_set ?_ GE218.out) | exact HB.out)⟩⟩
                  ·rw [if_neg c143] at H
                   have c143b0 : (x9_2 == 0) = false := beq_eq_false_iff_ne.mpr c143
                   have c143b1 : (x9_2 != 0) = true := bne_iff_ne.mpr c143
                   (first | rw [c143b0] | (simp only [i64_w, i32_w]; rw [c143b0]) | rw [c143b1] | (simp only [c143b1]) | skip)
                   have H' := zM H
                   clear H
                   go_wp2
                   repeat (go_quiet (fail); try go_wp2)
                   go_meet
                   case rel => exact ⟨_, (false), (by first | rfl | (simp; done) | (simp [*]; done)), H', ⟨by have := HJ29.out; have := HK2.out; have := HK3.out; have := HJ67.out; have := HJ125.out; first | omega | exact Nat.le_refl _⟩, ⟨by exact HO_15.out⟩, ⟨by exact BK200.out⟩, ⟨by exact BK201.out⟩, ⟨by exact BK208.out⟩, ⟨by exact BK218.out⟩, ⟨by repeat (first | (with_reducible first | exact HB.out | apply yA | apply yN | apply yD | refine below_set ?_ GE200.out | refine below_set ?_ GE201.out | refine below_set ?_ GE208.out | refine below_set ?_ GE218.out) | exact HB.out)⟩⟩
                 case rest =>
                  clear HC142
                  obtain ⟨kq, x134_141, rfl, HA, HJ141, HO_15, BK200, BK201, BK208, BK218, HB⟩ := hcut
                  cases kq with
                  | zero => exact absurd HA.out (by simp [spec_Unpack.j5])
                  | succ kj141 =>
                   have H := HA.out
                   clear HA
                   simp only [spec_Unpack.j5] at H
                   by_cases c145 : x134_141 = true
                   ·subst c145
                    have H1 : (some (1, (t217 == 1), 0, 0, 0)) = some (r1, r2, r3, r4, r5) := by rw [if_pos rfl] at H; exact H
                    clear H
                    have H := H1
                    clear H1
                    simp only [Option.some.injEq, Prod.mk.injEq] at H
                    obtain ⟨rfl, rfl, rfl, rfl, rfl⟩ := H
                    have hnb146 := NB218_200.out
                    have hnc146 := NB200_218.out
                    have hnb147 := NB218_201.out
                    have hnc147 := NB201_218.out
                    have hnb148 := NB218_208.out
                    have hnc148 := NB208_218.out
                    have hcz149_0 : wc.cell? ⟨gb218, 0, none⟩ = some (.int .i64 0) := (blk_cell BK218.out 0).trans rfl
                    have hcz149_1 : wc.cell? ⟨gb218, 1, none⟩ = some (.bool (t217 == 1)) := (blk_cell BK218.out 1).trans rfl
                    have hcz149_2 : wc.cell? ⟨gb218, 2, none⟩ = some (.int .u64 0) := (blk_cell BK218.out 2).trans rfl
                    have hcz149_3 : wc.cell? ⟨gb218, 3, none⟩ = some (.int .u64 0) := (blk_cell BK218.out 3).trans rfl
                    have hcz149_4 : wc.cell? ⟨gb218, 4, none⟩ = some (.int .i64 0) := (blk_cell BK218.out 4).trans rfl
                    have hfz149_0 := blk_frozen BK218.out 0
                    have hfz149_1 := blk_frozen BK218.out 1
                    have hfz149_2 := blk_frozen BK218.out 2
                    have hfz149_3 := blk_frozen BK218.out 3
                    have hfz149_4 := blk_frozen BK218.out 4
                    have hnb150 := NB201_200.out
                    have hnc150 := NB200_201.out
                    have hnb151 := NB201_208.out
                    have hnc151 := NB208_201.out
                    have hcz152_0 : wc.cell? ⟨gb201, 0, none⟩ = some (.int .i64 x202000_67) := (blk_cell BK201.out 0).trans rfl
                    have hcz152_1 : wc.cell? ⟨gb201, 1, none⟩ = some (.bool x202001_67) := (blk_cell BK201.out 1).trans rfl
                    have hcz152_2 : wc.cell? ⟨gb201, 2, none⟩ = some (.int .u64 x202002_67) := (blk_cell BK201.out 2).trans rfl
                    have hcz152_3 : wc.cell? ⟨gb201, 3, none⟩ = some (.int .u64 x202003_67) := (blk_cell BK201.out 3).trans rfl
                    have hcz152_4 : wc.cell? ⟨gb201, 4, none⟩ = some (.int .i64 x202004_67) := (blk_cell BK201.out 4).trans rfl
                    have hfz152_0 := blk_frozen BK201.out 0
                    have hfz152_1 := blk_frozen BK201.out 1
                    have hfz152_2 := blk_frozen BK201.out 2
                    have hfz152_3 := blk_frozen BK201.out 3
                    have hfz152_4 := blk_frozen BK201.out 4
                    go_wp2
                    repeat (go_quiet (fail); try go_wp2)
                    refine bodyPost_ret (results_cell_row rfl _ _ gb201 27 #[.int .i64 1, .bool (t217 == 1), .int .u64 0, .int .u64 0, .int .i64 0] (0, 0) _ rfl (by refine blk_put (cs := #[.int .i64 1, .bool (t217 == 1), .int .u64 0, .int .u64 0, .int .i64 x202004_67]) ?_ 4 _ rfl; refine blk_put (cs := #[.int .i64 1, .bool (t217 == 1), .int .u64 0, .int .u64 x202003_67, .int .i64 x202004_67]) ?_ 3 _ rfl; refine blk_put (cs := #[.int .i64 1, .bool (t217 == 1), .int .u64 x202002_67, .int .u64 x202003_67, .int .i64 x202004_67]) ?_ 2 _ rfl; refine blk_put (cs := #[.int .i64 1, .bool x202001_67, .int .u64 x202002_67, .int .u64 x202003_67, .int .i64 x202004_67]) ?_ 1 _ rfl; refine blk_put (cs := #[.int .i64 x202000_67, .bool x202001_67, .int .u64 x202002_67, .int .u64 x202003_67, .int .i64 x202004_67]) ?_ 0 _ rfl; refine blk_far ?_ NB201_218.out _; exact BK201.out) Tryd.underlying27 rfl (by kernel_rfl)) rfl ?_
                    exact ⟨by first | rfl | (simp [errW_none, errW_some] <;> rfl) | (simp [*, errW_none, errW_some] <;> rfl), by repeat (first | (with_reducible first | exact HB.out | apply yA | apply yN | apply yD | refine below_set ?_ GE200.out | refine below_set ?_ GE201.out | refine below_set ?_ GE208.out | refine below_set ?_ GE218.out) | exact HB.out)⟩
                   ·replace c145 := Bool.eq_false_iff.mpr c145
                    subst c145
                    have H1 : (if x9_2 = 0 then ((spec_l2Word.f kj141 x15_67).bind fun bt223 => (some (2, (t217 == 1), bt223.1, bt223.2, wrap64 ((wrap64 (t203 - t202)) + 1)))) else ((spec_l2Two.f kj141 (wrap64 (t202 - 1))).bind fun t225 => ((spec_l1Add.f kj141 x15_67 t225).bind fun t228 => ((spec_l2Word.f kj141 t228).bind fun bt231 => (some (3, (t217 == 1), bt231.1, bt231.2, wrap64 ((wrap64 ((wrap64 (x9_2 - t204)) - t202)) + 1))))))) = some (r1, r2, r3, r4, r5) := by rw [if_neg (show ¬ (false = true) by decide)] at H; exact H
                    clear H
                    have H := H1
                    clear H1
                    by_cases c153 : x9_2 = 0
                    ·rw [if_pos c153] at H
                     have c153b0 : (x9_2 == 0) = true := beq_iff_eq.mpr c153
                     have c153b1 : (x9_2 != 0) = false := bne_eq_false_iff_eq.mpr c153
                     clear c153
                     replace H := Option.bind_eq_some_iff.mp H
                     obtain ⟨⟨t223, t224⟩, A1540, H⟩ := H
                     replace H : (some (2, (t217 == 1), t223, t224, wrap64 ((wrap64 (t203 - t202)) + 1))) = some (r1, r2, r3, r4, r5) := H
                     have A154 := zM A1540
                     clear A1540
                     simp only [Option.some.injEq, Prod.mk.injEq] at H
                     obtain ⟨rfl, rfl, rfl, rfl, rfl⟩ := H
                     have hnb155 := NB218_200.out
                     have hnc155 := NB200_218.out
                     have hnb156 := NB218_201.out
                     have hnc156 := NB201_218.out
                     have hnb157 := NB218_208.out
                     have hnc157 := NB208_218.out
                     have hcz158_0 : wc.cell? ⟨gb218, 0, none⟩ = some (.int .i64 0) := (blk_cell BK218.out 0).trans rfl
                     have hcz158_1 : wc.cell? ⟨gb218, 1, none⟩ = some (.bool (t217 == 1)) := (blk_cell BK218.out 1).trans rfl
                     have hcz158_2 : wc.cell? ⟨gb218, 2, none⟩ = some (.int .u64 0) := (blk_cell BK218.out 2).trans rfl
                     have hcz158_3 : wc.cell? ⟨gb218, 3, none⟩ = some (.int .u64 0) := (blk_cell BK218.out 3).trans rfl
                     have hcz158_4 : wc.cell? ⟨gb218, 4, none⟩ = some (.int .i64 0) := (blk_cell BK218.out 4).trans rfl
                     have hfz158_0 := blk_frozen BK218.out 0
                     have hfz158_1 := blk_frozen BK218.out 1
                     have hfz158_2 := blk_frozen BK218.out 2
                     have hfz158_3 := blk_frozen BK218.out 3
                     have hfz158_4 := blk_frozen BK218.out 4
                     obtain ⟨Ao159, co159, eo159⟩ := Kd.R_slice HO_15.out
                     subst eo159
                     go_wp2_with (first | (go_at_call 62; (with_reducible refine (spec_l2Word.calls kj141 _ _ x15_67 t223 t224 _ ?side1 ?side2 A154.out).mono ?_); (case side1 => refine (Kd.R_reads' (e := 22) (base := w.heap.size) (ok := fun k_ => True) (n := x15_67.length) (c := co159) ?_).2.2; exact (by exact (Kd.R_mono (Kd.R_far (p := ⟨gb218, 0, none⟩) (Kd.R_types HO_15.out BK218.out (by decide)) (fun _ hk => hk.2) (.int .i64 2)) (fun _ h_ => h_.1)))); (case side2 => exact (Kd.R_reads' HO_15.out).2.1); rintro e w160 ⟨rfl, hb⟩; have n0_ := zM (Kd.R_below (by exact (Kd.R_mono (Kd.R_far (p := ⟨gb218, 0, none⟩) (Kd.R_types HO_15.out BK218.out (by decide)) (fun _ hk => hk.2) (.int .i64 2)) (fun _ h_ => h_.1))) hb); have n1_ := zM (blk_below (g := gb200) (o := .cells #[.int .u64 a1_0, .int .u64 a1_1] 25 (0, 0)) (by refine blk_far ?_ NB200_218.out _; exact BK200.out) hb); have n2_ := zM (blk_below (g := gb201) (o := .cells #[.int .i64 x202000_67, .bool x202001_67, .int .u64 x202002_67, .int .u64 x202003_67, .int .i64 x202004_67] 27 (0, 0)) (by refine blk_far ?_ NB201_218.out _; exact BK201.out) hb); have n3_ := zM (blk_below (g := gb208) (o := .cells #[.int .i64 t202, .int .i64 t203, .int .i64 t204, .int .i64 t205, .int .i64 t206, .bool t207] 83 (0, 0)) (by refine blk_far ?_ NB208_218.out _; exact BK208.out) hb); have n4_ := zM (blk_below (g := gb218) (o := .cells #[.int .i64 2, .bool (t217 == 1), .int .u64 0, .int .u64 0, .int .i64 0] 27 (0, 0)) (by refine blk_put (cs := #[.int .i64 0, .bool (t217 == 1), .int .u64 0, .int .u64 0, .int .i64 0]) ?_ 0 _ rfl; exact BK218.out) hb); have n5_ := zM (below_step (by repeat (first | (with_reducible first | exact HB.out | apply yA | apply yN | apply yD | refine below_set ?_ GE200.out | refine below_set ?_ GE201.out | refine below_set ?_ GE208.out | refine below_set ?_ GE218.out) | exact HB.out)) hb); clear HO_15; clear BK200; clear BK201; clear BK208; clear BK218; clear HB; have HO_15 := n0_; have BK200 := n1_; have BK201 := n2_; have BK208 := n3_; have BK218 := n4_; have HB := n5_; clear n0_ n1_ n2_ n3_ n4_ n5_; (try clear hb); (try clear hb2); (try clear hk); (try clear hi); have hcz161_0 : w160.cell? ⟨gb218, 0, none⟩ = some (.int .i64 2) := (blk_cell BK218.out 0).trans rfl; have hcz161_1 : w160.cell? ⟨gb218, 1, none⟩ = some (.bool (t217 == 1)) := (blk_cell BK218.out 1).trans rfl; have hcz161_2 : w160.cell? ⟨gb218, 2, none⟩ = some (.int .u64 0) := (blk_cell BK218.out 2).trans rfl; have hcz161_3 : w160.cell? ⟨gb218, 3, none⟩ = some (.int .u64 0) := (blk_cell BK218.out 3).trans rfl; have hcz161_4 : w160.cell? ⟨gb218, 4, none⟩ = some (.int .i64 0) := (blk_cell BK218.out 4).trans rfl; have hfz161_0 := blk_frozen BK218.out 0; have hfz161_1 := blk_frozen BK218.out 1; have hfz161_2 := blk_frozen BK218.out 2; have hfz161_3 := blk_frozen BK218.out 3; have hfz161_4 := blk_frozen BK218.out 4; have hnb162 := NB208_200.out; have hnc162 := NB200_208.out; have hnb163 := NB208_201.out; have hnc163 := NB201_208.out; have hcz164_0 : w160.cell? ⟨gb208, 0, none⟩ = some (.int .i64 t202) := (blk_cell BK208.out 0).trans rfl; have hcz164_1 : w160.cell? ⟨gb208, 1, none⟩ = some (.int .i64 t203) := (blk_cell BK208.out 1).trans rfl; have hcz164_2 : w160.cell? ⟨gb208, 2, none⟩ = some (.int .i64 t204) := (blk_cell BK208.out 2).trans rfl; have hcz164_3 : w160.cell? ⟨gb208, 3, none⟩ = some (.int .i64 t205) := (blk_cell BK208.out 3).trans rfl; have hcz164_4 : w160.cell? ⟨gb208, 4, none⟩ = some (.int .i64 t206) := (blk_cell BK208.out 4).trans rfl; have hcz164_5 : w160.cell? ⟨gb208, 5, none⟩ = some (.bool t207) := (blk_cell BK208.out 5).trans rfl; have hfz164_0 := blk_frozen BK208.out 0; have hfz164_1 := blk_frozen BK208.out 1; have hfz164_2 := blk_frozen BK208.out 2; have hfz164_3 := blk_frozen BK208.out 3; have hfz164_4 := blk_frozen BK208.out 4; have hfz164_5 := blk_frozen BK208.out 5; have hnb165 := NB201_200.out; have hnc165 := NB200_201.out; have hcz166_0 : w160.cell? ⟨gb201, 0, none⟩ = some (.int .i64 x202000_67) := (blk_cell BK201.out 0).trans rfl; have hcz166_1 : w160.cell? ⟨gb201, 1, none⟩ = some (.bool x202001_67) := (blk_cell BK201.out 1).trans rfl; have hcz166_2 : w160.cell? ⟨gb201, 2, none⟩ = some (.int .u64 x202002_67) := (blk_cell BK201.out 2).trans rfl; have hcz166_3 : w160.cell? ⟨gb201, 3, none⟩ = some (.int .u64 x202003_67) := (blk_cell BK201.out 3).trans rfl; have hcz166_4 : w160.cell? ⟨gb201, 4, none⟩ = some (.int .i64 x202004_67) := (blk_cell BK201.out 4).trans rfl; have hfz166_0 := blk_frozen BK201.out 0; have hfz166_1 := blk_frozen BK201.out 1; have hfz166_2 := blk_frozen BK201.out 2; have hfz166_3 := blk_frozen BK201.out 3; have hfz166_4 := blk_frozen BK201.out 4))
                     refine bodyPost_ret (results_cell_row rfl _ _ gb201 27 #[.int .i64 2, .bool (t217 == 1), .int .u64 t223, .int .u64 t224, .int .i64 (wrap64 ((wrap64 (t203 - t202)) + 1))] (0, 0) _ rfl (by refine blk_put (cs := #[.int .i64 2, .bool (t217 == 1), .int .u64 t223, .int .u64 t224, .int .i64 x202004_67]) ?_ 4 _ rfl; refine blk_put (cs := #[.int .i64 2, .bool (t217 == 1), .int .u64 t223, .int .u64 x202003_67, .int .i64 x202004_67]) ?_ 3 _ rfl; refine blk_put (cs := #[.int .i64 2, .bool (t217 == 1), .int .u64 x202002_67, .int .u64 x202003_67, .int .i64 x202004_67]) ?_ 2 _ rfl; refine blk_put (cs := #[.int .i64 2, .bool x202001_67, .int .u64 x202002_67, .int .u64 x202003_67, .int .i64 x202004_67]) ?_ 1 _ rfl; refine blk_put (cs := #[.int .i64 x202000_67, .bool x202001_67, .int .u64 x202002_67, .int .u64 x202003_67, .int .i64 x202004_67]) ?_ 0 _ rfl; refine blk_far ?_ NB201_218.out _; refine blk_far ?_ NB201_218.out _; refine blk_far ?_ NB201_218.out _; exact BK201.out) Tryd.underlying27 rfl (by kernel_rfl)) rfl ?_
                     exact ⟨by first | rfl | (simp [errW_none, errW_some] <;> rfl) | (simp [*, errW_none, errW_some] <;> rfl), by repeat (first | (with_reducible first | exact HB.out | apply yA | apply yN | apply yD | refine below_set ?_ GE200.out | refine below_set ?_ GE201.out | refine below_set ?_ GE208.out | refine below_set ?_ GE218.out) | exact HB.out)⟩
                    ·rw [if_neg c153] at H
                     have c153b0 : (x9_2 == 0) = false := beq_eq_false_iff_ne.mpr c153
                     have c153b1 : (x9_2 != 0) = true := bne_iff_ne.mpr c153
                     replace H := Option.bind_eq_some_iff.mp H
                     obtain ⟨t225, A1670, H⟩ := H
                     replace H : ((spec_l1Add.f kj141 x15_67 t225).bind fun t228 => ((spec_l2Word.f kj141 t228).bind fun bt231 => (some (3, (t217 == 1), bt231.1, bt231.2, wrap64 ((wrap64 ((wrap64 (x9_2 - t204)) - t202)) + 1))))) = some (r1, r2, r3, r4, r5) := H
                     have A167 := zM A1670
                     clear A1670
                     replace H := Option.bind_eq_some_iff.mp H
                     obtain ⟨t228, A1680, H⟩ := H
                     replace H : ((spec_l2Word.f kj141 t228).bind fun bt231 => (some (3, (t217 == 1), bt231.1, bt231.2, wrap64 ((wrap64 ((wrap64 (x9_2 - t204)) - t202)) + 1)))) = some (r1, r2, r3, r4, r5) := H
                     have A168 := zM A1680
                     clear A1680
                     replace H := Option.bind_eq_some_iff.mp H
                     obtain ⟨⟨t231, t232⟩, A1690, H⟩ := H
                     replace H : (some (3, (t217 == 1), t231, t232, wrap64 ((wrap64 ((wrap64 (x9_2 - t204)) - t202)) + 1))) = some (r1, r2, r3, r4, r5) := H
                     have A169 := zM A1690
                     clear A1690
                     simp only [Option.some.injEq, Prod.mk.injEq] at H
                     obtain ⟨rfl, rfl, rfl, rfl, rfl⟩ := H
                     have hnb170 := NB218_200.out
                     have hnc170 := NB200_218.out
                     have hnb171 := NB218_201.out
                     have hnc171 := NB201_218.out
                     have hnb172 := NB218_208.out
                     have hnc172 := NB208_218.out
                     have hcz173_0 : wc.cell? ⟨gb218, 0, none⟩ = some (.int .i64 0) := (blk_cell BK218.out 0).trans rfl
                     have hcz173_1 : wc.cell? ⟨gb218, 1, none⟩ = some (.bool (t217 == 1)) := (blk_cell BK218.out 1).trans rfl
                     have hcz173_2 : wc.cell? ⟨gb218, 2, none⟩ = some (.int .u64 0) := (blk_cell BK218.out 2).trans rfl
                     have hcz173_3 : wc.cell? ⟨gb218, 3, none⟩ = some (.int .u64 0) := (blk_cell BK218.out 3).trans rfl
                     have hcz173_4 : wc.cell? ⟨gb218, 4, none⟩ = some (.int .i64 0) := (blk_cell BK218.out 4).trans rfl
                     have hfz173_0 := blk_frozen BK218.out 0
                     have hfz173_1 := blk_frozen BK218.out 1
                     have hfz173_2 := blk_frozen BK218.out 2
                     have hfz173_3 := blk_frozen BK218.out 3
                     have hfz173_4 := blk_frozen BK218.out 4
                     have hnb174 := NB208_200.out
                     have hnc174 := NB200_208.out
                     have hnb175 := NB208_201.out
                     have hnc175 := NB201_208.out
                     have hcz176_0 : wc.cell? ⟨gb208, 0, none⟩ = some (.int .i64 t202) := (blk_cell BK208.out 0).trans rfl
                     have hcz176_1 : wc.cell? ⟨gb208, 1, none⟩ = some (.int .i64 t203) := (blk_cell BK208.out 1).trans rfl
                     have hcz176_2 : wc.cell? ⟨gb208, 2, none⟩ = some (.int .i64 t204) := (blk_cell BK208.out 2).trans rfl
                     have hcz176_3 : wc.cell? ⟨gb208, 3, none⟩ = some (.int .i64 t205) := (blk_cell BK208.out 3).trans rfl
                     have hcz176_4 : wc.cell? ⟨gb208, 4, none⟩ = some (.int .i64 t206) := (blk_cell BK208.out 4).trans rfl
                     have hcz176_5 : wc.cell? ⟨gb208, 5, none⟩ = some (.bool t207) := (blk_cell BK208.out 5).trans rfl
                     have hfz176_0 := blk_frozen BK208.out 0
                     have hfz176_1 := blk_frozen BK208.out 1
                     have hfz176_2 := blk_frozen BK208.out 2
                     have hfz176_3 := blk_frozen BK208.out 3
                     have hfz176_4 := blk_frozen BK208.out 4
                     have hfz176_5 := blk_frozen BK208.out 5
                     go_wp2_with (first | (go_at_call 64; (with_reducible refine (spec_l2Two.calls kj141 (wrap64 (t202 - 1)) t225 _ A167.out).mono ?_); rintro e w177 ⟨v226, rfl, ho0, hb⟩; have n0_ := zM (Kd.R_elder' (by exact (Kd.R_mono (Kd.R_far (p := ⟨gb218, 0, none⟩) (Kd.R_types HO_15.out BK218.out (by decide)) (fun _ hk => hk.2) (.int .i64 3)) (fun _ h_ => h_.1))) (Kd.R_base ho0) hb); have n1_ := zM (Kd.R_lower (Kd.R_new' ho0 (Kd.R_lt (by exact (Kd.R_mono (Kd.R_far (p := ⟨gb218, 0, none⟩) (Kd.R_types HO_15.out BK218.out (by decide)) (fun _ hk => hk.2) (.int .i64 3)) (fun _ h_ => h_.1))))) (below_size (by repeat (first | (with_reducible first | exact HB.out | apply yA | apply yN | apply yD | refine below_set ?_ GE200.out | refine below_set ?_ GE201.out | refine below_set ?_ GE208.out | refine below_set ?_ GE218.out) | exact HB.out)))); have n2_ := zM (blk_below (g := gb200) (o := .cells #[.int .u64 a1_0, .int .u64 a1_1] 25 (0, 0)) (by refine blk_far ?_ NB200_218.out _; exact BK200.out) hb); have n3_ := zM (blk_below (g := gb201) (o := .cells #[.int .i64 x202000_67, .bool x202001_67, .int .u64 x202002_67, .int .u64 x202003_67, .int .i64 x202004_67] 27 (0, 0)) (by refine blk_far ?_ NB201_218.out _; exact BK201.out) hb); have n4_ := zM (blk_below (g := gb208) (o := .cells #[.int .i64 t202, .int .i64 t203, .int .i64 t204, .int .i64 t205, .int .i64 t206, .bool t207] 83 (0, 0)) (by refine blk_far ?_ NB208_218.out _; exact BK208.out) hb); have n5_ := zM (blk_below (g := gb218) (o := .cells #[.int .i64 3, .bool (t217 == 1), .int .u64 0, .int .u64 0, .int .i64 0] 27 (0, 0)) (by refine blk_put (cs := #[.int .i64 0, .bool (t217 == 1), .int .u64 0, .int .u64 0, .int .i64 0]) ?_ 0 _ rfl; exact BK218.out) hb); have n6_ := zM (below_step (by repeat (first | (with_reducible first | exact HB.out | apply yA | apply yN | apply yD | refine below_set ?_ GE200.out | refine below_set ?_ GE201.out | refine below_set ?_ GE208.out | refine below_set ?_ GE218.out) | exact HB.out)) hb); clear HO_15; clear BK200; clear BK201; clear BK208; clear BK218; clear HB; have HO_15 := n0_; have HO227 := n1_; have BK200 := n2_; have BK201 := n3_; have BK208 := n4_; have BK218 := n5_; have HB := n6_; clear n0_ n1_ n2_ n3_ n4_ n5_ n6_; (try clear hb); (try clear hb2); (try clear hk); (try clear hi); (try clear ho0); obtain ⟨Ao178, co178, eo178⟩ := Kd.R_slice HO_15.out; subst eo178; obtain ⟨Ao179, co179, eo179⟩ := Kd.R_slice HO227.out; subst eo179) | (go_at_call 63; (with_reducible refine (spec_l1Add.calls kj141 _ _ x15_67 _ _ t225 t228 _ ?side1 ?side2 ?side3 ?side4 A168.out).mono ?_); (case side1 => repeat (first | exact (Kd.R_reads' HO_15.out).2.2 | (with_reducible refine Kd.C_alloc ?_ _) | (with_reducible refine Kd.C_drewN ?_ _) | (with_reducible refine Kd.C_drew ?_))); (case side2 => exact (Kd.R_reads' HO_15.out).2.1); (case side3 => repeat (first | exact (Kd.R_reads' HO227.out).2.2 | (with_reducible refine Kd.C_alloc ?_ _) | (with_reducible refine Kd.C_drewN ?_ _) | (with_reducible refine Kd.C_drew ?_))); (case side4 => exact (Kd.R_reads' HO227.out).2.1); rintro e w180 ⟨v229, rfl, ho0, hb⟩; have n0_ := zM (Kd.R_elder' (by exact HO_15.out) (Kd.R_base ho0) hb); have n1_ := zM (Kd.R_elder' (by exact HO227.out) (Kd.R_base ho0) hb); have n2_ := zM (Kd.R_lower (Kd.R_new' (Kd.R_new' ho0 (Kd.R_lt (by exact HO_15.out))) (Kd.R_lt (by exact HO227.out))) (below_size HB.out)); have n3_ := zM (blk_below BK200.out hb); have n4_ := zM (blk_below BK201.out hb); have n5_ := zM (blk_below BK208.out hb); have n6_ := zM (blk_below BK218.out hb); have n7_ := zM (below_step HB.out hb); clear HO_15; clear HO227; clear BK200; clear BK201; clear BK208; clear BK218; clear HB; have HO_15 := n0_; have HO227 := n1_; have HO230 := n2_; have BK200 := n3_; have BK201 := n4_; have BK208 := n5_; have BK218 := n6_; have HB := n7_; clear n0_ n1_ n2_ n3_ n4_ n5_ n6_ n7_; (try clear hb); (try clear hb2); (try clear hk); (try clear hi); (try clear ho0); obtain ⟨Ao181, co181, eo181⟩ := Kd.R_slice HO230.out; subst eo181) | (go_at_call 62; (with_reducible refine (spec_l2Word.calls kj141 _ _ t228 t231 t232 _ ?side1 ?side2 A169.out).mono ?_); (case side1 => repeat (first | exact (Kd.R_reads' HO230.out).2.2 | (with_reducible refine Kd.C_alloc ?_ _) | (with_reducible refine Kd.C_drewN ?_ _) | (with_reducible refine Kd.C_drew ?_))); (case side2 => exact (Kd.R_reads' HO230.out).2.1); rintro e w182 ⟨rfl, hb⟩; have n0_ := zM (Kd.R_below (by exact HO_15.out) hb); have n1_ := zM (Kd.R_below (by exact HO227.out) hb); have n2_ := zM (Kd.R_below (by exact HO230.out) hb); have n3_ := zM (blk_below BK200.out hb); have n4_ := zM (blk_below BK201.out hb); have n5_ := zM (blk_below BK208.out hb); have n6_ := zM (blk_below BK218.out hb); have n7_ := zM (below_step HB.out hb); clear HO_15; clear HO227; clear HO230; clear BK200; clear BK201; clear BK208; clear BK218; clear HB; have HO_15 := n0_; have HO227 := n1_; have HO230 := n2_; have BK200 := n3_; have BK201 := n4_; have BK208 := n5_; have BK218 := n6_; have HB := n7_; clear n0_ n1_ n2_ n3_ n4_ n5_ n6_ n7_; (try clear hb); (try clear hb2); (try clear hk); (try clear hi); have hcz183_0 : w182.cell? ⟨gb218, 0, none⟩ = some (.int .i64 3) := (blk_cell BK218.out 0).trans rfl; have hcz183_1 : w182.cell? ⟨gb218, 1, none⟩ = some (.bool (t217 == 1)) := (blk_cell BK218.out 1).trans rfl; have hcz183_2 : w182.cell? ⟨gb218, 2, none⟩ = some (.int .u64 0) := (blk_cell BK218.out 2).trans rfl; have hcz183_3 : w182.cell? ⟨gb218, 3, none⟩ = some (.int .u64 0) := (blk_cell BK218.out 3).trans rfl; have hcz183_4 : w182.cell? ⟨gb218, 4, none⟩ = some (.int .i64 0) := (blk_cell BK218.out 4).trans rfl; have hfz183_0 := blk_frozen BK218.out 0; have hfz183_1 := blk_frozen BK218.out 1; have hfz183_2 := blk_frozen BK218.out 2; have hfz183_3 := blk_frozen BK218.out 3; have hfz183_4 := blk_frozen BK218.out 4; have hcz184_0 : w182.cell? ⟨gb208, 0, none⟩ = some (.int .i64 t202) := (blk_cell BK208.out 0).trans rfl; have hcz184_1 : w182.cell? ⟨gb208, 1, none⟩ = some (.int .i64 t203) := (blk_cell BK208.out 1).trans rfl; have hcz184_2 : w182.cell? ⟨gb208, 2, none⟩ = some (.int .i64 t204) := (blk_cell BK208.out 2).trans rfl; have hcz184_3 : w182.cell? ⟨gb208, 3, none⟩ = some (.int .i64 t205) := (blk_cell BK208.out 3).trans rfl; have hcz184_4 : w182.cell? ⟨gb208, 4, none⟩ = some (.int .i64 t206) := (blk_cell BK208.out 4).trans rfl; have hcz184_5 : w182.cell? ⟨gb208, 5, none⟩ = some (.bool t207) := (blk_cell BK208.out 5).trans rfl; have hfz184_0 := blk_frozen BK208.out 0; have hfz184_1 := blk_frozen BK208.out 1; have hfz184_2 := blk_frozen BK208.out 2; have hfz184_3 := blk_frozen BK208.out 3; have hfz184_4 := blk_frozen BK208.out 4; have hfz184_5 := blk_frozen BK208.out 5; have hnb185 := NB201_200.out; have hnc185 := NB200_201.out; have hcz186_0 : w182.cell? ⟨gb201, 0, none⟩ = some (.int .i64 x202000_67) := (blk_cell BK201.out 0).trans rfl; have hcz186_1 : w182.cell? ⟨gb201, 1, none⟩ = some (.bool x202001_67) := (blk_cell BK201.out 1).trans rfl; have hcz186_2 : w182.cell? ⟨gb201, 2, none⟩ = some (.int .u64 x202002_67) := (blk_cell BK201.out 2).trans rfl; have hcz186_3 : w182.cell? ⟨gb201, 3, none⟩ = some (.int .u64 x202003_67) := (blk_cell BK201.out 3).trans rfl; have hcz186_4 : w182.cell? ⟨gb201, 4, none⟩ = some (.int .i64 x202004_67) := (blk_cell BK201.out 4).trans rfl; have hfz186_0 := blk_frozen BK201.out 0; have hfz186_1 := blk_frozen BK201.out 1; have hfz186_2 := blk_frozen BK201.out 2; have hfz186_3 := blk_frozen BK201.out 3; have hfz186_4 := blk_frozen BK201.out 4))
                     refine bodyPost_ret (results_cell_row rfl _ _ gb201 27 #[.int .i64 3, .bool (t217 == 1), .int .u64 t231, .int .u64 t232, .int .i64 (wrap64 ((wrap64 ((wrap64 (x9_2 - t204)) - t202)) + 1))] (0, 0) _ rfl (by refine blk_put (cs := #[.int .i64 3, .bool (t217 == 1), .int .u64 t231, .int .u64 t232, .int .i64 x202004_67]) ?_ 4 _ rfl; refine blk_put (cs := #[.int .i64 3, .bool (t217 == 1), .int .u64 t231, .int .u64 x202003_67, .int .i64 x202004_67]) ?_ 3 _ rfl; refine blk_put (cs := #[.int .i64 3, .bool (t217 == 1), .int .u64 x202002_67, .int .u64 x202003_67, .int .i64 x202004_67]) ?_ 2 _ rfl; refine blk_put (cs := #[.int .i64 3, .bool x202001_67, .int .u64 x202002_67, .int .u64 x202003_67, .int .i64 x202004_67]) ?_ 1 _ rfl; refine blk_put (cs := #[.int .i64 x202000_67, .bool x202001_67, .int .u64 x202002_67, .int .u64 x202003_67, .int .i64 x202004_67]) ?_ 0 _ rfl; refine blk_far ?_ NB201_218.out _; refine blk_far ?_ NB201_218.out _; refine blk_far ?_ NB201_218.out _; exact BK201.out) Tryd.underlying27 rfl (by kernel_rfl)) rfl ?_
                     exact ⟨by first | rfl | (simp [errW_none, errW_some] <;> rfl) | (simp [*, errW_none, errW_some] <;> rfl), by repeat (first | (with_reducible first | exact HB.out | apply yA | apply yN | apply yD | refine below_set ?_ GE200.out | refine below_set ?_ GE201.out | refine below_set ?_ GE208.out | refine below_set ?_ GE218.out) | exact HB.out)⟩
end Go.Proofs.YtdbnmdchecacdaaDoor.PB
end
