import Derived.Test.YtdbnmdchecacdaaDoorQFnExactUnpackh
section
namespace Go.Proofs.YtdbnmdchecacdaaDoor.PU
open Go.RowKit Go.Proofs.YtdbnmdchecacdaaDoor.G Go.Proofs.YtdbnmdchecacdaaDoorV.PrintWords Go.Proofs.YtdbnmdchecacdaaDoorV.PrintLast Go.Proofs.YtdbnmdchecacdaaDoorV.PrintMore
attribute [local go_sem] max2_int min2_int max_two min_two max_three min_three max_four min_four run_Add64 run_Sub64 fld25_1
set_option linter.unusedVariables false
set_option linter.unusedSimpArgs false
def laws_toWord.f (a0_0 : Int) (a0_1 : Int) : Option (Int × Int) := some (a0_0, a0_1)
set_option maxHeartbeats 8000000 in
set_option maxRecDepth 100000 in
theorem laws_toWord.calls (a0_0 : Int) (a0_1 : Int) (r1 : Int) (r2 : Int) (w : World) (h : laws_toWord.f a0_0 a0_1 = some (r1, r2)) :
  Calls Tryd.prog 16 #[.agg #[.int .u64 a0_0, .int .u64 a0_1]] w fun e w' => e = .returned (.agg #[.int .u64 r1, .int .u64 r2]) ∧ Below w.heap.size w w' := by
 have hu24 := Tryd.underlying24
 have hu25 := Tryd.underlying25
 have HB := Aside0.mk (Below.refl w.heap.size w)
 have H : (some (a0_0, a0_1)) = some (r1, r2) := h
 clear h
 simp only [Option.some.injEq, Prod.mk.injEq] at H
 obtain ⟨rfl, rfl⟩ := H
 go_enter Tryd.func16, Tryd.ntmps16
 go_wp2_with (first | ((with_reducible refine gate_dst (N := 1) rfl ?_); refine box_event ?hg (N := 1) ?hd (cs := #[.int .u64 a0_0, .int .u64 a0_1]) (t := 24) ?hr ?_; (case hd => rfl); (case hg => rfl); (case hr => first | (go_simp; done) | (go_simp; rfl)); intro gb230 hg w2 hbox hb; have n0_ := Aside0.mk (below_step (by repeat (first | (with_reducible first | exact HB.out | apply below_alloc | apply pw_below_drewN | apply below_drew1) | exact HB.out)) hb); have n1_ := Aside0.mk (hbox); have n2_ := Aside0.mk ((by rw [hg]; exact (below_size (by repeat (first | (with_reducible first | exact HB.out | apply below_alloc | apply pw_below_drewN | apply below_drew1) | exact HB.out))) : w.heap.size ≤ gb230)); have n3_ := Aside0.mk ((by rw [hg]; exact (below_size (by repeat (first | (with_reducible first | exact HB.out | apply below_alloc | apply pw_below_drewN | apply below_drew1) | exact HB.out))) : w.heap.size ≤ gb230)); clear HB; have HB := n0_; have BK230 := n1_; have GW230 := n2_; have GE230 := n3_; clear n0_ n1_ n2_ n3_; clear hb hbox hg) | ((with_reducible refine gate_dst (N := 2) rfl ?_); refine box_event ?hg (N := 2) ?hd (cs := #[.int .u64 0, .int .u64 0]) (t := 25) ?hr ?_; (case hd => rfl); (case hg => rfl); (case hr => first | (go_simp; done) | (go_simp; rfl)); intro gb231 hg w3 hbox hb; have n0_ := Aside0.mk (blk_below (g := gb230) (o := .cells #[.int .u64 a0_0, .int .u64 a0_1] 24 (0, 0)) (by (with_reducible repeat (first | refine blk_drewN ?_ _ | refine blk_drew ?_ | refine blk_alloc ?_ _)); exact BK230.out) hb); have n1_ := Aside0.mk (below_step (by repeat (first | (with_reducible first | exact HB.out | apply below_alloc | apply pw_below_drewN | apply below_drew1 | refine below_set ?_ GE230.out) | exact HB.out)) hb); have n2_ := Aside0.mk (hbox); have n3_ := Aside0.mk ((by rw [hg]; exact (below_size (by repeat (first | (with_reducible first | exact HB.out | apply below_alloc | apply pw_below_drewN | apply below_drew1 | refine below_set ?_ GE230.out) | exact HB.out))) : w.heap.size ≤ gb231)); have n4_ := Aside0.mk ((by rw [hg]; exact (below_size (by repeat (first | (with_reducible first | exact HB.out | apply below_alloc | apply pw_below_drewN | apply below_drew1 | refine below_set ?_ GE230.out) | exact HB.out))) : w.heap.size ≤ gb231)); have n5_ := Aside0.mk ((by rw [hg]; exact Nat.ne_of_lt (blk_lt (g := gb230) (o := .cells #[.int .u64 a0_0, .int .u64 a0_1] 24 (0, 0)) (by (with_reducible repeat (first | refine blk_drewN ?_ _ | refine blk_drew ?_ | refine blk_alloc ?_ _)); exact BK230.out)) : gb230 ≠ gb231)); have n6_ := Aside0.mk ((by rw [hg]; exact Nat.ne_of_gt (blk_lt (g := gb230) (o := .cells #[.int .u64 a0_0, .int .u64 a0_1] 24 (0, 0)) (by (with_reducible repeat (first | refine blk_drewN ?_ _ | refine blk_drew ?_ | refine blk_alloc ?_ _)); exact BK230.out)) : gb231 ≠ gb230)); clear BK230; clear HB; have BK230 := n0_; have HB := n1_; have BK231 := n2_; have GW231 := n3_; have GE231 := n4_; have NB230_231 := n5_; have NB231_230 := n6_; clear n0_ n1_ n2_ n3_ n4_ n5_ n6_; clear hb hbox hg) | ((with_reducible refine gate_dst (N := 3) rfl ?_); refine box_event ?hg (N := 3) ?hd (cs := #[.int .u64 0, .int .u64 0]) (t := 25) ?hr ?_; (case hd => rfl); (case hg => rfl); (case hr => first | (go_simp; done) | (go_simp; rfl)); intro gb232 hg w4 hbox hb; have n0_ := Aside0.mk (blk_below (g := gb230) (o := .cells #[.int .u64 a0_0, .int .u64 a0_1] 24 (0, 0)) (by (with_reducible repeat (first | refine blk_drewN ?_ _ | refine blk_drew ?_ | refine blk_alloc ?_ _)); exact BK230.out) hb); have n1_ := Aside0.mk (blk_below (g := gb231) (o := .cells #[.int .u64 0, .int .u64 0] 25 (0, 0)) (by (with_reducible repeat (first | refine blk_drewN ?_ _ | refine blk_drew ?_ | refine blk_alloc ?_ _)); exact BK231.out) hb); have n2_ := Aside0.mk (below_step (by repeat (first | (with_reducible first | exact HB.out | apply below_alloc | apply pw_below_drewN | apply below_drew1 | refine below_set ?_ GE230.out | refine below_set ?_ GE231.out) | exact HB.out)) hb); have n3_ := Aside0.mk (hbox); have n4_ := Aside0.mk ((by rw [hg]; exact (below_size (by repeat (first | (with_reducible first | exact HB.out | apply below_alloc | apply pw_below_drewN | apply below_drew1 | refine below_set ?_ GE230.out | refine below_set ?_ GE231.out) | exact HB.out))) : w.heap.size ≤ gb232)); have n5_ := Aside0.mk ((by rw [hg]; exact (below_size (by repeat (first | (with_reducible first | exact HB.out | apply below_alloc | apply pw_below_drewN | apply below_drew1 | refine below_set ?_ GE230.out | refine below_set ?_ GE231.out) | exact HB.out))) : w.heap.size ≤ gb232)); have n6_ := Aside0.mk ((by rw [hg]; exact Nat.ne_of_lt (blk_lt (g := gb230) (o := .cells #[.int .u64 a0_0, .int .u64 a0_1] 24 (0, 0)) (by (with_reducible repeat (first | refine blk_drewN ?_ _ | refine blk_drew ?_ | refine blk_alloc ?_ _)); exact BK230.out)) : gb230 ≠ gb232)); have n7_ := Aside0.mk ((by rw [hg]; exact Nat.ne_of_gt (blk_lt (g := gb230) (o := .cells #[.int .u64 a0_0, .int .u64 a0_1] 24 (0, 0)) (by (with_reducible repeat (first | refine blk_drewN ?_ _ | refine blk_drew ?_ | refine blk_alloc ?_ _)); exact BK230.out)) : gb232 ≠ gb230)); have n8_ := Aside0.mk ((by rw [hg]; exact Nat.ne_of_lt (blk_lt (g := gb231) (o := .cells #[.int .u64 0, .int .u64 0] 25 (0, 0)) (by (with_reducible repeat (first | refine blk_drewN ?_ _ | refine blk_drew ?_ | refine blk_alloc ?_ _)); exact BK231.out)) : gb231 ≠ gb232)); have n9_ := Aside0.mk ((by rw [hg]; exact Nat.ne_of_gt (blk_lt (g := gb231) (o := .cells #[.int .u64 0, .int .u64 0] 25 (0, 0)) (by (with_reducible repeat (first | refine blk_drewN ?_ _ | refine blk_drew ?_ | refine blk_alloc ?_ _)); exact BK231.out)) : gb232 ≠ gb231)); clear BK230; clear BK231; clear HB; have BK230 := n0_; have BK231 := n1_; have HB := n2_; have BK232 := n3_; have GW232 := n4_; have GE232 := n5_; have NB230_232 := n6_; have NB232_230 := n7_; have NB231_232 := n8_; have NB232_231 := n9_; clear n0_ n1_ n2_ n3_ n4_ n5_ n6_ n7_ n8_ n9_; clear hb hbox hg; have hnb5 := NB230_231.out; have hnc5 := NB231_230.out; have hnb6 := NB230_232.out; have hnc6 := NB232_230.out; have hcz7_0 : w4.cell? ⟨gb230, 0, none⟩ = some (.int .u64 a0_0) := (blk_cell BK230.out 0).trans rfl; have hcz7_1 : w4.cell? ⟨gb230, 1, none⟩ = some (.int .u64 a0_1) := (blk_cell BK230.out 1).trans rfl; have hfz7_0 := blk_frozen BK230.out 0; have hfz7_1 := blk_frozen BK230.out 1; have hnb8 := NB232_231.out; have hnc8 := NB231_232.out; have hcz9_0 : w4.cell? ⟨gb232, 0, none⟩ = some (.int .u64 0) := (blk_cell BK232.out 0).trans rfl; have hcz9_1 : w4.cell? ⟨gb232, 1, none⟩ = some (.int .u64 0) := (blk_cell BK232.out 1).trans rfl; have hfz9_0 := blk_frozen BK232.out 0; have hfz9_1 := blk_frozen BK232.out 1; have hcz10_0 : w4.cell? ⟨gb231, 0, none⟩ = some (.int .u64 0) := (blk_cell BK231.out 0).trans rfl; have hcz10_1 : w4.cell? ⟨gb231, 1, none⟩ = some (.int .u64 0) := (blk_cell BK231.out 1).trans rfl; have hfz10_0 := blk_frozen BK231.out 0; have hfz10_1 := blk_frozen BK231.out 1))
 refine bodyPost_ret (results_cell_row rfl _ _ gb231 25 #[.int .u64 a0_0, .int .u64 a0_1] (0, 0) _ rfl (by (with_reducible repeat (first | refine blk_drewN ?_ _ | refine blk_drew ?_ | refine blk_alloc ?_ _)); refine blk_put (cs := #[.int .u64 a0_0, .int .u64 0]) ?_ 1 _ rfl; (with_reducible repeat (first | refine blk_drewN ?_ _ | refine blk_drew ?_ | refine blk_alloc ?_ _)); refine blk_put (cs := #[.int .u64 0, .int .u64 0]) ?_ 0 _ rfl; (with_reducible repeat (first | refine blk_drewN ?_ _ | refine blk_drew ?_ | refine blk_alloc ?_ _)); refine blk_far ?_ NB231_232.out _; (with_reducible repeat (first | refine blk_drewN ?_ _ | refine blk_drew ?_ | refine blk_alloc ?_ _)); refine blk_far ?_ NB231_232.out _; (with_reducible repeat (first | refine blk_drewN ?_ _ | refine blk_drew ?_ | refine blk_alloc ?_ _)); exact BK231.out) Tryd.underlying25 rfl (by kernel_rfl)) rfl ?_
 exact ⟨by first | rfl | (simp [errW_none, errW_some] <;> rfl) | (simp [*, errW_none, errW_some] <;> rfl), by repeat (first | (with_reducible first | exact HB.out | apply below_alloc | apply pw_below_drewN | apply below_drew1 | refine below_set ?_ GE230.out | refine below_set ?_ GE231.out | refine below_set ?_ GE232.out) | exact HB.out)⟩
def impl_Word_right.f (a0_0 : Int) (a0_1 : Int) (a1 : Int) : Option (Int × Int) := if a1 = 0 then (some (a0_0, a0_1)) else (if a1 ≥ 128 then (some (0, 0)) else (if a1 ≥ 64 then (if 0 ≤ (wrap64 (a1 - 64)) then (some (0, shr .u64 a0_0 (wrap64 (a1 - 64)))) else (none)) else (if 0 ≤ a1 then (if 0 ≤ (wrap64 (64 - a1)) then (some (shr .u64 a0_0 a1, Go.bits .or .u64 (shr .u64 a0_1 a1) (shl .u64 a0_0 (wrap64 (64 - a1))))) else (none)) else (none))))
def impl_Word_right.T7 : Bool × List (List Nat × List Nat) := (true, [([], []), ([0], [0]), ([], []), ([1, 2], [1, 2]), ([], []), ([4], [4]), ([], []), ([5, 6], [5, 6]), ([], []), ([8], [8]), ([], []), ([10], [10]), ([9, 11], [9, 11]), ([7, 12], [7, 12]), ([3, 13], [3, 13]), ([14, 0, 1, 2, 3, 4, 5, 6, 7, 8, 9, 10, 11, 12, 13, 14], [14])])
def impl_Word_right.B7 : List Nat := [0, 1, 0, 7, 0, 16, 0, 112, 0, 256, 0, 1024, 3840, 8176, 16383, 32767]
theorem impl_Word_right.tab7 : rtab .any (opsOf Tryd.f66 7) = impl_Word_right.T7 := by kernel_rfl
theorem impl_Word_right.bits7 : waitsOk impl_Word_right.T7.2 impl_Word_right.B7 = true := by kernel_rfl
set_option maxHeartbeats 8000000 in
set_option maxRecDepth 100000 in
theorem impl_Word_right.calls (a0_0 : Int) (a0_1 : Int) (a1 : Int) (r1 : Int) (r2 : Int) (w : World) (h : impl_Word_right.f a0_0 a0_1 a1 = some (r1, r2)) :
  Calls Tryd.prog 66 #[.agg #[.int .u64 a0_0, .int .u64 a0_1], .int .i64 a1] w fun e w' => e = .returned (.agg #[.int .u64 r1, .int .u64 r2]) ∧ Below w.heap.size w w' := by
 have hu25 := Tryd.underlying25
 have HB := Aside0.mk (Below.refl w.heap.size w)
 have H : (if a1 = 0 then (some (a0_0, a0_1)) else (if a1 ≥ 128 then (some (0, 0)) else (if a1 ≥ 64 then (if 0 ≤ (wrap64 (a1 - 64)) then (some (0, shr .u64 a0_0 (wrap64 (a1 - 64)))) else (none)) else (if 0 ≤ a1 then (if 0 ≤ (wrap64 (64 - a1)) then (some (shr .u64 a0_0 a1, Go.bits .or .u64 (shr .u64 a0_1 a1) (shl .u64 a0_0 (wrap64 (64 - a1))))) else (none)) else (none))))) = some (r1, r2) := h
 clear h
 by_cases c3 : a1 = 0
 ·rw [if_pos c3] at H
  have c3b0 : (a1 == 0) = true := beq_iff_eq.mpr c3
  have c3b1 : (a1 != 0) = false := bne_eq_false_iff_eq.mpr c3
  clear c3
  simp only [Option.some.injEq, Prod.mk.injEq] at H
  obtain ⟨rfl, rfl⟩ := H
  go_enter Tryd.func66, Tryd.ntmps66
  go_wp2_with (first | ((with_reducible refine gate_dst (N := 2) rfl ?_); refine box_event ?hg (N := 2) ?hd (cs := #[.int .u64 a0_0, .int .u64 a0_1]) (t := 25) ?hr ?_; (case hd => rfl); (case hg => rfl); (case hr => first | (go_simp; done) | (go_simp; rfl)); intro gb233 hg w4 hbox hb; have n0_ := Aside0.mk (below_step (by repeat (first | (with_reducible first | exact HB.out | apply below_alloc | apply pw_below_drewN | apply below_drew1) | exact HB.out)) hb); have n1_ := Aside0.mk (hbox); have n2_ := Aside0.mk ((by rw [hg]; exact (below_size (by repeat (first | (with_reducible first | exact HB.out | apply below_alloc | apply pw_below_drewN | apply below_drew1) | exact HB.out))) : w.heap.size ≤ gb233)); have n3_ := Aside0.mk ((by rw [hg]; exact (below_size (by repeat (first | (with_reducible first | exact HB.out | apply below_alloc | apply pw_below_drewN | apply below_drew1) | exact HB.out))) : w.heap.size ≤ gb233)); clear HB; have HB := n0_; have BK233 := n1_; have GW233 := n2_; have GE233 := n3_; clear n0_ n1_ n2_ n3_; clear hb hbox hg) | ((with_reducible refine gate_dst (N := 4) rfl ?_); refine box_event ?hg (N := 4) ?hd (cs := #[.int .u64 0, .int .u64 0]) (t := 25) ?hr ?_; (case hd => rfl); (case hg => rfl); (case hr => first | (go_simp; done) | (go_simp; rfl)); intro gb234 hg w5 hbox hb; have n0_ := Aside0.mk (blk_below (g := gb233) (o := .cells #[.int .u64 a0_0, .int .u64 a0_1] 25 (0, 0)) (by (with_reducible repeat (first | refine blk_drewN ?_ _ | refine blk_drew ?_ | refine blk_alloc ?_ _)); exact BK233.out) hb); have n1_ := Aside0.mk (below_step (by repeat (first | (with_reducible first | exact HB.out | apply below_alloc | apply pw_below_drewN | apply below_drew1 | refine below_set ?_ GE233.out) | exact HB.out)) hb); have n2_ := Aside0.mk (hbox); have n3_ := Aside0.mk ((by rw [hg]; exact (below_size (by repeat (first | (with_reducible first | exact HB.out | apply below_alloc | apply pw_below_drewN | apply below_drew1 | refine below_set ?_ GE233.out) | exact HB.out))) : w.heap.size ≤ gb234)); have n4_ := Aside0.mk ((by rw [hg]; exact (below_size (by repeat (first | (with_reducible first | exact HB.out | apply below_alloc | apply pw_below_drewN | apply below_drew1 | refine below_set ?_ GE233.out) | exact HB.out))) : w.heap.size ≤ gb234)); have n5_ := Aside0.mk ((by rw [hg]; exact Nat.ne_of_lt (blk_lt (g := gb233) (o := .cells #[.int .u64 a0_0, .int .u64 a0_1] 25 (0, 0)) (by (with_reducible repeat (first | refine blk_drewN ?_ _ | refine blk_drew ?_ | refine blk_alloc ?_ _)); exact BK233.out)) : gb233 ≠ gb234)); have n6_ := Aside0.mk ((by rw [hg]; exact Nat.ne_of_gt (blk_lt (g := gb233) (o := .cells #[.int .u64 a0_0, .int .u64 a0_1] 25 (0, 0)) (by (with_reducible repeat (first | refine blk_drewN ?_ _ | refine blk_drew ?_ | refine blk_alloc ?_ _)); exact BK233.out)) : gb234 ≠ gb233)); clear BK233; clear HB; have BK233 := n0_; have HB := n1_; have BK234 := n2_; have GW234 := n3_; have GE234 := n4_; have NB233_234 := n5_; have NB234_233 := n6_; clear n0_ n1_ n2_ n3_ n4_ n5_ n6_; clear hb hbox hg; have hnb6 := NB233_234.out; have hnc6 := NB234_233.out; have hcz7_0 : w5.cell? ⟨gb233, 0, none⟩ = some (.int .u64 a0_0) := (blk_cell BK233.out 0).trans rfl; have hcz7_1 : w5.cell? ⟨gb233, 1, none⟩ = some (.int .u64 a0_1) := (blk_cell BK233.out 1).trans rfl; have hfz7_0 := blk_frozen BK233.out 0; have hfz7_1 := blk_frozen BK233.out 1; have hcz8_0 : w5.cell? ⟨gb234, 0, none⟩ = some (.int .u64 0) := (blk_cell BK234.out 0).trans rfl; have hcz8_1 : w5.cell? ⟨gb234, 1, none⟩ = some (.int .u64 0) := (blk_cell BK234.out 1).trans rfl; have hfz8_0 := blk_frozen BK234.out 0; have hfz8_1 := blk_frozen BK234.out 1))
  refine bodyPost_ret (results_cell_row rfl _ _ gb234 25 #[.int .u64 a0_0, .int .u64 a0_1] (0, 0) _ rfl (by (with_reducible repeat (first | refine blk_drewN ?_ _ | refine blk_drew ?_ | refine blk_alloc ?_ _)); refine blk_put (cs := #[.int .u64 a0_0, .int .u64 0]) ?_ 1 _ rfl; (with_reducible repeat (first | refine blk_drewN ?_ _ | refine blk_drew ?_ | refine blk_alloc ?_ _)); refine blk_put (cs := #[.int .u64 0, .int .u64 0]) ?_ 0 _ rfl; (with_reducible repeat (first | refine blk_drewN ?_ _ | refine blk_drew ?_ | refine blk_alloc ?_ _)); exact BK234.out) Tryd.underlying25 rfl (by kernel_rfl)) rfl ?_
  exact ⟨by first | rfl | (simp [errW_none, errW_some] <;> rfl) | (simp [*, errW_none, errW_some] <;> rfl), by repeat (first | (with_reducible first | exact HB.out | apply below_alloc | apply pw_below_drewN | apply below_drew1 | refine below_set ?_ GE233.out | refine below_set ?_ GE234.out) | exact HB.out)⟩
 ·rw [if_neg c3] at H
  have c3b0 : (a1 == 0) = false := beq_eq_false_iff_ne.mpr c3
  have c3b1 : (a1 != 0) = true := bne_iff_ne.mpr c3
  by_cases c9 : a1 ≥ 128
  ·rw [if_pos c9] at H
   have c9b0 : decide (128 ≤ a1) = true := decide_eq_true c9
   clear c9
   simp only [Option.some.injEq, Prod.mk.injEq] at H
   obtain ⟨rfl, rfl⟩ := H
   go_enter Tryd.func66, Tryd.ntmps66
   go_wp2_with (first | ((with_reducible refine gate_dst (N := 2) rfl ?_); refine box_event ?hg (N := 2) ?hd (cs := #[.int .u64 a0_0, .int .u64 a0_1]) (t := 25) ?hr ?_; (case hd => rfl); (case hg => rfl); (case hr => first | (go_simp; done) | (go_simp; rfl)); intro gb233 hg w10 hbox hb; have n0_ := Aside0.mk (below_step (by repeat (first | (with_reducible first | exact HB.out | apply below_alloc | apply pw_below_drewN | apply below_drew1) | exact HB.out)) hb); have n1_ := Aside0.mk (hbox); have n2_ := Aside0.mk ((by rw [hg]; exact (below_size (by repeat (first | (with_reducible first | exact HB.out | apply below_alloc | apply pw_below_drewN | apply below_drew1) | exact HB.out))) : w.heap.size ≤ gb233)); have n3_ := Aside0.mk ((by rw [hg]; exact (below_size (by repeat (first | (with_reducible first | exact HB.out | apply below_alloc | apply pw_below_drewN | apply below_drew1) | exact HB.out))) : w.heap.size ≤ gb233)); clear HB; have HB := n0_; have BK233 := n1_; have GW233 := n2_; have GE233 := n3_; clear n0_ n1_ n2_ n3_; clear hb hbox hg) | ((with_reducible refine gate_dst (N := 4) rfl ?_); refine box_event ?hg (N := 4) ?hd (cs := #[.int .u64 0, .int .u64 0]) (t := 25) ?hr ?_; (case hd => rfl); (case hg => rfl); (case hr => first | (go_simp; done) | (go_simp; rfl)); intro gb234 hg w11 hbox hb; have n0_ := Aside0.mk (blk_below (g := gb233) (o := .cells #[.int .u64 a0_0, .int .u64 a0_1] 25 (0, 0)) (by (with_reducible repeat (first | refine blk_drewN ?_ _ | refine blk_drew ?_ | refine blk_alloc ?_ _)); exact BK233.out) hb); have n1_ := Aside0.mk (below_step (by repeat (first | (with_reducible first | exact HB.out | apply below_alloc | apply pw_below_drewN | apply below_drew1 | refine below_set ?_ GE233.out) | exact HB.out)) hb); have n2_ := Aside0.mk (hbox); have n3_ := Aside0.mk ((by rw [hg]; exact (below_size (by repeat (first | (with_reducible first | exact HB.out | apply below_alloc | apply pw_below_drewN | apply below_drew1 | refine below_set ?_ GE233.out) | exact HB.out))) : w.heap.size ≤ gb234)); have n4_ := Aside0.mk ((by rw [hg]; exact (below_size (by repeat (first | (with_reducible first | exact HB.out | apply below_alloc | apply pw_below_drewN | apply below_drew1 | refine below_set ?_ GE233.out) | exact HB.out))) : w.heap.size ≤ gb234)); have n5_ := Aside0.mk ((by rw [hg]; exact Nat.ne_of_lt (blk_lt (g := gb233) (o := .cells #[.int .u64 a0_0, .int .u64 a0_1] 25 (0, 0)) (by (with_reducible repeat (first | refine blk_drewN ?_ _ | refine blk_drew ?_ | refine blk_alloc ?_ _)); exact BK233.out)) : gb233 ≠ gb234)); have n6_ := Aside0.mk ((by rw [hg]; exact Nat.ne_of_gt (blk_lt (g := gb233) (o := .cells #[.int .u64 a0_0, .int .u64 a0_1] 25 (0, 0)) (by (with_reducible repeat (first | refine blk_drewN ?_ _ | refine blk_drew ?_ | refine blk_alloc ?_ _)); exact BK233.out)) : gb234 ≠ gb233)); clear BK233; clear HB; have BK233 := n0_; have HB := n1_; have BK234 := n2_; have GW234 := n3_; have GE234 := n4_; have NB233_234 := n5_; have NB234_233 := n6_; clear n0_ n1_ n2_ n3_ n4_ n5_ n6_; clear hb hbox hg; have hnb12 := NB234_233.out; have hnc12 := NB233_234.out; have hcz13_0 : w11.cell? ⟨gb234, 0, none⟩ = some (.int .u64 0) := (blk_cell BK234.out 0).trans rfl; have hcz13_1 : w11.cell? ⟨gb234, 1, none⟩ = some (.int .u64 0) := (blk_cell BK234.out 1).trans rfl; have hfz13_0 := blk_frozen BK234.out 0; have hfz13_1 := blk_frozen BK234.out 1))
   refine bodyPost_ret (results_cell_row rfl _ _ gb234 25 #[.int .u64 0, .int .u64 0] (0, 0) _ rfl (by (with_reducible repeat (first | refine blk_drewN ?_ _ | refine blk_drew ?_ | refine blk_alloc ?_ _)); refine blk_put (cs := #[.int .u64 0, .int .u64 0]) ?_ 1 _ rfl; (with_reducible repeat (first | refine blk_drewN ?_ _ | refine blk_drew ?_ | refine blk_alloc ?_ _)); refine blk_put (cs := #[.int .u64 0, .int .u64 0]) ?_ 0 _ rfl; (with_reducible repeat (first | refine blk_drewN ?_ _ | refine blk_drew ?_ | refine blk_alloc ?_ _)); exact BK234.out) Tryd.underlying25 rfl (by kernel_rfl)) rfl ?_
   exact ⟨by first | rfl | (simp [errW_none, errW_some] <;> rfl) | (simp [*, errW_none, errW_some] <;> rfl), by repeat (first | (with_reducible first | exact HB.out | apply below_alloc | apply pw_below_drewN | apply below_drew1 | refine below_set ?_ GE233.out | refine below_set ?_ GE234.out) | exact HB.out)⟩
  ·rw [if_neg c9] at H
   have c9b0 : decide (128 ≤ a1) = false := decide_eq_false c9
   clear c9
   by_cases c14 : a1 ≥ 64
   ·rw [if_pos c14] at H
    have c14b0 : decide (64 ≤ a1) = true := decide_eq_true c14
    clear c14
    obtain ⟨ji15, hji15⟩ : ∃ j_ : Int, (wrap64 (a1 - 64)) = j_ := ⟨_, rfl⟩
    replace H : (if 0 ≤ (ji15) then (some (0, shr .u64 a0_0 (ji15))) else (none)) = some (r1, r2) := by first | (rw [hji15] at H; exact H) | (simp only [hji15] at H ⊢; exact H)
    have hji15w : (IntKind.i64.wrap (a1 - 64)) = ji15 := (i64_w _).trans hji15
    by_cases c16 : 0 ≤ (ji15)
    ·rw [if_pos c16] at H
     have c16b0 := eq_true c16
     have c16b1 : decide (0 ≤ (ji15)) = true := decide_eq_true c16
     clear c16
     obtain ⟨ji17, hji17⟩ : ∃ j_ : Int, (shr .u64 a0_0 (ji15)) = j_ := ⟨_, rfl⟩
     replace H : (some (0, ji17)) = some (r1, r2) := by first | (rw [hji17] at H; exact H) | (simp only [hji17] at H ⊢; exact H)
     have hji17_ : (a0_0 / 2 ^ min (ji15).toNat 64) = ji17 := hji17
     have hji17z : (ji15) ≤ 64 → (a0_0 / 2 ^ (ji15).toNat) = ji17 := shr_small hji17
     simp only [Option.some.injEq, Prod.mk.injEq] at H
     obtain ⟨rfl, rfl⟩ := H
     go_enter Tryd.func66, Tryd.ntmps66
     go_wp2_with (first | ((with_reducible refine gate_dst (N := 2) rfl ?_); refine box_event ?hg (N := 2) ?hd (cs := #[.int .u64 a0_0, .int .u64 a0_1]) (t := 25) ?hr ?_; (case hd => rfl); (case hg => rfl); (case hr => first | (go_simp; done) | (go_simp; rfl)); intro gb233 hg w18 hbox hb; have n0_ := Aside0.mk (below_step (by repeat (first | (with_reducible first | exact HB.out | apply below_alloc | apply pw_below_drewN | apply below_drew1) | exact HB.out)) hb); have n1_ := Aside0.mk (hbox); have n2_ := Aside0.mk ((by rw [hg]; exact (below_size (by repeat (first | (with_reducible first | exact HB.out | apply below_alloc | apply pw_below_drewN | apply below_drew1) | exact HB.out))) : w.heap.size ≤ gb233)); have n3_ := Aside0.mk ((by rw [hg]; exact (below_size (by repeat (first | (with_reducible first | exact HB.out | apply below_alloc | apply pw_below_drewN | apply below_drew1) | exact HB.out))) : w.heap.size ≤ gb233)); clear HB; have HB := n0_; have BK233 := n1_; have GW233 := n2_; have GE233 := n3_; clear n0_ n1_ n2_ n3_; clear hb hbox hg) | ((with_reducible refine gate_dst (N := 4) rfl ?_); refine box_event ?hg (N := 4) ?hd (cs := #[.int .u64 0, .int .u64 0]) (t := 25) ?hr ?_; (case hd => rfl); (case hg => rfl); (case hr => first | (go_simp; done) | (go_simp; rfl)); intro gb234 hg w19 hbox hb; have n0_ := Aside0.mk (blk_below (g := gb233) (o := .cells #[.int .u64 a0_0, .int .u64 a0_1] 25 (0, 0)) (by (with_reducible repeat (first | refine blk_drewN ?_ _ | refine blk_drew ?_ | refine blk_alloc ?_ _)); exact BK233.out) hb); have n1_ := Aside0.mk (below_step (by repeat (first | (with_reducible first | exact HB.out | apply below_alloc | apply pw_below_drewN | apply below_drew1 | refine below_set ?_ GE233.out) | exact HB.out)) hb); have n2_ := Aside0.mk (hbox); have n3_ := Aside0.mk ((by rw [hg]; exact (below_size (by repeat (first | (with_reducible first | exact HB.out | apply below_alloc | apply pw_below_drewN | apply below_drew1 | refine below_set ?_ GE233.out) | exact HB.out))) : w.heap.size ≤ gb234)); have n4_ := Aside0.mk ((by rw [hg]; exact (below_size (by repeat (first | (with_reducible first | exact HB.out | apply below_alloc | apply pw_below_drewN | apply below_drew1 | refine below_set ?_ GE233.out) | exact HB.out))) : w.heap.size ≤ gb234)); have n5_ := Aside0.mk ((by rw [hg]; exact Nat.ne_of_lt (blk_lt (g := gb233) (o := .cells #[.int .u64 a0_0, .int .u64 a0_1] 25 (0, 0)) (by (with_reducible repeat (first | refine blk_drewN ?_ _ | refine blk_drew ?_ | refine blk_alloc ?_ _)); exact BK233.out)) : gb233 ≠ gb234)); have n6_ := Aside0.mk ((by rw [hg]; exact Nat.ne_of_gt (blk_lt (g := gb233) (o := .cells #[.int .u64 a0_0, .int .u64 a0_1] 25 (0, 0)) (by (with_reducible repeat (first | refine blk_drewN ?_ _ | refine blk_drew ?_ | refine blk_alloc ?_ _)); exact BK233.out)) : gb234 ≠ gb233)); clear BK233; clear HB; have BK233 := n0_; have HB := n1_; have BK234 := n2_; have GW234 := n3_; have GE234 := n4_; have NB233_234 := n5_; have NB234_233 := n6_; clear n0_ n1_ n2_ n3_ n4_ n5_ n6_; clear hb hbox hg; have hnb20 := NB233_234.out; have hnc20 := NB234_233.out; have hcz21_0 : w19.cell? ⟨gb233, 0, none⟩ = some (.int .u64 a0_0) := (blk_cell BK233.out 0).trans rfl; have hcz21_1 : w19.cell? ⟨gb233, 1, none⟩ = some (.int .u64 a0_1) := (blk_cell BK233.out 1).trans rfl; have hfz21_0 := blk_frozen BK233.out 0; have hfz21_1 := blk_frozen BK233.out 1; have hcz22_0 : w19.cell? ⟨gb234, 0, none⟩ = some (.int .u64 0) := (blk_cell BK234.out 0).trans rfl; have hcz22_1 : w19.cell? ⟨gb234, 1, none⟩ = some (.int .u64 0) := (blk_cell BK234.out 1).trans rfl; have hfz22_0 := blk_frozen BK234.out 0; have hfz22_1 := blk_frozen BK234.out 1))
     refine bodyPost_ret (results_cell_row rfl _ _ gb234 25 #[.int .u64 0, .int .u64 ji17] (0, 0) _ rfl (by (with_reducible repeat (first | refine blk_drewN ?_ _ | refine blk_drew ?_ | refine blk_alloc ?_ _)); refine blk_put (cs := #[.int .u64 0, .int .u64 0]) ?_ 1 _ rfl; (with_reducible repeat (first | refine blk_drewN ?_ _ | refine blk_drew ?_ | refine blk_alloc ?_ _)); refine blk_put (cs := #[.int .u64 0, .int .u64 0]) ?_ 0 _ rfl; (with_reducible repeat (first | refine blk_drewN ?_ _ | refine blk_drew ?_ | refine blk_alloc ?_ _)); exact BK234.out) Tryd.underlying25 rfl (by kernel_rfl)) rfl ?_
     exact ⟨by first | rfl | (simp [errW_none, errW_some] <;> rfl) | (simp only [← hji15, ← hji17]; first | rfl | (simp [errW_none, errW_some] <;> rfl)) | (simp [*, errW_none, errW_some] <;> rfl), by repeat (first | (with_reducible first | exact HB.out | apply below_alloc | apply pw_below_drewN | apply below_drew1 | refine below_set ?_ GE233.out | refine below_set ?_ GE234.out) | exact HB.out)⟩
    ·rw [if_neg c16] at H
     exact absurd H (by simp)
   ·rw [if_neg c14] at H
    have c14b0 : decide (64 ≤ a1) = false := decide_eq_false c14
    clear c14
    by_cases c23 : 0 ≤ a1
    ·rw [if_pos c23] at H
     have c23b0 := eq_true c23
     have c23b1 : decide (0 ≤ a1) = true := decide_eq_true c23
     clear c23
     obtain ⟨ji24, hji24⟩ : ∃ j_ : Int, (shr .u64 a0_0 a1) = j_ := ⟨_, rfl⟩
     replace H : (if 0 ≤ (wrap64 (64 - a1)) then (some (ji24, Go.bits .or .u64 (shr .u64 a0_1 a1) (shl .u64 a0_0 (wrap64 (64 - a1))))) else (none)) = some (r1, r2) := by first | (rw [hji24] at H; exact H) | (simp only [hji24] at H ⊢; exact H)
     have hji24_ : (a0_0 / 2 ^ min a1.toNat 64) = ji24 := hji24
     have hji24z : a1 ≤ 64 → (a0_0 / 2 ^ a1.toNat) = ji24 := shr_small hji24
     have c25b0 := eq_true (of_decide_eq_true (by first | (with_reducible assumption) | assumption) : 0 ≤ a1)
     obtain ⟨ji26, hji26⟩ : ∃ j_ : Int, (shr .u64 a0_1 a1) = j_ := ⟨_, rfl⟩
     replace H : (if 0 ≤ (wrap64 (64 - a1)) then (some (ji24, Go.bits .or .u64 (ji26) (shl .u64 a0_0 (wrap64 (64 - a1))))) else (none)) = some (r1, r2) := by first | (rw [hji26] at H; exact H) | (simp only [hji26] at H ⊢; exact H)
     have hji26_ : (a0_1 / 2 ^ min a1.toNat 64) = ji26 := hji26
     have hji26z : a1 ≤ 64 → (a0_1 / 2 ^ a1.toNat) = ji26 := shr_small hji26
     obtain ⟨ji27, hji27⟩ : ∃ j_ : Int, (wrap64 (64 - a1)) = j_ := ⟨_, rfl⟩
     replace H : (if 0 ≤ (ji27) then (some (ji24, Go.bits .or .u64 (ji26) (shl .u64 a0_0 (ji27)))) else (none)) = some (r1, r2) := by first | (rw [hji27] at H; exact H) | (simp only [hji27] at H ⊢; exact H)
     have hji27w : (IntKind.i64.wrap (64 - a1)) = ji27 := (i64_w _).trans hji27
     by_cases c28 : 0 ≤ (ji27)
     ·rw [if_pos c28] at H
      have c28b0 := eq_true c28
      have c28b1 : decide (0 ≤ (ji27)) = true := decide_eq_true c28
      clear c28
      obtain ⟨ji29, hji29⟩ : ∃ j_ : Int, (shl .u64 a0_0 (ji27)) = j_ := ⟨_, rfl⟩
      replace H : (some (ji24, Go.bits .or .u64 (ji26) (ji29))) = some (r1, r2) := by first | (rw [hji29] at H; exact H) | (simp only [hji29] at H ⊢; exact H)
      have hji29_ : (IntKind.u64.wrap (a0_0 * 2 ^ min (ji27).toNat 64)) = ji29 := hji29
      have hji29z : (ji27) ≤ 64 → (IntKind.u64.wrap (a0_0 * 2 ^ (ji27).toNat)) = ji29 := shl_small hji29
      simp only [Option.some.injEq, Prod.mk.injEq] at H
      obtain ⟨rfl, rfl⟩ := H
      go_enter Tryd.func66, Tryd.ntmps66
      try go_wp2_with (first | ((with_reducible refine gate_dst (N := 2) rfl ?_); refine box_event ?hg (N := 2) ?hd (cs := #[.int .u64 a0_0, .int .u64 a0_1]) (t := 25) ?hr ?_; (case hd => rfl); (case hg => rfl); (case hr => first | (go_simp; done) | (go_simp; rfl)); intro gb233 hg w30 hbox hb; have n0_ := Aside0.mk (below_step (by repeat (first | (with_reducible first | exact HB.out | apply below_alloc | apply pw_below_drewN | apply below_drew1) | exact HB.out)) hb); have n1_ := Aside0.mk (hbox); have n2_ := Aside0.mk ((by rw [hg]; exact (below_size (by repeat (first | (with_reducible first | exact HB.out | apply below_alloc | apply pw_below_drewN | apply below_drew1) | exact HB.out))) : w.heap.size ≤ gb233)); have n3_ := Aside0.mk ((by rw [hg]; exact (below_size (by repeat (first | (with_reducible first | exact HB.out | apply below_alloc | apply pw_below_drewN | apply below_drew1) | exact HB.out))) : w.heap.size ≤ gb233)); clear HB; have HB := n0_; have BK233 := n1_; have GW233 := n2_; have GE233 := n3_; clear n0_ n1_ n2_ n3_; clear hb hbox hg) | ((with_reducible refine gate_dst (N := 4) rfl ?_); refine box_event ?hg (N := 4) ?hd (cs := #[.int .u64 0, .int .u64 0]) (t := 25) ?hr ?_; (case hd => rfl); (case hg => rfl); (case hr => first | (go_simp; done) | (go_simp; rfl)); intro gb234 hg w31 hbox hb; have n0_ := Aside0.mk (blk_below (g := gb233) (o := .cells #[.int .u64 a0_0, .int .u64 a0_1] 25 (0, 0)) (by (with_reducible repeat (first | refine blk_drewN ?_ _ | refine blk_drew ?_ | refine blk_alloc ?_ _)); exact BK233.out) hb); have n1_ := Aside0.mk (below_step (by repeat (first | (with_reducible first | exact HB.out | apply below_alloc | apply pw_below_drewN | apply below_drew1 | refine below_set ?_ GE233.out) | exact HB.out)) hb); have n2_ := Aside0.mk (hbox); have n3_ := Aside0.mk ((by rw [hg]; exact (below_size (by repeat (first | (with_reducible first | exact HB.out | apply below_alloc | apply pw_below_drewN | apply below_drew1 | refine below_set ?_ GE233.out) | exact HB.out))) : w.heap.size ≤ gb234)); have n4_ := Aside0.mk ((by rw [hg]; exact (below_size (by repeat (first | (with_reducible first | exact HB.out | apply below_alloc | apply pw_below_drewN | apply below_drew1 | refine below_set ?_ GE233.out) | exact HB.out))) : w.heap.size ≤ gb234)); have n5_ := Aside0.mk ((by rw [hg]; exact Nat.ne_of_lt (blk_lt (g := gb233) (o := .cells #[.int .u64 a0_0, .int .u64 a0_1] 25 (0, 0)) (by (with_reducible repeat (first | refine blk_drewN ?_ _ | refine blk_drew ?_ | refine blk_alloc ?_ _)); exact BK233.out)) : gb233 ≠ gb234)); have n6_ := Aside0.mk ((by rw [hg]; exact Nat.ne_of_gt (blk_lt (g := gb233) (o := .cells #[.int .u64 a0_0, .int .u64 a0_1] 25 (0, 0)) (by (with_reducible repeat (first | refine blk_drewN ?_ _ | refine blk_drew ?_ | refine blk_alloc ?_ _)); exact BK233.out)) : gb234 ≠ gb233)); clear BK233; clear HB; have BK233 := n0_; have HB := n1_; have BK234 := n2_; have GW234 := n3_; have GE234 := n4_; have NB233_234 := n5_; have NB234_233 := n6_; clear n0_ n1_ n2_ n3_ n4_ n5_ n6_; clear hb hbox hg))
      have n0_ := Aside0.mk (blk_drew BK233.out)
      have n1_ := Aside0.mk (blk_drew BK234.out)
      have n2_ := Aside0.mk (below_drew1 HB.out)
      clear BK233
      clear BK234
      clear HB
      have BK233 := n0_
      have BK234 := n1_
      have HB := n2_
      clear n0_ n1_ n2_
      refine start_ (n := 16) (S := fun w' => w'.cell? ⟨gb233, 0, none⟩ = some (.int .u64 a0_0) ∧ w'.cell? ⟨gb233, 1, none⟩ = some (.int .u64 a0_1)) (ds := []) #[false, false, false, false, false, false, false, false, false, false, false, false, false, false, false, false] (by kernel_rfl) rfl rfl ⟨(blk_cell BK233.out 0).trans rfl, (blk_cell BK233.out 1).trans rfl⟩ (fun hHeld => ?_); refine with_tabW impl_Word_right.tab7 impl_Word_right.bits7 (fun HT_ HW_ => ?_)
      generalize w31.drew = w32 at BK233 BK234 HB hHeld ⊢
      refine pure_ (i := 0) (N := some 22) (v := ?_) (a' := ?_) #[true, false, false, false, false, false, false, false, false, false, false, false, false, false, false, false] rfl rfl (any_of HT_.out (by kernel_rfl)) (fun _ _ _ h => h) (Or.inl ⟨by rfl, ?_⟩) ?_ ?_
      rotate_left
      ·intro w'
       go_simp
       with_reducible rfl
      rotate_left
      ·simp only [Act.put, List.setIfInBounds_toArray, List.set_cons_zero, List.set_cons_succ, i64_w, i32_w]
       rfl
      refine pure_ (i := 2) (N := some 24) (v := ?_) (a' := ?_) #[true, false, true, false, false, false, false, false, false, false, false, false, false, false, false, false] rfl rfl (any_of HT_.out (by kernel_rfl)) (fun _ _ _ h => h) (Or.inl ⟨by rfl, ?_⟩) ?_ ?_
      rotate_left
      ·intro w'
       go_simp
       with_reducible rfl
      rotate_left
      ·simp only [Act.put, List.setIfInBounds_toArray, List.set_cons_zero, List.set_cons_succ, i64_w, i32_w]
       rfl
      refine pure_ (i := 4) (N := some 26) (v := ?_) (a' := ?_) #[true, false, true, false, true, false, false, false, false, false, false, false, false, false, false, false] rfl rfl (any_of HT_.out (by kernel_rfl)) (fun _ _ _ h => h) (Or.inl ⟨by rfl, ?_⟩) ?_ ?_
      rotate_left
      ·intro w'
       go_simp
       with_reducible rfl
      rotate_left
      ·simp only [Act.put, List.setIfInBounds_toArray, List.set_cons_zero, List.set_cons_succ, i64_w, i32_w]
       rfl
      refine pure_ (i := 6) (N := some 28) (v := ?_) (a' := ?_) #[true, false, true, false, true, false, true, false, false, false, false, false, false, false, false, false] rfl rfl (any_of HT_.out (by kernel_rfl)) (fun _ _ _ h => h) (Or.inl ⟨by rfl, ?_⟩) ?_ ?_
      rotate_left
      ·intro w'
       go_simp
       with_reducible rfl
      rotate_left
      ·simp only [Act.put, List.setIfInBounds_toArray, List.set_cons_zero, List.set_cons_succ, i64_w, i32_w]
       rfl
      refine pure_ (i := 8) (N := some 30) (v := ?_) (a' := ?_) #[true, false, true, false, true, false, true, false, true, false, false, false, false, false, false, false] rfl rfl (any_of HT_.out (by kernel_rfl)) (fun _ _ _ h => h) (Or.inl ⟨by rfl, ?_⟩) ?_ ?_
      rotate_left
      ·intro w'
       go_simp
       with_reducible rfl
      rotate_left
      ·simp only [Act.put, List.setIfInBounds_toArray, List.set_cons_zero, List.set_cons_succ, i64_w, i32_w]
       rfl
      refine pure_ (i := 10) (N := some 32) (v := ?_) (a' := ?_) #[true, false, true, false, true, false, true, false, true, false, true, false, false, false, false, false] rfl rfl (any_of HT_.out (by kernel_rfl)) (fun _ _ _ h => h) (Or.inl ⟨by rfl, ?_⟩) ?_ ?_
      rotate_left
      ·intro w'
       go_simp
       with_reducible rfl
      rotate_left
      ·simp only [Act.put, List.setIfInBounds_toArray, List.set_cons_zero, List.set_cons_succ, i64_w, i32_w]
       rfl
      refine pure_ (i := 11) (N := some 33) (v := ?_) (a' := ?_) #[true, false, true, false, true, false, true, false, true, false, true, true, false, false, false, false] rfl rfl (any_of HT_.out (by kernel_rfl)) (fun _ _ _ h => h) (Or.inl ⟨by rfl, ?_⟩) ?_ ?_
      rotate_left
      ·intro w'
       go_simp
       with_reducible rfl
      rotate_left
      ·simp only [Act.put, List.setIfInBounds_toArray, List.set_cons_zero, List.set_cons_succ, i64_w, i32_w]
       rfl
      refine take_ (i := 1) (N := some 23) (v := ?_) (a' := ?_) #[true, true, true, false, true, false, true, false, true, false, true, true, false, false, false, false] rfl rfl (take_ofW HT_.out HW_.out (by kernel_rfl)) (fun _ _ _ h => h) (Or.inl ⟨by rfl, ?_⟩) hHeld ?_ ?_
      rotate_left
      ·rintro w' ⟨s0, s1⟩
       go_simp
       with_reducible rfl
      rotate_left
      ·simp only [Act.put, List.setIfInBounds_toArray, List.set_cons_zero, List.set_cons_succ, i64_w, i32_w]
       rfl
      refine pure_ (i := 3) (N := some 25) (v := ?_) (a' := ?_) #[true, true, true, true, true, false, true, false, true, false, true, true, false, false, false, false] rfl rfl (any_of HT_.out (by kernel_rfl)) (fun _ _ _ h => h) (Or.inl ⟨by rfl, ?_⟩) ?_ ?_
      rotate_left
      ·intro w'
       go_simp
       with_reducible rfl
      rotate_left
      ·simp only [Act.put, List.setIfInBounds_toArray, List.set_cons_zero, List.set_cons_succ, i64_w, i32_w]
       rfl
      refine take_ (i := 5) (N := some 27) (v := ?_) (a' := ?_) #[true, true, true, true, true, true, true, false, true, false, true, true, false, false, false, false] rfl rfl (take_ofW HT_.out HW_.out (by kernel_rfl)) (fun _ _ _ h => h) (Or.inl ⟨by rfl, ?_⟩) hHeld ?_ ?_
      rotate_left
      ·rintro w' ⟨s0, s1⟩
       go_simp
       with_reducible rfl
      rotate_left
      ·simp only [Act.put, List.setIfInBounds_toArray, List.set_cons_zero, List.set_cons_succ, i64_w, i32_w]
       rfl
      refine pure_ (i := 7) (N := some 29) (v := ?_) (a' := ?_) #[true, true, true, true, true, true, true, true, true, false, true, true, false, false, false, false] rfl rfl (any_of HT_.out (by kernel_rfl)) (fun _ _ _ h => h) (Or.inl ⟨by rfl, ?_⟩) ?_ ?_
      rotate_left
      ·intro w'
       go_simp
       with_reducible rfl
      rotate_left
      ·simp only [Act.put, List.setIfInBounds_toArray, List.set_cons_zero, List.set_cons_succ, i64_w, i32_w]
       rfl
      refine take_ (i := 9) (N := some 31) (v := ?_) (a' := ?_) #[true, true, true, true, true, true, true, true, true, true, true, true, false, false, false, false] rfl rfl (take_ofW HT_.out HW_.out (by kernel_rfl)) (fun _ _ _ h => h) (Or.inl ⟨by rfl, ?_⟩) hHeld ?_ ?_
      rotate_left
      ·rintro w' ⟨s0, s1⟩
       go_simp
       with_reducible rfl
      rotate_left
      ·simp only [Act.put, List.setIfInBounds_toArray, List.set_cons_zero, List.set_cons_succ, i64_w, i32_w]
       rfl
      refine pure_ (i := 12) (N := some 34) (v := ?_) (a' := ?_) #[true, true, true, true, true, true, true, true, true, true, true, true, true, false, false, false] rfl rfl (any_of HT_.out (by kernel_rfl)) (fun _ _ _ h => h) (Or.inl ⟨by rfl, ?_⟩) ?_ ?_
      rotate_left
      ·intro w'
       go_simp
       with_reducible rfl
      rotate_left
      ·simp only [Act.put, List.setIfInBounds_toArray, List.set_cons_zero, List.set_cons_succ, i64_w, i32_w]
       rfl
      refine pure_ (i := 13) (N := some 35) (v := ?_) (a' := ?_) #[true, true, true, true, true, true, true, true, true, true, true, true, true, true, false, false] rfl rfl (any_of HT_.out (by kernel_rfl)) (fun _ _ _ h => h) (Or.inl ⟨by rfl, ?_⟩) ?_ ?_
      rotate_left
      ·intro w'
       go_simp
       with_reducible rfl
      rotate_left
      ·simp only [Act.put, List.setIfInBounds_toArray, List.set_cons_zero, List.set_cons_succ, i64_w, i32_w]
       rfl
      refine pure_ (i := 14) (N := some 36) (v := ?_) (a' := ?_) #[true, true, true, true, true, true, true, true, true, true, true, true, true, true, true, false] rfl rfl (any_of HT_.out (by kernel_rfl)) (fun _ _ _ h => h) (Or.inl ⟨by rfl, ?_⟩) ?_ ?_
      rotate_left
      ·intro w'
       go_simp
       with_reducible rfl
      rotate_left
      ·simp only [Act.put, List.setIfInBounds_toArray, List.set_cons_zero, List.set_cons_succ, i64_w, i32_w]
       rfl
      refine one_ (i := 15) (N := none) #[true, true, true, true, true, true, true, true, true, true, true, true, true, true, true, true] rfl rfl (one_of HT_.out (by kernel_rfl)) (by decide) (fun K hK => ?_)
      have hs33 : w32.cell? ⟨gb234, 0, none⟩ = some (.int .u64 0) := (blk_cell BK234.out 0).trans rfl
      have hfs33 := blk_frozen BK234.out 0
      have hns33_0 := NB233_234.out
      have hms33_0 := NB234_233.out
      have hs34 : w32.cell? ⟨gb234, 1, none⟩ = some (.int .u64 0) := (blk_cell BK234.out 1).trans rfl
      have hfs34 := blk_frozen BK234.out 1
      have hns34_0 := NB233_234.out
      have hms34_0 := NB234_233.out
      refine skip_ (w1 := ?_) (by rfl) rfl ?_ ?_
      rotate_left
      ·go_simp
       rfl
      refine hK.out _ _ ⟨((cell_far (p := ⟨gb234, _, none⟩) NB233_234.out _).trans (((cell_far (p := ⟨gb234, _, none⟩) NB233_234.out _).trans (hHeld.1)))), ((cell_far (p := ⟨gb234, _, none⟩) NB233_234.out _).trans (((cell_far (p := ⟨gb234, _, none⟩) NB233_234.out _).trans (hHeld.2))))⟩ (fun hHeld => ?_)
      clear hK K
      refine done_ (done_of HT_.out (by kernel_rfl)) ?_
      try go_wp2
      refine bodyPost_ret (results_cell_row rfl _ _ gb234 25 #[.int .u64 ji24, .int .u64 (Go.bits .or .u64 (ji26) (ji29))] (0, 0) _ rfl (by (with_reducible repeat (first | refine blk_drewN ?_ _ | refine blk_drew ?_ | refine blk_alloc ?_ _)); refine blk_put (cs := #[.int .u64 ji24, .int .u64 0]) ?_ 1 _ rfl; (with_reducible repeat (first | refine blk_drewN ?_ _ | refine blk_drew ?_ | refine blk_alloc ?_ _)); refine blk_put (cs := #[.int .u64 0, .int .u64 0]) ?_ 0 _ rfl; (with_reducible repeat (first | refine blk_drewN ?_ _ | refine blk_drew ?_ | refine blk_alloc ?_ _)); exact BK234.out) Tryd.underlying25 rfl (by kernel_rfl)) rfl ?_
      exact ⟨by first | rfl | (simp [errW_none, errW_some] <;> rfl) | (simp only [← hji24, ← hji26, ← hji27, ← hji29]; first | rfl | (simp [errW_none, errW_some] <;> rfl)) | (simp [*, errW_none, errW_some] <;> rfl), by repeat (first | (with_reducible first | exact HB.out | apply below_alloc | apply pw_below_drewN | apply below_drew1 | refine below_set ?_ GE233.out | refine below_set ?_ GE234.out) | exact HB.out)⟩
     ·rw [if_neg c28] at H
      exact absurd H (by simp)
    ·rw [if_neg c23] at H
     exact absurd H (by simp)
def impl_layout_fracBits.f (a0_0 : Int) (a0_1 : Int) (a0_2 : Int) (a0_3 : Int) (a0_4 : Int) (a0_5 : Bool) : Option (Int) := if a0_5 = true then (some a0_0) else (some (wrap64 (a0_0 - 1)))
set_option maxHeartbeats 8000000 in
set_option maxRecDepth 100000 in
theorem impl_layout_fracBits.calls (a0_0 : Int) (a0_1 : Int) (a0_2 : Int) (a0_3 : Int) (a0_4 : Int) (a0_5 : Bool) (r : Int) (w : World) (h : impl_layout_fracBits.f a0_0 a0_1 a0_2 a0_3 a0_4 a0_5 = some r) :
  Calls Tryd.prog 67 #[.agg #[.int .i64 a0_0, .int .i64 a0_1, .int .i64 a0_2, .int .i64 a0_3, .int .i64 a0_4, .bool a0_5]] w fun e w' => e = .returned (.int .i64 r) ∧ Below w.heap.size w w' := by
 have hu91 := Tryd.underlying91
 have HB := Aside0.mk (Below.refl w.heap.size w)
 have H : (if a0_5 = true then (some a0_0) else (some (wrap64 (a0_0 - 1)))) = some r := h
 clear h
 by_cases c2 : a0_5 = true
 ·subst c2
  have H1 : (some a0_0) = some r := by rw [if_pos rfl] at H; exact H
  clear H
  have H := H1
  clear H1
  obtain rfl := Option.some.inj H
  go_enter Tryd.func67, Tryd.ntmps67
  go_wp2_with (first | ((with_reducible refine gate_dst (N := 1) rfl ?_); refine box_event ?hg (N := 1) ?hd (cs := #[.int .i64 a0_0, .int .i64 a0_1, .int .i64 a0_2, .int .i64 a0_3, .int .i64 a0_4, .bool true]) (t := 91) ?hr ?_; (case hd => rfl); (case hg => rfl); (case hr => first | (go_simp; done) | (go_simp; rfl)); intro gb235 hg w3 hbox hb; have n0_ := Aside0.mk (below_step (by repeat (first | (with_reducible first | exact HB.out | apply below_alloc | apply pw_below_drewN | apply below_drew1) | exact HB.out)) hb); have n1_ := Aside0.mk (hbox); have n2_ := Aside0.mk ((by rw [hg]; exact (below_size (by repeat (first | (with_reducible first | exact HB.out | apply below_alloc | apply pw_below_drewN | apply below_drew1) | exact HB.out))) : w.heap.size ≤ gb235)); have n3_ := Aside0.mk ((by rw [hg]; exact (below_size (by repeat (first | (with_reducible first | exact HB.out | apply below_alloc | apply pw_below_drewN | apply below_drew1) | exact HB.out))) : w.heap.size ≤ gb235)); clear HB; have HB := n0_; have BK235 := n1_; have GW235 := n2_; have GE235 := n3_; clear n0_ n1_ n2_ n3_; clear hb hbox hg; have hcz4_0 : w3.cell? ⟨gb235, 0, none⟩ = some (.int .i64 a0_0) := (blk_cell BK235.out 0).trans rfl; have hcz4_1 : w3.cell? ⟨gb235, 1, none⟩ = some (.int .i64 a0_1) := (blk_cell BK235.out 1).trans rfl; have hcz4_2 : w3.cell? ⟨gb235, 2, none⟩ = some (.int .i64 a0_2) := (blk_cell BK235.out 2).trans rfl; have hcz4_3 : w3.cell? ⟨gb235, 3, none⟩ = some (.int .i64 a0_3) := (blk_cell BK235.out 3).trans rfl; have hcz4_4 : w3.cell? ⟨gb235, 4, none⟩ = some (.int .i64 a0_4) := (blk_cell BK235.out 4).trans rfl; have hcz4_5 : w3.cell? ⟨gb235, 5, none⟩ = some (.bool true) := (blk_cell BK235.out 5).trans rfl; have hfz4_0 := blk_frozen BK235.out 0; have hfz4_1 := blk_frozen BK235.out 1; have hfz4_2 := blk_frozen BK235.out 2; have hfz4_3 := blk_frozen BK235.out 3; have hfz4_4 := blk_frozen BK235.out 4; have hfz4_5 := blk_frozen BK235.out 5))
  go_ret
  exact ⟨by first | rfl | (simp [errW_none, errW_some] <;> rfl) | (simp [*, errW_none, errW_some] <;> rfl), by repeat (first | (with_reducible first | exact HB.out | apply below_alloc | apply pw_below_drewN | apply below_drew1 | refine below_set ?_ GE235.out) | exact HB.out)⟩
 ·replace c2 := Bool.eq_false_iff.mpr c2
  subst c2
  have H1 : (some (wrap64 (a0_0 - 1))) = some r := by rw [if_neg (show ¬ (false = true) by decide)] at H; exact H
  clear H
  have H := H1
  clear H1
  obtain rfl := Option.some.inj H
  go_enter Tryd.func67, Tryd.ntmps67
  go_wp2_with (first | ((with_reducible refine gate_dst (N := 1) rfl ?_); refine box_event ?hg (N := 1) ?hd (cs := #[.int .i64 a0_0, .int .i64 a0_1, .int .i64 a0_2, .int .i64 a0_3, .int .i64 a0_4, .bool false]) (t := 91) ?hr ?_; (case hd => rfl); (case hg => rfl); (case hr => first | (go_simp; done) | (go_simp; rfl)); intro gb235 hg w5 hbox hb; have n0_ := Aside0.mk (below_step (by repeat (first | (with_reducible first | exact HB.out | apply below_alloc | apply pw_below_drewN | apply below_drew1) | exact HB.out)) hb); have n1_ := Aside0.mk (hbox); have n2_ := Aside0.mk ((by rw [hg]; exact (below_size (by repeat (first | (with_reducible first | exact HB.out | apply below_alloc | apply pw_below_drewN | apply below_drew1) | exact HB.out))) : w.heap.size ≤ gb235)); have n3_ := Aside0.mk ((by rw [hg]; exact (below_size (by repeat (first | (with_reducible first | exact HB.out | apply below_alloc | apply pw_below_drewN | apply below_drew1) | exact HB.out))) : w.heap.size ≤ gb235)); clear HB; have HB := n0_; have BK235 := n1_; have GW235 := n2_; have GE235 := n3_; clear n0_ n1_ n2_ n3_; clear hb hbox hg; have hcz6_0 : w5.cell? ⟨gb235, 0, none⟩ = some (.int .i64 a0_0) := (blk_cell BK235.out 0).trans rfl; have hcz6_1 : w5.cell? ⟨gb235, 1, none⟩ = some (.int .i64 a0_1) := (blk_cell BK235.out 1).trans rfl; have hcz6_2 : w5.cell? ⟨gb235, 2, none⟩ = some (.int .i64 a0_2) := (blk_cell BK235.out 2).trans rfl; have hcz6_3 : w5.cell? ⟨gb235, 3, none⟩ = some (.int .i64 a0_3) := (blk_cell BK235.out 3).trans rfl; have hcz6_4 : w5.cell? ⟨gb235, 4, none⟩ = some (.int .i64 a0_4) := (blk_cell BK235.out 4).trans rfl; have hcz6_5 : w5.cell? ⟨gb235, 5, none⟩ = some (.bool false) := (blk_cell BK235.out 5).trans rfl; have hfz6_0 := blk_frozen BK235.out 0; have hfz6_1 := blk_frozen BK235.out 1; have hfz6_2 := blk_frozen BK235.out 2; have hfz6_3 := blk_frozen BK235.out 3; have hfz6_4 := blk_frozen BK235.out 4; have hfz6_5 := blk_frozen BK235.out 5))
  go_ret
  exact ⟨by first | rfl | (simp [errW_none, errW_some] <;> rfl) | (simp [*, errW_none, errW_some] <;> rfl), by repeat (first | (with_reducible first | exact HB.out | apply below_alloc | apply pw_below_drewN | apply below_drew1 | refine below_set ?_ GE235.out) | exact HB.out)⟩
def impl_Word_or.f (a0_0 : Int) (a0_1 : Int) (a1_0 : Int) (a1_1 : Int) : Option (Int × Int) := some (Go.bits .or .u64 a0_0 a1_0, Go.bits .or .u64 a0_1 a1_1)
set_option maxHeartbeats 8000000 in
set_option maxRecDepth 100000 in
theorem impl_Word_or.calls (a0_0 : Int) (a0_1 : Int) (a1_0 : Int) (a1_1 : Int) (r1 : Int) (r2 : Int) (w : World) (h : impl_Word_or.f a0_0 a0_1 a1_0 a1_1 = some (r1, r2)) :
  Calls Tryd.prog 71 #[.agg #[.int .u64 a0_0, .int .u64 a0_1], .agg #[.int .u64 a1_0, .int .u64 a1_1]] w fun e w' => e = .returned (.agg #[.int .u64 r1, .int .u64 r2]) ∧ Below w.heap.size w w' := by
 have hu25 := Tryd.underlying25
 have HB := Aside0.mk (Below.refl w.heap.size w)
 have H : (some (Go.bits .or .u64 a0_0 a1_0, Go.bits .or .u64 a0_1 a1_1)) = some (r1, r2) := h
 clear h
 simp only [Option.some.injEq, Prod.mk.injEq] at H
 obtain ⟨rfl, rfl⟩ := H
 go_enter Tryd.func71, Tryd.ntmps71
 go_wp2_with (first | ((with_reducible refine gate_dst (N := 2) rfl ?_); refine box_event ?hg (N := 2) ?hd (cs := #[.int .u64 a0_0, .int .u64 a0_1]) (t := 25) ?hr ?_; (case hd => rfl); (case hg => rfl); (case hr => first | (go_simp; done) | (go_simp; rfl)); intro gb236 hg w3 hbox hb; have n0_ := Aside0.mk (below_step (by repeat (first | (with_reducible first | exact HB.out | apply below_alloc | apply pw_below_drewN | apply below_drew1) | exact HB.out)) hb); have n1_ := Aside0.mk (hbox); have n2_ := Aside0.mk ((by rw [hg]; exact (below_size (by repeat (first | (with_reducible first | exact HB.out | apply below_alloc | apply pw_below_drewN | apply below_drew1) | exact HB.out))) : w.heap.size ≤ gb236)); have n3_ := Aside0.mk ((by rw [hg]; exact (below_size (by repeat (first | (with_reducible first | exact HB.out | apply below_alloc | apply pw_below_drewN | apply below_drew1) | exact HB.out))) : w.heap.size ≤ gb236)); clear HB; have HB := n0_; have BK236 := n1_; have GW236 := n2_; have GE236 := n3_; clear n0_ n1_ n2_ n3_; clear hb hbox hg) | ((with_reducible refine gate_dst (N := 3) rfl ?_); refine box_event ?hg (N := 3) ?hd (cs := #[.int .u64 a1_0, .int .u64 a1_1]) (t := 25) ?hr ?_; (case hd => rfl); (case hg => rfl); (case hr => first | (go_simp; done) | (go_simp; rfl)); intro gb237 hg w4 hbox hb; have n0_ := Aside0.mk (blk_below (g := gb236) (o := .cells #[.int .u64 a0_0, .int .u64 a0_1] 25 (0, 0)) (by (with_reducible repeat (first | refine blk_drewN ?_ _ | refine blk_drew ?_ | refine blk_alloc ?_ _)); exact BK236.out) hb); have n1_ := Aside0.mk (below_step (by repeat (first | (with_reducible first | exact HB.out | apply below_alloc | apply pw_below_drewN | apply below_drew1 | refine below_set ?_ GE236.out) | exact HB.out)) hb); have n2_ := Aside0.mk (hbox); have n3_ := Aside0.mk ((by rw [hg]; exact (below_size (by repeat (first | (with_reducible first | exact HB.out | apply below_alloc | apply pw_below_drewN | apply below_drew1 | refine below_set ?_ GE236.out) | exact HB.out))) : w.heap.size ≤ gb237)); have n4_ := Aside0.mk ((by rw [hg]; exact (below_size (by repeat (first | (with_reducible first | exact HB.out | apply below_alloc | apply pw_below_drewN | apply below_drew1 | refine below_set ?_ GE236.out) | exact HB.out))) : w.heap.size ≤ gb237)); have n5_ := Aside0.mk ((by rw [hg]; exact Nat.ne_of_lt (blk_lt (g := gb236) (o := .cells #[.int .u64 a0_0, .int .u64 a0_1] 25 (0, 0)) (by (with_reducible repeat (first | refine blk_drewN ?_ _ | refine blk_drew ?_ | refine blk_alloc ?_ _)); exact BK236.out)) : gb236 ≠ gb237)); have n6_ := Aside0.mk ((by rw [hg]; exact Nat.ne_of_gt (blk_lt (g := gb236) (o := .cells #[.int .u64 a0_0, .int .u64 a0_1] 25 (0, 0)) (by (with_reducible repeat (first | refine blk_drewN ?_ _ | refine blk_drew ?_ | refine blk_alloc ?_ _)); exact BK236.out)) : gb237 ≠ gb236)); clear BK236; clear HB; have BK236 := n0_; have HB := n1_; have BK237 := n2_; have GW237 := n3_; have GE237 := n4_; have NB236_237 := n5_; have NB237_236 := n6_; clear n0_ n1_ n2_ n3_ n4_ n5_ n6_; clear hb hbox hg) | ((with_reducible refine gate_dst (N := 4) rfl ?_); refine box_event ?hg (N := 4) ?hd (cs := #[.int .u64 0, .int .u64 0]) (t := 25) ?hr ?_; (case hd => rfl); (case hg => rfl); (case hr => first | (go_simp; done) | (go_simp; rfl)); intro gb238 hg w5 hbox hb; have n0_ := Aside0.mk (blk_below (g := gb236) (o := .cells #[.int .u64 a0_0, .int .u64 a0_1] 25 (0, 0)) (by (with_reducible repeat (first | refine blk_drewN ?_ _ | refine blk_drew ?_ | refine blk_alloc ?_ _)); exact BK236.out) hb); have n1_ := Aside0.mk (blk_below (g := gb237) (o := .cells #[.int .u64 a1_0, .int .u64 a1_1] 25 (0, 0)) (by (with_reducible repeat (first | refine blk_drewN ?_ _ | refine blk_drew ?_ | refine blk_alloc ?_ _)); exact BK237.out) hb); have n2_ := Aside0.mk (below_step (by repeat (first | (with_reducible first | exact HB.out | apply below_alloc | apply pw_below_drewN | apply below_drew1 | refine below_set ?_ GE236.out | refine below_set ?_ GE237.out) | exact HB.out)) hb); have n3_ := Aside0.mk (hbox); have n4_ := Aside0.mk ((by rw [hg]; exact (below_size (by repeat (first | (with_reducible first | exact HB.out | apply below_alloc | apply pw_below_drewN | apply below_drew1 | refine below_set ?_ GE236.out | refine below_set ?_ GE237.out) | exact HB.out))) : w.heap.size ≤ gb238)); have n5_ := Aside0.mk ((by rw [hg]; exact (below_size (by repeat (first | (with_reducible first | exact HB.out | apply below_alloc | apply pw_below_drewN | apply below_drew1 | refine below_set ?_ GE236.out | refine below_set ?_ GE237.out) | exact HB.out))) : w.heap.size ≤ gb238)); have n6_ := Aside0.mk ((by rw [hg]; exact Nat.ne_of_lt (blk_lt (g := gb236) (o := .cells #[.int .u64 a0_0, .int .u64 a0_1] 25 (0, 0)) (by (with_reducible repeat (first | refine blk_drewN ?_ _ | refine blk_drew ?_ | refine blk_alloc ?_ _)); exact BK236.out)) : gb236 ≠ gb238)); have n7_ := Aside0.mk ((by rw [hg]; exact Nat.ne_of_gt (blk_lt (g := gb236) (o := .cells #[.int .u64 a0_0, .int .u64 a0_1] 25 (0, 0)) (by (with_reducible repeat (first | refine blk_drewN ?_ _ | refine blk_drew ?_ | refine blk_alloc ?_ _)); exact BK236.out)) : gb238 ≠ gb236)); have n8_ := Aside0.mk ((by rw [hg]; exact Nat.ne_of_lt (blk_lt (g := gb237) (o := .cells #[.int .u64 a1_0, .int .u64 a1_1] 25 (0, 0)) (by (with_reducible repeat (first | refine blk_drewN ?_ _ | refine blk_drew ?_ | refine blk_alloc ?_ _)); exact BK237.out)) : gb237 ≠ gb238)); have n9_ := Aside0.mk ((by rw [hg]; exact Nat.ne_of_gt (blk_lt (g := gb237) (o := .cells #[.int .u64 a1_0, .int .u64 a1_1] 25 (0, 0)) (by (with_reducible repeat (first | refine blk_drewN ?_ _ | refine blk_drew ?_ | refine blk_alloc ?_ _)); exact BK237.out)) : gb238 ≠ gb237)); clear BK236; clear BK237; clear HB; have BK236 := n0_; have BK237 := n1_; have HB := n2_; have BK238 := n3_; have GW238 := n4_; have GE238 := n5_; have NB236_238 := n6_; have NB238_236 := n7_; have NB237_238 := n8_; have NB238_237 := n9_; clear n0_ n1_ n2_ n3_ n4_ n5_ n6_ n7_ n8_ n9_; clear hb hbox hg; have hnb6 := NB236_237.out; have hnc6 := NB237_236.out; have hnb7 := NB236_238.out; have hnc7 := NB238_236.out; have hcz8_0 : w5.cell? ⟨gb236, 0, none⟩ = some (.int .u64 a0_0) := (blk_cell BK236.out 0).trans rfl; have hcz8_1 : w5.cell? ⟨gb236, 1, none⟩ = some (.int .u64 a0_1) := (blk_cell BK236.out 1).trans rfl; have hfz8_0 := blk_frozen BK236.out 0; have hfz8_1 := blk_frozen BK236.out 1; have hnb9 := NB237_238.out; have hnc9 := NB238_237.out; have hcz10_0 : w5.cell? ⟨gb237, 0, none⟩ = some (.int .u64 a1_0) := (blk_cell BK237.out 0).trans rfl; have hcz10_1 : w5.cell? ⟨gb237, 1, none⟩ = some (.int .u64 a1_1) := (blk_cell BK237.out 1).trans rfl; have hfz10_0 := blk_frozen BK237.out 0; have hfz10_1 := blk_frozen BK237.out 1; have hcz11_0 : w5.cell? ⟨gb238, 0, none⟩ = some (.int .u64 0) := (blk_cell BK238.out 0).trans rfl; have hcz11_1 : w5.cell? ⟨gb238, 1, none⟩ = some (.int .u64 0) := (blk_cell BK238.out 1).trans rfl; have hfz11_0 := blk_frozen BK238.out 0; have hfz11_1 := blk_frozen BK238.out 1))
 refine bodyPost_ret (results_cell_row rfl _ _ gb238 25 #[.int .u64 (Go.bits .or .u64 a0_0 a1_0), .int .u64 (Go.bits .or .u64 a0_1 a1_1)] (0, 0) _ rfl (by (with_reducible repeat (first | refine blk_drewN ?_ _ | refine blk_drew ?_ | refine blk_alloc ?_ _)); refine blk_put (cs := #[.int .u64 (Go.bits .or .u64 a0_0 a1_0), .int .u64 0]) ?_ 1 _ rfl; (with_reducible repeat (first | refine blk_drewN ?_ _ | refine blk_drew ?_ | refine blk_alloc ?_ _)); refine blk_put (cs := #[.int .u64 0, .int .u64 0]) ?_ 0 _ rfl; (with_reducible repeat (first | refine blk_drewN ?_ _ | refine blk_drew ?_ | refine blk_alloc ?_ _)); exact BK238.out) Tryd.underlying25 rfl (by kernel_rfl)) rfl ?_
 exact ⟨by first | rfl | (simp [errW_none, errW_some] <;> rfl) | (simp [*, errW_none, errW_some] <;> rfl), by repeat (first | (with_reducible first | exact HB.out | apply below_alloc | apply pw_below_drewN | apply below_drew1 | refine below_set ?_ GE236.out | refine below_set ?_ GE237.out | refine below_set ?_ GE238.out) | exact HB.out)⟩
def impl_Word_left.f (a0_0 : Int) (a0_1 : Int) (a1 : Int) : Option (Int × Int) := if a1 = 0 then (some (a0_0, a0_1)) else (if a1 ≥ 64 then (if 0 ≤ (wrap64 (a1 - 64)) then (some (shl .u64 a0_1 (wrap64 (a1 - 64)), 0)) else (none)) else (if 0 ≤ a1 then (if 0 ≤ (wrap64 (64 - a1)) then (some (Go.bits .or .u64 (shl .u64 a0_0 a1) (shr .u64 a0_1 (wrap64 (64 - a1))), shl .u64 a0_1 a1)) else (none)) else (none)))
def impl_Word_left.T5 : Bool × List (List Nat × List Nat) := (true, [([], []), ([0], [0]), ([], []), ([1, 2], [1, 2]), ([], []), ([4], [4]), ([], []), ([6], [6]), ([5, 7], [5, 7]), ([3, 8], [3, 8]), ([], []), ([10], [10]), ([], []), ([11, 12], [11, 12]), ([9, 13], [9, 13]), ([14, 0, 1, 2, 3, 4, 5, 6, 7, 8, 9, 10, 11, 12, 13, 14], [14])])
def impl_Word_left.B5 : List Nat := [0, 1, 0, 7, 0, 16, 0, 64, 240, 511, 0, 1024, 0, 7168, 16383, 32767]
theorem impl_Word_left.tab5 : rtab .any (opsOf Tryd.f80 5) = impl_Word_left.T5 := by kernel_rfl
theorem impl_Word_left.bits5 : waitsOk impl_Word_left.T5.2 impl_Word_left.B5 = true := by kernel_rfl
set_option maxHeartbeats 8000000 in
set_option maxRecDepth 100000 in
theorem impl_Word_left.calls (a0_0 : Int) (a0_1 : Int) (a1 : Int) (r1 : Int) (r2 : Int) (w : World) (h : impl_Word_left.f a0_0 a0_1 a1 = some (r1, r2)) :
  Calls Tryd.prog 80 #[.agg #[.int .u64 a0_0, .int .u64 a0_1], .int .i64 a1] w fun e w' => e = .returned (.agg #[.int .u64 r1, .int .u64 r2]) ∧ Below w.heap.size w w' := by
 have hu25 := Tryd.underlying25
 have HB := Aside0.mk (Below.refl w.heap.size w)
 have H : (if a1 = 0 then (some (a0_0, a0_1)) else (if a1 ≥ 64 then (if 0 ≤ (wrap64 (a1 - 64)) then (some (shl .u64 a0_1 (wrap64 (a1 - 64)), 0)) else (none)) else (if 0 ≤ a1 then (if 0 ≤ (wrap64 (64 - a1)) then (some (Go.bits .or .u64 (shl .u64 a0_0 a1) (shr .u64 a0_1 (wrap64 (64 - a1))), shl .u64 a0_1 a1)) else (none)) else (none)))) = some (r1, r2) := h
 clear h
 by_cases c3 : a1 = 0
 ·rw [if_pos c3] at H
  have c3b0 : (a1 == 0) = true := beq_iff_eq.mpr c3
  have c3b1 : (a1 != 0) = false := bne_eq_false_iff_eq.mpr c3
  clear c3
  simp only [Option.some.injEq, Prod.mk.injEq] at H
  obtain ⟨rfl, rfl⟩ := H
  go_enter Tryd.func80, Tryd.ntmps80
  go_wp2_with (first | ((with_reducible refine gate_dst (N := 2) rfl ?_); refine box_event ?hg (N := 2) ?hd (cs := #[.int .u64 a0_0, .int .u64 a0_1]) (t := 25) ?hr ?_; (case hd => rfl); (case hg => rfl); (case hr => first | (go_simp; done) | (go_simp; rfl)); intro gb239 hg w4 hbox hb; have n0_ := Aside0.mk (below_step (by repeat (first | (with_reducible first | exact HB.out | apply below_alloc | apply pw_below_drewN | apply below_drew1) | exact HB.out)) hb); have n1_ := Aside0.mk (hbox); have n2_ := Aside0.mk ((by rw [hg]; exact (below_size (by repeat (first | (with_reducible first | exact HB.out | apply below_alloc | apply pw_below_drewN | apply below_drew1) | exact HB.out))) : w.heap.size ≤ gb239)); have n3_ := Aside0.mk ((by rw [hg]; exact (below_size (by repeat (first | (with_reducible first | exact HB.out | apply below_alloc | apply pw_below_drewN | apply below_drew1) | exact HB.out))) : w.heap.size ≤ gb239)); clear HB; have HB := n0_; have BK239 := n1_; have GW239 := n2_; have GE239 := n3_; clear n0_ n1_ n2_ n3_; clear hb hbox hg) | ((with_reducible refine gate_dst (N := 4) rfl ?_); refine box_event ?hg (N := 4) ?hd (cs := #[.int .u64 0, .int .u64 0]) (t := 25) ?hr ?_; (case hd => rfl); (case hg => rfl); (case hr => first | (go_simp; done) | (go_simp; rfl)); intro gb240 hg w5 hbox hb; have n0_ := Aside0.mk (blk_below (g := gb239) (o := .cells #[.int .u64 a0_0, .int .u64 a0_1] 25 (0, 0)) (by (with_reducible repeat (first | refine blk_drewN ?_ _ | refine blk_drew ?_ | refine blk_alloc ?_ _)); exact BK239.out) hb); have n1_ := Aside0.mk (below_step (by repeat (first | (with_reducible first | exact HB.out | apply below_alloc | apply pw_below_drewN | apply below_drew1 | refine below_set ?_ GE239.out) | exact HB.out)) hb); have n2_ := Aside0.mk (hbox); have n3_ := Aside0.mk ((by rw [hg]; exact (below_size (by repeat (first | (with_reducible first | exact HB.out | apply below_alloc | apply pw_below_drewN | apply below_drew1 | refine below_set ?_ GE239.out) | exact HB.out))) : w.heap.size ≤ gb240)); have n4_ := Aside0.mk ((by rw [hg]; exact (below_size (by repeat (first | (with_reducible first | exact HB.out | apply below_alloc | apply pw_below_drewN | apply below_drew1 | refine below_set ?_ GE239.out) | exact HB.out))) : w.heap.size ≤ gb240)); have n5_ := Aside0.mk ((by rw [hg]; exact Nat.ne_of_lt (blk_lt (g := gb239) (o := .cells #[.int .u64 a0_0, .int .u64 a0_1] 25 (0, 0)) (by (with_reducible repeat (first | refine blk_drewN ?_ _ | refine blk_drew ?_ | refine blk_alloc ?_ _)); exact BK239.out)) : gb239 ≠ gb240)); have n6_ := Aside0.mk ((by rw [hg]; exact Nat.ne_of_gt (blk_lt (g := gb239) (o := .cells #[.int .u64 a0_0, .int .u64 a0_1] 25 (0, 0)) (by (with_reducible repeat (first | refine blk_drewN ?_ _ | refine blk_drew ?_ | refine blk_alloc ?_ _)); exact BK239.out)) : gb240 ≠ gb239)); clear BK239; clear HB; have BK239 := n0_; have HB := n1_; have BK240 := n2_; have GW240 := n3_; have GE240 := n4_; have NB239_240 := n5_; have NB240_239 := n6_; clear n0_ n1_ n2_ n3_ n4_ n5_ n6_; clear hb hbox hg; have hnb6 := NB239_240.out; have hnc6 := NB240_239.out; have hcz7_0 : w5.cell? ⟨gb239, 0, none⟩ = some (.int .u64 a0_0) := (blk_cell BK239.out 0).trans rfl; have hcz7_1 : w5.cell? ⟨gb239, 1, none⟩ = some (.int .u64 a0_1) := (blk_cell BK239.out 1).trans rfl; have hfz7_0 := blk_frozen BK239.out 0; have hfz7_1 := blk_frozen BK239.out 1; have hcz8_0 : w5.cell? ⟨gb240, 0, none⟩ = some (.int .u64 0) := (blk_cell BK240.out 0).trans rfl; have hcz8_1 : w5.cell? ⟨gb240, 1, none⟩ = some (.int .u64 0) := (blk_cell BK240.out 1).trans rfl; have hfz8_0 := blk_frozen BK240.out 0; have hfz8_1 := blk_frozen BK240.out 1))
  refine bodyPost_ret (results_cell_row rfl _ _ gb240 25 #[.int .u64 a0_0, .int .u64 a0_1] (0, 0) _ rfl (by (with_reducible repeat (first | refine blk_drewN ?_ _ | refine blk_drew ?_ | refine blk_alloc ?_ _)); refine blk_put (cs := #[.int .u64 a0_0, .int .u64 0]) ?_ 1 _ rfl; (with_reducible repeat (first | refine blk_drewN ?_ _ | refine blk_drew ?_ | refine blk_alloc ?_ _)); refine blk_put (cs := #[.int .u64 0, .int .u64 0]) ?_ 0 _ rfl; (with_reducible repeat (first | refine blk_drewN ?_ _ | refine blk_drew ?_ | refine blk_alloc ?_ _)); exact BK240.out) Tryd.underlying25 rfl (by kernel_rfl)) rfl ?_
  exact ⟨by first | rfl | (simp [errW_none, errW_some] <;> rfl) | (simp [*, errW_none, errW_some] <;> rfl), by repeat (first | (with_reducible first | exact HB.out | apply below_alloc | apply pw_below_drewN | apply below_drew1 | refine below_set ?_ GE239.out | refine below_set ?_ GE240.out) | exact HB.out)⟩
 ·rw [if_neg c3] at H
  have c3b0 : (a1 == 0) = false := beq_eq_false_iff_ne.mpr c3
  have c3b1 : (a1 != 0) = true := bne_iff_ne.mpr c3
  by_cases c9 : a1 ≥ 64
  ·rw [if_pos c9] at H
   have c9b0 : decide (64 ≤ a1) = true := decide_eq_true c9
   clear c9
   obtain ⟨ji10, hji10⟩ : ∃ j_ : Int, (wrap64 (a1 - 64)) = j_ := ⟨_, rfl⟩
   replace H : (if 0 ≤ (ji10) then (some (shl .u64 a0_1 (ji10), 0)) else (none)) = some (r1, r2) := by first | (rw [hji10] at H; exact H) | (simp only [hji10] at H ⊢; exact H)
   have hji10w : (IntKind.i64.wrap (a1 - 64)) = ji10 := (i64_w _).trans hji10
   by_cases c11 : 0 ≤ (ji10)
   ·rw [if_pos c11] at H
    have c11b0 := eq_true c11
    have c11b1 : decide (0 ≤ (ji10)) = true := decide_eq_true c11
    clear c11
    obtain ⟨ji12, hji12⟩ : ∃ j_ : Int, (shl .u64 a0_1 (ji10)) = j_ := ⟨_, rfl⟩
    replace H : (some (ji12, 0)) = some (r1, r2) := by first | (rw [hji12] at H; exact H) | (simp only [hji12] at H ⊢; exact H)
    have hji12_ : (IntKind.u64.wrap (a0_1 * 2 ^ min (ji10).toNat 64)) = ji12 := hji12
    have hji12z : (ji10) ≤ 64 → (IntKind.u64.wrap (a0_1 * 2 ^ (ji10).toNat)) = ji12 := shl_small hji12
    simp only [Option.some.injEq, Prod.mk.injEq] at H
    obtain ⟨rfl, rfl⟩ := H
    go_enter Tryd.func80, Tryd.ntmps80
    go_wp2_with (first | ((with_reducible refine gate_dst (N := 2) rfl ?_); refine box_event ?hg (N := 2) ?hd (cs := #[.int .u64 a0_0, .int .u64 a0_1]) (t := 25) ?hr ?_; (case hd => rfl); (case hg => rfl); (case hr => first | (go_simp; done) | (go_simp; rfl)); intro gb239 hg w13 hbox hb; have n0_ := Aside0.mk (below_step (by repeat (first | (with_reducible first | exact HB.out | apply below_alloc | apply pw_below_drewN | apply below_drew1) | exact HB.out)) hb); have n1_ := Aside0.mk (hbox); have n2_ := Aside0.mk ((by rw [hg]; exact (below_size (by repeat (first | (with_reducible first | exact HB.out | apply below_alloc | apply pw_below_drewN | apply below_drew1) | exact HB.out))) : w.heap.size ≤ gb239)); have n3_ := Aside0.mk ((by rw [hg]; exact (below_size (by repeat (first | (with_reducible first | exact HB.out | apply below_alloc | apply pw_below_drewN | apply below_drew1) | exact HB.out))) : w.heap.size ≤ gb239)); clear HB; have HB := n0_; have BK239 := n1_; have GW239 := n2_; have GE239 := n3_; clear n0_ n1_ n2_ n3_; clear hb hbox hg) | ((with_reducible refine gate_dst (N := 4) rfl ?_); refine box_event ?hg (N := 4) ?hd (cs := #[.int .u64 0, .int .u64 0]) (t := 25) ?hr ?_; (case hd => rfl); (case hg => rfl); (case hr => first | (go_simp; done) | (go_simp; rfl)); intro gb240 hg w14 hbox hb; have n0_ := Aside0.mk (blk_below (g := gb239) (o := .cells #[.int .u64 a0_0, .int .u64 a0_1] 25 (0, 0)) (by (with_reducible repeat (first | refine blk_drewN ?_ _ | refine blk_drew ?_ | refine blk_alloc ?_ _)); exact BK239.out) hb); have n1_ := Aside0.mk (below_step (by repeat (first | (with_reducible first | exact HB.out | apply below_alloc | apply pw_below_drewN | apply below_drew1 | refine below_set ?_ GE239.out) | exact HB.out)) hb); have n2_ := Aside0.mk (hbox); have n3_ := Aside0.mk ((by rw [hg]; exact (below_size (by repeat (first | (with_reducible first | exact HB.out | apply below_alloc | apply pw_below_drewN | apply below_drew1 | refine below_set ?_ GE239.out) | exact HB.out))) : w.heap.size ≤ gb240)); have n4_ := Aside0.mk ((by rw [hg]; exact (below_size (by repeat (first | (with_reducible first | exact HB.out | apply below_alloc | apply pw_below_drewN | apply below_drew1 | refine below_set ?_ GE239.out) | exact HB.out))) : w.heap.size ≤ gb240)); have n5_ := Aside0.mk ((by rw [hg]; exact Nat.ne_of_lt (blk_lt (g := gb239) (o := .cells #[.int .u64 a0_0, .int .u64 a0_1] 25 (0, 0)) (by (with_reducible repeat (first | refine blk_drewN ?_ _ | refine blk_drew ?_ | refine blk_alloc ?_ _)); exact BK239.out)) : gb239 ≠ gb240)); have n6_ := Aside0.mk ((by rw [hg]; exact Nat.ne_of_gt (blk_lt (g := gb239) (o := .cells #[.int .u64 a0_0, .int .u64 a0_1] 25 (0, 0)) (by (with_reducible repeat (first | refine blk_drewN ?_ _ | refine blk_drew ?_ | refine blk_alloc ?_ _)); exact BK239.out)) : gb240 ≠ gb239)); clear BK239; clear HB; have BK239 := n0_; have HB := n1_; have BK240 := n2_; have GW240 := n3_; have GE240 := n4_; have NB239_240 := n5_; have NB240_239 := n6_; clear n0_ n1_ n2_ n3_ n4_ n5_ n6_; clear hb hbox hg; have hnb15 := NB239_240.out; have hnc15 := NB240_239.out; have hcz16_0 : w14.cell? ⟨gb239, 0, none⟩ = some (.int .u64 a0_0) := (blk_cell BK239.out 0).trans rfl; have hcz16_1 : w14.cell? ⟨gb239, 1, none⟩ = some (.int .u64 a0_1) := (blk_cell BK239.out 1).trans rfl; have hfz16_0 := blk_frozen BK239.out 0; have hfz16_1 := blk_frozen BK239.out 1; have hcz17_0 : w14.cell? ⟨gb240, 0, none⟩ = some (.int .u64 0) := (blk_cell BK240.out 0).trans rfl; have hcz17_1 : w14.cell? ⟨gb240, 1, none⟩ = some (.int .u64 0) := (blk_cell BK240.out 1).trans rfl; have hfz17_0 := blk_frozen BK240.out 0; have hfz17_1 := blk_frozen BK240.out 1))
    refine bodyPost_ret (results_cell_row rfl _ _ gb240 25 #[.int .u64 ji12, .int .u64 0] (0, 0) _ rfl (by (with_reducible repeat (first | refine blk_drewN ?_ _ | refine blk_drew ?_ | refine blk_alloc ?_ _)); refine blk_put (cs := #[.int .u64 ji12, .int .u64 0]) ?_ 1 _ rfl; (with_reducible repeat (first | refine blk_drewN ?_ _ | refine blk_drew ?_ | refine blk_alloc ?_ _)); refine blk_put (cs := #[.int .u64 0, .int .u64 0]) ?_ 0 _ rfl; (with_reducible repeat (first | refine blk_drewN ?_ _ | refine blk_drew ?_ | refine blk_alloc ?_ _)); exact BK240.out) Tryd.underlying25 rfl (by kernel_rfl)) rfl ?_
    exact ⟨by first | rfl | (simp [errW_none, errW_some] <;> rfl) | (simp only [← hji10, ← hji12]; first | rfl | (simp [errW_none, errW_some] <;> rfl)) | (simp [*, errW_none, errW_some] <;> rfl), by repeat (first | (with_reducible first | exact HB.out | apply below_alloc | apply pw_below_drewN | apply below_drew1 | refine below_set ?_ GE239.out | refine below_set ?_ GE240.out) | exact HB.out)⟩
   ·rw [if_neg c11] at H
    exact absurd H (by simp)
  ·rw [if_neg c9] at H
   have c9b0 : decide (64 ≤ a1) = false := decide_eq_false c9
   clear c9
   by_cases c18 : 0 ≤ a1
   ·rw [if_pos c18] at H
    have c18b0 := eq_true c18
    have c18b1 : decide (0 ≤ a1) = true := decide_eq_true c18
    clear c18
    obtain ⟨ji19, hji19⟩ : ∃ j_ : Int, (shl .u64 a0_0 a1) = j_ := ⟨_, rfl⟩
    replace H : (if 0 ≤ (wrap64 (64 - a1)) then (some (Go.bits .or .u64 (ji19) (shr .u64 a0_1 (wrap64 (64 - a1))), shl .u64 a0_1 a1)) else (none)) = some (r1, r2) := by first | (rw [hji19] at H; exact H) | (simp only [hji19] at H ⊢; exact H)
    have hji19_ : (IntKind.u64.wrap (a0_0 * 2 ^ min a1.toNat 64)) = ji19 := hji19
    have hji19z : a1 ≤ 64 → (IntKind.u64.wrap (a0_0 * 2 ^ a1.toNat)) = ji19 := shl_small hji19
    obtain ⟨ji20, hji20⟩ : ∃ j_ : Int, (wrap64 (64 - a1)) = j_ := ⟨_, rfl⟩
    replace H : (if 0 ≤ (ji20) then (some (Go.bits .or .u64 (ji19) (shr .u64 a0_1 (ji20)), shl .u64 a0_1 a1)) else (none)) = some (r1, r2) := by first | (rw [hji20] at H; exact H) | (simp only [hji20] at H ⊢; exact H)
    have hji20w : (IntKind.i64.wrap (64 - a1)) = ji20 := (i64_w _).trans hji20
    by_cases c21 : 0 ≤ (ji20)
    ·rw [if_pos c21] at H
     have c21b0 := eq_true c21
     have c21b1 : decide (0 ≤ (ji20)) = true := decide_eq_true c21
     clear c21
     obtain ⟨ji22, hji22⟩ : ∃ j_ : Int, (shr .u64 a0_1 (ji20)) = j_ := ⟨_, rfl⟩
     replace H : (some (Go.bits .or .u64 (ji19) (ji22), shl .u64 a0_1 a1)) = some (r1, r2) := by first | (rw [hji22] at H; exact H) | (simp only [hji22] at H ⊢; exact H)
     have hji22_ : (a0_1 / 2 ^ min (ji20).toNat 64) = ji22 := hji22
     have hji22z : (ji20) ≤ 64 → (a0_1 / 2 ^ (ji20).toNat) = ji22 := shr_small hji22
     have c23b0 := eq_true (of_decide_eq_true (by first | (with_reducible assumption) | assumption) : 0 ≤ a1)
     obtain ⟨ji24, hji24⟩ : ∃ j_ : Int, (shl .u64 a0_1 a1) = j_ := ⟨_, rfl⟩
     replace H : (some (Go.bits .or .u64 (ji19) (ji22), ji24)) = some (r1, r2) := by first | (rw [hji24] at H; exact H) | (simp only [hji24] at H ⊢; exact H)
     have hji24_ : (IntKind.u64.wrap (a0_1 * 2 ^ min a1.toNat 64)) = ji24 := hji24
     have hji24z : a1 ≤ 64 → (IntKind.u64.wrap (a0_1 * 2 ^ a1.toNat)) = ji24 := shl_small hji24
     simp only [Option.some.injEq, Prod.mk.injEq] at H
     obtain ⟨rfl, rfl⟩ := H
     go_enter Tryd.func80, Tryd.ntmps80
     try go_wp2_with (first | ((with_reducible refine gate_dst (N := 2) rfl ?_); refine box_event ?hg (N := 2) ?hd (cs := #[.int .u64 a0_0, .int .u64 a0_1]) (t := 25) ?hr ?_; (case hd => rfl); (case hg => rfl); (case hr => first | (go_simp; done) | (go_simp; rfl)); intro gb239 hg w25 hbox hb; have n0_ := Aside0.mk (below_step (by repeat (first | (with_reducible first | exact HB.out | apply below_alloc | apply pw_below_drewN | apply below_drew1) | exact HB.out)) hb); have n1_ := Aside0.mk (hbox); have n2_ := Aside0.mk ((by rw [hg]; exact (below_size (by repeat (first | (with_reducible first | exact HB.out | apply below_alloc | apply pw_below_drewN | apply below_drew1) | exact HB.out))) : w.heap.size ≤ gb239)); have n3_ := Aside0.mk ((by rw [hg]; exact (below_size (by repeat (first | (with_reducible first | exact HB.out | apply below_alloc | apply pw_below_drewN | apply below_drew1) | exact HB.out))) : w.heap.size ≤ gb239)); clear HB; have HB := n0_; have BK239 := n1_; have GW239 := n2_; have GE239 := n3_; clear n0_ n1_ n2_ n3_; clear hb hbox hg) | ((with_reducible refine gate_dst (N := 4) rfl ?_); refine box_event ?hg (N := 4) ?hd (cs := #[.int .u64 0, .int .u64 0]) (t := 25) ?hr ?_; (case hd => rfl); (case hg => rfl); (case hr => first | (go_simp; done) | (go_simp; rfl)); intro gb240 hg w26 hbox hb; have n0_ := Aside0.mk (blk_below (g := gb239) (o := .cells #[.int .u64 a0_0, .int .u64 a0_1] 25 (0, 0)) (by (with_reducible repeat (first | refine blk_drewN ?_ _ | refine blk_drew ?_ | refine blk_alloc ?_ _)); exact BK239.out) hb); have n1_ := Aside0.mk (below_step (by repeat (first | (with_reducible first | exact HB.out | apply below_alloc | apply pw_below_drewN | apply below_drew1 | refine below_set ?_ GE239.out) | exact HB.out)) hb); have n2_ := Aside0.mk (hbox); have n3_ := Aside0.mk ((by rw [hg]; exact (below_size (by repeat (first | (with_reducible first | exact HB.out | apply below_alloc | apply pw_below_drewN | apply below_drew1 | refine below_set ?_ GE239.out) | exact HB.out))) : w.heap.size ≤ gb240)); have n4_ := Aside0.mk ((by rw [hg]; exact (below_size (by repeat (first | (with_reducible first | exact HB.out | apply below_alloc | apply pw_below_drewN | apply below_drew1 | refine below_set ?_ GE239.out) | exact HB.out))) : w.heap.size ≤ gb240)); have n5_ := Aside0.mk ((by rw [hg]; exact Nat.ne_of_lt (blk_lt (g := gb239) (o := .cells #[.int .u64 a0_0, .int .u64 a0_1] 25 (0, 0)) (by (with_reducible repeat (first | refine blk_drewN ?_ _ | refine blk_drew ?_ | refine blk_alloc ?_ _)); exact BK239.out)) : gb239 ≠ gb240)); have n6_ := Aside0.mk ((by rw [hg]; exact Nat.ne_of_gt (blk_lt (g := gb239) (o := .cells #[.int .u64 a0_0, .int .u64 a0_1] 25 (0, 0)) (by (with_reducible repeat (first | refine blk_drewN ?_ _ | refine blk_drew ?_ | refine blk_alloc ?_ _)); exact BK239.out)) : gb240 ≠ gb239)); clear BK239; clear HB; have BK239 := n0_; have HB := n1_; have BK240 := n2_; have GW240 := n3_; have GE240 := n4_; have NB239_240 := n5_; have NB240_239 := n6_; clear n0_ n1_ n2_ n3_ n4_ n5_ n6_; clear hb hbox hg))
     have n0_ := Aside0.mk (blk_drew BK239.out)
     have n1_ := Aside0.mk (blk_drew BK240.out)
     have n2_ := Aside0.mk (below_drew1 HB.out)
     clear BK239
     clear BK240
     clear HB
     have BK239 := n0_
     have BK240 := n1_
     have HB := n2_
     clear n0_ n1_ n2_
     refine start_ (n := 16) (S := fun w' => w'.cell? ⟨gb239, 0, none⟩ = some (.int .u64 a0_0) ∧ w'.cell? ⟨gb239, 1, none⟩ = some (.int .u64 a0_1)) (ds := []) #[false, false, false, false, false, false, false, false, false, false, false, false, false, false, false, false] (by kernel_rfl) rfl rfl ⟨(blk_cell BK239.out 0).trans rfl, (blk_cell BK239.out 1).trans rfl⟩ (fun hHeld => ?_); refine with_tabW impl_Word_left.tab5 impl_Word_left.bits5 (fun HT_ HW_ => ?_)
     generalize w26.drew = w27 at BK239 BK240 HB hHeld ⊢
     refine pure_ (i := 0) (N := some 18) (v := ?_) (a' := ?_) #[true, false, false, false, false, false, false, false, false, false, false, false, false, false, false, false] rfl rfl (any_of HT_.out (by kernel_rfl)) (fun _ _ _ h => h) (Or.inl ⟨by rfl, ?_⟩) ?_ ?_
     rotate_left
     ·intro w'
      go_simp
      with_reducible rfl
     rotate_left
     ·simp only [Act.put, List.setIfInBounds_toArray, List.set_cons_zero, List.set_cons_succ, i64_w, i32_w]
      rfl
     refine pure_ (i := 2) (N := some 20) (v := ?_) (a' := ?_) #[true, false, true, false, false, false, false, false, false, false, false, false, false, false, false, false] rfl rfl (any_of HT_.out (by kernel_rfl)) (fun _ _ _ h => h) (Or.inl ⟨by rfl, ?_⟩) ?_ ?_
     rotate_left
     ·intro w'
      go_simp
      with_reducible rfl
     rotate_left
     ·simp only [Act.put, List.setIfInBounds_toArray, List.set_cons_zero, List.set_cons_succ, i64_w, i32_w]
      rfl
     refine pure_ (i := 4) (N := some 22) (v := ?_) (a' := ?_) #[true, false, true, false, true, false, false, false, false, false, false, false, false, false, false, false] rfl rfl (any_of HT_.out (by kernel_rfl)) (fun _ _ _ h => h) (Or.inl ⟨by rfl, ?_⟩) ?_ ?_
     rotate_left
     ·intro w'
      go_simp
      with_reducible rfl
     rotate_left
     ·simp only [Act.put, List.setIfInBounds_toArray, List.set_cons_zero, List.set_cons_succ, i64_w, i32_w]
      rfl
     refine pure_ (i := 6) (N := some 24) (v := ?_) (a' := ?_) #[true, false, true, false, true, false, true, false, false, false, false, false, false, false, false, false] rfl rfl (any_of HT_.out (by kernel_rfl)) (fun _ _ _ h => h) (Or.inl ⟨by rfl, ?_⟩) ?_ ?_
     rotate_left
     ·intro w'
      go_simp
      with_reducible rfl
     rotate_left
     ·simp only [Act.put, List.setIfInBounds_toArray, List.set_cons_zero, List.set_cons_succ, i64_w, i32_w]
      rfl
     refine pure_ (i := 7) (N := some 25) (v := ?_) (a' := ?_) #[true, false, true, false, true, false, true, true, false, false, false, false, false, false, false, false] rfl rfl (any_of HT_.out (by kernel_rfl)) (fun _ _ _ h => h) (Or.inl ⟨by rfl, ?_⟩) ?_ ?_
     rotate_left
     ·intro w'
      go_simp
      with_reducible rfl
     rotate_left
     ·simp only [Act.put, List.setIfInBounds_toArray, List.set_cons_zero, List.set_cons_succ, i64_w, i32_w]
      rfl
     refine pure_ (i := 10) (N := some 28) (v := ?_) (a' := ?_) #[true, false, true, false, true, false, true, true, false, false, true, false, false, false, false, false] rfl rfl (any_of HT_.out (by kernel_rfl)) (fun _ _ _ h => h) (Or.inl ⟨by rfl, ?_⟩) ?_ ?_
     rotate_left
     ·intro w'
      go_simp
      with_reducible rfl
     rotate_left
     ·simp only [Act.put, List.setIfInBounds_toArray, List.set_cons_zero, List.set_cons_succ, i64_w, i32_w]
      rfl
     refine pure_ (i := 12) (N := some 30) (v := ?_) (a' := ?_) #[true, false, true, false, true, false, true, true, false, false, true, false, true, false, false, false] rfl rfl (any_of HT_.out (by kernel_rfl)) (fun _ _ _ h => h) (Or.inl ⟨by rfl, ?_⟩) ?_ ?_
     rotate_left
     ·intro w'
      go_simp
      with_reducible rfl
     rotate_left
     ·simp only [Act.put, List.setIfInBounds_toArray, List.set_cons_zero, List.set_cons_succ, i64_w, i32_w]
      rfl
     refine take_ (i := 1) (N := some 19) (v := ?_) (a' := ?_) #[true, true, true, false, true, false, true, true, false, false, true, false, true, false, false, false] rfl rfl (take_ofW HT_.out HW_.out (by kernel_rfl)) (fun _ _ _ h => h) (Or.inl ⟨by rfl, ?_⟩) hHeld ?_ ?_
     rotate_left
     ·rintro w' ⟨s0, s1⟩
      go_simp
      with_reducible rfl
     rotate_left
     ·simp only [Act.put, List.setIfInBounds_toArray, List.set_cons_zero, List.set_cons_succ, i64_w, i32_w]
      rfl
     refine pure_ (i := 3) (N := some 21) (v := ?_) (a' := ?_) #[true, true, true, true, true, false, true, true, false, false, true, false, true, false, false, false] rfl rfl (any_of HT_.out (by kernel_rfl)) (fun _ _ _ h => h) (Or.inl ⟨by rfl, ?_⟩) ?_ ?_
     rotate_left
     ·intro w'
      go_simp
      with_reducible rfl
     rotate_left
     ·simp only [Act.put, List.setIfInBounds_toArray, List.set_cons_zero, List.set_cons_succ, i64_w, i32_w]
      rfl
     refine take_ (i := 5) (N := some 23) (v := ?_) (a' := ?_) #[true, true, true, true, true, true, true, true, false, false, true, false, true, false, false, false] rfl rfl (take_ofW HT_.out HW_.out (by kernel_rfl)) (fun _ _ _ h => h) (Or.inl ⟨by rfl, ?_⟩) hHeld ?_ ?_
     rotate_left
     ·rintro w' ⟨s0, s1⟩
      go_simp
      with_reducible rfl
     rotate_left
     ·simp only [Act.put, List.setIfInBounds_toArray, List.set_cons_zero, List.set_cons_succ, i64_w, i32_w]
      rfl
     refine pure_ (i := 8) (N := some 26) (v := ?_) (a' := ?_) #[true, true, true, true, true, true, true, true, true, false, true, false, true, false, false, false] rfl rfl (any_of HT_.out (by kernel_rfl)) (fun _ _ _ h => h) (Or.inl ⟨by rfl, ?_⟩) ?_ ?_
     rotate_left
     ·intro w'
      go_simp
      with_reducible rfl
     rotate_left
     ·simp only [Act.put, List.setIfInBounds_toArray, List.set_cons_zero, List.set_cons_succ, i64_w, i32_w]
      rfl
     refine pure_ (i := 9) (N := some 27) (v := ?_) (a' := ?_) #[true, true, true, true, true, true, true, true, true, true, true, false, true, false, false, false] rfl rfl (any_of HT_.out (by kernel_rfl)) (fun _ _ _ h => h) (Or.inl ⟨by rfl, ?_⟩) ?_ ?_
     rotate_left
     ·intro w'
      go_simp
      with_reducible rfl
     rotate_left
     ·simp only [Act.put, List.setIfInBounds_toArray, List.set_cons_zero, List.set_cons_succ, i64_w, i32_w]
      rfl
     refine take_ (i := 11) (N := some 29) (v := ?_) (a' := ?_) #[true, true, true, true, true, true, true, true, true, true, true, true, true, false, false, false] rfl rfl (take_ofW HT_.out HW_.out (by kernel_rfl)) (fun _ _ _ h => h) (Or.inl ⟨by rfl, ?_⟩) hHeld ?_ ?_
     rotate_left
     ·rintro w' ⟨s0, s1⟩
      go_simp
      with_reducible rfl
     rotate_left
     ·simp only [Act.put, List.setIfInBounds_toArray, List.set_cons_zero, List.set_cons_succ, i64_w, i32_w]
      rfl
     refine pure_ (i := 13) (N := some 31) (v := ?_) (a' := ?_) #[true, true, true, true, true, true, true, true, true, true, true, true, true, true, false, false] rfl rfl (any_of HT_.out (by kernel_rfl)) (fun _ _ _ h => h) (Or.inl ⟨by rfl, ?_⟩) ?_ ?_
     rotate_left
     ·intro w'
      go_simp
      with_reducible rfl
     rotate_left
     ·simp only [Act.put, List.setIfInBounds_toArray, List.set_cons_zero, List.set_cons_succ, i64_w, i32_w]
      rfl
     refine pure_ (i := 14) (N := some 32) (v := ?_) (a' := ?_) #[true, true, true, true, true, true, true, true, true, true, true, true, true, true, true, false] rfl rfl (any_of HT_.out (by kernel_rfl)) (fun _ _ _ h => h) (Or.inl ⟨by rfl, ?_⟩) ?_ ?_
     rotate_left
     ·intro w'
      go_simp
      with_reducible rfl
     rotate_left
     ·simp only [Act.put, List.setIfInBounds_toArray, List.set_cons_zero, List.set_cons_succ, i64_w, i32_w]
      rfl
     refine one_ (i := 15) (N := none) #[true, true, true, true, true, true, true, true, true, true, true, true, true, true, true, true] rfl rfl (one_of HT_.out (by kernel_rfl)) (by decide) (fun K hK => ?_)
     have hs28 : w27.cell? ⟨gb240, 0, none⟩ = some (.int .u64 0) := (blk_cell BK240.out 0).trans rfl
     have hfs28 := blk_frozen BK240.out 0
     have hns28_0 := NB239_240.out
     have hms28_0 := NB240_239.out
     have hs29 : w27.cell? ⟨gb240, 1, none⟩ = some (.int .u64 0) := (blk_cell BK240.out 1).trans rfl
     have hfs29 := blk_frozen BK240.out 1
     have hns29_0 := NB239_240.out
     have hms29_0 := NB240_239.out
     refine skip_ (w1 := ?_) (by rfl) rfl ?_ ?_
     rotate_left
     ·go_simp
      rfl
     refine hK.out _ _ ⟨((cell_far (p := ⟨gb240, _, none⟩) NB239_240.out _).trans (((cell_far (p := ⟨gb240, _, none⟩) NB239_240.out _).trans (hHeld.1)))), ((cell_far (p := ⟨gb240, _, none⟩) NB239_240.out _).trans (((cell_far (p := ⟨gb240, _, none⟩) NB239_240.out _).trans (hHeld.2))))⟩ (fun hHeld => ?_)
     clear hK K
     refine done_ (done_of HT_.out (by kernel_rfl)) ?_
     try go_wp2
     refine bodyPost_ret (results_cell_row rfl _ _ gb240 25 #[.int .u64 (Go.bits .or .u64 (ji19) (ji22)), .int .u64 ji24] (0, 0) _ rfl (by (with_reducible repeat (first | refine blk_drewN ?_ _ | refine blk_drew ?_ | refine blk_alloc ?_ _)); refine blk_put (cs := #[.int .u64 (Go.bits .or .u64 (ji19) (ji22)), .int .u64 0]) ?_ 1 _ rfl; (with_reducible repeat (first | refine blk_drewN ?_ _ | refine blk_drew ?_ | refine blk_alloc ?_ _)); refine blk_put (cs := #[.int .u64 0, .int .u64 0]) ?_ 0 _ rfl; (with_reducible repeat (first | refine blk_drewN ?_ _ | refine blk_drew ?_ | refine blk_alloc ?_ _)); exact BK240.out) Tryd.underlying25 rfl (by kernel_rfl)) rfl ?_
     exact ⟨by first | rfl | (simp [errW_none, errW_some] <;> rfl) | (simp only [← hji19, ← hji20, ← hji22, ← hji24]; first | rfl | (simp [errW_none, errW_some] <;> rfl)) | (simp [*, errW_none, errW_some] <;> rfl), by repeat (first | (with_reducible first | exact HB.out | apply below_alloc | apply pw_below_drewN | apply below_drew1 | refine below_set ?_ GE239.out | refine below_set ?_ GE240.out) | exact HB.out)⟩
    ·rw [if_neg c21] at H
     exact absurd H (by simp)
   ·rw [if_neg c18] at H
    exact absurd H (by simp)
def impl_Word_without.f (a0_0 : Int) (a0_1 : Int) (a1_0 : Int) (a1_1 : Int) : Option (Int × Int) := some (Go.bits .andNot .u64 a0_0 a1_0, Go.bits .andNot .u64 a0_1 a1_1)
set_option maxHeartbeats 8000000 in
set_option maxRecDepth 100000 in
theorem impl_Word_without.calls (a0_0 : Int) (a0_1 : Int) (a1_0 : Int) (a1_1 : Int) (r1 : Int) (r2 : Int) (w : World) (h : impl_Word_without.f a0_0 a0_1 a1_0 a1_1 = some (r1, r2)) :
  Calls Tryd.prog 124 #[.agg #[.int .u64 a0_0, .int .u64 a0_1], .agg #[.int .u64 a1_0, .int .u64 a1_1]] w fun e w' => e = .returned (.agg #[.int .u64 r1, .int .u64 r2]) ∧ Below w.heap.size w w' := by
 have hu25 := Tryd.underlying25
 have HB := Aside0.mk (Below.refl w.heap.size w)
 have H : (some (Go.bits .andNot .u64 a0_0 a1_0, Go.bits .andNot .u64 a0_1 a1_1)) = some (r1, r2) := h
 clear h
 simp only [Option.some.injEq, Prod.mk.injEq] at H
 obtain ⟨rfl, rfl⟩ := H
 go_enter Tryd.func124, Tryd.ntmps124
 go_wp2_with (first | ((with_reducible refine gate_dst (N := 2) rfl ?_); refine box_event ?hg (N := 2) ?hd (cs := #[.int .u64 a0_0, .int .u64 a0_1]) (t := 25) ?hr ?_; (case hd => rfl); (case hg => rfl); (case hr => first | (go_simp; done) | (go_simp; rfl)); intro gb241 hg w3 hbox hb; have n0_ := Aside0.mk (below_step (by repeat (first | (with_reducible first | exact HB.out | apply below_alloc | apply pw_below_drewN | apply below_drew1) | exact HB.out)) hb); have n1_ := Aside0.mk (hbox); have n2_ := Aside0.mk ((by rw [hg]; exact (below_size (by repeat (first | (with_reducible first | exact HB.out | apply below_alloc | apply pw_below_drewN | apply below_drew1) | exact HB.out))) : w.heap.size ≤ gb241)); have n3_ := Aside0.mk ((by rw [hg]; exact (below_size (by repeat (first | (with_reducible first | exact HB.out | apply below_alloc | apply pw_below_drewN | apply below_drew1) | exact HB.out))) : w.heap.size ≤ gb241)); clear HB; have HB := n0_; have BK241 := n1_; have GW241 := n2_; have GE241 := n3_; clear n0_ n1_ n2_ n3_; clear hb hbox hg) | ((with_reducible refine gate_dst (N := 3) rfl ?_); refine box_event ?hg (N := 3) ?hd (cs := #[.int .u64 a1_0, .int .u64 a1_1]) (t := 25) ?hr ?_; (case hd => rfl); (case hg => rfl); (case hr => first | (go_simp; done) | (go_simp; rfl)); intro gb242 hg w4 hbox hb; have n0_ := Aside0.mk (blk_below (g := gb241) (o := .cells #[.int .u64 a0_0, .int .u64 a0_1] 25 (0, 0)) (by (with_reducible repeat (first | refine blk_drewN ?_ _ | refine blk_drew ?_ | refine blk_alloc ?_ _)); exact BK241.out) hb); have n1_ := Aside0.mk (below_step (by repeat (first | (with_reducible first | exact HB.out | apply below_alloc | apply pw_below_drewN | apply below_drew1 | refine below_set ?_ GE241.out) | exact HB.out)) hb); have n2_ := Aside0.mk (hbox); have n3_ := Aside0.mk ((by rw [hg]; exact (below_size (by repeat (first | (with_reducible first | exact HB.out | apply below_alloc | apply pw_below_drewN | apply below_drew1 | refine below_set ?_ GE241.out) | exact HB.out))) : w.heap.size ≤ gb242)); have n4_ := Aside0.mk ((by rw [hg]; exact (below_size (by repeat (first | (with_reducible first | exact HB.out | apply below_alloc | apply pw_below_drewN | apply below_drew1 | refine below_set ?_ GE241.out) | exact HB.out))) : w.heap.size ≤ gb242)); have n5_ := Aside0.mk ((by rw [hg]; exact Nat.ne_of_lt (blk_lt (g := gb241) (o := .cells #[.int .u64 a0_0, .int .u64 a0_1] 25 (0, 0)) (by (with_reducible repeat (first | refine blk_drewN ?_ _ | refine blk_drew ?_ | refine blk_alloc ?_ _)); exact BK241.out)) : gb241 ≠ gb242)); have n6_ := Aside0.mk ((by rw [hg]; exact Nat.ne_of_gt (blk_lt (g := gb241) (o := .cells #[.int .u64 a0_0, .int .u64 a0_1] 25 (0, 0)) (by (with_reducible repeat (first | refine blk_drewN ?_ _ | refine blk_drew ?_ | refine blk_alloc ?_ _)); exact BK241.out)) : gb242 ≠ gb241)); clear BK241; clear HB; have BK241 := n0_; have HB := n1_; have BK242 := n2_; have GW242 := n3_; have GE242 := n4_; have NB241_242 := n5_; have NB242_241 := n6_; clear n0_ n1_ n2_ n3_ n4_ n5_ n6_; clear hb hbox hg) | ((with_reducible refine gate_dst (N := 4) rfl ?_); refine box_event ?hg (N := 4) ?hd (cs := #[.int .u64 0, .int .u64 0]) (t := 25) ?hr ?_; (case hd => rfl); (case hg => rfl); (case hr => first | (go_simp; done) | (go_simp; rfl)); intro gb243 hg w5 hbox hb; have n0_ := Aside0.mk (blk_below (g := gb241) (o := .cells #[.int .u64 a0_0, .int .u64 a0_1] 25 (0, 0)) (by (with_reducible repeat (first | refine blk_drewN ?_ _ | refine blk_drew ?_ | refine blk_alloc ?_ _)); exact BK241.out) hb); have n1_ := Aside0.mk (blk_below (g := gb242) (o := .cells #[.int .u64 a1_0, .int .u64 a1_1] 25 (0, 0)) (by (with_reducible repeat (first | refine blk_drewN ?_ _ | refine blk_drew ?_ | refine blk_alloc ?_ _)); exact BK242.out) hb); have n2_ := Aside0.mk (below_step (by repeat (first | (with_reducible first | exact HB.out | apply below_alloc | apply pw_below_drewN | apply below_drew1 | refine below_set ?_ GE241.out | refine below_set ?_ GE242.out) | exact HB.out)) hb); have n3_ := Aside0.mk (hbox); have n4_ := Aside0.mk ((by rw [hg]; exact (below_size (by repeat (first | (with_reducible first | exact HB.out | apply below_alloc | apply pw_below_drewN | apply below_drew1 | refine below_set ?_ GE241.out | refine below_set ?_ GE242.out) | exact HB.out))) : w.heap.size ≤ gb243)); have n5_ := Aside0.mk ((by rw [hg]; exact (below_size (by repeat (first | (with_reducible first | exact HB.out | apply below_alloc | apply pw_below_drewN | apply below_drew1 | refine below_set ?_ GE241.out | refine below_set ?_ GE242.out) | exact HB.out))) : w.heap.size ≤ gb243)); have n6_ := Aside0.mk ((by rw [hg]; exact Nat.ne_of_lt (blk_lt (g := gb241) (o := .cells #[.int .u64 a0_0, .int .u64 a0_1] 25 (0, 0)) (by (with_reducible repeat (first | refine blk_drewN ?_ _ | refine blk_drew ?_ | refine blk_alloc ?_ _)); exact BK241.out)) : gb241 ≠ gb243)); have n7_ := Aside0.mk ((by rw [hg]; exact Nat.ne_of_gt (blk_lt (g := gb241) (o := .cells #[.int .u64 a0_0, .int .u64 a0_1] 25 (0, 0)) (by (with_reducible repeat (first | refine blk_drewN ?_ _ | refine blk_drew ?_ | refine blk_alloc ?_ _)); exact BK241.out)) : gb243 ≠ gb241)); have n8_ := Aside0.mk ((by rw [hg]; exact Nat.ne_of_lt (blk_lt (g := gb242) (o := .cells #[.int .u64 a1_0, .int .u64 a1_1] 25 (0, 0)) (by (with_reducible repeat (first | refine blk_drewN ?_ _ | refine blk_drew ?_ | refine blk_alloc ?_ _)); exact BK242.out)) : gb242 ≠ gb243)); have n9_ := Aside0.mk ((by rw [hg]; exact Nat.ne_of_gt (blk_lt (g := gb242) (o := .cells #[.int .u64 a1_0, .int .u64 a1_1] 25 (0, 0)) (by (with_reducible repeat (first | refine blk_drewN ?_ _ | refine blk_drew ?_ | refine blk_alloc ?_ _)); exact BK242.out)) : gb243 ≠ gb242)); clear BK241; clear BK242; clear HB; have BK241 := n0_; have BK242 := n1_; have HB := n2_; have BK243 := n3_; have GW243 := n4_; have GE243 := n5_; have NB241_243 := n6_; have NB243_241 := n7_; have NB242_243 := n8_; have NB243_242 := n9_; clear n0_ n1_ n2_ n3_ n4_ n5_ n6_ n7_ n8_ n9_; clear hb hbox hg; have hnb6 := NB241_242.out; have hnc6 := NB242_241.out; have hnb7 := NB241_243.out; have hnc7 := NB243_241.out; have hcz8_0 : w5.cell? ⟨gb241, 0, none⟩ = some (.int .u64 a0_0) := (blk_cell BK241.out 0).trans rfl; have hcz8_1 : w5.cell? ⟨gb241, 1, none⟩ = some (.int .u64 a0_1) := (blk_cell BK241.out 1).trans rfl; have hfz8_0 := blk_frozen BK241.out 0; have hfz8_1 := blk_frozen BK241.out 1; have hnb9 := NB242_243.out; have hnc9 := NB243_242.out; have hcz10_0 : w5.cell? ⟨gb242, 0, none⟩ = some (.int .u64 a1_0) := (blk_cell BK242.out 0).trans rfl; have hcz10_1 : w5.cell? ⟨gb242, 1, none⟩ = some (.int .u64 a1_1) := (blk_cell BK242.out 1).trans rfl; have hfz10_0 := blk_frozen BK242.out 0; have hfz10_1 := blk_frozen BK242.out 1; have hcz11_0 : w5.cell? ⟨gb243, 0, none⟩ = some (.int .u64 0) := (blk_cell BK243.out 0).trans rfl; have hcz11_1 : w5.cell? ⟨gb243, 1, none⟩ = some (.int .u64 0) := (blk_cell BK243.out 1).trans rfl; have hfz11_0 := blk_frozen BK243.out 0; have hfz11_1 := blk_frozen BK243.out 1))
 refine bodyPost_ret (results_cell_row rfl _ _ gb243 25 #[.int .u64 (Go.bits .andNot .u64 a0_0 a1_0), .int .u64 (Go.bits .andNot .u64 a0_1 a1_1)] (0, 0) _ rfl (by (with_reducible repeat (first | refine blk_drewN ?_ _ | refine blk_drew ?_ | refine blk_alloc ?_ _)); refine blk_put (cs := #[.int .u64 (Go.bits .andNot .u64 a0_0 a1_0), .int .u64 0]) ?_ 1 _ rfl; (with_reducible repeat (first | refine blk_drewN ?_ _ | refine blk_drew ?_ | refine blk_alloc ?_ _)); refine blk_put (cs := #[.int .u64 0, .int .u64 0]) ?_ 0 _ rfl; (with_reducible repeat (first | refine blk_drewN ?_ _ | refine blk_drew ?_ | refine blk_alloc ?_ _)); exact BK243.out) Tryd.underlying25 rfl (by kernel_rfl)) rfl ?_
 exact ⟨by first | rfl | (simp [errW_none, errW_some] <;> rfl) | (simp [*, errW_none, errW_some] <;> rfl), by repeat (first | (with_reducible first | exact HB.out | apply below_alloc | apply pw_below_drewN | apply below_drew1 | refine below_set ?_ GE241.out | refine below_set ?_ GE242.out | refine below_set ?_ GE243.out) | exact HB.out)⟩
def impl_Word_low.f (a0_0 : Int) (a0_1 : Int) (a1 : Int) : Option (Int × Int) := if a1 ≥ 128 then (some (a0_0, a0_1)) else ((impl_Word_or.f a0_0 a0_1 0 0).bind fun bt246 => ((impl_Word_right.f a0_0 a0_1 a1).bind fun bt248 => ((impl_Word_left.f bt248.1 bt248.2 a1).bind fun bt250 => ((impl_Word_without.f bt246.1 bt246.2 bt250.1 bt250.2).bind fun bt252 => (some (bt252.1, bt252.2))))))
def impl_Word_low.T3 : Bool × List (List Nat × List Nat) := (true, [([], []), ([], []), ([0, 1], [0, 1]), ([], []), ([], []), ([3, 4, 2], [3, 4]), ([], []), ([5, 6, 5], [5, 6]), ([2, 7, 7], [2, 7]), ([8, 8, 0, 1, 2, 3, 4, 5, 6, 7, 8], [8])])
def impl_Word_low.B3 : List Nat := [0, 0, 3, 0, 0, 31, 0, 127, 255, 511]
theorem impl_Word_low.tab3 : rtab .any (opsOf Tryd.f68 3) = impl_Word_low.T3 := by kernel_rfl
theorem impl_Word_low.bits3 : waitsOk impl_Word_low.T3.2 impl_Word_low.B3 = true := by kernel_rfl
set_option maxHeartbeats 8000000 in
set_option maxRecDepth 100000 in
theorem impl_Word_low.calls (a0_0 : Int) (a0_1 : Int) (a1 : Int) (r1 : Int) (r2 : Int) (w : World) (h : impl_Word_low.f a0_0 a0_1 a1 = some (r1, r2)) :
  Calls Tryd.prog 68 #[.agg #[.int .u64 a0_0, .int .u64 a0_1], .int .i64 a1] w fun e w' => e = .returned (.agg #[.int .u64 r1, .int .u64 r2]) ∧ Below w.heap.size w w' := by
 have hu25 := Tryd.underlying25
 have HB := Aside0.mk (Below.refl w.heap.size w)
 have H : (if a1 ≥ 128 then (some (a0_0, a0_1)) else ((impl_Word_or.f a0_0 a0_1 0 0).bind fun bt246 => ((impl_Word_right.f a0_0 a0_1 a1).bind fun bt248 => ((impl_Word_left.f bt248.1 bt248.2 a1).bind fun bt250 => ((impl_Word_without.f bt246.1 bt246.2 bt250.1 bt250.2).bind fun bt252 => (some (bt252.1, bt252.2))))))) = some (r1, r2) := h
 clear h
 by_cases c3 : a1 ≥ 128
 ·rw [if_pos c3] at H
  have c3b0 : decide (128 ≤ a1) = true := decide_eq_true c3
  clear c3
  simp only [Option.some.injEq, Prod.mk.injEq] at H
  obtain ⟨rfl, rfl⟩ := H
  go_enter Tryd.func68, Tryd.ntmps68
  go_wp2_with (first | ((with_reducible refine gate_dst (N := 2) rfl ?_); refine box_event ?hg (N := 2) ?hd (cs := #[.int .u64 a0_0, .int .u64 a0_1]) (t := 25) ?hr ?_; (case hd => rfl); (case hg => rfl); (case hr => first | (go_simp; done) | (go_simp; rfl)); intro gb244 hg w4 hbox hb; have n0_ := Aside0.mk (below_step (by repeat (first | (with_reducible first | exact HB.out | apply below_alloc | apply pw_below_drewN | apply below_drew1) | exact HB.out)) hb); have n1_ := Aside0.mk (hbox); have n2_ := Aside0.mk ((by rw [hg]; exact (below_size (by repeat (first | (with_reducible first | exact HB.out | apply below_alloc | apply pw_below_drewN | apply below_drew1) | exact HB.out))) : w.heap.size ≤ gb244)); have n3_ := Aside0.mk ((by rw [hg]; exact (below_size (by repeat (first | (with_reducible first | exact HB.out | apply below_alloc | apply pw_below_drewN | apply below_drew1) | exact HB.out))) : w.heap.size ≤ gb244)); clear HB; have HB := n0_; have BK244 := n1_; have GW244 := n2_; have GE244 := n3_; clear n0_ n1_ n2_ n3_; clear hb hbox hg) | ((with_reducible refine gate_dst (N := 4) rfl ?_); refine box_event ?hg (N := 4) ?hd (cs := #[.int .u64 0, .int .u64 0]) (t := 25) ?hr ?_; (case hd => rfl); (case hg => rfl); (case hr => first | (go_simp; done) | (go_simp; rfl)); intro gb245 hg w5 hbox hb; have n0_ := Aside0.mk (blk_below (g := gb244) (o := .cells #[.int .u64 a0_0, .int .u64 a0_1] 25 (0, 0)) (by (with_reducible repeat (first | refine blk_drewN ?_ _ | refine blk_drew ?_ | refine blk_alloc ?_ _)); exact BK244.out) hb); have n1_ := Aside0.mk (below_step (by repeat (first | (with_reducible first | exact HB.out | apply below_alloc | apply pw_below_drewN | apply below_drew1 | refine below_set ?_ GE244.out) | exact HB.out)) hb); have n2_ := Aside0.mk (hbox); have n3_ := Aside0.mk ((by rw [hg]; exact (below_size (by repeat (first | (with_reducible first | exact HB.out | apply below_alloc | apply pw_below_drewN | apply below_drew1 | refine below_set ?_ GE244.out) | exact HB.out))) : w.heap.size ≤ gb245)); have n4_ := Aside0.mk ((by rw [hg]; exact (below_size (by repeat (first | (with_reducible first | exact HB.out | apply below_alloc | apply pw_below_drewN | apply below_drew1 | refine below_set ?_ GE244.out) | exact HB.out))) : w.heap.size ≤ gb245)); have n5_ := Aside0.mk ((by rw [hg]; exact Nat.ne_of_lt (blk_lt (g := gb244) (o := .cells #[.int .u64 a0_0, .int .u64 a0_1] 25 (0, 0)) (by (with_reducible repeat (first | refine blk_drewN ?_ _ | refine blk_drew ?_ | refine blk_alloc ?_ _)); exact BK244.out)) : gb244 ≠ gb245)); have n6_ := Aside0.mk ((by rw [hg]; exact Nat.ne_of_gt (blk_lt (g := gb244) (o := .cells #[.int .u64 a0_0, .int .u64 a0_1] 25 (0, 0)) (by (with_reducible repeat (first | refine blk_drewN ?_ _ | refine blk_drew ?_ | refine blk_alloc ?_ _)); exact BK244.out)) : gb245 ≠ gb244)); clear BK244; clear HB; have BK244 := n0_; have HB := n1_; have BK245 := n2_; have GW245 := n3_; have GE245 := n4_; have NB244_245 := n5_; have NB245_244 := n6_; clear n0_ n1_ n2_ n3_ n4_ n5_ n6_; clear hb hbox hg; have hnb6 := NB244_245.out; have hnc6 := NB245_244.out; have hcz7_0 : w5.cell? ⟨gb244, 0, none⟩ = some (.int .u64 a0_0) := (blk_cell BK244.out 0).trans rfl; have hcz7_1 : w5.cell? ⟨gb244, 1, none⟩ = some (.int .u64 a0_1) := (blk_cell BK244.out 1).trans rfl; have hfz7_0 := blk_frozen BK244.out 0; have hfz7_1 := blk_frozen BK244.out 1; have hcz8_0 : w5.cell? ⟨gb245, 0, none⟩ = some (.int .u64 0) := (blk_cell BK245.out 0).trans rfl; have hcz8_1 : w5.cell? ⟨gb245, 1, none⟩ = some (.int .u64 0) := (blk_cell BK245.out 1).trans rfl; have hfz8_0 := blk_frozen BK245.out 0; have hfz8_1 := blk_frozen BK245.out 1))
  refine bodyPost_ret (results_cell_row rfl _ _ gb245 25 #[.int .u64 a0_0, .int .u64 a0_1] (0, 0) _ rfl (by (with_reducible repeat (first | refine blk_drewN ?_ _ | refine blk_drew ?_ | refine blk_alloc ?_ _)); refine blk_put (cs := #[.int .u64 a0_0, .int .u64 0]) ?_ 1 _ rfl; (with_reducible repeat (first | refine blk_drewN ?_ _ | refine blk_drew ?_ | refine blk_alloc ?_ _)); refine blk_put (cs := #[.int .u64 0, .int .u64 0]) ?_ 0 _ rfl; (with_reducible repeat (first | refine blk_drewN ?_ _ | refine blk_drew ?_ | refine blk_alloc ?_ _)); exact BK245.out) Tryd.underlying25 rfl (by kernel_rfl)) rfl ?_
  exact ⟨by first | rfl | (simp [errW_none, errW_some] <;> rfl) | (simp [*, errW_none, errW_some] <;> rfl), by repeat (first | (with_reducible first | exact HB.out | apply below_alloc | apply pw_below_drewN | apply below_drew1 | refine below_set ?_ GE244.out | refine below_set ?_ GE245.out) | exact HB.out)⟩
 ·rw [if_neg c3] at H
  have c3b0 : decide (128 ≤ a1) = false := decide_eq_false c3
  clear c3
  replace H := Option.bind_eq_some_iff.mp H
  obtain ⟨⟨t246, t247⟩, A90, H⟩ := H
  replace H : ((impl_Word_right.f a0_0 a0_1 a1).bind fun bt248 => ((impl_Word_left.f bt248.1 bt248.2 a1).bind fun bt250 => ((impl_Word_without.f t246 t247 bt250.1 bt250.2).bind fun bt252 => (some (bt252.1, bt252.2))))) = some (r1, r2) := H
  have A9 := Aside0.mk A90
  clear A90
  replace H := Option.bind_eq_some_iff.mp H
  obtain ⟨⟨t248, t249⟩, A100, H⟩ := H
  replace H : ((impl_Word_left.f t248 t249 a1).bind fun bt250 => ((impl_Word_without.f t246 t247 bt250.1 bt250.2).bind fun bt252 => (some (bt252.1, bt252.2)))) = some (r1, r2) := H
  have A10 := Aside0.mk A100
  clear A100
  replace H := Option.bind_eq_some_iff.mp H
  obtain ⟨⟨t250, t251⟩, A110, H⟩ := H
  replace H : ((impl_Word_without.f t246 t247 t250 t251).bind fun bt252 => (some (bt252.1, bt252.2))) = some (r1, r2) := H
  have A11 := Aside0.mk A110
  clear A110
  replace H := Option.bind_eq_some_iff.mp H
  obtain ⟨⟨t252, t253⟩, A120, H⟩ := H
  replace H : (some (t252, t253)) = some (r1, r2) := H
  have A12 := Aside0.mk A120
  clear A120
  simp only [Option.some.injEq, Prod.mk.injEq] at H
  obtain ⟨rfl, rfl⟩ := H
  go_enter Tryd.func68, Tryd.ntmps68
  try go_wp2_with (first | ((with_reducible refine gate_dst (N := 2) rfl ?_); refine box_event ?hg (N := 2) ?hd (cs := #[.int .u64 a0_0, .int .u64 a0_1]) (t := 25) ?hr ?_; (case hd => rfl); (case hg => rfl); (case hr => first | (go_simp; done) | (go_simp; rfl)); intro gb244 hg w13 hbox hb; have n0_ := Aside0.mk (below_step (by repeat (first | (with_reducible first | exact HB.out | apply below_alloc | apply pw_below_drewN | apply below_drew1) | exact HB.out)) hb); have n1_ := Aside0.mk (hbox); have n2_ := Aside0.mk ((by rw [hg]; exact (below_size (by repeat (first | (with_reducible first | exact HB.out | apply below_alloc | apply pw_below_drewN | apply below_drew1) | exact HB.out))) : w.heap.size ≤ gb244)); have n3_ := Aside0.mk ((by rw [hg]; exact (below_size (by repeat (first | (with_reducible first | exact HB.out | apply below_alloc | apply pw_below_drewN | apply below_drew1) | exact HB.out))) : w.heap.size ≤ gb244)); clear HB; have HB := n0_; have BK244 := n1_; have GW244 := n2_; have GE244 := n3_; clear n0_ n1_ n2_ n3_; clear hb hbox hg) | ((with_reducible refine gate_dst (N := 4) rfl ?_); refine box_event ?hg (N := 4) ?hd (cs := #[.int .u64 0, .int .u64 0]) (t := 25) ?hr ?_; (case hd => rfl); (case hg => rfl); (case hr => first | (go_simp; done) | (go_simp; rfl)); intro gb245 hg w14 hbox hb; have n0_ := Aside0.mk (blk_below (g := gb244) (o := .cells #[.int .u64 a0_0, .int .u64 a0_1] 25 (0, 0)) (by (with_reducible repeat (first | refine blk_drewN ?_ _ | refine blk_drew ?_ | refine blk_alloc ?_ _)); exact BK244.out) hb); have n1_ := Aside0.mk (below_step (by repeat (first | (with_reducible first | exact HB.out | apply below_alloc | apply pw_below_drewN | apply below_drew1 | refine below_set ?_ GE244.out) | exact HB.out)) hb); have n2_ := Aside0.mk (hbox); have n3_ := Aside0.mk ((by rw [hg]; exact (below_size (by repeat (first | (with_reducible first | exact HB.out | apply below_alloc | apply pw_below_drewN | apply below_drew1 | refine below_set ?_ GE244.out) | exact HB.out))) : w.heap.size ≤ gb245)); have n4_ := Aside0.mk ((by rw [hg]; exact (below_size (by repeat (first | (with_reducible first | exact HB.out | apply below_alloc | apply pw_below_drewN | apply below_drew1 | refine below_set ?_ GE244.out) | exact HB.out))) : w.heap.size ≤ gb245)); have n5_ := Aside0.mk ((by rw [hg]; exact Nat.ne_of_lt (blk_lt (g := gb244) (o := .cells #[.int .u64 a0_0, .int .u64 a0_1] 25 (0, 0)) (by (with_reducible repeat (first | refine blk_drewN ?_ _ | refine blk_drew ?_ | refine blk_alloc ?_ _)); exact BK244.out)) : gb244 ≠ gb245)); have n6_ := Aside0.mk ((by rw [hg]; exact Nat.ne_of_gt (blk_lt (g := gb244) (o := .cells #[.int .u64 a0_0, .int .u64 a0_1] 25 (0, 0)) (by (with_reducible repeat (first | refine blk_drewN ?_ _ | refine blk_drew ?_ | refine blk_alloc ?_ _)); exact BK244.out)) : gb245 ≠ gb244)); clear BK244; clear HB; have BK244 := n0_; have HB := n1_; have BK245 := n2_; have GW245 := n3_; have GE245 := n4_; have NB244_245 := n5_; have NB245_244 := n6_; clear n0_ n1_ n2_ n3_ n4_ n5_ n6_; clear hb hbox hg))
  have n0_ := Aside0.mk (blk_drew BK244.out)
  have n1_ := Aside0.mk (blk_drew BK245.out)
  have n2_ := Aside0.mk (below_drew1 HB.out)
  clear BK244
  clear BK245
  clear HB
  have BK244 := n0_
  have BK245 := n1_
  have HB := n2_
  clear n0_ n1_ n2_
  refine start_ (n := 10) (S := fun w' => w'.cell? ⟨gb244, 0, none⟩ = some (.int .u64 a0_0) ∧ w'.cell? ⟨gb244, 1, none⟩ = some (.int .u64 a0_1)) (ds := []) #[false, false, false, false, false, false, false, false, false, false] (by kernel_rfl) rfl rfl ⟨(blk_cell BK244.out 0).trans rfl, (blk_cell BK244.out 1).trans rfl⟩ (fun hHeld => ?_); refine with_tabW impl_Word_low.tab3 impl_Word_low.bits3 (fun HT_ HW_ => ?_)
  generalize w14.drew = w15 at BK244 BK245 HB hHeld ⊢
  refine pure_ (i := 1) (N := some 9) (v := ?_) (a' := ?_) #[false, true, false, false, false, false, false, false, false, false] rfl rfl (any_of HT_.out (by kernel_rfl)) (fun _ _ _ h => h) (Or.inl ⟨by rfl, ?_⟩) ?_ ?_
  rotate_left
  ·intro w'
   go_simp
   with_reducible rfl
  rotate_left
  ·simp only [Act.put, List.setIfInBounds_toArray, List.set_cons_zero, List.set_cons_succ, i64_w, i32_w]
   rfl
  refine pure_ (i := 4) (N := some 12) (v := ?_) (a' := ?_) #[false, true, false, false, true, false, false, false, false, false] rfl rfl (any_of HT_.out (by kernel_rfl)) (fun _ _ _ h => h) (Or.inl ⟨by rfl, ?_⟩) ?_ ?_
  rotate_left
  ·intro w'
   go_simp
   with_reducible rfl
  rotate_left
  ·simp only [Act.put, List.setIfInBounds_toArray, List.set_cons_zero, List.set_cons_succ, i64_w, i32_w]
   rfl
  refine pure_ (i := 6) (N := some 14) (v := ?_) (a' := ?_) #[false, true, false, false, true, false, true, false, false, false] rfl rfl (any_of HT_.out (by kernel_rfl)) (fun _ _ _ h => h) (Or.inl ⟨by rfl, ?_⟩) ?_ ?_
  rotate_left
  ·intro w'
   go_simp
   with_reducible rfl
  rotate_left
  ·simp only [Act.put, List.setIfInBounds_toArray, List.set_cons_zero, List.set_cons_succ, i64_w, i32_w]
   rfl
  refine take_ (i := 0) (N := some 8) (v := ?_) (a' := ?_) #[true, true, false, false, true, false, true, false, false, false] rfl rfl (take_ofW HT_.out HW_.out (by kernel_rfl)) (fun _ _ _ h => h) (Or.inl ⟨by rfl, ?_⟩) hHeld ?_ ?_
  rotate_left
  ·rintro w' ⟨s0, s1⟩
   go_simp
   with_reducible rfl
  rotate_left
  ·simp only [Act.put, List.setIfInBounds_toArray, List.set_cons_zero, List.set_cons_succ, i64_w, i32_w]
   rfl
  refine take_ (i := 3) (N := some 11) (v := ?_) (a' := ?_) #[true, true, false, true, true, false, true, false, false, false] rfl rfl (take_ofW HT_.out HW_.out (by kernel_rfl)) (fun _ _ _ h => h) (Or.inl ⟨by rfl, ?_⟩) hHeld ?_ ?_
  rotate_left
  ·rintro w' ⟨s0, s1⟩
   go_simp
   with_reducible rfl
  rotate_left
  ·simp only [Act.put, List.setIfInBounds_toArray, List.set_cons_zero, List.set_cons_succ, i64_w, i32_w]
   rfl
  refine one_ (i := 2) (N := some 10) #[true, true, true, true, true, false, true, false, false, false] rfl rfl (one_of HT_.out (by kernel_rfl)) (by decide) (fun K hK => ?_)
  refine goes_ Tryd.func71 (by kernel_rfl) rfl #[.agg #[.int .u64 a0_0, .int .u64 a0_1], .agg #[.int .u64 0, .int .u64 0]] (by rfl) rfl rfl (by (try simp only [List.map_toArray, List.map_cons, List.map_nil]); first | done | rfl | (simp only [List.length_drop, List.length_take]; rfl)) ?_
  with_reducible refine (impl_Word_or.calls a0_0 a0_1 0 0 t246 t247 _ A9.out).mono ?_
  rintro e w16 ⟨rfl, hb⟩
  refine ⟨_, rfl, ?_⟩
  have n0_ := Aside0.mk (blk_below (g := gb244) (o := .cells #[.int .u64 a0_0, .int .u64 a0_1] 25 (0, 0)) (by (with_reducible repeat (first | refine blk_drewN ?_ _ | refine blk_drew ?_ | refine blk_alloc ?_ _)); exact BK244.out) hb)
  have n1_ := Aside0.mk (blk_below (g := gb245) (o := .cells #[.int .u64 0, .int .u64 0] 25 (0, 0)) (by (with_reducible repeat (first | refine blk_drewN ?_ _ | refine blk_drew ?_ | refine blk_alloc ?_ _)); exact BK245.out) hb)
  have n2_ := Aside0.mk (below_step (by repeat (first | (with_reducible first | exact HB.out | apply below_alloc | apply pw_below_drewN | apply below_drew1 | refine below_set ?_ GE244.out | refine below_set ?_ GE245.out) | exact HB.out)) hb)
  clear BK244
  clear BK245
  clear HB
  have BK244 := n0_
  have BK245 := n1_
  have HB := n2_
  clear n0_ n1_ n2_
  (try clear hb)
  (try clear hb2)
  (try clear hk)
  (try clear hi)
  refine hK.out _ _ ⟨(blk_cell BK244.out 0).trans rfl, (blk_cell BK244.out 1).trans rfl⟩ (fun hHeld => ?_)
  clear hK K
  refine norm_ (a' := ?_) ?_ ?_
  rotate_left
  ·show Act.put _ (some 10) _ = _
   simp only [Act.put, List.setIfInBounds_toArray, List.set_cons_zero, List.set_cons_succ, i64_w, i32_w]
   rfl
  refine one_ (i := 5) (N := some 13) #[true, true, true, true, true, true, true, false, false, false] rfl rfl (one_of HT_.out (by kernel_rfl)) (by decide) (fun K hK => ?_)
  refine goes_ Tryd.func66 (by kernel_rfl) rfl #[.agg #[.int .u64 a0_0, .int .u64 a0_1], .int .i64 a1] (by rfl) rfl rfl (by (try simp only [List.map_toArray, List.map_cons, List.map_nil]); first | done | rfl | (simp only [List.length_drop, List.length_take]; rfl)) ?_
  with_reducible refine (impl_Word_right.calls a0_0 a0_1 a1 t248 t249 _ A10.out).mono ?_
  rintro e w17 ⟨rfl, hb⟩
  refine ⟨_, rfl, ?_⟩
  have n0_ := Aside0.mk (blk_below (g := gb244) (o := .cells #[.int .u64 a0_0, .int .u64 a0_1] 25 (0, 0)) (by (with_reducible repeat (first | refine blk_drewN ?_ _ | refine blk_drew ?_ | refine blk_alloc ?_ _)); exact BK244.out) hb)
  have n1_ := Aside0.mk (blk_below (g := gb245) (o := .cells #[.int .u64 0, .int .u64 0] 25 (0, 0)) (by (with_reducible repeat (first | refine blk_drewN ?_ _ | refine blk_drew ?_ | refine blk_alloc ?_ _)); exact BK245.out) hb)
  have n2_ := Aside0.mk (below_step (by repeat (first | (with_reducible first | exact HB.out | apply below_alloc | apply pw_below_drewN | apply below_drew1 | refine below_set ?_ GE244.out | refine below_set ?_ GE245.out) | exact HB.out)) hb)
  clear BK244
  clear BK245
  clear HB
  have BK244 := n0_
  have BK245 := n1_
  have HB := n2_
  clear n0_ n1_ n2_
  (try clear hb)
  (try clear hb2)
  (try clear hk)
  (try clear hi)
  refine hK.out _ _ ⟨(blk_cell BK244.out 0).trans rfl, (blk_cell BK244.out 1).trans rfl⟩ (fun hHeld => ?_)
  clear hK K
  refine norm_ (a' := ?_) ?_ ?_
  rotate_left
  ·show Act.put _ (some 13) _ = _
   simp only [Act.put, List.setIfInBounds_toArray, List.set_cons_zero, List.set_cons_succ, i64_w, i32_w]
   rfl
  refine one_ (i := 7) (N := some 15) #[true, true, true, true, true, true, true, true, false, false] rfl rfl (one_of HT_.out (by kernel_rfl)) (by decide) (fun K hK => ?_)
  refine goes_ Tryd.func80 (by kernel_rfl) rfl #[.agg #[.int .u64 t248, .int .u64 t249], .int .i64 a1] (by rfl) rfl rfl (by (try simp only [List.map_toArray, List.map_cons, List.map_nil]); first | done | rfl | (simp only [List.length_drop, List.length_take]; rfl)) ?_
  with_reducible refine (impl_Word_left.calls t248 t249 a1 t250 t251 _ A11.out).mono ?_
  rintro e w18 ⟨rfl, hb⟩
  refine ⟨_, rfl, ?_⟩
  have n0_ := Aside0.mk (blk_below (g := gb244) (o := .cells #[.int .u64 a0_0, .int .u64 a0_1] 25 (0, 0)) (by (with_reducible repeat (first | refine blk_drewN ?_ _ | refine blk_drew ?_ | refine blk_alloc ?_ _)); exact BK244.out) hb)
  have n1_ := Aside0.mk (blk_below (g := gb245) (o := .cells #[.int .u64 0, .int .u64 0] 25 (0, 0)) (by (with_reducible repeat (first | refine blk_drewN ?_ _ | refine blk_drew ?_ | refine blk_alloc ?_ _)); exact BK245.out) hb)
  have n2_ := Aside0.mk (below_step (by repeat (first | (with_reducible first | exact HB.out | apply below_alloc | apply pw_below_drewN | apply below_drew1 | refine below_set ?_ GE244.out | refine below_set ?_ GE245.out) | exact HB.out)) hb)
  clear BK244
  clear BK245
  clear HB
  have BK244 := n0_
  have BK245 := n1_
  have HB := n2_
  clear n0_ n1_ n2_
  (try clear hb)
  (try clear hb2)
  (try clear hk)
  (try clear hi)
  refine hK.out _ _ ⟨(blk_cell BK244.out 0).trans rfl, (blk_cell BK244.out 1).trans rfl⟩ (fun hHeld => ?_)
  clear hK K
  refine norm_ (a' := ?_) ?_ ?_
  rotate_left
  ·show Act.put _ (some 15) _ = _
   simp only [Act.put, List.setIfInBounds_toArray, List.set_cons_zero, List.set_cons_succ, i64_w, i32_w]
   rfl
  refine one_ (i := 8) (N := some 16) #[true, true, true, true, true, true, true, true, true, false] rfl rfl (one_of HT_.out (by kernel_rfl)) (by decide) (fun K hK => ?_)
  refine goes_ Tryd.func124 (by kernel_rfl) rfl #[.agg #[.int .u64 t246, .int .u64 t247], .agg #[.int .u64 t250, .int .u64 t251]] (by rfl) rfl rfl (by (try simp only [List.map_toArray, List.map_cons, List.map_nil]); first | done | rfl | (simp only [List.length_drop, List.length_take]; rfl)) ?_
  with_reducible refine (impl_Word_without.calls t246 t247 t250 t251 t252 t253 _ A12.out).mono ?_
  rintro e w19 ⟨rfl, hb⟩
  refine ⟨_, rfl, ?_⟩
  have n0_ := Aside0.mk (blk_below (g := gb244) (o := .cells #[.int .u64 a0_0, .int .u64 a0_1] 25 (0, 0)) (by (with_reducible repeat (first | refine blk_drewN ?_ _ | refine blk_drew ?_ | refine blk_alloc ?_ _)); exact BK244.out) hb)
  have n1_ := Aside0.mk (blk_below (g := gb245) (o := .cells #[.int .u64 0, .int .u64 0] 25 (0, 0)) (by (with_reducible repeat (first | refine blk_drewN ?_ _ | refine blk_drew ?_ | refine blk_alloc ?_ _)); exact BK245.out) hb)
  have n2_ := Aside0.mk (below_step (by repeat (first | (with_reducible first | exact HB.out | apply below_alloc | apply pw_below_drewN | apply below_drew1 | refine below_set ?_ GE244.out | refine below_set ?_ GE245.out) | exact HB.out)) hb)
  clear BK244
  clear BK245
  clear HB
  have BK244 := n0_
  have BK245 := n1_
  have HB := n2_
  clear n0_ n1_ n2_
  (try clear hb)
  (try clear hb2)
  (try clear hk)
  (try clear hi)
  refine hK.out _ _ ⟨(blk_cell BK244.out 0).trans rfl, (blk_cell BK244.out 1).trans rfl⟩ (fun hHeld => ?_)
  clear hK K
  refine norm_ (a' := ?_) ?_ ?_
  rotate_left
  ·show Act.put _ (some 16) _ = _
   simp only [Act.put, List.setIfInBounds_toArray, List.set_cons_zero, List.set_cons_succ, i64_w, i32_w]
   rfl
  refine one_ (i := 9) (N := none) #[true, true, true, true, true, true, true, true, true, true] rfl rfl (one_of HT_.out (by kernel_rfl)) (by decide) (fun K hK => ?_)
  have hs20 : w19.cell? ⟨gb245, 0, none⟩ = some (.int .u64 0) := (blk_cell BK245.out 0).trans rfl
  have hfs20 := blk_frozen BK245.out 0
  have hns20_0 := NB244_245.out
  have hms20_0 := NB245_244.out
  have hs21 : w19.cell? ⟨gb245, 1, none⟩ = some (.int .u64 0) := (blk_cell BK245.out 1).trans rfl
  have hfs21 := blk_frozen BK245.out 1
  have hns21_0 := NB244_245.out
  have hms21_0 := NB245_244.out
  refine skip_ (w1 := ?_) (by rfl) rfl ?_ ?_
  rotate_left
  ·go_simp
   rfl
  refine hK.out _ _ ⟨((cell_far (p := ⟨gb245, _, none⟩) NB244_245.out _).trans (((cell_far (p := ⟨gb245, _, none⟩) NB244_245.out _).trans (hHeld.1)))), ((cell_far (p := ⟨gb245, _, none⟩) NB244_245.out _).trans (((cell_far (p := ⟨gb245, _, none⟩) NB244_245.out _).trans (hHeld.2))))⟩ (fun hHeld => ?_)
  clear hK K
  refine done_ (done_of HT_.out (by kernel_rfl)) ?_
  try go_wp2
  refine bodyPost_ret (results_cell_row rfl _ _ gb245 25 #[.int .u64 t252, .int .u64 t253] (0, 0) _ rfl (by (with_reducible repeat (first | refine blk_drewN ?_ _ | refine blk_drew ?_ | refine blk_alloc ?_ _)); refine blk_put (cs := #[.int .u64 t252, .int .u64 0]) ?_ 1 _ rfl; (with_reducible repeat (first | refine blk_drewN ?_ _ | refine blk_drew ?_ | refine blk_alloc ?_ _)); refine blk_put (cs := #[.int .u64 0, .int .u64 0]) ?_ 0 _ rfl; (with_reducible repeat (first | refine blk_drewN ?_ _ | refine blk_drew ?_ | refine blk_alloc ?_ _)); exact BK245.out) Tryd.underlying25 rfl (by kernel_rfl)) rfl ?_
  exact ⟨by first | rfl | (simp [errW_none, errW_some] <;> rfl) | (simp [*, errW_none, errW_some] <;> rfl), by repeat (first | (with_reducible first | exact HB.out | apply below_alloc | apply pw_below_drewN | apply below_drew1 | refine below_set ?_ GE244.out | refine below_set ?_ GE245.out) | exact HB.out)⟩
def impl_layout_top.f (a0_0 : Int) (a0_1 : Int) (a0_2 : Int) (a0_3 : Int) (a0_4 : Int) (a0_5 : Bool) : Option (Int) := if 0 ≤ a0_4 then (some (wrap64 ((shl .i64 1 a0_4) - 1))) else (none)
set_option maxHeartbeats 8000000 in
set_option maxRecDepth 100000 in
theorem impl_layout_top.calls (a0_0 : Int) (a0_1 : Int) (a0_2 : Int) (a0_3 : Int) (a0_4 : Int) (a0_5 : Bool) (r : Int) (w : World) (h : impl_layout_top.f a0_0 a0_1 a0_2 a0_3 a0_4 a0_5 = some r) :
  Calls Tryd.prog 69 #[.agg #[.int .i64 a0_0, .int .i64 a0_1, .int .i64 a0_2, .int .i64 a0_3, .int .i64 a0_4, .bool a0_5]] w fun e w' => e = .returned (.int .i64 r) ∧ Below w.heap.size w w' := by
 have hu91 := Tryd.underlying91
 have HB := Aside0.mk (Below.refl w.heap.size w)
 have H : (if 0 ≤ a0_4 then (some (wrap64 ((shl .i64 1 a0_4) - 1))) else (none)) = some r := h
 clear h
 by_cases c2 : 0 ≤ a0_4
 ·rw [if_pos c2] at H
  have c2b0 := eq_true c2
  have c2b1 : decide (0 ≤ a0_4) = true := decide_eq_true c2
  clear c2
  obtain ⟨ji3, hji3⟩ : ∃ j_ : Int, (shl .i64 1 a0_4) = j_ := ⟨_, rfl⟩
  replace H : (some (wrap64 ((ji3) - 1))) = some r := by first | (rw [hji3] at H; exact H) | (simp only [hji3] at H ⊢; exact H)
  have hji3_ : (IntKind.i64.wrap (1 * 2 ^ min a0_4.toNat 64)) = ji3 := hji3
  have hji3z : a0_4 ≤ 64 → (IntKind.i64.wrap (1 * 2 ^ a0_4.toNat)) = ji3 := shl_small hji3
  have hji3u : (IntKind.i64.wrap (2 ^ min a0_4.toNat 64)) = ji3 := by have h_ := hji3_; rw [Int.one_mul] at h_; exact h_
  have hji3v : a0_4 ≤ 64 → (IntKind.i64.wrap (2 ^ a0_4.toNat)) = ji3 := fun hle_ => by have h_ := hji3z hle_; rw [Int.one_mul] at h_; exact h_
  have hji3y : (wrap64 (1 * 2 ^ min a0_4.toNat 64)) = ji3 := (i64_w _).symm.trans hji3_
  have hji3x : a0_4 ≤ 64 → (wrap64 (1 * 2 ^ a0_4.toNat)) = ji3 := fun h_ => (i64_w _).symm.trans (hji3z h_)
  obtain rfl := Option.some.inj H
  go_enter Tryd.func69, Tryd.ntmps69
  go_wp2_with (first | ((with_reducible refine gate_dst (N := 1) rfl ?_); refine box_event ?hg (N := 1) ?hd (cs := #[.int .i64 a0_0, .int .i64 a0_1, .int .i64 a0_2, .int .i64 a0_3, .int .i64 a0_4, .bool a0_5]) (t := 91) ?hr ?_; (case hd => rfl); (case hg => rfl); (case hr => first | (go_simp; done) | (go_simp; rfl)); intro gb254 hg w4 hbox hb; have n0_ := Aside0.mk (below_step (by repeat (first | (with_reducible first | exact HB.out | apply below_alloc | apply pw_below_drewN | apply below_drew1) | exact HB.out)) hb); have n1_ := Aside0.mk (hbox); have n2_ := Aside0.mk ((by rw [hg]; exact (below_size (by repeat (first | (with_reducible first | exact HB.out | apply below_alloc | apply pw_below_drewN | apply below_drew1) | exact HB.out))) : w.heap.size ≤ gb254)); have n3_ := Aside0.mk ((by rw [hg]; exact (below_size (by repeat (first | (with_reducible first | exact HB.out | apply below_alloc | apply pw_below_drewN | apply below_drew1) | exact HB.out))) : w.heap.size ≤ gb254)); clear HB; have HB := n0_; have BK254 := n1_; have GW254 := n2_; have GE254 := n3_; clear n0_ n1_ n2_ n3_; clear hb hbox hg; have hcz5_0 : w4.cell? ⟨gb254, 0, none⟩ = some (.int .i64 a0_0) := (blk_cell BK254.out 0).trans rfl; have hcz5_1 : w4.cell? ⟨gb254, 1, none⟩ = some (.int .i64 a0_1) := (blk_cell BK254.out 1).trans rfl; have hcz5_2 : w4.cell? ⟨gb254, 2, none⟩ = some (.int .i64 a0_2) := (blk_cell BK254.out 2).trans rfl; have hcz5_3 : w4.cell? ⟨gb254, 3, none⟩ = some (.int .i64 a0_3) := (blk_cell BK254.out 3).trans rfl; have hcz5_4 : w4.cell? ⟨gb254, 4, none⟩ = some (.int .i64 a0_4) := (blk_cell BK254.out 4).trans rfl; have hcz5_5 : w4.cell? ⟨gb254, 5, none⟩ = some (.bool a0_5) := (blk_cell BK254.out 5).trans rfl; have hfz5_0 := blk_frozen BK254.out 0; have hfz5_1 := blk_frozen BK254.out 1; have hfz5_2 := blk_frozen BK254.out 2; have hfz5_3 := blk_frozen BK254.out 3; have hfz5_4 := blk_frozen BK254.out 4; have hfz5_5 := blk_frozen BK254.out 5))
  go_ret
  exact ⟨by first | rfl | (simp [errW_none, errW_some] <;> rfl) | (simp only [← hji3]; first | rfl | (simp [errW_none, errW_some] <;> rfl)) | (simp [*, errW_none, errW_some] <;> rfl), by repeat (first | (with_reducible first | exact HB.out | apply below_alloc | apply pw_below_drewN | apply below_drew1 | refine below_set ?_ GE254.out) | exact HB.out)⟩
 ·rw [if_neg c2] at H
  exact absurd H (by simp)
def impl_layout_qMin.f (a0_0 : Int) (a0_1 : Int) (a0_2 : Int) (a0_3 : Int) (a0_4 : Int) (a0_5 : Bool) : Option (Int) := some (wrap64 ((wrap64 (a0_1 - a0_0)) + 1))
set_option maxHeartbeats 8000000 in
set_option maxRecDepth 100000 in
theorem impl_layout_qMin.calls (a0_0 : Int) (a0_1 : Int) (a0_2 : Int) (a0_3 : Int) (a0_4 : Int) (a0_5 : Bool) (r : Int) (w : World) (h : impl_layout_qMin.f a0_0 a0_1 a0_2 a0_3 a0_4 a0_5 = some r) :
  Calls Tryd.prog 70 #[.agg #[.int .i64 a0_0, .int .i64 a0_1, .int .i64 a0_2, .int .i64 a0_3, .int .i64 a0_4, .bool a0_5]] w fun e w' => e = .returned (.int .i64 r) ∧ Below w.heap.size w w' := by
 have hu91 := Tryd.underlying91
 have HB := Aside0.mk (Below.refl w.heap.size w)
 have H : (some (wrap64 ((wrap64 (a0_1 - a0_0)) + 1))) = some r := h
 clear h
 obtain rfl := Option.some.inj H
 go_enter Tryd.func70, Tryd.ntmps70
 go_wp2_with (first | ((with_reducible refine gate_dst (N := 1) rfl ?_); refine box_event ?hg (N := 1) ?hd (cs := #[.int .i64 a0_0, .int .i64 a0_1, .int .i64 a0_2, .int .i64 a0_3, .int .i64 a0_4, .bool a0_5]) (t := 91) ?hr ?_; (case hd => rfl); (case hg => rfl); (case hr => first | (go_simp; done) | (go_simp; rfl)); intro gb255 hg w2 hbox hb; have n0_ := Aside0.mk (below_step (by repeat (first | (with_reducible first | exact HB.out | apply below_alloc | apply pw_below_drewN | apply below_drew1) | exact HB.out)) hb); have n1_ := Aside0.mk (hbox); have n2_ := Aside0.mk ((by rw [hg]; exact (below_size (by repeat (first | (with_reducible first | exact HB.out | apply below_alloc | apply pw_below_drewN | apply below_drew1) | exact HB.out))) : w.heap.size ≤ gb255)); have n3_ := Aside0.mk ((by rw [hg]; exact (below_size (by repeat (first | (with_reducible first | exact HB.out | apply below_alloc | apply pw_below_drewN | apply below_drew1) | exact HB.out))) : w.heap.size ≤ gb255)); clear HB; have HB := n0_; have BK255 := n1_; have GW255 := n2_; have GE255 := n3_; clear n0_ n1_ n2_ n3_; clear hb hbox hg; have hcz3_0 : w2.cell? ⟨gb255, 0, none⟩ = some (.int .i64 a0_0) := (blk_cell BK255.out 0).trans rfl; have hcz3_1 : w2.cell? ⟨gb255, 1, none⟩ = some (.int .i64 a0_1) := (blk_cell BK255.out 1).trans rfl; have hcz3_2 : w2.cell? ⟨gb255, 2, none⟩ = some (.int .i64 a0_2) := (blk_cell BK255.out 2).trans rfl; have hcz3_3 : w2.cell? ⟨gb255, 3, none⟩ = some (.int .i64 a0_3) := (blk_cell BK255.out 3).trans rfl; have hcz3_4 : w2.cell? ⟨gb255, 4, none⟩ = some (.int .i64 a0_4) := (blk_cell BK255.out 4).trans rfl; have hcz3_5 : w2.cell? ⟨gb255, 5, none⟩ = some (.bool a0_5) := (blk_cell BK255.out 5).trans rfl; have hfz3_0 := blk_frozen BK255.out 0; have hfz3_1 := blk_frozen BK255.out 1; have hfz3_2 := blk_frozen BK255.out 2; have hfz3_3 := blk_frozen BK255.out 3; have hfz3_4 := blk_frozen BK255.out 4; have hfz3_5 := blk_frozen BK255.out 5))
 go_ret
 exact ⟨by first | rfl | (simp [errW_none, errW_some] <;> rfl) | (simp [*, errW_none, errW_some] <;> rfl), by repeat (first | (with_reducible first | exact HB.out | apply below_alloc | apply pw_below_drewN | apply below_drew1 | refine below_set ?_ GE255.out) | exact HB.out)⟩
end Go.Proofs.YtdbnmdchecacdaaDoor.PU
end
section
namespace Go.Proofs.YtdbnmdchecacdaaDoor.M
open Go.RowKit Go.Proofs.YtdbnmdchecacdaaDoor.G Go.Proofs.YtdbnmdchecacdaaDoorV.PrintWords Go.Proofs.YtdbnmdchecacdaaDoorV.PrintLast Go.Proofs.YtdbnmdchecacdaaDoorV.PrintMore Go.Proofs.YtdbnmdchecacdaaDoor.PU
set_option linter.unusedVariables false
set_option linter.unusedSimpArgs false
def hiI (w : Nat) : Int := ((w / 18446744073709551616 : Nat) : Int)
def loI (w : Nat) : Int := ((w % 18446744073709551616 : Nat) : Int)
abbrev B128 : Nat := 340282366920938463463374607431768211456
theorem hi_lt {w : Nat} (h : w < B128) : w / 18446744073709551616 < 18446744073709551616 := by unfold B128 at h; omega
theorem lo_lt (w : Nat) : w % 18446744073709551616 < 18446744073709551616 := by omega
theorem wordI_of (hi lo : Nat) (hl : lo < 18446744073709551616) : hiI (hi * 18446744073709551616 + lo) = (hi : Int) ∧ loI (hi * 18446744073709551616 + lo) = (lo : Int) := by
  unfold hiI loI
  constructor <;> omega
theorem wsubK (K a : Nat) (h : a ≤ K) (hK : K ≤ 1000) : wrap64 ((K : Int) - (a : Int)) = ((K - a : Nat) : Int) := by rw [wrap64_id (by omega)]; omega
theorem wsub64' (a : Nat) (h : a ≤ 64) : wrap64 (64 - (a : Int)) = ((64 - a : Nat) : Int) := wsubK 64 a h (by decide)
theorem wsubA64 (a : Nat) (h : 64 ≤ a) (hK : a ≤ 1000) : wrap64 ((a : Int) - 64) = ((a - 64 : Nat) : Int) := by rw [wrap64_id (by omega)]; omega
theorem pow64 : (18446744073709551616 : Nat) = 2 ^ 64 := rfl
theorem split_div (w n : Nat) (hn : n < 64) : w / 2 ^ n / 18446744073709551616 = w / 18446744073709551616 / 2 ^ n ∧ w / 2 ^ n % 18446744073709551616 = w % 18446744073709551616 / 2 ^ n + w / 18446744073709551616 * 2 ^ (64 - n) % 18446744073709551616 := by
  have hp : 0 < 2 ^ n := Nat.pow_pos (by decide)
  have e64 : (18446744073709551616 : Nat) = 2 ^ (64 - n) * 2 ^ n := by rw [← Nat.pow_add, show 64 - n + n = 64 by omega]
  have h1 : w / 2 ^ n / 18446744073709551616 = w / 18446744073709551616 / 2 ^ n := by rw [Nat.div_div_eq_div_mul, Nat.div_div_eq_div_mul, Nat.mul_comm]
  refine ⟨h1, ?_⟩
  have hdm := Nat.div_add_mod w 18446744073709551616
  generalize hH : w / 18446744073709551616 = H at *
  generalize hL : w % 18446744073709551616 = L at *
  have hLl : L < 18446744073709551616 := by rw [← hL]; exact Nat.mod_lt _ (by decide)
  have h2 : w / 2 ^ n = L / 2 ^ n + H * 2 ^ (64 - n) := by
    rw [← hdm, e64, show 2 ^ (64 - n) * 2 ^ n * H + L = L + 2 ^ n * (H * 2 ^ (64 - n)) by rw [Nat.mul_comm (2 ^ (64 - n)), Nat.mul_assoc, Nat.mul_comm (2 ^ (64 - n)) H]; omega, Nat.add_mul_div_left _ _ hp]
  rw [h2]
  have h3 : L / 2 ^ n < 2 ^ (64 - n) := by rw [Nat.div_lt_iff_lt_mul hp, ← e64]; exact hLl
  have h4 : H * 2 ^ (64 - n) % 18446744073709551616 = H % 2 ^ n * 2 ^ (64 - n) := by
    rw [show (18446744073709551616 : Nat) = 2 ^ n * 2 ^ (64 - n) by rw [Nat.mul_comm]; exact e64, Nat.mul_mod_mul_right]
  have h5 : H % 2 ^ n * 2 ^ (64 - n) + 2 ^ (64 - n) ≤ 18446744073709551616 := by
    have := Nat.mul_le_mul_right (2 ^ (64 - n)) (show H % 2 ^ n + 1 ≤ 2 ^ n from Nat.mod_lt _ hp)
    rw [Nat.add_mul, Nat.one_mul, Nat.mul_comm (2 ^ n)] at this
    rwa [← e64] at this
  rw [Nat.add_mod, h4, Nat.mod_eq_of_lt (show L / 2 ^ n < 18446744073709551616 by omega), Nat.mod_eq_of_lt (by omega)]
theorem right_eq (w n : Nat) (hw : w < B128) (hn : n ≤ 1000) : impl_Word_right.f (hiI w) (loI w) (n : Int) = some (hiI (w / 2 ^ n), loI (w / 2 ^ n)) := by
  have hh := hi_lt hw
  unfold impl_Word_right.f
  by_cases h0 : n = 0
  · subst h0
    rw [if_pos (by rfl), Nat.pow_zero, Nat.div_one]
  have c0 : ¬ (n : Int) = 0 := by omega
  rw [if_neg c0]
  by_cases h1 : 128 ≤ n
  · have c1 : (n : Int) ≥ 128 := by omega
    have hz : w / 2 ^ n = 0 := Nat.div_eq_of_lt (Nat.lt_of_lt_of_le hw (Nat.pow_le_pow_right (n := 2) (by decide) h1))
    rw [if_pos c1, hz]
    rfl
  have c1 : ¬ (n : Int) ≥ 128 := by omega
  rw [if_neg c1]
  by_cases h2 : 64 ≤ n
  · have c2 : (n : Int) ≥ 64 := by omega
    have e1 : w / 2 ^ n = w / 18446744073709551616 / 2 ^ (n - 64) := by
      rw [Nat.div_div_eq_div_mul, pow64, ← Nat.pow_add, show 64 + (n - 64) = n by omega]
    have hs : w / 18446744073709551616 / 2 ^ (n - 64) < 18446744073709551616 := Nat.lt_of_le_of_lt (Nat.div_le_self _ _) hh
    rw [if_pos c2, wsubA64 n h2 (by omega), if_pos (Int.natCast_nonneg _), e1]
    unfold hiI loI
    rw [shr_nat _ _ (by omega), Nat.div_eq_of_lt hs, Nat.mod_eq_of_lt hs]
    rfl
  · have c2 : ¬ (n : Int) ≥ 64 := by omega
    obtain ⟨s1, s2⟩ := split_div w n (by omega)
    have hp : 0 < 2 ^ n := Nat.pow_pos (by decide)
    have e64 : (18446744073709551616 : Nat) = 2 ^ (64 - n) * 2 ^ n := by rw [← Nat.pow_add, show 64 - n + n = 64 by omega]
    have hl : w % 18446744073709551616 / 2 ^ n < 2 ^ (64 - n) := by rw [Nat.div_lt_iff_lt_mul hp, ← e64]; exact lo_lt w
    have hd : 2 ^ (64 - n) ∣ w / 18446744073709551616 * 2 ^ (64 - n) % 18446744073709551616 := (Nat.dvd_mod_iff (by rw [e64]; exact Nat.dvd_mul_right _ _)).2 (Nat.dvd_mul_left _ _)
    rw [if_neg c2, if_pos (Int.natCast_nonneg _), wsub64' n (by omega), if_pos (Int.natCast_nonneg _)]
    unfold hiI loI
    rw [shr_nat _ _ (by omega), shr_nat _ _ (by omega), shl_nat _ _ (by omega), or_nat' (64 - n) _ _ (by omega) (Nat.mod_lt _ (by decide)) hd hl, s1, s2]
theorem mul_split (w n : Nat) (hn : n < 64) : (w * 2 ^ n) % B128 / 18446744073709551616 = w / 18446744073709551616 * 2 ^ n % 18446744073709551616 + w % 18446744073709551616 / 2 ^ (64 - n) ∧ (w * 2 ^ n) % B128 % 18446744073709551616 = w % 18446744073709551616 * 2 ^ n % 18446744073709551616 := by
  have hp : 0 < 2 ^ n := Nat.pow_pos (by decide)
  have e64 : (18446744073709551616 : Nat) = 2 ^ (64 - n) * 2 ^ n := by rw [← Nat.pow_add, show 64 - n + n = 64 by omega]
  have hdm := Nat.div_add_mod w 18446744073709551616
  generalize hH : w / 18446744073709551616 = H at *
  generalize hL : w % 18446744073709551616 = L at *
  have hLl : L < 18446744073709551616 := by rw [← hL]; exact Nat.mod_lt _ (by decide)
  have hB : B128 = 18446744073709551616 * 18446744073709551616 := rfl
  have h1 : w * 2 ^ n = 18446744073709551616 * (H * 2 ^ n) + L * 2 ^ n := by rw [← hdm, Nat.add_mul, Nat.mul_assoc]
  have h2 : L * 2 ^ n / 18446744073709551616 = L / 2 ^ (64 - n) := by
    rw [e64, Nat.mul_div_mul_right _ _ hp]
  have h3 : L / 2 ^ (64 - n) < 2 ^ n := by rw [Nat.div_lt_iff_lt_mul (Nat.pow_pos (by decide)), Nat.mul_comm, ← e64]; exact hLl
  have h4 : w * 2 ^ n / 18446744073709551616 = H * 2 ^ n + L / 2 ^ (64 - n) := by
    rw [h1, Nat.mul_add_div (by decide), h2]
  have h5 : H * 2 ^ n % 18446744073709551616 + 2 ^ n ≤ 18446744073709551616 := by
    have e : H * 2 ^ n % 18446744073709551616 = H % 2 ^ (64 - n) * 2 ^ n := by rw [show (18446744073709551616 : Nat) = 2 ^ (64 - n) * 2 ^ n from e64, Nat.mul_mod_mul_right]
    rw [e]
    have := Nat.mul_le_mul_right (2 ^ n) (show H % 2 ^ (64 - n) + 1 ≤ 2 ^ (64 - n) from Nat.mod_lt _ (Nat.pow_pos (by decide)))
    rw [Nat.add_mul, Nat.one_mul] at this
    rwa [← e64] at this
  constructor
  · rw [hB, Nat.mod_mul_right_div_self, h4, Nat.add_mod, Nat.mod_eq_of_lt (show L / 2 ^ (64 - n) < 18446744073709551616 by omega), Nat.mod_eq_of_lt (by omega)]
  · rw [hB, Nat.mod_mul_right_mod, h1, Nat.mul_add_mod]
theorem left_eq (w n : Nat) (hw : w < B128) (hn : n < 128) : impl_Word_left.f (hiI w) (loI w) (n : Int) = some (hiI (w * 2 ^ n % B128), loI (w * 2 ^ n % B128)) := by
  have hh := hi_lt hw
  unfold impl_Word_left.f
  by_cases h0 : n = 0
  · subst h0
    rw [if_pos (by rfl), Nat.pow_zero, Nat.mul_one, Nat.mod_eq_of_lt hw]
  have c0 : ¬ (n : Int) = 0 := by omega
  rw [if_neg c0]
  by_cases h2 : 64 ≤ n
  · have c2 : (n : Int) ≥ 64 := by omega
    have hdm := Nat.div_add_mod w 18446744073709551616
    have e1 : w * 2 ^ n % B128 = (w % 18446744073709551616 * 2 ^ (n - 64) % 18446744073709551616) * 18446744073709551616 := by
      have e2 : 2 ^ n = 2 ^ (n - 64) * 18446744073709551616 := by rw [pow64, ← Nat.pow_add, show n - 64 + 64 = n by omega]
      rw [e2, ← Nat.mul_assoc, show B128 = 18446744073709551616 * 18446744073709551616 from rfl, Nat.mul_mod_mul_right]
      congr 1
      rw [Nat.mul_mod (w % 18446744073709551616), Nat.mod_mod, ← Nat.mul_mod]
    rw [if_pos c2, wsubA64 n h2 (by omega), if_pos (Int.natCast_nonneg _), e1]
    unfold hiI loI
    rw [shl_nat _ _ (by omega), Nat.mul_div_cancel _ (by decide), Nat.mul_mod_left]
    rfl
  · have c2 : ¬ (n : Int) ≥ 64 := by omega
    obtain ⟨s1, s2⟩ := mul_split w n (by omega)
    have hp : 0 < 2 ^ n := Nat.pow_pos (by decide)
    have e64 : (18446744073709551616 : Nat) = 2 ^ (64 - n) * 2 ^ n := by rw [← Nat.pow_add, show 64 - n + n = 64 by omega]
    have hl : w % 18446744073709551616 / 2 ^ (64 - n) < 2 ^ n := by rw [Nat.div_lt_iff_lt_mul (Nat.pow_pos (by decide)), Nat.mul_comm, ← e64]; exact lo_lt w
    have hd : 2 ^ n ∣ w / 18446744073709551616 * 2 ^ n % 18446744073709551616 := (Nat.dvd_mod_iff (by rw [e64]; exact Nat.dvd_mul_left _ _)).2 (Nat.dvd_mul_left _ _)
    rw [if_neg c2, if_pos (Int.natCast_nonneg _), wsub64' n (by omega), if_pos (Int.natCast_nonneg _)]
    unfold hiI loI
    rw [shl_nat _ _ (by omega), shr_nat _ _ (by omega), shl_nat _ _ (by omega), or_nat n _ _ (by omega) (Nat.mod_lt _ (by decide)) hd hl, s1, s2]
end Go.Proofs.YtdbnmdchecacdaaDoor.M
end
section
namespace Go.Proofs.YtdbnmdchecacdaaDoor.PU
open Go.RowKit Go.Proofs.YtdbnmdchecacdaaDoor.G Go.Proofs.YtdbnmdchecacdaaDoorV.PrintWords Go.Proofs.YtdbnmdchecacdaaDoorV.PrintLast Go.Proofs.YtdbnmdchecacdaaDoorV.PrintMore
attribute [local go_sem] max2_int min2_int max_two min_two max_three min_three max_four min_four run_Add64 run_Sub64 fld25_1
set_option linter.unusedVariables false
set_option linter.unusedSimpArgs false
def impl_one.f (a0 : Int) : Option (Int × Int) := if a0 ≥ 64 then (if 0 ≤ (wrap64 (a0 - 64)) then (some (shl .u64 1 (wrap64 (a0 - 64)), 0)) else (none)) else (if 0 ≤ a0 then (some (0, shl .u64 1 a0)) else (none))
set_option maxHeartbeats 8000000 in
set_option maxRecDepth 100000 in
theorem impl_one.calls (a0 : Int) (r1 : Int) (r2 : Int) (w : World) (h : impl_one.f a0 = some (r1, r2)) :
  Calls Tryd.prog 72 #[.int .i64 a0] w fun e w' => e = .returned (.agg #[.int .u64 r1, .int .u64 r2]) ∧ Below w.heap.size w w' := by
 have hu25 := Tryd.underlying25
 have HB := Aside0.mk (Below.refl w.heap.size w)
 have H : (if a0 ≥ 64 then (if 0 ≤ (wrap64 (a0 - 64)) then (some (shl .u64 1 (wrap64 (a0 - 64)), 0)) else (none)) else (if 0 ≤ a0 then (some (0, shl .u64 1 a0)) else (none))) = some (r1, r2) := h
 clear h
 by_cases c2 : a0 ≥ 64
 ·rw [if_pos c2] at H
  have c2b0 : decide (64 ≤ a0) = true := decide_eq_true c2
  clear c2
  obtain ⟨ji3, hji3⟩ : ∃ j_ : Int, (wrap64 (a0 - 64)) = j_ := ⟨_, rfl⟩
  replace H : (if 0 ≤ (ji3) then (some (shl .u64 1 (ji3), 0)) else (none)) = some (r1, r2) := by first | (rw [hji3] at H; exact H) | (simp only [hji3] at H ⊢; exact H)
  have hji3w : (IntKind.i64.wrap (a0 - 64)) = ji3 := (i64_w _).trans hji3
  by_cases c4 : 0 ≤ (ji3)
  ·rw [if_pos c4] at H
   have c4b0 := eq_true c4
   have c4b1 : decide (0 ≤ (ji3)) = true := decide_eq_true c4
   clear c4
   obtain ⟨ji5, hji5⟩ : ∃ j_ : Int, (shl .u64 1 (ji3)) = j_ := ⟨_, rfl⟩
   replace H : (some (ji5, 0)) = some (r1, r2) := by first | (rw [hji5] at H; exact H) | (simp only [hji5] at H ⊢; exact H)
   have hji5_ : (IntKind.u64.wrap (1 * 2 ^ min (ji3).toNat 64)) = ji5 := hji5
   have hji5z : (ji3) ≤ 64 → (IntKind.u64.wrap (1 * 2 ^ (ji3).toNat)) = ji5 := shl_small hji5
   have hji5u : (IntKind.u64.wrap (2 ^ min (ji3).toNat 64)) = ji5 := by have h_ := hji5_; rw [Int.one_mul] at h_; exact h_
   have hji5v : (ji3) ≤ 64 → (IntKind.u64.wrap (2 ^ (ji3).toNat)) = ji5 := fun hle_ => by have h_ := hji5z hle_; rw [Int.one_mul] at h_; exact h_
   simp only [Option.some.injEq, Prod.mk.injEq] at H
   obtain ⟨rfl, rfl⟩ := H
   go_enter Tryd.func72, Tryd.ntmps72
   go_wp2_with (first | ((with_reducible refine gate_dst (N := 2) rfl ?_); refine box_event ?hg (N := 2) ?hd (cs := #[.int .u64 0, .int .u64 0]) (t := 25) ?hr ?_; (case hd => rfl); (case hg => rfl); (case hr => first | (go_simp; done) | (go_simp; rfl)); intro gb256 hg w6 hbox hb; have n0_ := Aside0.mk (below_step (by repeat (first | (with_reducible first | exact HB.out | apply below_alloc | apply pw_below_drewN | apply below_drew1) | exact HB.out)) hb); have n1_ := Aside0.mk (hbox); have n2_ := Aside0.mk ((by rw [hg]; exact (below_size (by repeat (first | (with_reducible first | exact HB.out | apply below_alloc | apply pw_below_drewN | apply below_drew1) | exact HB.out))) : w.heap.size ≤ gb256)); have n3_ := Aside0.mk ((by rw [hg]; exact (below_size (by repeat (first | (with_reducible first | exact HB.out | apply below_alloc | apply pw_below_drewN | apply below_drew1) | exact HB.out))) : w.heap.size ≤ gb256)); clear HB; have HB := n0_; have BK256 := n1_; have GW256 := n2_; have GE256 := n3_; clear n0_ n1_ n2_ n3_; clear hb hbox hg; have hcz7_0 : w6.cell? ⟨gb256, 0, none⟩ = some (.int .u64 0) := (blk_cell BK256.out 0).trans rfl; have hcz7_1 : w6.cell? ⟨gb256, 1, none⟩ = some (.int .u64 0) := (blk_cell BK256.out 1).trans rfl; have hfz7_0 := blk_frozen BK256.out 0; have hfz7_1 := blk_frozen BK256.out 1))
   refine bodyPost_ret (results_cell_row rfl _ _ gb256 25 #[.int .u64 ji5, .int .u64 0] (0, 0) _ rfl (by (with_reducible repeat (first | refine blk_drewN ?_ _ | refine blk_drew ?_ | refine blk_alloc ?_ _)); refine blk_put (cs := #[.int .u64 ji5, .int .u64 0]) ?_ 1 _ rfl; (with_reducible repeat (first | refine blk_drewN ?_ _ | refine blk_drew ?_ | refine blk_alloc ?_ _)); refine blk_put (cs := #[.int .u64 0, .int .u64 0]) ?_ 0 _ rfl; (with_reducible repeat (first | refine blk_drewN ?_ _ | refine blk_drew ?_ | refine blk_alloc ?_ _)); exact BK256.out) Tryd.underlying25 rfl (by kernel_rfl)) rfl ?_
   exact ⟨by first | rfl | (simp [errW_none, errW_some] <;> rfl) | (simp only [← hji3, ← hji5]; first | rfl | (simp [errW_none, errW_some] <;> rfl)) | (simp [*, errW_none, errW_some] <;> rfl), by repeat (first | (with_reducible first | exact HB.out | apply below_alloc | apply pw_below_drewN | apply below_drew1 | refine below_set ?_ GE256.out) | exact HB.out)⟩
  ·rw [if_neg c4] at H
   exact absurd H (by simp)
 ·rw [if_neg c2] at H
  have c2b0 : decide (64 ≤ a0) = false := decide_eq_false c2
  clear c2
  by_cases c8 : 0 ≤ a0
  ·rw [if_pos c8] at H
   have c8b0 := eq_true c8
   have c8b1 : decide (0 ≤ a0) = true := decide_eq_true c8
   clear c8
   obtain ⟨ji9, hji9⟩ : ∃ j_ : Int, (shl .u64 1 a0) = j_ := ⟨_, rfl⟩
   replace H : (some (0, ji9)) = some (r1, r2) := by first | (rw [hji9] at H; exact H) | (simp only [hji9] at H ⊢; exact H)
   have hji9_ : (IntKind.u64.wrap (1 * 2 ^ min a0.toNat 64)) = ji9 := hji9
   have hji9z : a0 ≤ 64 → (IntKind.u64.wrap (1 * 2 ^ a0.toNat)) = ji9 := shl_small hji9
   have hji9u : (IntKind.u64.wrap (2 ^ min a0.toNat 64)) = ji9 := by have h_ := hji9_; rw [Int.one_mul] at h_; exact h_
   have hji9v : a0 ≤ 64 → (IntKind.u64.wrap (2 ^ a0.toNat)) = ji9 := fun hle_ => by have h_ := hji9z hle_; rw [Int.one_mul] at h_; exact h_
   simp only [Option.some.injEq, Prod.mk.injEq] at H
   obtain ⟨rfl, rfl⟩ := H
   go_enter Tryd.func72, Tryd.ntmps72
   go_wp2_with (first | ((with_reducible refine gate_dst (N := 2) rfl ?_); refine box_event ?hg (N := 2) ?hd (cs := #[.int .u64 0, .int .u64 0]) (t := 25) ?hr ?_; (case hd => rfl); (case hg => rfl); (case hr => first | (go_simp; done) | (go_simp; rfl)); intro gb256 hg w10 hbox hb; have n0_ := Aside0.mk (below_step (by repeat (first | (with_reducible first | exact HB.out | apply below_alloc | apply pw_below_drewN | apply below_drew1) | exact HB.out)) hb); have n1_ := Aside0.mk (hbox); have n2_ := Aside0.mk ((by rw [hg]; exact (below_size (by repeat (first | (with_reducible first | exact HB.out | apply below_alloc | apply pw_below_drewN | apply below_drew1) | exact HB.out))) : w.heap.size ≤ gb256)); have n3_ := Aside0.mk ((by rw [hg]; exact (below_size (by repeat (first | (with_reducible first | exact HB.out | apply below_alloc | apply pw_below_drewN | apply below_drew1) | exact HB.out))) : w.heap.size ≤ gb256)); clear HB; have HB := n0_; have BK256 := n1_; have GW256 := n2_; have GE256 := n3_; clear n0_ n1_ n2_ n3_; clear hb hbox hg; have hcz11_0 : w10.cell? ⟨gb256, 0, none⟩ = some (.int .u64 0) := (blk_cell BK256.out 0).trans rfl; have hcz11_1 : w10.cell? ⟨gb256, 1, none⟩ = some (.int .u64 0) := (blk_cell BK256.out 1).trans rfl; have hfz11_0 := blk_frozen BK256.out 0; have hfz11_1 := blk_frozen BK256.out 1))
   refine bodyPost_ret (results_cell_row rfl _ _ gb256 25 #[.int .u64 0, .int .u64 ji9] (0, 0) _ rfl (by (with_reducible repeat (first | refine blk_drewN ?_ _ | refine blk_drew ?_ | refine blk_alloc ?_ _)); refine blk_put (cs := #[.int .u64 0, .int .u64 0]) ?_ 1 _ rfl; (with_reducible repeat (first | refine blk_drewN ?_ _ | refine blk_drew ?_ | refine blk_alloc ?_ _)); refine blk_put (cs := #[.int .u64 0, .int .u64 0]) ?_ 0 _ rfl; (with_reducible repeat (first | refine blk_drewN ?_ _ | refine blk_drew ?_ | refine blk_alloc ?_ _)); exact BK256.out) Tryd.underlying25 rfl (by kernel_rfl)) rfl ?_
   exact ⟨by first | rfl | (simp [errW_none, errW_some] <;> rfl) | (simp only [← hji9]; first | rfl | (simp [errW_none, errW_some] <;> rfl)) | (simp [*, errW_none, errW_some] <;> rfl), by repeat (first | (with_reducible first | exact HB.out | apply below_alloc | apply pw_below_drewN | apply below_drew1 | refine below_set ?_ GE256.out) | exact HB.out)⟩
  ·rw [if_neg c8] at H
   exact absurd H (by simp)
end Go.Proofs.YtdbnmdchecacdaaDoor.PU
end
section
namespace Go.Proofs.YtdbnmdchecacdaaDoor.M
open Go.RowKit Go.Proofs.YtdbnmdchecacdaaDoor.G Go.Proofs.YtdbnmdchecacdaaDoorV.PrintWords Go.Proofs.YtdbnmdchecacdaaDoorV.PrintLast Go.Proofs.YtdbnmdchecacdaaDoorV.PrintMore Go.Proofs.YtdbnmdchecacdaaDoor.PU
set_option linter.unusedVariables false
set_option linter.unusedSimpArgs false
theorem or_nn (a b : Nat) (ha : a < 18446744073709551616) (hb : b < 18446744073709551616) : Go.bits .or .u64 (a : Int) (b : Int) = ((a ||| b : Nat) : Int) :=
  (bits_nat .u64 64 (by decide) wraps_u64 a b ha hb).2
theorem andNot_nn (a b : Nat) (ha : a < 18446744073709551616) (hb : b < 18446744073709551616) : Go.bits .andNot .u64 (a : Int) (b : Int) = (((BitVec.ofNat 64 a &&& ~~~ BitVec.ofNat 64 b).toNat : Nat) : Int) := by
  have h : ∀ x : BitVec 64, IntKind.u64.wrap (x.toNat : Int) = (x.toNat : Int) := fun x => wrap_u64_id (by have := x.isLt; omega)
  exact h _
theorem andNot_high (a m : Nat) (ha : a < 18446744073709551616) (hm : m ≤ 64) : Go.bits .andNot .u64 (a : Int) ((a / 2 ^ m * 2 ^ m : Nat) : Int) = ((a % 2 ^ m : Nat) : Int) := by
  have hle : a / 2 ^ m * 2 ^ m ≤ a := Nat.div_mul_le_self _ _
  rw [andNot_nn _ _ ha (by omega)]
  congr 1
  have hmod : a % 2 ^ m < 2 ^ 64 := Nat.lt_of_le_of_lt (Nat.mod_le _ _) ha
  have : (BitVec.ofNat 64 a &&& ~~~ BitVec.ofNat 64 (a / 2 ^ m * 2 ^ m)) = BitVec.ofNat 64 (a % 2 ^ m) := by
    apply BitVec.eq_of_getLsbD_eq
    intro i hi
    simp only [BitVec.getLsbD_and, BitVec.getLsbD_not, BitVec.getLsbD_ofNat, hi, decide_true, Bool.true_and, Nat.testBit_mul_two_pow, Nat.testBit_div_two_pow, Nat.testBit_mod_two_pow]
    by_cases h : m ≤ i
    · have h2 : ¬ i < m := by omega
      have e : m + (i - m) = i := by omega
      have e' : i - m + m = i := by omega
      simp [h, h2, e, e']
    · have h2 : i < m := by omega
      simp [h, h2]
  rw [this, BitVec.toNat_ofNat, Nat.mod_eq_of_lt hmod]
theorem andNot_self (a : Nat) (ha : a < 18446744073709551616) : Go.bits .andNot .u64 (a : Int) (a : Int) = 0 := by
  have h := andNot_high a 0 ha (by decide)
  rw [Nat.pow_zero, Nat.div_one, Nat.mul_one, Nat.mod_one] at h
  exact h
theorem andNot_zero (a : Nat) (ha : a < 18446744073709551616) : Go.bits .andNot .u64 (a : Int) ((0 : Nat) : Int) = (a : Int) := by
  have h := andNot_high a 64 ha (by decide)
  rw [Nat.div_eq_of_lt (show a < 2 ^ 64 from ha), Nat.zero_mul, Nat.mod_eq_of_lt (show a < 2 ^ 64 from ha)] at h
  exact h
theorem or_zero (a : Nat) (ha : a < 18446744073709551616) : Go.bits .or .u64 (a : Int) 0 = (a : Int) := by
  have h := or_nn a 0 ha (by decide)
  rw [Nat.or_zero] at h
  exact h
theorem high_cells (w n : Nat) : (n < 64 → w / 2 ^ n * 2 ^ n / 18446744073709551616 = w / 18446744073709551616 ∧ w / 2 ^ n * 2 ^ n % 18446744073709551616 = w % 18446744073709551616 / 2 ^ n * 2 ^ n ∧ w % 2 ^ n / 18446744073709551616 = 0 ∧ w % 2 ^ n % 18446744073709551616 = w % 18446744073709551616 % 2 ^ n) ∧
    (64 ≤ n → w / 2 ^ n * 2 ^ n / 18446744073709551616 = w / 18446744073709551616 / 2 ^ (n - 64) * 2 ^ (n - 64) ∧ w / 2 ^ n * 2 ^ n % 18446744073709551616 = 0 ∧ w % 2 ^ n / 18446744073709551616 = w / 18446744073709551616 % 2 ^ (n - 64) ∧ w % 2 ^ n % 18446744073709551616 = w % 18446744073709551616) := by
  constructor
  · intro hn
    have hp : 0 < 2 ^ n := Nat.pow_pos (by decide)
    have e64 : (18446744073709551616 : Nat) = 2 ^ n * 2 ^ (64 - n) := by rw [← Nat.pow_add, show n + (64 - n) = 64 by omega]
    have hlt : 2 ^ n < 18446744073709551616 := by rw [pow64]; exact Nat.pow_lt_pow_right (by decide) hn
    have h1 := Nat.div_add_mod w (2 ^ n)
    have h2 := Nat.mod_lt w hp
    have hdm := Nat.div_add_mod w 18446744073709551616
    have hm : w % 18446744073709551616 % 2 ^ n = w % 2 ^ n := by rw [e64, Nat.mod_mul_right_mod]
    have hd := Nat.div_add_mod (w % 18446744073709551616) (2 ^ n)
    rw [hm] at hd
    have e1 : w / 2 ^ n * 2 ^ n = 18446744073709551616 * (w / 18446744073709551616) + w % 18446744073709551616 / 2 ^ n * 2 ^ n := by
      rw [Nat.mul_comm (w / 2 ^ n), Nat.mul_comm (w % 18446744073709551616 / 2 ^ n)]
      omega
    have hL : w % 18446744073709551616 / 2 ^ n * 2 ^ n < 18446744073709551616 := Nat.lt_of_le_of_lt (Nat.div_mul_le_self _ _) (Nat.mod_lt _ (by decide))
    refine ⟨?_, ?_, Nat.div_eq_of_lt (by omega), ?_⟩
    · rw [e1, Nat.mul_add_div (by decide), Nat.div_eq_of_lt hL, Nat.add_zero]
    · rw [e1, Nat.mul_add_mod, Nat.mod_eq_of_lt hL]
    · rw [hm, Nat.mod_eq_of_lt (by omega)]
  · intro hn
    have e : 2 ^ n = 18446744073709551616 * 2 ^ (n - 64) := by rw [pow64, ← Nat.pow_add, show 64 + (n - 64) = n by omega]
    have e1 : w / 2 ^ n * 2 ^ n = 18446744073709551616 * (w / 18446744073709551616 / 2 ^ (n - 64) * 2 ^ (n - 64)) := by
      rw [e, ← Nat.div_div_eq_div_mul, Nat.mul_left_comm]
    refine ⟨?_, ?_, ?_, ?_⟩
    · rw [e1, Nat.mul_div_cancel_left _ (by decide)]
    · rw [e1, Nat.mul_mod_right]
    · rw [e, Nat.mod_mul_right_div_self]
    · rw [e, Nat.mod_mul_right_mod]
theorem low_eq (w n : Nat) (hw : w < B128) (hn : n < 128) : impl_Word_low.f (hiI w) (loI w) (n : Int) = some (hiI (w % 2 ^ n), loI (w % 2 ^ n)) := by
  have hh := hi_lt hw
  have hq : w / 2 ^ n < B128 := Nat.lt_of_le_of_lt (Nat.div_le_self _ _) hw
  have hv : w / 2 ^ n * 2 ^ n < B128 := Nat.lt_of_le_of_lt (Nat.div_mul_le_self _ _) hw
  have c0 : ¬ (n : Int) ≥ 128 := by omega
  have o1 : impl_Word_or.f (hiI w) (loI w) 0 0 = some (hiI w, loI w) := by
    unfold impl_Word_or.f hiI loI
    rw [or_zero _ hh, or_zero _ (lo_lt w)]
  unfold impl_Word_low.f
  rw [if_neg c0, o1, Option.bind_some, right_eq w n hw (by omega), Option.bind_some]
  dsimp only
  rw [left_eq _ n hq hn, Option.bind_some, Nat.mod_eq_of_lt hv]
  dsimp only
  unfold impl_Word_without.f
  rw [Option.bind_some]
  obtain ⟨k1, k2⟩ := high_cells w n
  unfold hiI loI
  by_cases h : n < 64
  · obtain ⟨a1, a2, a3, a4⟩ := k1 h
    rw [a1, a2, a3, a4, andNot_self _ hh, andNot_high _ n (lo_lt w) (by omega)]
    rfl
  · obtain ⟨a1, a2, a3, a4⟩ := k2 (by omega)
    rw [a1, a2, a3, a4, andNot_high _ (n - 64) hh (by omega), andNot_zero _ (lo_lt w)]
theorem one_eq (n : Nat) (hn : n < 128) : impl_one.f (n : Int) = some (hiI (2 ^ n), loI (2 ^ n)) := by
  unfold impl_one.f
  by_cases h : 64 ≤ n
  · have c1 : (n : Int) ≥ 64 := by omega
    have e : 2 ^ n = 18446744073709551616 * 2 ^ (n - 64) := by rw [pow64, ← Nat.pow_add, show 64 + (n - 64) = n by omega]
    have hl : 2 ^ (n - 64) < 18446744073709551616 := by rw [pow64]; exact Nat.pow_lt_pow_right (by decide) (by omega)
    have hs := shl_nat 1 (n - 64) (by omega)
    rw [Nat.one_mul, Nat.mod_eq_of_lt hl] at hs
    rw [if_pos c1, wsubA64 n h (by omega), if_pos (Int.natCast_nonneg _), e]
    unfold hiI loI
    rw [Nat.mul_div_cancel_left _ (by decide), Nat.mul_mod_right, show (1 : Int) = ((1 : Nat) : Int) from rfl, hs]
    rfl
  · have c1 : ¬ (n : Int) ≥ 64 := by omega
    have hl : 2 ^ n < 18446744073709551616 := by rw [pow64]; exact Nat.pow_lt_pow_right (by decide) (by omega)
    have hs := shl_nat 1 n (by omega)
    rw [Nat.one_mul, Nat.mod_eq_of_lt hl] at hs
    rw [if_neg c1, if_pos (Int.natCast_nonneg _)]
    unfold hiI loI
    rw [Nat.div_eq_of_lt hl, Nat.mod_eq_of_lt hl, show (1 : Int) = ((1 : Nat) : Int) from rfl, hs]
    rfl
theorem or_top (r p : Nat) (hr : r < 2 ^ p) (b : Bool) : ((if b = true then r + 2 ^ p else r) ||| 2 ^ p) = r + 2 ^ p := by
  have h1 : r + 2 ^ p = 2 ^ p ||| r := by
    have := Nat.two_pow_add_eq_or_of_lt hr 1
    rw [Nat.mul_one] at this
    omega
  cases b with
  | true =>
    rw [if_pos rfl, h1, Nat.or_assoc, Nat.or_comm r, ← Nat.or_assoc, Nat.or_self]
  | false =>
    rw [if_neg (by decide), h1, Nat.or_comm]
theorem or_eq (r p : Nat) (hp : p < 127) (hr : r < 2 ^ p) (b : Bool) : impl_Word_or.f (hiI (if b = true then r + 2 ^ p else r)) (loI (if b = true then r + 2 ^ p else r)) (hiI (2 ^ p)) (loI (2 ^ p)) = some (hiI (r + 2 ^ p), loI (r + 2 ^ p)) := by
  have hpow : 2 ^ p < 2 ^ 127 := Nat.pow_lt_pow_right (by decide) hp
  have h127 : (2 : Nat) ^ 127 + 2 ^ 127 = B128 := by decide
  obtain ⟨x, hx⟩ : ∃ x, x = (if b = true then r + 2 ^ p else r) := ⟨_, rfl⟩
  have hxb : x < B128 := by
    rw [hx]
    split <;> omega
  have ht := or_top r p hr b
  rw [← hx] at ht ⊢
  have hb2 : 2 ^ p < B128 := by omega
  unfold impl_Word_or.f hiI loI
  rw [or_nn _ _ (hi_lt hxb) (hi_lt hb2), or_nn _ _ (lo_lt _) (lo_lt _)]
  have d : ∀ y z : Nat, y / 18446744073709551616 ||| z / 18446744073709551616 = (y ||| z) / 18446744073709551616 := fun y z => by
    rw [pow64]; exact (Nat.or_div_two_pow).symm
  have m : ∀ y z : Nat, y % 18446744073709551616 ||| z % 18446744073709551616 = (y ||| z) % 18446744073709551616 := fun y z => by
    rw [pow64]; exact (Nat.or_mod_two_pow).symm
  rw [d, m, ht]
end Go.Proofs.YtdbnmdchecacdaaDoor.M
end
section
namespace Go.Proofs.YtdbnmdchecacdaaDoor.M
open Go.RowKit Go.Proofs.YtdbnmdchecacdaaDoor.G Go.Proofs.YtdbnmdchecacdaaDoorV.PrintWords Go.Proofs.YtdbnmdchecacdaaDoorV.PrintLast Go.Proofs.YtdbnmdchecacdaaDoorV.PrintMore Go.Proofs.YtdbnmdchecacdaaDoor.PU
set_option linter.unusedVariables false
set_option linter.unusedSimpArgs false
def Clear (l : List Int) (n : Nat) : Prop := ∀ m : Nat, n ≤ m → rd l (m : Int) = 0
theorem Clear.set {l : List Int} {n p : Nat} {x : Int} (h : Clear l n) (hp : p < n) : Clear (l.set p x) n := fun m hm => by rw [rd_set_ne _ _ _ _ (by omega)]; exact h m hm
theorem Clear.zeros (n m : Nat) : Clear (List.replicate n 0) m := fun k hk => by
  rw [rd_nat, List.getD_eq_getElem?_getD, List.getElem?_replicate]
  split <;> rfl
end Go.Proofs.YtdbnmdchecacdaaDoor.M
end
section
namespace Go.Proofs.YtdbnmdchecacdaaDoor.M
open Go.RowKit Go.Proofs.YtdbnmdchecacdaaDoor.G Go.Proofs.YtdbnmdchecacdaaDoorV.PrintWords Go.Proofs.YtdbnmdchecacdaaDoorV.PrintLast Go.Proofs.YtdbnmdchecacdaaDoorV.PrintMore Go.Proofs.YtdbnmdchecacdaaDoor.PU
set_option linter.unusedVariables false
set_option linter.unusedSimpArgs false
def IsBits (v n : Nat) : Prop := v < 2 ^ n ∧ (n = 0 ∨ 2 ^ (n - 1) ≤ v)
instance (v n : Nat) : Decidable (IsBits v n) := by unfold IsBits; infer_instance
theorem IsBits.zero : IsBits 0 0 := ⟨by decide, Or.inl rfl⟩
theorem IsBits.pos {v n : Nat} (h : IsBits v n) (hv : 0 < v) : 0 < n := by
  rcases Nat.eq_zero_or_pos n with h2 | h2
  · subst h2
    have := h.1
    simp at this
    omega
  · exact h2
theorem IsBits.up {v m s : Nat} (h : IsBits (v / 2 ^ s) m) (hv : 0 < v / 2 ^ s) : IsBits v (s + m) := by
  have hp : 0 < 2 ^ s := Nat.pow_pos (by omega)
  have hm := h.pos hv
  refine ⟨?_, Or.inr ?_⟩
  · rw [Nat.pow_add, Nat.mul_comm]
    exact (Nat.div_lt_iff_lt_mul hp).1 h.1
  · rcases h.2 with h2 | h2
    · omega
    · rw [show s + m - 1 = s + (m - 1) by omega, Nat.pow_add, Nat.mul_comm]
      exact (Nat.le_div_iff_mul_le hp).1 h2
theorem IsBits.le {v n w : Nat} (h : IsBits v n) (hv : v < 2 ^ w) : n ≤ w := by
  rcases h.2 with h2 | h2
  · omega
  · rcases Nat.lt_or_ge w n with h3 | h3
    · have := Nat.pow_le_pow_right (n := 2) (by omega) (show w ≤ n - 1 by omega)
      omega
    · exact h3
theorem sbits_loop (m : Nat) : ∀ (u n : Nat), IsBits u m → n + m ≤ 4611686018427387904 → Ev (fun k => spec_l1Bits.l0 k (n : Int) (u : Int)) ((n + m : Nat) : Int) := by
  induction m with
  | zero =>
    intro u n h hb
    have := h.1
    refine Ev.step (f := fun _ => some ((n + 0 : Nat) : Int)) (fun k => ?_) (Ev.now _)
    simp only [spec_l1Bits.l0]
    rw [if_neg (by omega)]
    rfl
  | succ m ih =>
    intro u n h hb
    have hu : 2 ^ m ≤ u := by
      rcases h.2 with h2 | h2
      · omega
      · simpa using h2
    have hp : 0 < 2 ^ m := Nat.pow_pos (by omega)
    have h1 := h.1
    rw [Nat.pow_succ] at h1
    have hh : IsBits (u / 2) m := by
      refine ⟨by omega, ?_⟩
      rcases Nat.eq_zero_or_pos m with h3 | h3
      · exact Or.inl h3
      · right
        rw [show m = (m - 1) + 1 by omega, Nat.pow_succ] at hu
        omega
    refine Ev.step (fun k => ?_) (ev_to (ih (u / 2) (n + 1) hh (by omega)) (by congr 1; omega))
    simp only [spec_l1Bits.l0]
    rw [if_pos (by omega), wrap64_id (by omega)]
    rfl
def ofW (v : Nat) : List Int := trimL [((v % 4294967296 : Nat) : Int), ((v / 4294967296 : Nat) : Int)]
theorem ofW_eq (v : Nat) (hv : v < 18446744073709551616) : spec_l1Of.f (v : Int) = some (ofW v) := by
  unfold spec_l1Of.f
  rw [trim_eq _ (by simp), Option.bind_some, and_low32 _ (by omega) (by omega)]
  rfl
theorem ofW_dig (v : Nat) (hv : v < 18446744073709551616) : Dig B32 (ofW v) := by
  unfold ofW
  exact (Dig.cons (by unfold B32; omega) (Dig.cons (by unfold B32; omega) (Dig.nil _))).trim
theorem ofW_val (v : Nat) : val B32 (ofW v) = v := by
  unfold ofW
  rw [val_trim]
  simp only [val_cons, val_nil]
  unfold B32
  omega
theorem ofW_length (v : Nat) : (ofW v).length ≤ 2 := by
  unfold ofW
  have := trimL_length [((v % 4294967296 : Nat) : Int), ((v / 4294967296 : Nat) : Int)]
  simpa using this
end Go.Proofs.YtdbnmdchecacdaaDoor.M
end
section
namespace Go.Proofs.YtdbnmdchecacdaaDoor.M
open Go.RowKit Go.Proofs.YtdbnmdchecacdaaDoor.G Go.Proofs.YtdbnmdchecacdaaDoorV.PrintWords Go.Proofs.YtdbnmdchecacdaaDoorV.PrintLast Go.Proofs.YtdbnmdchecacdaaDoorV.PrintMore Go.Proofs.YtdbnmdchecacdaaDoor.PU
set_option linter.unusedVariables false
set_option linter.unusedSimpArgs false
theorem bits_of (v : Nat) (hv : v < 18446744073709551616) : ∃ m : Nat, IsBits v m ∧ m ≤ 64 := by
  by_cases h0 : v = 0
  · subst h0
    exact ⟨0, IsBits.zero, by decide⟩
  · have h1 : v < 2 ^ (v.log2 + 1) := Nat.lt_log2_self
    have h2 : 2 ^ v.log2 ≤ v := Nat.log2_self_le h0
    have h : IsBits v (v.log2 + 1) := ⟨h1, .inr (by rw [Nat.add_sub_cancel]; exact h2)⟩
    exact ⟨v.log2 + 1, h, h.le (w := 64) hv⟩
theorem sbits_gen (a : List Int) (ha : Dig B32 a) (na : Norm a) (la : a.length ≤ 1073741824) :
    ∃ m : Nat, Ev (fun k => spec_l1Bits.f k a) (m : Int) ∧ IsBits (val B32 a) m ∧ m ≤ 32 * a.length := by
  unfold spec_l1Bits.f
  rcases Nat.eq_zero_or_pos a.length with h | h
  · obtain rfl := List.eq_nil_of_length_eq_zero h
    exact ⟨0, Ev.congr (fun k => by simp) (Ev.now _), IsBits.zero, by simp⟩
  · obtain ⟨b, x, rfl⟩ := snoc_of h
    have hx := norm_snoc.1 na
    have hx0 := ha x (by simp)
    have hb : Dig B32 b := fun y hy => ha y (by simp [hy])
    have hl : (b ++ [x]).length = b.length + 1 := by simp
    rw [hl] at la
    obtain ⟨m, hm, hm64⟩ := bits_of x.toNat (by unfold B32 at hx0; omega)
    have hm32 : m ≤ 32 := hm.le (by unfold B32 at hx0; omega)
    have hv : val B32 (b ++ [x]) / 2 ^ (32 * b.length) = x.toNat := by
      rw [val_snoc, Nat.pow_mul, ← B32_pow, Nat.add_mul_div_left _ _ (Nat.pow_pos B32_pos), Nat.div_eq_of_lt (val_lt hb), Nat.zero_add]
    refine ⟨32 * b.length + m, ?_, IsBits.up (s := 32 * b.length) (by rw [hv]; exact hm) (by rw [hv]; omega), by rw [hl]; omega⟩
    have hr : rd (b ++ [x]) ((b.length : Nat) : Int) = ((x.toNat : Nat) : Int) := by
      rw [rd_nat]; simp; omega
    have w1 : wrap64 (((b ++ [x]).length : Int) - 1) = ((b.length : Nat) : Int) := by rw [hl, wrap64_id (by omega)]; omega
    have w2 : wrap64 (32 * ((b.length : Nat) : Int)) = ((32 * b.length : Nat) : Int) := by rw [wrap64_id (by omega)]; omega
    have g1 : ¬ ((b ++ [x]).length : Int) = 0 := by omega
    have g2 : ((b.length : Nat) : Int) < ((b ++ [x]).length : Int) := by omega
    refine Ev.congr (fun k => ?_) (sbits_loop m x.toNat (32 * b.length) hm (by omega))
    rw [if_neg g1, w1, w2, if_pos (Int.natCast_nonneg _), if_pos g2, hr]
theorem wtdiv32 (i : Nat) (h : i ≤ 9223372036854775807) : wrap64 (Int.tdiv (i : Int) 32) = ((i / 32 : Nat) : Int) := by
  have h1 := wtdiv i 32 h
  rw [show ((32 : Nat) : Int) = 32 from rfl] at h1
  exact h1
theorem wtmod32 (i : Nat) (h : i ≤ 9223372036854775807) : IntKind.u64.wrap (Int.tmod (i : Int) 32) = ((i % 32 : Nat) : Int) := by
  have h1 := wtmod i 32 h
  rw [show ((32 : Nat) : Int) = 32 from rfl] at h1
  exact h1
end Go.Proofs.YtdbnmdchecacdaaDoor.M
end
section
namespace Go.Proofs.YtdbnmdchecacdaaDoor.M
open Go.RowKit Go.Proofs.YtdbnmdchecacdaaDoor.G Go.Proofs.YtdbnmdchecacdaaDoorV.PrintWords Go.Proofs.YtdbnmdchecacdaaDoorV.PrintLast Go.Proofs.YtdbnmdchecacdaaDoorV.PrintMore Go.Proofs.YtdbnmdchecacdaaDoor.PU
set_option linter.unusedVariables false
set_option linter.unusedSimpArgs false
theorem rd_val {B : Nat} (hB : 0 < B) {a : List Int} (ha : Dig B a) (p : Nat) : (rd a (p : Int)).toNat = val B a / B ^ p % B := by
  rw [← val_drop B hB ha p, val_mod B B (Nat.dvd_refl _)]
  have h : rd (a.drop p) 0 = rd a (p : Int) := by
    show rd (a.drop p) ((0 : Nat) : Int) = rd a (p : Int)
    rw [rd_nat, rd_nat]
    simp [List.getD_eq_getElem?_getD]
  rw [h]
  have := ha.rd hB (p : Int)
  rw [Nat.mod_eq_of_lt (by omega)]
theorem bit_of (v i : Nat) : v / B32 ^ (i / 32) % B32 / 2 ^ (i % 32) % 2 = v / 2 ^ i % 2 := by
  have e1 : B32 ^ (i / 32) * 2 ^ (i % 32) = 2 ^ i := by rw [B32_pow, ← Nat.pow_mul, ← Nat.pow_add]; congr 1; omega
  rw [← e1, ← Nat.div_div_eq_div_mul]
  generalize v / B32 ^ (i / 32) = u
  have hs : i % 32 < 32 := Nat.mod_lt _ (by decide)
  generalize i % 32 = s at *
  have e2 : B32 = 2 ^ s * (2 * 2 ^ (31 - s)) := by
    rw [B32_pow, ← Nat.mul_assoc, ← Nat.pow_succ, ← Nat.pow_add]; congr 1; omega
  rw [e2, Nat.mod_mul_right_div_self, Nat.mod_mul_right_mod]
theorem and1 (x : Nat) (h : x < 18446744073709551616) : bits .and .u64 (x : Int) 1 = ((x % 2 : Nat) : Int) := by
  have := and_mask 1 (by decide) (x : Int) (by omega) (by omega)
  simpa using this
theorem l1Bit_eq (a : List Int) (ha : Dig B32 a) (i : Nat) (hi : i ≤ 100000) : spec_l1Bit.f a (i : Int) = some ((val B32 a / 2 ^ i % 2 : Nat) : Int) := by
  have hr := ha.rd B32_pos ((i / 32 : Nat) : Int)
  have hv := rd_val B32_pos ha (i / 32)
  have hb := bit_of (val B32 a) i
  have h32 : B32 = 4294967296 := rfl
  have e1 : rd a ((i / 32 : Nat) : Int) = ((val B32 a / B32 ^ (i / 32) % B32 : Nat) : Int) := by rw [← hv]; omega
  have hx : val B32 a / B32 ^ (i / 32) % B32 < 18446744073709551616 := Nat.lt_trans (Nat.mod_lt _ B32_pos) (by decide)
  have hx2 : val B32 a / B32 ^ (i / 32) % B32 / 2 ^ (i % 32) < 18446744073709551616 := Nat.lt_of_le_of_lt (Nat.div_le_self _ _) hx
  have b1 : i ≤ 9223372036854775807 := by omega
  have b2 : i % 32 ≤ 64 := by omega
  unfold spec_l1Bit.f
  rw [wtdiv32 i b1, wtmod32 i b1, at_eq _ _ (Int.natCast_nonneg _), Option.bind_some, if_pos (Int.natCast_nonneg _), e1, shr_nat _ _ b2, and1 _ hx2, hb]
theorem l2Low_ev (a : List Int) (ha : Dig B32 a) (la : a.length ≤ 100000) (n : Nat) (hn : n ≤ 100000) :
    ∃ r, Ev (fun k => spec_l2Low.f k a (n : Int)) r ∧ Dig B32 r ∧ Norm r ∧ val B32 r = val B32 a % 2 ^ n ∧ r.length ≤ a.length := by
  obtain ⟨s, hs, ds, ns, vs, ls⟩ := sright_ev a ha (by omega) n (by omega)
  obtain ⟨t, ht, dt, nt, vt, lt⟩ := sleft_ev s ds (by omega) n (by omega)
  have hle : val B32 t ≤ val B32 a := by rw [vt, vs]; exact Nat.div_mul_le_self _ _
  obtain ⟨r, hr, dr, nr, vr, lr⟩ := ssub_ev a t ha dt (by omega) hle
  refine ⟨r, ?_, dr, nr, ?_, lr⟩
  · unfold spec_l2Low.f
    exact Ev.bind hs (Ev.bind ht (Ev.bind hr (Ev.now _)))
  · rw [vr, vt, vs]
    have := Nat.div_add_mod (val B32 a) (2 ^ n)
    rw [Nat.mul_comm] at this
    omega
theorem l2Two_ev (n : Nat) (hn : n ≤ 100000) : ∃ r, Ev (fun k => spec_l2Two.f k (n : Int)) r ∧ Dig B32 r ∧ Norm r ∧ val B32 r = 2 ^ n ∧ r.length ≤ 1000003 := by
  have o1 := ofW_eq 1 (by decide)
  have l1 := ofW_length 1
  obtain ⟨t, ht, dt, nt, vt, lt⟩ := sleft_ev (ofW 1) (ofW_dig 1 (by decide)) (by omega) n (by omega)
  refine ⟨t, ?_, dt, nt, by rw [vt, ofW_val, Nat.one_mul], by omega⟩
  unfold spec_l2Two.f
  exact ev_bindc o1 (Ev.bind ht (Ev.now _))
theorem two_digits (l : List Int) (hl : Dig B64 l) (h2 : l.length ≤ 2) : rd (l ++ [0, 0]) 0 = loI (val B64 l) ∧ rd (l ++ [0, 0]) 1 = hiI (val B64 l) ∧ 2 ≤ (l ++ [0, 0]).length := by
  have hB : B64 = 18446744073709551616 := rfl
  match l, hl, h2 with
  | [], _, _ => exact ⟨rfl, rfl, by simp⟩
  | [x], hl, _ =>
    have hx := hl x (by simp)
    refine ⟨?_, ?_, by simp⟩
    · show x = loI (val B64 [x])
      rw [val_one]
      unfold loI
      omega
    · show (0 : Int) = hiI (val B64 [x])
      rw [val_one]
      unfold hiI
      omega
  | [x, y], hl, _ =>
    have hx := hl x (by simp)
    have hy := hl y (by simp)
    refine ⟨?_, ?_, by simp⟩
    · show x = loI (val B64 [x, y])
      rw [val_cons, val_one, hB]
      unfold B64 at hx hy
      unfold loI
      omega
    · show y = hiI (val B64 [x, y])
      rw [val_cons, val_one, hB]
      unfold B64 at hx hy
      unfold hiI
      omega
  | x :: y :: z :: l, _, h2 => simp at h2
theorem l2Word_ev (a : List Int) (ha : Dig B32 a) (na : Norm a) (la : a.length ≤ 2000000) (hv : val B32 a < B128) : Ev (fun k => spec_l2Word.f k a) (hiI (val B32 a), loI (val B32 a)) := by
  have ho := out_ev a ha (by omega)
  have hN := IsNat.out ha na rfl
  have hB : B128 = B64 ^ 2 := by unfold B64; rfl
  have hlen : (outL a).length ≤ 2 := by
    rcases Nat.lt_or_ge 2 (outL a).length with h1 | h1
    · have h2 := val_ge hN.1 hN.2.1 (by omega)
      have h3 : B64 ^ 2 ≤ B64 ^ ((outL a).length - 1) := Nat.pow_le_pow_right B64_pos (by omega)
      have := hN.2.2
      rw [hB] at hv
      omega
    · exact h1
  obtain ⟨d1, d2, d3⟩ := two_digits (outL a) hN.1 hlen
  rw [hN.2.2] at d1 d2
  unfold spec_l2Word.f
  refine Ev.bind ho (Ev.congr (fun k => ?_) (Ev.now _))
  have c1 : (outL a).length + ([0, 0] : List Int).length < 17592186044416 := by
    show (outL a).length + 2 < 17592186044416
    omega
  have c2 : (1 : Int) < ((outL a ++ [0, 0]).length : Int) := by omega
  have c3 : (0 : Int) < ((outL a ++ [0, 0]).length : Int) := by omega
  rw [Option.bind_some, if_pos c1, Option.bind_some, if_pos c2, if_pos c3, d1, d2]
theorem l2Of_ev (w : Nat) (hw : w < B128) : ∃ r, Ev (fun k => spec_l2Of.f k (hiI w) (loI w)) r ∧ Dig B32 r ∧ Norm r ∧ val B32 r = w ∧ r.length ≤ 4 := by
  have hh := hi_lt hw
  have hd : Dig B64 [loI w, hiI w] := by
    intro x hx
    simp only [List.mem_cons, List.not_mem_nil, or_false] at hx
    unfold B64
    rcases hx with h | h <;> subst h
    · unfold loI; omega
    · unfold hiI; omega
  have hi := in_ev [loI w, hiI w] hd (show 2 ≤ 1073741824 by decide)
  have hl := inL_length [loI w, hiI w]
  refine ⟨inL [loI w, hiI w], ?_, inL_dig hd, inL_norm _, ?_, hl⟩
  · unfold spec_l2Of.f
    exact Ev.bind hi (Ev.now _)
  · rw [inL_val hd, val_cons, val_one]
    unfold loI hiI B64
    rw [Int.toNat_natCast, Int.toNat_natCast]
    have := Nat.div_add_mod w 18446744073709551616
    omega
theorem isBits_gt {v m W : Nat} (h : IsBits v m) : W < m ↔ 2 ^ W ≤ v := by
  constructor
  · intro hW
    rcases h.2 with h2 | h2
    · omega
    · exact Nat.le_trans (Nat.pow_le_pow_right (by decide) (by omega)) h2
  · intro hv
    rcases Nat.lt_or_ge W m with h2 | h2
    · exact h2
    · have := Nat.pow_le_pow_right (n := 2) (by decide) h2
      have := h.1
      omega
end Go.Proofs.YtdbnmdchecacdaaDoor.M
end
