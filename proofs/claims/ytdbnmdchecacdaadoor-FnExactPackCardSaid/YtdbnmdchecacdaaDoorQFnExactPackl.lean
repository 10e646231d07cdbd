import Derived.Test.YtdbnmdchecacdaaDoorQFnExactPackk
section
namespace Go.Proofs.YtdbnmdchecacdaaDoor.PL
open Go.RowKit Go.Proofs.YtdbnmdchecacdaaDoor.G Go.Proofs.YtdbnmdchecacdaaDoorV.PrintWords Go.Proofs.YtdbnmdchecacdaaDoorV.PrintLast Go.Proofs.YtdbnmdchecacdaaDoorV.PrintMore
attribute [local go_sem] max2_int min2_int max_two min_two max_three min_three max_four min_four run_Add64 run_Sub64 fld25_1
set_option linter.unusedVariables false
set_option linter.unusedSimpArgs false
attribute [local go_sem high] eqA25
mutual
def impl_Unpack.j0 : Nat → Bool → Int → Int → Int → Int → Int → Int → Int → Bool → Option (Int × Bool × Int × Int × Int)
 | 0, _, _, _, _, _, _, _, _, _ => none
 | k + 1, x34, x297000, x297001, x306000, x306001, x306002, x306003, x306004, x306005 => if x34 = true then (some (0, false, 0, 0, 0)) else ((impl_layout_fracBits.f x306000 x306001 x306002 x306003 x306004 x306005).bind fun t308 => ((impl_Word_low.f x297000 x297001 t308).bind fun bt309 => ((impl_Word_right.f x297000 x297001 t308).bind fun bt312 => ((impl_Word_low.f bt312.1 bt312.2 x306004).bind fun bt314 => ((impl_Word_right.f x297000 x297001 (wrap64 (x306003 - 1))).bind fun bt316 => (if x306005 = true then ((impl_Word_right.f bt309.1 bt309.2 (wrap64 (x306000 - 1))).bind fun bt319 => (if ((!(bt319.1 == 0) || (!(bt319.2 == 0))) != ((wrap64 (bt314.2)) != 0)) = true then (some (0, false, 0, 0, 0)) else ((impl_Word_low.f bt309.1 bt309.2 (wrap64 (x306000 - 1))).bind fun bt321 => (impl_Unpack.j1 k (wrap64 (bt314.2)) (!(bt316.1 == 0) || (!(bt316.2 == 0))) x306000 x306001 x306002 x306003 x306004 x306005 bt309.1 bt309.2 bt321.1 bt321.2)))) else (impl_Unpack.j1 k (wrap64 (bt314.2)) (!(bt316.1 == 0) || (!(bt316.2 == 0))) x306000 x306001 x306002 x306003 x306004 x306005 bt309.1 bt309.2 bt309.1 bt309.2)))))))
def impl_Unpack.j1 : Nat → Int → Bool → Int → Int → Int → Int → Int → Bool → Int → Int → Int → Int → Option (Int × Bool × Int × Int × Int)
 | 0, _, _, _, _, _, _, _, _, _, _, _, _ => none
 | k + 1, x9, x10, x306000, x306001, x306002, x306003, x306004, x306005, x312000, x312001, x319000, x319001 => (impl_layout_top.f x306000 x306001 x306002 x306003 x306004 x306005).bind fun t323 => (if x9 = t323 then (impl_Unpack.j2 k x9 x10 (x319000 == 0 && (x319001 == 0)) x306000 x306001 x306002 x306003 x306004 x306005 x312000 x312001) else (impl_Unpack.j2 k x9 x10 false x306000 x306001 x306002 x306003 x306004 x306005 x312000 x312001))
def impl_Unpack.j2 : Nat → Int → Bool → Bool → Int → Int → Int → Int → Int → Bool → Int → Int → Option (Int × Bool × Int × Int × Int)
 | 0, _, _, _, _, _, _, _, _, _, _, _ => none
 | k + 1, x9, x10, x81, x306000, x306001, x306002, x306003, x306004, x306005, x312000, x312001 => if x81 = true then (some (4, x10, 0, 0, 0)) else ((impl_layout_top.f x306000 x306001 x306002 x306003 x306004 x306005).bind fun t324 => (if x9 = t324 then (some (5, false, 0, 0, 0)) else (if x9 = 0 then (impl_Unpack.j3 k x9 x10 (x312000 == 0 && (x312001 == 0)) x306000 x306001 x306002 x306003 x306004 x306005 x312000 x312001) else (impl_Unpack.j3 k x9 x10 false x306000 x306001 x306002 x306003 x306004 x306005 x312000 x312001))))
def impl_Unpack.j3 : Nat → Int → Bool → Bool → Int → Int → Int → Int → Int → Bool → Int → Int → Option (Int × Bool × Int × Int × Int)
 | 0, _, _, _, _, _, _, _, _, _, _, _ => none
 | k + 1, x9, x10, x99, x306000, x306001, x306002, x306003, x306004, x306005, x312000, x312001 => if x99 = true then (some (1, x10, 0, 0, 0)) else (if x9 = 0 then ((impl_layout_qMin.f x306000 x306001 x306002 x306003 x306004 x306005).bind fun t325 => (some (2, x10, x312000, x312001, t325))) else ((impl_one.f (wrap64 (x306000 - 1))).bind fun bt326 => ((impl_Word_or.f x312000 x312001 bt326.1 bt326.2).bind fun bt328 => (some (3, x10, bt328.1, bt328.2, wrap64 ((wrap64 ((wrap64 (x9 - x306002)) - x306000)) + 1))))))
end
def impl_Unpack.f (k : Nat) (a0 : Int) (a1_0 : Int) (a1_1 : Int) : Option (Int × Bool × Int × Int × Int) := (impl_layoutOf.f a0).bind fun bt298 => (if bt298.2.2.2.2.2.2 = true then (if bt298.2.2.2.1 < 128 then ((impl_Word_right.f a1_0 a1_1 bt298.2.2.2.1).bind fun bt306 => (impl_Unpack.j0 k (!(bt306.1 == 0) || (!(bt306.2 == 0))) a1_0 a1_1 bt298.1 bt298.2.1 bt298.2.2.1 bt298.2.2.2.1 bt298.2.2.2.2.1 bt298.2.2.2.2.2.1)) else (impl_Unpack.j0 k false a1_0 a1_1 bt298.1 bt298.2.1 bt298.2.2.1 bt298.2.2.2.1 bt298.2.2.2.2.1 bt298.2.2.2.2.2.1)) else (impl_Unpack.j0 k true a1_0 a1_1 bt298.1 bt298.2.1 bt298.2.2.1 bt298.2.2.2.1 bt298.2.2.2.2.1 bt298.2.2.2.2.2.1))
def impl_Unpack.T6 : Bool × List (List Nat × List Nat) := (true, [([], []), ([], []), ([0, 1], [0, 1]), ([], []), ([3], [3]), ([4], [4]), ([2, 5, 2], [2, 5]), ([6], [6]), ([7], [7]), ([8, 6, 0, 1, 2, 3, 4, 5, 6, 7, 8], [8])])
def impl_Unpack.B6 : List Nat := [0, 0, 3, 0, 8, 24, 63, 127, 255, 511]
theorem impl_Unpack.tab6 : rtab .any (opsOf Tryd.f17 6) = impl_Unpack.T6 := by kernel_rfl
theorem impl_Unpack.bits6 : waitsOk impl_Unpack.T6.2 impl_Unpack.B6 = true := by kernel_rfl
def impl_Unpack.T22 : Bool × List (List Nat × List Nat) := (true, [([], []), ([], []), ([], []), ([2], [2]), ([3], [3]), ([4], [4]), ([5], [5]), ([1, 6, 6], [1, 6]), ([], []), ([], []), ([9], [9]), ([10], [10]), ([8, 11], [8, 11]), ([], []), ([13], [13]), ([14], [14]), ([12, 15], [12, 15]), ([16], [16]), ([0, 7, 17], [0, 7, 17]), ([18, 7, 0, 1, 2, 3, 4, 5, 6, 7, 8, 9, 10, 11, 12, 13, 14, 15, 16, 17, 18], [18])])
def impl_Unpack.B22 : List Nat := [0, 0, 0, 4, 12, 28, 60, 126, 0, 0, 512, 1536, 3840, 0, 8192, 24576, 65280, 130816, 262143, 524287]
theorem impl_Unpack.tab22 : rtab .any (opsOf Tryd.f17 22) = impl_Unpack.T22 := by kernel_rfl
theorem impl_Unpack.bits22 : waitsOk impl_Unpack.T22.2 impl_Unpack.B22 = true := by kernel_rfl
set_option maxHeartbeats 8000000 in
set_option maxRecDepth 100000 in
theorem impl_Unpack.calls (k : Nat) (a0 : Int) (a1_0 : Int) (a1_1 : Int) (r1 : Int) (r2 : Bool) (r3 : Int) (r4 : Int) (r5 : Int) (w : World) (hT : Tabled w) (h : impl_Unpack.f k a0 a1_0 a1_1 = some (r1, r2, r3, r4, r5)) :
  Calls Tryd.prog 17 #[.int .i64 a0, .agg #[.int .u64 a1_0, .int .u64 a1_1]] w fun e w' => e = .returned (.agg #[.int .i64 r1, .bool r2, .int .u64 r3, .int .u64 r4, .int .i64 r5]) ∧ Below w.heap.size w w' := by
 have hu25 := Tryd.underlying25
 have hu27 := Tryd.underlying27
 have hu91 := Tryd.underlying91
 have HTb_ := Aside0.mk hT
 clear hT
 have HB := Aside0.mk (Below.refl w.heap.size w)
 have H : ((impl_layoutOf.f a0).bind fun bt298 => (if bt298.2.2.2.2.2.2 = true then (if bt298.2.2.2.1 < 128 then ((impl_Word_right.f a1_0 a1_1 bt298.2.2.2.1).bind fun bt306 => (impl_Unpack.j0 k (!(bt306.1 == 0) || (!(bt306.2 == 0))) a1_0 a1_1 bt298.1 bt298.2.1 bt298.2.2.1 bt298.2.2.2.1 bt298.2.2.2.2.1 bt298.2.2.2.2.2.1)) else (impl_Unpack.j0 k false a1_0 a1_1 bt298.1 bt298.2.1 bt298.2.2.1 bt298.2.2.2.1 bt298.2.2.2.2.1 bt298.2.2.2.2.2.1)) else (impl_Unpack.j0 k true a1_0 a1_1 bt298.1 bt298.2.1 bt298.2.2.1 bt298.2.2.2.1 bt298.2.2.2.2.1 bt298.2.2.2.2.2.1))) = some (r1, r2, r3, r4, r5) := h
 clear h
 replace H := Option.bind_eq_some_iff.mp H
 obtain ⟨⟨t298, t299, t300, t301, t302, t303, t304⟩, A30, H⟩ := H
 replace H : (if t304 = true then (if t301 < 128 then ((impl_Word_right.f a1_0 a1_1 t301).bind fun bt306 => (impl_Unpack.j0 k (!(bt306.1 == 0) || (!(bt306.2 == 0))) a1_0 a1_1 t298 t299 t300 t301 t302 t303)) else (impl_Unpack.j0 k false a1_0 a1_1 t298 t299 t300 t301 t302 t303)) else (impl_Unpack.j0 k true a1_0 a1_1 t298 t299 t300 t301 t302 t303)) = some (r1, r2, r3, r4, r5) := H
 have A3 := Aside0.mk A30
 clear A30
 have HC4 := Aside0.mk H
 clear H
 go_enter Tryd.func17, Tryd.ntmps17
 go_upto_region 2 with (first | ((with_reducible refine gate_dst (N := 3) rfl ?_); refine box_event ?hg (N := 3) ?hd (cs := #[.int .u64 a1_0, .int .u64 a1_1]) (t := 25) ?hr ?_; (case hd => rfl); (case hg => rfl); (case hr => first | (go_simp; done) | (go_simp; rfl)); intro gb296 hg w5 hbox hb; have n0_ := Aside0.mk (below_step (by repeat (first | (with_reducible first | exact HB.out | apply below_alloc | apply pw_below_drewN | apply below_drew1) | exact HB.out)) hb); have n1_ := Aside0.mk (hbox); have n2_ := Aside0.mk ((by rw [hg]; exact (below_size (by repeat (first | (with_reducible first | exact HB.out | apply below_alloc | apply pw_below_drewN | apply below_drew1) | exact HB.out))) : w.heap.size ≤ gb296)); have n3_ := Aside0.mk ((by rw [hg]; exact (below_size (by repeat (first | (with_reducible first | exact HB.out | apply below_alloc | apply pw_below_drewN | apply below_drew1) | exact HB.out))) : w.heap.size ≤ gb296)); clear HB; have HB := n0_; have BK296 := n1_; have GW296 := n2_; have GE296 := n3_; clear n0_ n1_ n2_ n3_; clear hb hbox hg) | ((with_reducible refine gate_dst (N := 4) rfl ?_); refine box_event ?hg (N := 4) ?hd (cs := #[.int .i64 0, .bool false, .int .u64 0, .int .u64 0, .int .i64 0]) (t := 27) ?hr ?_; (case hd => rfl); (case hg => rfl); (case hr => first | (go_simp; done) | (go_simp; rfl)); intro gb297 hg w6 hbox hb; have n0_ := Aside0.mk (blk_below (g := gb296) (o := .cells #[.int .u64 a1_0, .int .u64 a1_1] 25 (0, 0)) (by (with_reducible repeat (first | refine blk_drewN ?_ _ | refine blk_drew ?_ | refine blk_alloc ?_ _)); exact BK296.out) hb); have n1_ := Aside0.mk (below_step (by repeat (first | (with_reducible first | exact HB.out | apply below_alloc | apply pw_below_drewN | apply below_drew1 | refine below_set ?_ GE296.out) | exact HB.out)) hb); have n2_ := Aside0.mk (hbox); have n3_ := Aside0.mk ((by rw [hg]; exact (below_size (by repeat (first | (with_reducible first | exact HB.out | apply below_alloc | apply pw_below_drewN | apply below_drew1 | refine below_set ?_ GE296.out) | exact HB.out))) : w.heap.size ≤ gb297)); have n4_ := Aside0.mk ((by rw [hg]; exact (below_size (by repeat (first | (with_reducible first | exact HB.out | apply below_alloc | apply pw_below_drewN | apply below_drew1 | refine below_set ?_ GE296.out) | exact HB.out))) : w.heap.size ≤ gb297)); have n5_ := Aside0.mk ((by rw [hg]; exact Nat.ne_of_lt (blk_lt (g := gb296) (o := .cells #[.int .u64 a1_0, .int .u64 a1_1] 25 (0, 0)) (by (with_reducible repeat (first | refine blk_drewN ?_ _ | refine blk_drew ?_ | refine blk_alloc ?_ _)); exact BK296.out)) : gb296 ≠ gb297)); have n6_ := Aside0.mk ((by rw [hg]; exact Nat.ne_of_gt (blk_lt (g := gb296) (o := .cells #[.int .u64 a1_0, .int .u64 a1_1] 25 (0, 0)) (by (with_reducible repeat (first | refine blk_drewN ?_ _ | refine blk_drew ?_ | refine blk_alloc ?_ _)); exact BK296.out)) : gb297 ≠ gb296)); clear BK296; clear HB; have BK296 := n0_; have HB := n1_; have BK297 := n2_; have GW297 := n3_; have GE297 := n4_; have NB296_297 := n5_; have NB297_296 := n6_; clear n0_ n1_ n2_ n3_ n4_ n5_ n6_; clear hb hbox hg) | ((with_reducible refine gate_callee (f := 65) rfl ?_); refine goesL_ (some 15) rfl rfl Tryd.func65 (by kernel_rfl) rfl #[.int .i64 a0] rfl (by (try simp only [List.map_toArray, List.map_cons, List.map_nil]); first | done | rfl | (simp only [List.length_drop, List.length_take]; rfl)) ?_; (with_reducible refine (impl_layoutOf.calls a0 t298 t299 t300 t301 t302 t303 t304 _ ?side1 A3.out).mono ?_); (case side1 => exact tabled_below HTb_.out (by repeat (first | (with_reducible first | exact HB.out | apply below_alloc | apply pw_below_drewN | apply below_drew1 | refine below_set ?_ GE296.out | refine below_set ?_ GE297.out) | exact HB.out))); rintro e w7 ⟨rfl, hb⟩; refine ⟨_, rfl, ?_⟩; have n0_ := Aside0.mk (blk_below (g := gb296) (o := .cells #[.int .u64 a1_0, .int .u64 a1_1] 25 (0, 0)) (by (with_reducible repeat (first | refine blk_drewN ?_ _ | refine blk_drew ?_ | refine blk_alloc ?_ _)); exact BK296.out) hb); have n1_ := Aside0.mk (blk_below (g := gb297) (o := .cells #[.int .i64 0, .bool false, .int .u64 0, .int .u64 0, .int .i64 0] 27 (0, 0)) (by (with_reducible repeat (first | refine blk_drewN ?_ _ | refine blk_drew ?_ | refine blk_alloc ?_ _)); exact BK297.out) hb); have n2_ := Aside0.mk (below_step (by repeat (first | (with_reducible first | exact HB.out | apply below_alloc | apply pw_below_drewN | apply below_drew1 | refine below_set ?_ GE296.out | refine below_set ?_ GE297.out) | exact HB.out)) hb); clear BK296; clear BK297; clear HB; have BK296 := n0_; have BK297 := n1_; have HB := n2_; clear n0_ n1_ n2_; (try clear hb); (try clear hb2); (try clear hk); (try clear hi)) | ((with_reducible refine gate_dst (N := 5) rfl ?_); refine box_event ?hg (N := 5) ?hd (cs := #[.int .i64 0, .int .i64 0, .int .i64 0, .int .i64 0, .int .i64 0, .bool false]) (t := 91) ?hr ?_; (case hd => rfl); (case hg => rfl); (case hr => first | (go_simp; done) | (go_simp; rfl)); intro gb305 hg w8 hbox hb; have n0_ := Aside0.mk (blk_below (g := gb296) (o := .cells #[.int .u64 a1_0, .int .u64 a1_1] 25 (0, 0)) (by (with_reducible repeat (first | refine blk_drewN ?_ _ | refine blk_drew ?_ | refine blk_alloc ?_ _)); exact BK296.out) hb); have n1_ := Aside0.mk (blk_below (g := gb297) (o := .cells #[.int .i64 0, .bool false, .int .u64 0, .int .u64 0, .int .i64 0] 27 (0, 0)) (by (with_reducible repeat (first | refine blk_drewN ?_ _ | refine blk_drew ?_ | refine blk_alloc ?_ _)); exact BK297.out) hb); have n2_ := Aside0.mk (below_step (by repeat (first | (with_reducible first | exact HB.out | apply below_alloc | apply pw_below_drewN | apply below_drew1 | refine below_set ?_ GE296.out | refine below_set ?_ GE297.out) | exact HB.out)) hb); have n3_ := Aside0.mk (hbox); have n4_ := Aside0.mk ((by rw [hg]; exact (below_size (by repeat (first | (with_reducible first | exact HB.out | apply below_alloc | apply pw_below_drewN | apply below_drew1 | refine below_set ?_ GE296.out | refine below_set ?_ GE297.out) | exact HB.out))) : w.heap.size ≤ gb305)); have n5_ := Aside0.mk ((by rw [hg]; exact (below_size (by repeat (first | (with_reducible first | exact HB.out | apply below_alloc | apply pw_below_drewN | apply below_drew1 | refine below_set ?_ GE296.out | refine below_set ?_ GE297.out) | exact HB.out))) : w.heap.size ≤ gb305)); have n6_ := Aside0.mk ((by rw [hg]; exact Nat.ne_of_lt (blk_lt (g := gb296) (o := .cells #[.int .u64 a1_0, .int .u64 a1_1] 25 (0, 0)) (by (with_reducible repeat (first | refine blk_drewN ?_ _ | refine blk_drew ?_ | refine blk_alloc ?_ _)); exact BK296.out)) : gb296 ≠ gb305)); have n7_ := Aside0.mk ((by rw [hg]; exact Nat.ne_of_gt (blk_lt (g := gb296) (o := .cells #[.int .u64 a1_0, .int .u64 a1_1] 25 (0, 0)) (by (with_reducible repeat (first | refine blk_drewN ?_ _ | refine blk_drew ?_ | refine blk_alloc ?_ _)); exact BK296.out)) : gb305 ≠ gb296)); have n8_ := Aside0.mk ((by rw [hg]; exact Nat.ne_of_lt (blk_lt (g := gb297) (o := .cells #[.int .i64 0, .bool false, .int .u64 0, .int .u64 0, .int .i64 0] 27 (0, 0)) (by (with_reducible repeat (first | refine blk_drewN ?_ _ | refine blk_drew ?_ | refine blk_alloc ?_ _)); exact BK297.out)) : gb297 ≠ gb305)); have n9_ := Aside0.mk ((by rw [hg]; exact Nat.ne_of_gt (blk_lt (g := gb297) (o := .cells #[.int .i64 0, .bool false, .int .u64 0, .int .u64 0, .int .i64 0] 27 (0, 0)) (by (with_reducible repeat (first | refine blk_drewN ?_ _ | refine blk_drew ?_ | refine blk_alloc ?_ _)); exact BK297.out)) : gb305 ≠ gb297)); clear BK296; clear BK297; clear HB; have BK296 := n0_; have BK297 := n1_; have HB := n2_; have BK305 := n3_; have GW305 := n4_; have GE305 := n5_; have NB296_305 := n6_; have NB305_296 := n7_; have NB297_305 := n8_; have NB305_297 := n9_; clear n0_ n1_ n2_ n3_ n4_ n5_ n6_ n7_ n8_ n9_; clear hb hbox hg; have hnb9 := NB305_296.out; have hnc9 := NB296_305.out; have hnb10 := NB305_297.out; have hnc10 := NB297_305.out; have hcz11_0 : w8.cell? ⟨gb305, 0, none⟩ = some (.int .i64 0) := (blk_cell BK305.out 0).trans rfl; have hcz11_1 : w8.cell? ⟨gb305, 1, none⟩ = some (.int .i64 0) := (blk_cell BK305.out 1).trans rfl; have hcz11_2 : w8.cell? ⟨gb305, 2, none⟩ = some (.int .i64 0) := (blk_cell BK305.out 2).trans rfl; have hcz11_3 : w8.cell? ⟨gb305, 3, none⟩ = some (.int .i64 0) := (blk_cell BK305.out 3).trans rfl; have hcz11_4 : w8.cell? ⟨gb305, 4, none⟩ = some (.int .i64 0) := (blk_cell BK305.out 4).trans rfl; have hcz11_5 : w8.cell? ⟨gb305, 5, none⟩ = some (.bool false) := (blk_cell BK305.out 5).trans rfl; have hfz11_0 := blk_frozen BK305.out 0; have hfz11_1 := blk_frozen BK305.out 1; have hfz11_2 := blk_frozen BK305.out 2; have hfz11_3 := blk_frozen BK305.out 3; have hfz11_4 := blk_frozen BK305.out 4; have hfz11_5 := blk_frozen BK305.out 5))
 (try simp only [Act.put, List.setIfInBounds_toArray, List.set_cons_zero, List.set_cons_succ])
 go_cut [34] (fun v34 wc => ∃ (kq : Nat) (x34_3 : Bool), v34 = .bool x34_3 ∧ Aside0 (impl_Unpack.j0 kq x34_3 a1_0 a1_1 t298 t299 t300 t301 t302 t303 = some (r1, r2, r3, r4, r5)) ∧ Aside0 (kq ≤ k) ∧ Aside0 (wc.heap[gb296]? = some (.cells #[.int .u64 a1_0, .int .u64 a1_1] 25 (0, 0))) ∧ Aside0 (wc.heap[gb297]? = some (.cells #[.int .i64 0, .bool false, .int .u64 0, .int .u64 0, .int .i64 0] 27 (0, 0))) ∧ Aside0 (wc.heap[gb305]? = some (.cells #[.int .i64 t298, .int .i64 t299, .int .i64 t300, .int .i64 t301, .int .i64 t302, .bool t303] 91 (0, 0))) ∧ Aside0 (Below w.heap.size w wc))
 case first =>
  have H := HC4.out
  clear HC4
  by_cases c12 : t304 = true
  ·subst c12
   have H1 : (if t301 < 128 then ((impl_Word_right.f a1_0 a1_1 t301).bind fun bt306 => (impl_Unpack.j0 k (!(bt306.1 == 0) || (!(bt306.2 == 0))) a1_0 a1_1 t298 t299 t300 t301 t302 t303)) else (impl_Unpack.j0 k false a1_0 a1_1 t298 t299 t300 t301 t302 t303)) = some (r1, r2, r3, r4, r5) := by rw [if_pos rfl] at H; exact H
   clear H
   have H := H1
   clear H1
   by_cases c13 : t301 < 128
   ·rw [if_pos c13] at H
    have c13b0 : decide (t301 < 128) = true := decide_eq_true c13
    clear c13
    (first | rw [c13b0] | (simp only [i64_w, i32_w]; rw [c13b0]) | rw [c13b1] | (simp only [c13b1]) | skip)
    replace H := Option.bind_eq_some_iff.mp H
    obtain ⟨⟨t306, t307⟩, A140, H⟩ := H
    replace H : (impl_Unpack.j0 k (!(t306 == 0) || (!(t307 == 0))) a1_0 a1_1 t298 t299 t300 t301 t302 t303) = some (r1, r2, r3, r4, r5) := H
    have A14 := Aside0.mk A140
    clear A140
    have H' := Aside0.mk H
    clear H
    have hnb15 := NB305_296.out
    have hnc15 := NB296_305.out
    have hnb16 := NB305_297.out
    have hnc16 := NB297_305.out
    have hcz17_0 : w8.cell? ⟨gb305, 0, none⟩ = some (.int .i64 0) := (blk_cell BK305.out 0).trans rfl
    have hcz17_1 : w8.cell? ⟨gb305, 1, none⟩ = some (.int .i64 0) := (blk_cell BK305.out 1).trans rfl
    have hcz17_2 : w8.cell? ⟨gb305, 2, none⟩ = some (.int .i64 0) := (blk_cell BK305.out 2).trans rfl
    have hcz17_3 : w8.cell? ⟨gb305, 3, none⟩ = some (.int .i64 0) := (blk_cell BK305.out 3).trans rfl
    have hcz17_4 : w8.cell? ⟨gb305, 4, none⟩ = some (.int .i64 0) := (blk_cell BK305.out 4).trans rfl
    have hcz17_5 : w8.cell? ⟨gb305, 5, none⟩ = some (.bool false) := (blk_cell BK305.out 5).trans rfl
    have hfz17_0 := blk_frozen BK305.out 0
    have hfz17_1 := blk_frozen BK305.out 1
    have hfz17_2 := blk_frozen BK305.out 2
    have hfz17_3 := blk_frozen BK305.out 3
    have hfz17_4 := blk_frozen BK305.out 4
    have hfz17_5 := blk_frozen BK305.out 5
    have hnb18 := NB296_297.out
    have hnc18 := NB297_296.out
    have hcz19_0 : w8.cell? ⟨gb296, 0, none⟩ = some (.int .u64 a1_0) := (blk_cell BK296.out 0).trans rfl
    have hcz19_1 : w8.cell? ⟨gb296, 1, none⟩ = some (.int .u64 a1_1) := (blk_cell BK296.out 1).trans rfl
    have hfz19_0 := blk_frozen BK296.out 0
    have hfz19_1 := blk_frozen BK296.out 1
    go_wp2_with (first | (go_at_call 66; (with_reducible refine (impl_Word_right.calls a1_0 a1_1 t301 t306 t307 _ A14.out).mono ?_); rintro e w20 ⟨rfl, hb⟩; have n0_ := Aside0.mk (blk_below (g := gb296) (o := .cells #[.int .u64 a1_0, .int .u64 a1_1] 25 (0, 0)) (by (with_reducible repeat (first | refine blk_drewN ?_ _ | refine blk_drew ?_ | refine blk_alloc ?_ _)); refine blk_far ?_ NB296_305.out _; (with_reducible repeat (first | refine blk_drewN ?_ _ | refine blk_drew ?_ | refine blk_alloc ?_ _)); refine blk_far ?_ NB296_305.out _; (with_reducible repeat (first | refine blk_drewN ?_ _ | refine blk_drew ?_ | refine blk_alloc ?_ _)); refine blk_far ?_ NB296_305.out _; (with_reducible repeat (first | refine blk_drewN ?_ _ | refine blk_drew ?_ | refine blk_alloc ?_ _)); refine blk_far ?_ NB296_305.out _; (with_reducible repeat (first | refine blk_drewN ?_ _ | refine blk_drew ?_ | refine blk_alloc ?_ _)); refine blk_far ?_ NB296_305.out _; (with_reducible repeat (first | refine blk_drewN ?_ _ | refine blk_drew ?_ | refine blk_alloc ?_ _)); refine blk_far ?_ NB296_305.out _; (with_reducible repeat (first | refine blk_drewN ?_ _ | refine blk_drew ?_ | refine blk_alloc ?_ _)); exact BK296.out) hb); have n1_ := Aside0.mk (blk_below (g := gb297) (o := .cells #[.int .i64 0, .bool false, .int .u64 0, .int .u64 0, .int .i64 0] 27 (0, 0)) (by (with_reducible repeat (first | refine blk_drewN ?_ _ | refine blk_drew ?_ | refine blk_alloc ?_ _)); refine blk_far ?_ NB297_305.out _; (with_reducible repeat (first | refine blk_drewN ?_ _ | refine blk_drew ?_ | refine blk_alloc ?_ _)); refine blk_far ?_ NB297_305.out _; (with_reducible repeat (first | refine blk_drewN ?_ _ | refine blk_drew ?_ | refine blk_alloc ?_ _)); refine blk_far ?_ NB297_305.out _; (with_reducible repeat (first | refine blk_drewN ?_ _ | refine blk_drew ?_ | refine blk_alloc ?_ _)); refine blk_far ?_ NB297_305.out _; (with_reducible repeat (first | refine blk_drewN ?_ _ | refine blk_drew ?_ | refine blk_alloc ?_ _)); refine blk_far ?_ NB297_305.out _; (with_reducible repeat (first | refine blk_drewN ?_ _ | refine blk_drew ?_ | refine blk_alloc ?_ _)); refine blk_far ?_ NB297_305.out _; (with_reducible repeat (first | refine blk_drewN ?_ _ | refine blk_drew ?_ | refine blk_alloc ?_ _)); exact BK297.out) hb); have n2_ := Aside0.mk (blk_below (g := gb305) (o := .cells #[.int .i64 t298, .int .i64 t299, .int .i64 t300, .int .i64 t301, .int .i64 t302, .bool t303] 91 (0, 0)) (by (with_reducible repeat (first | refine blk_drewN ?_ _ | refine blk_drew ?_ | refine blk_alloc ?_ _)); refine blk_put (cs := #[.int .i64 t298, .int .i64 t299, .int .i64 t300, .int .i64 t301, .int .i64 t302, .bool false]) ?_ 5 _ rfl; (with_reducible repeat (first | refine blk_drewN ?_ _ | refine blk_drew ?_ | refine blk_alloc ?_ _)); refine blk_put (cs := #[.int .i64 t298, .int .i64 t299, .int .i64 t300, .int .i64 t301, .int .i64 0, .bool false]) ?_ 4 _ rfl; (with_reducible repeat (first | refine blk_drewN ?_ _ | refine blk_drew ?_ | refine blk_alloc ?_ _)); refine blk_put (cs := #[.int .i64 t298, .int .i64 t299, .int .i64 t300, .int .i64 0, .int .i64 0, .bool false]) ?_ 3 _ rfl; (with_reducible repeat (first | refine blk_drewN ?_ _ | refine blk_drew ?_ | refine blk_alloc ?_ _)); refine blk_put (cs := #[.int .i64 t298, .int .i64 t299, .int .i64 0, .int .i64 0, .int .i64 0, .bool false]) ?_ 2 _ rfl; (with_reducible repeat (first | refine blk_drewN ?_ _ | refine blk_drew ?_ | refine blk_alloc ?_ _)); refine blk_put (cs := #[.int .i64 t298, .int .i64 0, .int .i64 0, .int .i64 0, .int .i64 0, .bool false]) ?_ 1 _ rfl; (with_reducible repeat (first | refine blk_drewN ?_ _ | refine blk_drew ?_ | refine blk_alloc ?_ _)); refine blk_put (cs := #[.int .i64 0, .int .i64 0, .int .i64 0, .int .i64 0, .int .i64 0, .bool false]) ?_ 0 _ rfl; (with_reducible repeat (first | refine blk_drewN ?_ _ | refine blk_drew ?_ | refine blk_alloc ?_ _)); exact BK305.out) hb); have n3_ := Aside0.mk (below_step (by repeat (first | (with_reducible first | exact HB.out | apply below_alloc | apply pw_below_drewN | apply below_drew1 | refine below_set ?_ GE296.out | refine below_set ?_ GE297.out | refine below_set ?_ GE305.out) | exact HB.out)) hb); clear BK296; clear BK297; clear BK305; clear HB; have BK296 := n0_; have BK297 := n1_; have BK305 := n2_; have HB := n3_; clear n0_ n1_ n2_ n3_; (try clear hb); (try clear hb2); (try clear hk); (try clear hi)))
    go_meet
    case rel => exact ⟨_, ((!(t306 == 0) || (!(t307 == 0)))), (by first | rfl | (simp; done) | (simp [*]; done)), H', ⟨by first | omega | exact Nat.le_refl _⟩, ⟨by (with_reducible repeat (first | refine blk_drewN ?_ _ | refine blk_drew ?_ | refine blk_alloc ?_ _)); exact BK296.out⟩, ⟨by (with_reducible repeat (first | refine blk_drewN ?_ _ | refine blk_drew ?_ | refine blk_alloc ?_ _)); exact BK297.out⟩, ⟨by (with_reducible repeat (first | refine blk_drewN ?_ _ | refine blk_drew ?_ | refine blk_alloc ?_ _)); exact BK305.out⟩, ⟨by repeat (first | (with_reducible first | exact HB.out | apply below_alloc | apply pw_below_drewN | apply below_drew1 | refine below_set ?_ GE296.out | refine below_set ?_ GE297.out | refine below_set ?_ GE305.out) | exact HB.out)⟩⟩
   ·rw [if_neg c13] at H
    have c13b0 : decide (t301 < 128) = false := decide_eq_false c13
    clear c13
    (first | rw [c13b0] | (simp only [i64_w, i32_w]; rw [c13b0]) | rw [c13b1] | (simp only [c13b1]) | skip)
    have H' := Aside0.mk H
    clear H
    have hnb21 := NB305_296.out
    have hnc21 := NB296_305.out
    have hnb22 := NB305_297.out
    have hnc22 := NB297_305.out
    have hcz23_0 : w8.cell? ⟨gb305, 0, none⟩ = some (.int .i64 0) := (blk_cell BK305.out 0).trans rfl
    have hcz23_1 : w8.cell? ⟨gb305, 1, none⟩ = some (.int .i64 0) := (blk_cell BK305.out 1).trans rfl
    have hcz23_2 : w8.cell? ⟨gb305, 2, none⟩ = some (.int .i64 0) := (blk_cell BK305.out 2).trans rfl
    have hcz23_3 : w8.cell? ⟨gb305, 3, none⟩ = some (.int .i64 0) := (blk_cell BK305.out 3).trans rfl
    have hcz23_4 : w8.cell? ⟨gb305, 4, none⟩ = some (.int .i64 0) := (blk_cell BK305.out 4).trans rfl
    have hcz23_5 : w8.cell? ⟨gb305, 5, none⟩ = some (.bool false) := (blk_cell BK305.out 5).trans rfl
    have hfz23_0 := blk_frozen BK305.out 0
    have hfz23_1 := blk_frozen BK305.out 1
    have hfz23_2 := blk_frozen BK305.out 2
    have hfz23_3 := blk_frozen BK305.out 3
    have hfz23_4 := blk_frozen BK305.out 4
    have hfz23_5 := blk_frozen BK305.out 5
    go_wp2
    go_meet
    case rel => exact ⟨_, (false), (by first | rfl | (simp; done) | (simp [*]; done)), H', ⟨by first | omega | exact Nat.le_refl _⟩, ⟨by (with_reducible repeat (first | refine blk_drewN ?_ _ | refine blk_drew ?_ | refine blk_alloc ?_ _)); refine blk_far ?_ NB296_305.out _; (with_reducible repeat (first | refine blk_drewN ?_ _ | refine blk_drew ?_ | refine blk_alloc ?_ _)); refine blk_far ?_ NB296_305.out _; (with_reducible repeat (first | refine blk_drewN ?_ _ | refine blk_drew ?_ | refine blk_alloc ?_ _)); refine blk_far ?_ NB296_305.out _; (with_reducible repeat (first | refine blk_drewN ?_ _ | refine blk_drew ?_ | refine blk_alloc ?_ _)); refine blk_far ?_ NB296_305.out _; (with_reducible repeat (first | refine blk_drewN ?_ _ | refine blk_drew ?_ | refine blk_alloc ?_ _)); refine blk_far ?_ NB296_305.out _; (with_reducible repeat (first | refine blk_drewN ?_ _ | refine blk_drew ?_ | refine blk_alloc ?_ _)); refine blk_far ?_ NB296_305.out _; (with_reducible repeat (first | refine blk_drewN ?_ _ | refine blk_drew ?_ | refine blk_alloc ?_ _)); exact BK296.out⟩, ⟨by (with_reducible repeat (first | refine blk_drewN ?_ _ | refine blk_drew ?_ | refine blk_alloc ?_ _)); refine blk_far ?_ NB297_305.out _; (with_reducible repeat (first | refine blk_drewN ?_ _ | refine blk_drew ?_ | refine blk_alloc ?_ _)); refine blk_far ?_ NB297_305.out _; (with_reducible repeat (first | refine blk_drewN ?_ _ | refine blk_drew ?_ | refine blk_alloc ?_ _)); refine blk_far ?_ NB297_305.out _; (with_reducible repeat (first | refine blk_drewN ?_ _ | refine blk_drew ?_ | refine blk_alloc ?_ _)); refine blk_far ?_ NB297_305.out _; (with_reducible repeat (first | refine blk_drewN ?_ _ | refine blk_drew ?_ | refine blk_alloc ?_ _)); refine blk_far ?_ NB297_305.out _; (with_reducible repeat (first | refine blk_drewN ?_ _ | refine blk_drew ?_ | refine blk_alloc ?_ _)); refine blk_far ?_ NB297_305.out _; (with_reducible repeat (first | refine blk_drewN ?_ _ | refine blk_drew ?_ | refine blk_alloc ?_ _)); exact BK297.out⟩, ⟨by (with_reducible repeat (first | refine blk_drewN ?_ _ | refine blk_drew ?_ | refine blk_alloc ?_ _)); refine blk_put (cs := #[.int .i64 t298, .int .i64 t299, .int .i64 t300, .int .i64 t301, .int .i64 t302, .bool false]) ?_ 5 _ rfl; (with_reducible repeat (first | refine blk_drewN ?_ _ | refine blk_drew ?_ | refine blk_alloc ?_ _)); refine blk_put (cs := #[.int .i64 t298, .int .i64 t299, .int .i64 t300, .int .i64 t301, .int .i64 0, .bool false]) ?_ 4 _ rfl; (with_reducible repeat (first | refine blk_drewN ?_ _ | refine blk_drew ?_ | refine blk_alloc ?_ _)); refine blk_put (cs := #[.int .i64 t298, .int .i64 t299, .int .i64 t300, .int .i64 0, .int .i64 0, .bool false]) ?_ 3 _ rfl; (with_reducible repeat (first | refine blk_drewN ?_ _ | refine blk_drew ?_ | refine blk_alloc ?_ _)); refine blk_put (cs := #[.int .i64 t298, .int .i64 t299, .int .i64 0, .int .i64 0, .int .i64 0, .bool false]) ?_ 2 _ rfl; (with_reducible repeat (first | refine blk_drewN ?_ _ | refine blk_drew ?_ | refine blk_alloc ?_ _)); refine blk_put (cs := #[.int .i64 t298, .int .i64 0, .int .i64 0, .int .i64 0, .int .i64 0, .bool false]) ?_ 1 _ rfl; (with_reducible repeat (first | refine blk_drewN ?_ _ | refine blk_drew ?_ | refine blk_alloc ?_ _)); refine blk_put (cs := #[.int .i64 0, .int .i64 0, .int .i64 0, .int .i64 0, .int .i64 0, .bool false]) ?_ 0 _ rfl; (with_reducible repeat (first | refine blk_drewN ?_ _ | refine blk_drew ?_ | refine blk_alloc ?_ _)); exact BK305.out⟩, ⟨by repeat (first | (with_reducible first | exact HB.out | apply below_alloc | apply pw_below_drewN | apply below_drew1 | refine below_set ?_ GE296.out | refine below_set ?_ GE297.out | refine below_set ?_ GE305.out) | exact HB.out)⟩⟩
  ·replace c12 := Bool.eq_false_iff.mpr c12
   subst c12
   have H1 : (impl_Unpack.j0 k true a1_0 a1_1 t298 t299 t300 t301 t302 t303) = some (r1, r2, r3, r4, r5) := by rw [if_neg (show ¬ (false = true) by decide)] at H; exact H
   clear H
   have H := H1
   clear H1
   have H' := Aside0.mk H
   clear H
   go_wp2
   go_meet
   case rel => exact ⟨_, (true), (by first | rfl | (simp; done) | (simp [*]; done)), H', ⟨by first | omega | exact Nat.le_refl _⟩, ⟨by (with_reducible repeat (first | refine blk_drewN ?_ _ | refine blk_drew ?_ | refine blk_alloc ?_ _)); refine blk_far ?_ NB296_305.out _; (with_reducible repeat (first | refine blk_drewN ?_ _ | refine blk_drew ?_ | refine blk_alloc ?_ _)); refine blk_far ?_ NB296_305.out _; (with_reducible repeat (first | refine blk_drewN ?_ _ | refine blk_drew ?_ | refine blk_alloc ?_ _)); refine blk_far ?_ NB296_305.out _; (with_reducible repeat (first | refine blk_drewN ?_ _ | refine blk_drew ?_ | refine blk_alloc ?_ _)); refine blk_far ?_ NB296_305.out _; (with_reducible repeat (first | refine blk_drewN ?_ _ | refine blk_drew ?_ | refine blk_alloc ?_ _)); refine blk_far ?_ NB296_305.out _; (with_reducible repeat (first | refine blk_drewN ?_ _ | refine blk_drew ?_ | refine blk_alloc ?_ _)); refine blk_far ?_ NB296_305.out _; (with_reducible repeat (first | refine blk_drewN ?_ _ | refine blk_drew ?_ | refine blk_alloc ?_ _)); exact BK296.out⟩, ⟨by (with_reducible repeat (first | refine blk_drewN ?_ _ | refine blk_drew ?_ | refine blk_alloc ?_ _)); refine blk_far ?_ NB297_305.out _; (with_reducible repeat (first | refine blk_drewN ?_ _ | refine blk_drew ?_ | refine blk_alloc ?_ _)); refine blk_far ?_ NB297_305.out _; (with_reducible repeat (first | refine blk_drewN ?_ _ | refine blk_drew ?_ | refine blk_alloc ?_ _)); refine blk_far ?_ NB297_305.out _; (with_reducible repeat (first | refine blk_drewN ?_ _ | refine blk_drew ?_ | refine blk_alloc ?_ _)); refine blk_far ?_ NB297_305.out _; (with_reducible repeat (first | refine blk_drewN ?_ _ | refine blk_drew ?_ | refine blk_alloc ?_ _)); refine blk_far ?_ NB297_305.out _; (with_reducible repeat (first | refine blk_drewN ?_ _ | refine blk_drew ?_ | refine blk_alloc ?_ _)); refine blk_far ?_ NB297_305.out _; (with_reducible repeat (first | refine blk_drewN ?_ _ | refine blk_drew ?_ | refine blk_alloc ?_ _)); exact BK297.out⟩, ⟨by (with_reducible repeat (first | refine blk_drewN ?_ _ | refine blk_drew ?_ | refine blk_alloc ?_ _)); refine blk_put (cs := #[.int .i64 t298, .int .i64 t299, .int .i64 t300, .int .i64 t301, .int .i64 t302, .bool false]) ?_ 5 _ rfl; (with_reducible repeat (first | refine blk_drewN ?_ _ | refine blk_drew ?_ | refine blk_alloc ?_ _)); refine blk_put (cs := #[.int .i64 t298, .int .i64 t299, .int .i64 t300, .int .i64 t301, .int .i64 0, .bool false]) ?_ 4 _ rfl; (with_reducible repeat (first | refine blk_drewN ?_ _ | refine blk_drew ?_ | refine blk_alloc ?_ _)); refine blk_put (cs := #[.int .i64 t298, .int .i64 t299, .int .i64 t300, .int .i64 0, .int .i64 0, .bool false]) ?_ 3 _ rfl; (with_reducible repeat (first | refine blk_drewN ?_ _ | refine blk_drew ?_ | refine blk_alloc ?_ _)); refine blk_put (cs := #[.int .i64 t298, .int .i64 t299, .int .i64 0, .int .i64 0, .int .i64 0, .bool false]) ?_ 2 _ rfl; (with_reducible repeat (first | refine blk_drewN ?_ _ | refine blk_drew ?_ | refine blk_alloc ?_ _)); refine blk_put (cs := #[.int .i64 t298, .int .i64 0, .int .i64 0, .int .i64 0, .int .i64 0, .bool false]) ?_ 1 _ rfl; (with_reducible repeat (first | refine blk_drewN ?_ _ | refine blk_drew ?_ | refine blk_alloc ?_ _)); refine blk_put (cs := #[.int .i64 0, .int .i64 0, .int .i64 0, .int .i64 0, .int .i64 0, .bool false]) ?_ 0 _ rfl; (with_reducible repeat (first | refine blk_drewN ?_ _ | refine blk_drew ?_ | refine blk_alloc ?_ _)); exact BK305.out⟩, ⟨by repeat (first | (with_reducible first | exact HB.out | apply below_alloc | apply pw_below_drewN | apply below_drew1 | refine below_set ?_ GE296.out | refine below_set ?_ GE297.out | refine below_set ?_ GE305.out) | exact HB.out)⟩⟩
 case rest =>
  clear HC4
  try clear c1; try clear c2; try clear p2; try clear c6; try clear c9; try clear c10; try clear c12; try clear c13; try clear c13b0; try clear c13b1; try clear c15; try clear c16; try clear c17; try clear c18; try clear c21; try clear c22; try clear hcz11_0; try clear hcz11_1; try clear hcz11_2; try clear hcz11_3; try clear hcz11_4; try clear hcz11_5; try clear hcz17_0; try clear hcz17_1; try clear hcz17_2; try clear hcz17_3; try clear hcz17_4; try clear hcz17_5; try clear hcz19_0; try clear hcz19_1; try clear hcz23_0; try clear hcz23_1; try clear hcz23_2; try clear hcz23_3; try clear hcz23_4; try clear hcz23_5; try clear hfz11_0; try clear hfz11_1; try clear hfz11_2; try clear hfz11_3; try clear hfz11_4; try clear hfz11_5; try clear hfz17_0; try clear hfz17_1; try clear hfz17_2; try clear hfz17_3; try clear hfz17_4; try clear hfz17_5; try clear hfz19_0; try clear hfz19_1; try clear hfz23_0; try clear hfz23_1; try clear hfz23_2; try clear hfz23_3; try clear hfz23_4; try clear hfz23_5
  obtain ⟨kq, x34_3, rfl, HA, HJ3, BK296, BK297, BK305, HB⟩ := hcut
  cases kq with
  | zero => exact absurd HA.out (by simp [impl_Unpack.j0])
  | succ kj3 =>
   have H := HA.out
   clear HA
   simp only [impl_Unpack.j0] at H
   by_cases c24 : x34_3 = true
   ·subst c24
    have H1 : (some (0, false, 0, 0, 0)) = some (r1, r2, r3, r4, r5) := by rw [if_pos rfl] at H; exact H
    clear H
    have H := H1
    clear H1
    simp only [Option.some.injEq, Prod.mk.injEq] at H
    obtain ⟨rfl, rfl, rfl, rfl, rfl⟩ := H
    have hnb25 := NB297_296.out
    have hnc25 := NB296_297.out
    have hnb26 := NB297_305.out
    have hnc26 := NB305_297.out
    have hcz27_0 : wc.cell? ⟨gb297, 0, none⟩ = some (.int .i64 0) := (blk_cell BK297.out 0).trans rfl
    have hcz27_1 : wc.cell? ⟨gb297, 1, none⟩ = some (.bool false) := (blk_cell BK297.out 1).trans rfl
    have hcz27_2 : wc.cell? ⟨gb297, 2, none⟩ = some (.int .u64 0) := (blk_cell BK297.out 2).trans rfl
    have hcz27_3 : wc.cell? ⟨gb297, 3, none⟩ = some (.int .u64 0) := (blk_cell BK297.out 3).trans rfl
    have hcz27_4 : wc.cell? ⟨gb297, 4, none⟩ = some (.int .i64 0) := (blk_cell BK297.out 4).trans rfl
    have hfz27_0 := blk_frozen BK297.out 0
    have hfz27_1 := blk_frozen BK297.out 1
    have hfz27_2 := blk_frozen BK297.out 2
    have hfz27_3 := blk_frozen BK297.out 3
    have hfz27_4 := blk_frozen BK297.out 4
    go_wp2
    refine bodyPost_ret (results_cell_row rfl _ _ gb297 27 #[.int .i64 0, .bool false, .int .u64 0, .int .u64 0, .int .i64 0] (0, 0) _ rfl (by (with_reducible repeat (first | refine blk_drewN ?_ _ | refine blk_drew ?_ | refine blk_alloc ?_ _)); refine blk_put (cs := #[.int .i64 0, .bool false, .int .u64 0, .int .u64 0, .int .i64 0]) ?_ 4 _ rfl; (with_reducible repeat (first | refine blk_drewN ?_ _ | refine blk_drew ?_ | refine blk_alloc ?_ _)); refine blk_put (cs := #[.int .i64 0, .bool false, .int .u64 0, .int .u64 0, .int .i64 0]) ?_ 3 _ rfl; (with_reducible repeat (first | refine blk_drewN ?_ _ | refine blk_drew ?_ | refine blk_alloc ?_ _)); refine blk_put (cs := #[.int .i64 0, .bool false, .int .u64 0, .int .u64 0, .int .i64 0]) ?_ 2 _ rfl; (with_reducible repeat (first | refine blk_drewN ?_ _ | refine blk_drew ?_ | refine blk_alloc ?_ _)); refine blk_put (cs := #[.int .i64 0, .bool false, .int .u64 0, .int .u64 0, .int .i64 0]) ?_ 1 _ rfl; (with_reducible repeat (first | refine blk_drewN ?_ _ | refine blk_drew ?_ | refine blk_alloc ?_ _)); refine blk_put (cs := #[.int .i64 0, .bool false, .int .u64 0, .int .u64 0, .int .i64 0]) ?_ 0 _ rfl; (with_reducible repeat (first | refine blk_drewN ?_ _ | refine blk_drew ?_ | refine blk_alloc ?_ _)); exact BK297.out) Tryd.underlying27 rfl (by kernel_rfl)) rfl ?_
    exact ⟨by first | rfl | (simp [errW_none, errW_some] <;> rfl) | (simp [*, errW_none, errW_some] <;> rfl), by repeat (first | (with_reducible first | exact HB.out | apply below_alloc | apply pw_below_drewN | apply below_drew1 | refine below_set ?_ GE296.out | refine below_set ?_ GE297.out | refine below_set ?_ GE305.out) | exact HB.out)⟩
   ·replace c24 := Bool.eq_false_iff.mpr c24
    subst c24
    have H1 : ((impl_layout_fracBits.f t298 t299 t300 t301 t302 t303).bind fun t308 => ((impl_Word_low.f a1_0 a1_1 t308).bind fun bt309 => ((impl_Word_right.f a1_0 a1_1 t308).bind fun bt312 => ((impl_Word_low.f bt312.1 bt312.2 t302).bind fun bt314 => ((impl_Word_right.f a1_0 a1_1 (wrap64 (t301 - 1))).bind fun bt316 => (if t303 = true then ((impl_Word_right.f bt309.1 bt309.2 (wrap64 (t298 - 1))).bind fun bt319 => (if ((!(bt319.1 == 0) || (!(bt319.2 == 0))) != ((wrap64 (bt314.2)) != 0)) = true then (some (0, false, 0, 0, 0)) else ((impl_Word_low.f bt309.1 bt309.2 (wrap64 (t298 - 1))).bind fun bt321 => (impl_Unpack.j1 kj3 (wrap64 (bt314.2)) (!(bt316.1 == 0) || (!(bt316.2 == 0))) t298 t299 t300 t301 t302 t303 bt309.1 bt309.2 bt321.1 bt321.2)))) else (impl_Unpack.j1 kj3 (wrap64 (bt314.2)) (!(bt316.1 == 0) || (!(bt316.2 == 0))) t298 t299 t300 t301 t302 t303 bt309.1 bt309.2 bt309.1 bt309.2))))))) = some (r1, r2, r3, r4, r5) := by rw [if_neg (show ¬ (false = true) by decide)] at H; exact H
    clear H
    have H := H1
    clear H1
    replace H := Option.bind_eq_some_iff.mp H
    obtain ⟨t308, A280, H⟩ := H
    replace H : ((impl_Word_low.f a1_0 a1_1 t308).bind fun bt309 => ((impl_Word_right.f a1_0 a1_1 t308).bind fun bt312 => ((impl_Word_low.f bt312.1 bt312.2 t302).bind fun bt314 => ((impl_Word_right.f a1_0 a1_1 (wrap64 (t301 - 1))).bind fun bt316 => (if t303 = true then ((impl_Word_right.f bt309.1 bt309.2 (wrap64 (t298 - 1))).bind fun bt319 => (if ((!(bt319.1 == 0) || (!(bt319.2 == 0))) != ((wrap64 (bt314.2)) != 0)) = true then (some (0, false, 0, 0, 0)) else ((impl_Word_low.f bt309.1 bt309.2 (wrap64 (t298 - 1))).bind fun bt321 => (impl_Unpack.j1 kj3 (wrap64 (bt314.2)) (!(bt316.1 == 0) || (!(bt316.2 == 0))) t298 t299 t300 t301 t302 t303 bt309.1 bt309.2 bt321.1 bt321.2)))) else (impl_Unpack.j1 kj3 (wrap64 (bt314.2)) (!(bt316.1 == 0) || (!(bt316.2 == 0))) t298 t299 t300 t301 t302 t303 bt309.1 bt309.2 bt309.1 bt309.2)))))) = some (r1, r2, r3, r4, r5) := H
    have A28 := Aside0.mk A280
    clear A280
    replace H := Option.bind_eq_some_iff.mp H
    obtain ⟨⟨t309, t310⟩, A290, H⟩ := H
    replace H : ((impl_Word_right.f a1_0 a1_1 t308).bind fun bt312 => ((impl_Word_low.f bt312.1 bt312.2 t302).bind fun bt314 => ((impl_Word_right.f a1_0 a1_1 (wrap64 (t301 - 1))).bind fun bt316 => (if t303 = true then ((impl_Word_right.f t309 t310 (wrap64 (t298 - 1))).bind fun bt319 => (if ((!(bt319.1 == 0) || (!(bt319.2 == 0))) != ((wrap64 (bt314.2)) != 0)) = true then (some (0, false, 0, 0, 0)) else ((impl_Word_low.f t309 t310 (wrap64 (t298 - 1))).bind fun bt321 => (impl_Unpack.j1 kj3 (wrap64 (bt314.2)) (!(bt316.1 == 0) || (!(bt316.2 == 0))) t298 t299 t300 t301 t302 t303 t309 t310 bt321.1 bt321.2)))) else (impl_Unpack.j1 kj3 (wrap64 (bt314.2)) (!(bt316.1 == 0) || (!(bt316.2 == 0))) t298 t299 t300 t301 t302 t303 t309 t310 t309 t310))))) = some (r1, r2, r3, r4, r5) := H
    have A29 := Aside0.mk A290
    clear A290
    replace H := Option.bind_eq_some_iff.mp H
    obtain ⟨⟨t312, t313⟩, A300, H⟩ := H
    replace H : ((impl_Word_low.f t312 t313 t302).bind fun bt314 => ((impl_Word_right.f a1_0 a1_1 (wrap64 (t301 - 1))).bind fun bt316 => (if t303 = true then ((impl_Word_right.f t309 t310 (wrap64 (t298 - 1))).bind fun bt319 => (if ((!(bt319.1 == 0) || (!(bt319.2 == 0))) != ((wrap64 (bt314.2)) != 0)) = true then (some (0, false, 0, 0, 0)) else ((impl_Word_low.f t309 t310 (wrap64 (t298 - 1))).bind fun bt321 => (impl_Unpack.j1 kj3 (wrap64 (bt314.2)) (!(bt316.1 == 0) || (!(bt316.2 == 0))) t298 t299 t300 t301 t302 t303 t309 t310 bt321.1 bt321.2)))) else (impl_Unpack.j1 kj3 (wrap64 (bt314.2)) (!(bt316.1 == 0) || (!(bt316.2 == 0))) t298 t299 t300 t301 t302 t303 t309 t310 t309 t310)))) = some (r1, r2, r3, r4, r5) := H
    have A30 := Aside0.mk A300
    clear A300
    replace H := Option.bind_eq_some_iff.mp H
    obtain ⟨⟨t314, t315⟩, A310, H⟩ := H
    replace H : ((impl_Word_right.f a1_0 a1_1 (wrap64 (t301 - 1))).bind fun bt316 => (if t303 = true then ((impl_Word_right.f t309 t310 (wrap64 (t298 - 1))).bind fun bt319 => (if ((!(bt319.1 == 0) || (!(bt319.2 == 0))) != ((wrap64 (t315)) != 0)) = true then (some (0, false, 0, 0, 0)) else ((impl_Word_low.f t309 t310 (wrap64 (t298 - 1))).bind fun bt321 => (impl_Unpack.j1 kj3 (wrap64 (t315)) (!(bt316.1 == 0) || (!(bt316.2 == 0))) t298 t299 t300 t301 t302 t303 t309 t310 bt321.1 bt321.2)))) else (impl_Unpack.j1 kj3 (wrap64 (t315)) (!(bt316.1 == 0) || (!(bt316.2 == 0))) t298 t299 t300 t301 t302 t303 t309 t310 t309 t310))) = some (r1, r2, r3, r4, r5) := H
    have A31 := Aside0.mk A310
    clear A310
    replace H := Option.bind_eq_some_iff.mp H
    obtain ⟨⟨t316, t317⟩, A320, H⟩ := H
    replace H : (if t303 = true then ((impl_Word_right.f t309 t310 (wrap64 (t298 - 1))).bind fun bt319 => (if ((!(bt319.1 == 0) || (!(bt319.2 == 0))) != ((wrap64 (t315)) != 0)) = true then (some (0, false, 0, 0, 0)) else ((impl_Word_low.f t309 t310 (wrap64 (t298 - 1))).bind fun bt321 => (impl_Unpack.j1 kj3 (wrap64 (t315)) (!(t316 == 0) || (!(t317 == 0))) t298 t299 t300 t301 t302 t303 t309 t310 bt321.1 bt321.2)))) else (impl_Unpack.j1 kj3 (wrap64 (t315)) (!(t316 == 0) || (!(t317 == 0))) t298 t299 t300 t301 t302 t303 t309 t310 t309 t310)) = some (r1, r2, r3, r4, r5) := H
    have A32 := Aside0.mk A320
    clear A320
    have HC33 := Aside0.mk H
    clear H
    have hnb34 := NB305_296.out
    have hnc34 := NB296_305.out
    have hnb35 := NB305_297.out
    have hnc35 := NB297_305.out
    have hcz36_0 : wc.cell? ⟨gb305, 0, none⟩ = some (.int .i64 t298) := (blk_cell BK305.out 0).trans rfl
    have hcz36_1 : wc.cell? ⟨gb305, 1, none⟩ = some (.int .i64 t299) := (blk_cell BK305.out 1).trans rfl
    have hcz36_2 : wc.cell? ⟨gb305, 2, none⟩ = some (.int .i64 t300) := (blk_cell BK305.out 2).trans rfl
    have hcz36_3 : wc.cell? ⟨gb305, 3, none⟩ = some (.int .i64 t301) := (blk_cell BK305.out 3).trans rfl
    have hcz36_4 : wc.cell? ⟨gb305, 4, none⟩ = some (.int .i64 t302) := (blk_cell BK305.out 4).trans rfl
    have hcz36_5 : wc.cell? ⟨gb305, 5, none⟩ = some (.bool t303) := (blk_cell BK305.out 5).trans rfl
    have hfz36_0 := blk_frozen BK305.out 0
    have hfz36_1 := blk_frozen BK305.out 1
    have hfz36_2 := blk_frozen BK305.out 2
    have hfz36_3 := blk_frozen BK305.out 3
    have hfz36_4 := blk_frozen BK305.out 4
    have hfz36_5 := blk_frozen BK305.out 5
    try go_wp2_with (first | ((with_reducible refine gate_callee (f := 67) rfl ?_); refine goesL_ (some 37) rfl rfl Tryd.func67 (by kernel_rfl) rfl #[.agg #[.int .i64 t298, .int .i64 t299, .int .i64 t300, .int .i64 t301, .int .i64 t302, .bool t303]] rfl (by (try simp only [List.map_toArray, List.map_cons, List.map_nil]); first | done | rfl | (simp only [List.length_drop, List.length_take]; rfl)) ?_; (with_reducible refine (impl_layout_fracBits.calls t298 t299 t300 t301 t302 t303 t308 _ A28.out).mono ?_); rintro e w37 ⟨rfl, hb⟩; refine ⟨_, rfl, ?_⟩; have n0_ := Aside0.mk (blk_below (g := gb296) (o := .cells #[.int .u64 a1_0, .int .u64 a1_1] 25 (0, 0)) (by (with_reducible repeat (first | refine blk_drewN ?_ _ | refine blk_drew ?_ | refine blk_alloc ?_ _)); exact BK296.out) hb); have n1_ := Aside0.mk (blk_below (g := gb297) (o := .cells #[.int .i64 0, .bool false, .int .u64 0, .int .u64 0, .int .i64 0] 27 (0, 0)) (by (with_reducible repeat (first | refine blk_drewN ?_ _ | refine blk_drew ?_ | refine blk_alloc ?_ _)); exact BK297.out) hb); have n2_ := Aside0.mk (blk_below (g := gb305) (o := .cells #[.int .i64 t298, .int .i64 t299, .int .i64 t300, .int .i64 t301, .int .i64 t302, .bool t303] 91 (0, 0)) (by (with_reducible repeat (first | refine blk_drewN ?_ _ | refine blk_drew ?_ | refine blk_alloc ?_ _)); exact BK305.out) hb); have n3_ := Aside0.mk (below_step (by repeat (first | (with_reducible first | exact HB.out | apply below_alloc | apply pw_below_drewN | apply below_drew1 | refine below_set ?_ GE296.out | refine below_set ?_ GE297.out | refine below_set ?_ GE305.out) | exact HB.out)) hb); clear BK296; clear BK297; clear BK305; clear HB; have BK296 := n0_; have BK297 := n1_; have BK305 := n2_; have HB := n3_; clear n0_ n1_ n2_ n3_; (try clear hb); (try clear hb2); (try clear hk); (try clear hi); have hnb38 := NB296_297.out; have hnc38 := NB297_296.out; have hcz39_0 : w37.cell? ⟨gb296, 0, none⟩ = some (.int .u64 a1_0) := (blk_cell BK296.out 0).trans rfl; have hcz39_1 : w37.cell? ⟨gb296, 1, none⟩ = some (.int .u64 a1_1) := (blk_cell BK296.out 1).trans rfl; have hfz39_0 := blk_frozen BK296.out 0; have hfz39_1 := blk_frozen BK296.out 1) | ((with_reducible refine gate_callee (f := 68) rfl ?_); refine goesL_ (some 40) rfl rfl Tryd.func68 (by kernel_rfl) rfl #[.agg #[.int .u64 a1_0, .int .u64 a1_1], .int .i64 t308] rfl (by (try simp only [List.map_toArray, List.map_cons, List.map_nil]); first | done | rfl | (simp only [List.length_drop, List.length_take]; rfl)) ?_; (with_reducible refine (impl_Word_low.calls a1_0 a1_1 t308 t309 t310 _ A29.out).mono ?_); rintro e w40 ⟨rfl, hb⟩; refine ⟨_, rfl, ?_⟩; have n0_ := Aside0.mk (blk_below (g := gb296) (o := .cells #[.int .u64 a1_0, .int .u64 a1_1] 25 (0, 0)) (by (with_reducible repeat (first | refine blk_drewN ?_ _ | refine blk_drew ?_ | refine blk_alloc ?_ _)); exact BK296.out) hb); have n1_ := Aside0.mk (blk_below (g := gb297) (o := .cells #[.int .i64 0, .bool false, .int .u64 0, .int .u64 0, .int .i64 0] 27 (0, 0)) (by (with_reducible repeat (first | refine blk_drewN ?_ _ | refine blk_drew ?_ | refine blk_alloc ?_ _)); exact BK297.out) hb); have n2_ := Aside0.mk (blk_below (g := gb305) (o := .cells #[.int .i64 t298, .int .i64 t299, .int .i64 t300, .int .i64 t301, .int .i64 t302, .bool t303] 91 (0, 0)) (by (with_reducible repeat (first | refine blk_drewN ?_ _ | refine blk_drew ?_ | refine blk_alloc ?_ _)); exact BK305.out) hb); have n3_ := Aside0.mk (below_step (by repeat (first | (with_reducible first | exact HB.out | apply below_alloc | apply pw_below_drewN | apply below_drew1 | refine below_set ?_ GE296.out | refine below_set ?_ GE297.out | refine below_set ?_ GE305.out) | exact HB.out)) hb); clear BK296; clear BK297; clear BK305; clear HB; have BK296 := n0_; have BK297 := n1_; have BK305 := n2_; have HB := n3_; clear n0_ n1_ n2_ n3_; (try clear hb); (try clear hb2); (try clear hk); (try clear hi)) | ((with_reducible refine gate_dst (N := 8) rfl ?_); refine box_event ?hg (N := 8) ?hd (cs := #[.int .u64 0, .int .u64 0]) (t := 25) ?hr ?_; (case hd => rfl); (case hg => rfl); (case hr => first | (go_simp; done) | (go_simp; rfl)); intro gb311 hg w41 hbox hb; have n0_ := Aside0.mk (blk_below (g := gb296) (o := .cells #[.int .u64 a1_0, .int .u64 a1_1] 25 (0, 0)) (by (with_reducible repeat (first | refine blk_drewN ?_ _ | refine blk_drew ?_ | refine blk_alloc ?_ _)); exact BK296.out) hb); have n1_ := Aside0.mk (blk_below (g := gb297) (o := .cells #[.int .i64 0, .bool false, .int .u64 0, .int .u64 0, .int .i64 0] 27 (0, 0)) (by (with_reducible repeat (first | refine blk_drewN ?_ _ | refine blk_drew ?_ | refine blk_alloc ?_ _)); exact BK297.out) hb); have n2_ := Aside0.mk (blk_below (g := gb305) (o := .cells #[.int .i64 t298, .int .i64 t299, .int .i64 t300, .int .i64 t301, .int .i64 t302, .bool t303] 91 (0, 0)) (by (with_reducible repeat (first | refine blk_drewN ?_ _ | refine blk_drew ?_ | refine blk_alloc ?_ _)); exact BK305.out) hb); have n3_ := Aside0.mk (below_step (by repeat (first | (with_reducible first | exact HB.out | apply below_alloc | apply pw_below_drewN | apply below_drew1 | refine below_set ?_ GE296.out | refine below_set ?_ GE297.out | refine below_set ?_ GE305.out) | exact HB.out)) hb); have n4_ := Aside0.mk (hbox); have n5_ := Aside0.mk ((by rw [hg]; exact (below_size (by repeat (first | (with_reducible first | exact HB.out | apply below_alloc | apply pw_below_drewN | apply below_drew1 | refine below_set ?_ GE296.out | refine below_set ?_ GE297.out | refine below_set ?_ GE305.out) | exact HB.out))) : w.heap.size ≤ gb311)); have n6_ := Aside0.mk ((by rw [hg]; exact (below_size (by repeat (first | (with_reducible first | exact HB.out | apply below_alloc | apply pw_below_drewN | apply below_drew1 | refine below_set ?_ GE296.out | refine below_set ?_ GE297.out | refine below_set ?_ GE305.out) | exact HB.out))) : w.heap.size ≤ gb311)); have n7_ := Aside0.mk ((by rw [hg]; exact Nat.ne_of_lt (blk_lt (g := gb296) (o := .cells #[.int .u64 a1_0, .int .u64 a1_1] 25 (0, 0)) (by (with_reducible repeat (first | refine blk_drewN ?_ _ | refine blk_drew ?_ | refine blk_alloc ?_ _)); exact BK296.out)) : gb296 ≠ gb311)); have n8_ := Aside0.mk ((by rw [hg]; exact Nat.ne_of_gt (blk_lt (g := gb296) (o := .cells #[.int .u64 a1_0, .int .u64 a1_1] 25 (0, 0)) (by (with_reducible repeat (first | refine blk_drewN ?_ _ | refine blk_drew ?_ | refine blk_alloc ?_ _)); exact BK296.out)) : gb311 ≠ gb296)); have n9_ := Aside0.mk ((by rw [hg]; exact Nat.ne_of_lt (blk_lt (g := gb297) (o := .cells #[.int .i64 0, .bool false, .int .u64 0, .int .u64 0, .int .i64 0] 27 (0, 0)) (by (with_reducible repeat (first | refine blk_drewN ?_ _ | refine blk_drew ?_ | refine blk_alloc ?_ _)); exact BK297.out)) : gb297 ≠ gb311)); have n10_ := Aside0.mk ((by rw [hg]; exact Nat.ne_of_gt (blk_lt (g := gb297) (o := .cells #[.int .i64 0, .bool false, .int .u64 0, .int .u64 0, .int .i64 0] 27 (0, 0)) (by (with_reducible repeat (first | refine blk_drewN ?_ _ | refine blk_drew ?_ | refine blk_alloc ?_ _)); exact BK297.out)) : gb311 ≠ gb297)); have n11_ := Aside0.mk ((by rw [hg]; exact Nat.ne_of_lt (blk_lt (g := gb305) (o := .cells #[.int .i64 t298, .int .i64 t299, .int .i64 t300, .int .i64 t301, .int .i64 t302, .bool t303] 91 (0, 0)) (by (with_reducible repeat (first | refine blk_drewN ?_ _ | refine blk_drew ?_ | refine blk_alloc ?_ _)); exact BK305.out)) : gb305 ≠ gb311)); have n12_ := Aside0.mk ((by rw [hg]; exact Nat.ne_of_gt (blk_lt (g := gb305) (o := .cells #[.int .i64 t298, .int .i64 t299, .int .i64 t300, .int .i64 t301, .int .i64 t302, .bool t303] 91 (0, 0)) (by (with_reducible repeat (first | refine blk_drewN ?_ _ | refine blk_drew ?_ | refine blk_alloc ?_ _)); exact BK305.out)) : gb311 ≠ gb305)); clear BK296; clear BK297; clear BK305; clear HB; have BK296 := n0_; have BK297 := n1_; have BK305 := n2_; have HB := n3_; have BK311 := n4_; have GW311 := n5_; have GE311 := n6_; have NB296_311 := n7_; have NB311_296 := n8_; have NB297_311 := n9_; have NB311_297 := n10_; have NB305_311 := n11_; have NB311_305 := n12_; clear n0_ n1_ n2_ n3_ n4_ n5_ n6_ n7_ n8_ n9_ n10_ n11_ n12_; clear hb hbox hg; have hnb42 := NB311_296.out; have hnc42 := NB296_311.out; have hnb43 := NB311_297.out; have hnc43 := NB297_311.out; have hnb44 := NB311_305.out; have hnc44 := NB305_311.out; have hcz45_0 : w41.cell? ⟨gb311, 0, none⟩ = some (.int .u64 0) := (blk_cell BK311.out 0).trans rfl; have hcz45_1 : w41.cell? ⟨gb311, 1, none⟩ = some (.int .u64 0) := (blk_cell BK311.out 1).trans rfl; have hfz45_0 := blk_frozen BK311.out 0; have hfz45_1 := blk_frozen BK311.out 1))
    have n0_ : Aside0 (((w41.setCell ⟨gb311, 0, none⟩ (.int .u64 t309)).setCell ⟨gb311, 1, none⟩ (.int .u64 t310)).heap[gb296]? = some (.cells #[.int .u64 a1_0, .int .u64 a1_1] 25 (0, 0))) := ⟨by (with_reducible repeat (first | refine blk_drewN ?_ _ | refine blk_drew ?_ | refine blk_alloc ?_ _)); refine blk_far ?_ NB296_311.out _; (with_reducible repeat (first | refine blk_drewN ?_ _ | refine blk_drew ?_ | refine blk_alloc ?_ _)); refine blk_far ?_ NB296_311.out _; (with_reducible repeat (first | refine blk_drewN ?_ _ | refine blk_drew ?_ | refine blk_alloc ?_ _)); exact BK296.out⟩
    have n1_ : Aside0 (((w41.setCell ⟨gb311, 0, none⟩ (.int .u64 t309)).setCell ⟨gb311, 1, none⟩ (.int .u64 t310)).heap[gb297]? = some (.cells #[.int .i64 0, .bool false, .int .u64 0, .int .u64 0, .int .i64 0] 27 (0, 0))) := ⟨by (with_reducible repeat (first | refine blk_drewN ?_ _ | refine blk_drew ?_ | refine blk_alloc ?_ _)); refine blk_far ?_ NB297_311.out _; (with_reducible repeat (first | refine blk_drewN ?_ _ | refine blk_drew ?_ | refine blk_alloc ?_ _)); refine blk_far ?_ NB297_311.out _; (with_reducible repeat (first | refine blk_drewN ?_ _ | refine blk_drew ?_ | refine blk_alloc ?_ _)); exact BK297.out⟩
    have n2_ : Aside0 (((w41.setCell ⟨gb311, 0, none⟩ (.int .u64 t309)).setCell ⟨gb311, 1, none⟩ (.int .u64 t310)).heap[gb305]? = some (.cells #[.int .i64 t298, .int .i64 t299, .int .i64 t300, .int .i64 t301, .int .i64 t302, .bool t303] 91 (0, 0))) := ⟨by (with_reducible repeat (first | refine blk_drewN ?_ _ | refine blk_drew ?_ | refine blk_alloc ?_ _)); refine blk_far ?_ NB305_311.out _; (with_reducible repeat (first | refine blk_drewN ?_ _ | refine blk_drew ?_ | refine blk_alloc ?_ _)); refine blk_far ?_ NB305_311.out _; (with_reducible repeat (first | refine blk_drewN ?_ _ | refine blk_drew ?_ | refine blk_alloc ?_ _)); exact BK305.out⟩
    have n3_ : Aside0 (((w41.setCell ⟨gb311, 0, none⟩ (.int .u64 t309)).setCell ⟨gb311, 1, none⟩ (.int .u64 t310)).heap[gb311]? = some (.cells #[.int .u64 t309, .int .u64 t310] 25 (0, 0))) := ⟨by (with_reducible repeat (first | refine blk_drewN ?_ _ | refine blk_drew ?_ | refine blk_alloc ?_ _)); refine blk_put (cs := #[.int .u64 t309, .int .u64 0]) ?_ 1 _ rfl; (with_reducible repeat (first | refine blk_drewN ?_ _ | refine blk_drew ?_ | refine blk_alloc ?_ _)); refine blk_put (cs := #[.int .u64 0, .int .u64 0]) ?_ 0 _ rfl; (with_reducible repeat (first | refine blk_drewN ?_ _ | refine blk_drew ?_ | refine blk_alloc ?_ _)); exact BK311.out⟩
    have n4_ : Aside0 (Below w.heap.size w ((w41.setCell ⟨gb311, 0, none⟩ (.int .u64 t309)).setCell ⟨gb311, 1, none⟩ (.int .u64 t310))) := ⟨by repeat (first | (with_reducible first | exact HB.out | apply below_alloc | apply pw_below_drewN | apply below_drew1 | refine below_set ?_ GE296.out | refine below_set ?_ GE297.out | refine below_set ?_ GE305.out | refine below_set ?_ GE311.out) | exact HB.out)⟩
    (try clear BK296)
    (try clear BK297)
    (try clear BK305)
    (try clear BK311)
    (try clear HB)
    generalize ((w41.setCell ⟨gb311, 0, none⟩ (.int .u64 t309)).setCell ⟨gb311, 1, none⟩ (.int .u64 t310)) = w46 at n0_ n1_ n2_ n3_ n4_ ⊢
    have BK296 := n0_
    have BK297 := n1_
    have BK305 := n2_
    have BK311 := n3_
    have HB := n4_
    clear n0_ n1_ n2_ n3_ n4_
    have n0_ := Aside0.mk (blk_drew BK296.out)
    have n1_ := Aside0.mk (blk_drew BK297.out)
    have n2_ := Aside0.mk (blk_drew BK305.out)
    have n3_ := Aside0.mk (blk_drew BK311.out)
    have n4_ := Aside0.mk (below_drew1 HB.out)
    clear BK296
    clear BK297
    clear BK305
    clear BK311
    clear HB
    have BK296 := n0_
    have BK297 := n1_
    have BK305 := n2_
    have BK311 := n3_
    have HB := n4_
    clear n0_ n1_ n2_ n3_ n4_
    refine start_ (n := 10) (S := fun w' => w'.cell? ⟨gb296, 0, none⟩ = some (.int .u64 a1_0) ∧ w'.cell? ⟨gb296, 1, none⟩ = some (.int .u64 a1_1) ∧ w'.cell? ⟨gb305, 0, none⟩ = some (.int .i64 t298) ∧ w'.cell? ⟨gb305, 1, none⟩ = some (.int .i64 t299) ∧ w'.cell? ⟨gb305, 2, none⟩ = some (.int .i64 t300) ∧ w'.cell? ⟨gb305, 3, none⟩ = some (.int .i64 t301) ∧ w'.cell? ⟨gb305, 4, none⟩ = some (.int .i64 t302) ∧ w'.cell? ⟨gb305, 5, none⟩ = some (.bool t303)) (ds := []) #[false, false, false, false, false, false, false, false, false, false] (by kernel_rfl) rfl rfl ⟨(blk_cell BK296.out 0).trans rfl, (blk_cell BK296.out 1).trans rfl, (blk_cell BK305.out 0).trans rfl, (blk_cell BK305.out 1).trans rfl, (blk_cell BK305.out 2).trans rfl, (blk_cell BK305.out 3).trans rfl, (blk_cell BK305.out 4).trans rfl, (blk_cell BK305.out 5).trans rfl⟩ (fun hHeld => ?_); refine with_tabW impl_Unpack.tab6 impl_Unpack.bits6 (fun HT_ HW_ => ?_)
    generalize w46.drew = w47 at BK296 BK297 BK305 BK311 HB hHeld ⊢
    refine pure_ (i := 1) (N := some 42) (v := ?_) (a' := ?_) #[false, true, false, false, false, false, false, false, false, false] rfl rfl (any_of HT_.out (by kernel_rfl)) (fun _ _ _ h => h) (Or.inl ⟨by rfl, ?_⟩) ?_ ?_
    rotate_left
    ·intro w'
     go_simp
     with_reducible rfl
    rotate_left
    ·simp only [Act.put, List.setIfInBounds_toArray, List.set_cons_zero, List.set_cons_succ, i64_w, i32_w]
     rfl
    refine pure_ (i := 3) (N := some 44) (v := ?_) (a' := ?_) #[false, true, false, true, false, false, false, false, false, false] rfl rfl (any_of HT_.out (by kernel_rfl)) (fun _ _ _ h => h) (Or.inl ⟨by rfl, ?_⟩) ?_ ?_
    rotate_left
    ·intro w'
     go_simp
     with_reducible rfl
    rotate_left
    ·simp only [Act.put, List.setIfInBounds_toArray, List.set_cons_zero, List.set_cons_succ, i64_w, i32_w]
     rfl
    refine pure_ (i := 4) (N := some 45) (v := ?_) (a' := ?_) #[false, true, false, true, true, false, false, false, false, false] rfl rfl (any_of HT_.out (by kernel_rfl)) (fun _ _ _ h => h) (Or.inl ⟨by rfl, ?_⟩) ?_ ?_
    rotate_left
    ·intro w'
     go_simp
     with_reducible rfl
    rotate_left
    ·simp only [Act.put, List.setIfInBounds_toArray, List.set_cons_zero, List.set_cons_succ, i64_w, i32_w]
     rfl
    refine take_ (i := 0) (N := some 41) (v := ?_) (a' := ?_) #[true, true, false, true, true, false, false, false, false, false] rfl rfl (take_ofW HT_.out HW_.out (by kernel_rfl)) (fun _ _ _ h => h) (Or.inl ⟨by rfl, ?_⟩) hHeld ?_ ?_
    rotate_left
    ·rintro w' ⟨s0, s1, s2, s3, s4, s5, s6, s7⟩
     go_simp
     with_reducible rfl
    rotate_left
    ·simp only [Act.put, List.setIfInBounds_toArray, List.set_cons_zero, List.set_cons_succ, i64_w, i32_w]
     rfl
    refine take_ (i := 5) (N := some 46) (v := ?_) (a' := ?_) #[true, true, false, true, true, true, false, false, false, false] rfl rfl (take_ofW HT_.out HW_.out (by kernel_rfl)) (fun _ _ _ h => h) (Or.inl ⟨by rfl, ?_⟩) hHeld ?_ ?_
    rotate_left
    ·rintro w' ⟨s0, s1, s2, s3, s4, s5, s6, s7⟩
     go_simp
     with_reducible rfl
    rotate_left
    ·simp only [Act.put, List.setIfInBounds_toArray, List.set_cons_zero, List.set_cons_succ, i64_w, i32_w]
     rfl
    refine one_ (i := 2) (N := some 43) #[true, true, true, true, true, true, false, false, false, false] rfl rfl (one_of HT_.out (by kernel_rfl)) (by decide) (fun K hK => ?_)
    refine goes_ Tryd.func66 (by kernel_rfl) rfl #[.agg #[.int .u64 a1_0, .int .u64 a1_1], .int .i64 t308] (by rfl) rfl rfl (by (try simp only [List.map_toArray, List.map_cons, List.map_nil]); first | done | rfl | (simp only [List.length_drop, List.length_take]; rfl)) ?_
    with_reducible refine (impl_Word_right.calls a1_0 a1_1 t308 t312 t313 _ A30.out).mono ?_
    rintro e w48 ⟨rfl, hb⟩
    refine ⟨_, rfl, ?_⟩
    have n0_ := Aside0.mk (blk_below (g := gb296) (o := .cells #[.int .u64 a1_0, .int .u64 a1_1] 25 (0, 0)) (by (with_reducible repeat (first | refine blk_drewN ?_ _ | refine blk_drew ?_ | refine blk_alloc ?_ _)); exact BK296.out) hb)
    have n1_ := Aside0.mk (blk_below (g := gb297) (o := .cells #[.int .i64 0, .bool false, .int .u64 0, .int .u64 0, .int .i64 0] 27 (0, 0)) (by (with_reducible repeat (first | refine blk_drewN ?_ _ | refine blk_drew ?_ | refine blk_alloc ?_ _)); exact BK297.out) hb)
    have n2_ := Aside0.mk (blk_below (g := gb305) (o := .cells #[.int .i64 t298, .int .i64 t299, .int .i64 t300, .int .i64 t301, .int .i64 t302, .bool t303] 91 (0, 0)) (by (with_reducible repeat (first | refine blk_drewN ?_ _ | refine blk_drew ?_ | refine blk_alloc ?_ _)); exact BK305.out) hb)
    have n3_ := Aside0.mk (blk_below (g := gb311) (o := .cells #[.int .u64 t309, .int .u64 t310] 25 (0, 0)) (by (with_reducible repeat (first | refine blk_drewN ?_ _ | refine blk_drew ?_ | refine blk_alloc ?_ _)); exact BK311.out) hb)
    have n4_ := Aside0.mk (below_step (by repeat (first | (with_reducible first | exact HB.out | apply below_alloc | apply pw_below_drewN | apply below_drew1 | refine below_set ?_ GE296.out | refine below_set ?_ GE297.out | refine below_set ?_ GE305.out | refine below_set ?_ GE311.out) | exact HB.out)) hb)
    clear BK296
    clear BK297
    clear BK305
    clear BK311
    clear HB
    have BK296 := n0_
    have BK297 := n1_
    have BK305 := n2_
    have BK311 := n3_
    have HB := n4_
    clear n0_ n1_ n2_ n3_ n4_
    (try clear hb)
    (try clear hb2)
    (try clear hk)
    (try clear hi)
    refine hK.out _ _ ⟨(blk_cell BK296.out 0).trans rfl, (blk_cell BK296.out 1).trans rfl, (blk_cell BK305.out 0).trans rfl, (blk_cell BK305.out 1).trans rfl, (blk_cell BK305.out 2).trans rfl, (blk_cell BK305.out 3).trans rfl, (blk_cell BK305.out 4).trans rfl, (blk_cell BK305.out 5).trans rfl⟩ (fun hHeld => ?_)
    clear hK K
    refine norm_ (a' := ?_) ?_ ?_
    rotate_left
    ·show Act.put _ (some 43) _ = _
     simp only [Act.put, List.setIfInBounds_toArray, List.set_cons_zero, List.set_cons_succ, i64_w, i32_w]
     rfl
    refine one_ (i := 6) (N := some 47) #[true, true, true, true, true, true, true, false, false, false] rfl rfl (one_of HT_.out (by kernel_rfl)) (by decide) (fun K hK => ?_)
    refine goes_ Tryd.func68 (by kernel_rfl) rfl #[.agg #[.int .u64 t312, .int .u64 t313], .int .i64 t302] (by rfl) rfl rfl (by (try simp only [List.map_toArray, List.map_cons, List.map_nil]); first | done | rfl | (simp only [List.length_drop, List.length_take]; rfl)) ?_
    with_reducible refine (impl_Word_low.calls t312 t313 t302 t314 t315 _ A31.out).mono ?_
    rintro e w49 ⟨rfl, hb⟩
    refine ⟨_, rfl, ?_⟩
    have n0_ := Aside0.mk (blk_below (g := gb296) (o := .cells #[.int .u64 a1_0, .int .u64 a1_1] 25 (0, 0)) (by (with_reducible repeat (first | refine blk_drewN ?_ _ | refine blk_drew ?_ | refine blk_alloc ?_ _)); exact BK296.out) hb)
    have n1_ := Aside0.mk (blk_below (g := gb297) (o := .cells #[.int .i64 0, .bool false, .int .u64 0, .int .u64 0, .int .i64 0] 27 (0, 0)) (by (with_reducible repeat (first | refine blk_drewN ?_ _ | refine blk_drew ?_ | refine blk_alloc ?_ _)); exact BK297.out) hb)
    have n2_ := Aside0.mk (blk_below (g := gb305) (o := .cells #[.int .i64 t298, .int .i64 t299, .int .i64 t300, .int .i64 t301, .int .i64 t302, .bool t303] 91 (0, 0)) (by (with_reducible repeat (first | refine blk_drewN ?_ _ | refine blk_drew ?_ | refine blk_alloc ?_ _)); exact BK305.out) hb)
    have n3_ := Aside0.mk (blk_below (g := gb311) (o := .cells #[.int .u64 t309, .int .u64 t310] 25 (0, 0)) (by (with_reducible repeat (first | refine blk_drewN ?_ _ | refine blk_drew ?_ | refine blk_alloc ?_ _)); exact BK311.out) hb)
    have n4_ := Aside0.mk (below_step (by repeat (first | (with_reducible first | exact HB.out | apply below_alloc | apply pw_below_drewN | apply below_drew1 | refine below_set ?_ GE296.out | refine below_set ?_ GE297.out | refine below_set ?_ GE305.out | refine below_set ?_ GE311.out) | exact HB.out)) hb)
    clear BK296
    clear BK297
    clear BK305
    clear BK311
    clear HB
    have BK296 := n0_
    have BK297 := n1_
    have BK305 := n2_
    have BK311 := n3_
    have HB := n4_
    clear n0_ n1_ n2_ n3_ n4_
    (try clear hb)
    (try clear hb2)
    (try clear hk)
    (try clear hi)
    refine hK.out _ _ ⟨(blk_cell BK296.out 0).trans rfl, (blk_cell BK296.out 1).trans rfl, (blk_cell BK305.out 0).trans rfl, (blk_cell BK305.out 1).trans rfl, (blk_cell BK305.out 2).trans rfl, (blk_cell BK305.out 3).trans rfl, (blk_cell BK305.out 4).trans rfl, (blk_cell BK305.out 5).trans rfl⟩ (fun hHeld => ?_)
    clear hK K
    refine norm_ (a' := ?_) ?_ ?_
    rotate_left
    ·show Act.put _ (some 47) _ = _
     simp only [Act.put, List.setIfInBounds_toArray, List.set_cons_zero, List.set_cons_succ, i64_w, i32_w]
     rfl
    refine pure_ (i := 7) (N := some 48) (v := ?_) (a' := ?_) #[true, true, true, true, true, true, true, true, false, false] rfl rfl (any_of HT_.out (by kernel_rfl)) (fun _ _ _ h => h) (Or.inl ⟨by rfl, ?_⟩) ?_ ?_
    rotate_left
    ·intro w'
     go_simp
     with_reducible rfl
    rotate_left
    ·simp only [Act.put, List.setIfInBounds_toArray, List.set_cons_zero, List.set_cons_succ, i64_w, i32_w]
     rfl
    refine pure_ (i := 8) (N := some 49) (v := ?_) (a' := ?_) #[true, true, true, true, true, true, true, true, true, false] rfl rfl (any_of HT_.out (by kernel_rfl)) (fun _ _ _ h => h) (Or.inl ⟨by rfl, ?_⟩) ?_ ?_
    rotate_left
    ·intro w'
     go_simp
     with_reducible rfl
    rotate_left
    ·simp only [Act.put, List.setIfInBounds_toArray, List.set_cons_zero, List.set_cons_succ, i64_w, i32_w]
     rfl
    refine pure_ (i := 9) (N := some 9) (v := ?_) (a' := ?_) #[true, true, true, true, true, true, true, true, true, true] rfl rfl (any_of HT_.out (by kernel_rfl)) (fun _ _ _ h => h) (Or.inl ⟨by rfl, ?_⟩) ?_ ?_
    rotate_left
    ·intro w'
     go_simp
     with_reducible rfl
    rotate_left
    ·simp only [Act.put, List.setIfInBounds_toArray, List.set_cons_zero, List.set_cons_succ, i64_w, i32_w]
     rfl
    refine done_ (done_of HT_.out (by kernel_rfl)) ?_
    have hcz50_0 : w49.cell? ⟨gb296, 0, none⟩ = some (.int .u64 a1_0) := (blk_cell BK296.out 0).trans rfl
    have hcz50_1 : w49.cell? ⟨gb296, 1, none⟩ = some (.int .u64 a1_1) := (blk_cell BK296.out 1).trans rfl
    have hfz50_0 := blk_frozen BK296.out 0
    have hfz50_1 := blk_frozen BK296.out 1
    have hcz51_0 : w49.cell? ⟨gb305, 0, none⟩ = some (.int .i64 t298) := (blk_cell BK305.out 0).trans rfl
    have hcz51_1 : w49.cell? ⟨gb305, 1, none⟩ = some (.int .i64 t299) := (blk_cell BK305.out 1).trans rfl
    have hcz51_2 : w49.cell? ⟨gb305, 2, none⟩ = some (.int .i64 t300) := (blk_cell BK305.out 2).trans rfl
    have hcz51_3 : w49.cell? ⟨gb305, 3, none⟩ = some (.int .i64 t301) := (blk_cell BK305.out 3).trans rfl
    have hcz51_4 : w49.cell? ⟨gb305, 4, none⟩ = some (.int .i64 t302) := (blk_cell BK305.out 4).trans rfl
    have hcz51_5 : w49.cell? ⟨gb305, 5, none⟩ = some (.bool t303) := (blk_cell BK305.out 5).trans rfl
    have hfz51_0 := blk_frozen BK305.out 0
    have hfz51_1 := blk_frozen BK305.out 1
    have hfz51_2 := blk_frozen BK305.out 2
    have hfz51_3 := blk_frozen BK305.out 3
    have hfz51_4 := blk_frozen BK305.out 4
    have hfz51_5 := blk_frozen BK305.out 5
    go_upto_if 61 with (first | ((with_reducible refine gate_callee (f := 66) rfl ?_); refine goesL_ (some 55) rfl rfl Tryd.func66 (by kernel_rfl) rfl #[.agg #[.int .u64 a1_0, .int .u64 a1_1], .int .i64 (wrap64 (t301 - 1))] rfl (by (try simp only [List.map_toArray, List.map_cons, List.map_nil]); first | done | rfl | (simp only [List.length_drop, List.length_take]; rfl)) ?_; (with_reducible refine (impl_Word_right.calls a1_0 a1_1 (wrap64 (t301 - 1)) t316 t317 _ A32.out).mono ?_); rintro e w52 ⟨rfl, hb⟩; refine ⟨_, rfl, ?_⟩; have n0_ := Aside0.mk (blk_below (g := gb296) (o := .cells #[.int .u64 a1_0, .int .u64 a1_1] 25 (0, 0)) (by (with_reducible repeat (first | refine blk_drewN ?_ _ | refine blk_drew ?_ | refine blk_alloc ?_ _)); exact BK296.out) hb); have n1_ := Aside0.mk (blk_below (g := gb297) (o := .cells #[.int .i64 0, .bool false, .int .u64 0, .int .u64 0, .int .i64 0] 27 (0, 0)) (by (with_reducible repeat (first | refine blk_drewN ?_ _ | refine blk_drew ?_ | refine blk_alloc ?_ _)); exact BK297.out) hb); have n2_ := Aside0.mk (blk_below (g := gb305) (o := .cells #[.int .i64 t298, .int .i64 t299, .int .i64 t300, .int .i64 t301, .int .i64 t302, .bool t303] 91 (0, 0)) (by (with_reducible repeat (first | refine blk_drewN ?_ _ | refine blk_drew ?_ | refine blk_alloc ?_ _)); exact BK305.out) hb); have n3_ := Aside0.mk (blk_below (g := gb311) (o := .cells #[.int .u64 t309, .int .u64 t310] 25 (0, 0)) (by (with_reducible repeat (first | refine blk_drewN ?_ _ | refine blk_drew ?_ | refine blk_alloc ?_ _)); exact BK311.out) hb); have n4_ := Aside0.mk (below_step (by repeat (first | (with_reducible first | exact HB.out | apply below_alloc | apply pw_below_drewN | apply below_drew1 | refine below_set ?_ GE296.out | refine below_set ?_ GE297.out | refine below_set ?_ GE305.out | refine below_set ?_ GE311.out) | exact HB.out)) hb); clear BK296; clear BK297; clear BK305; clear BK311; clear HB; have BK296 := n0_; have BK297 := n1_; have BK305 := n2_; have BK311 := n3_; have HB := n4_; clear n0_ n1_ n2_ n3_ n4_; (try clear hb); (try clear hb2); (try clear hk); (try clear hi); have hcz53_0 : w52.cell? ⟨gb311, 0, none⟩ = some (.int .u64 t309) := (blk_cell BK311.out 0).trans rfl; have hcz53_1 : w52.cell? ⟨gb311, 1, none⟩ = some (.int .u64 t310) := (blk_cell BK311.out 1).trans rfl; have hfz53_0 := blk_frozen BK311.out 0; have hfz53_1 := blk_frozen BK311.out 1) | ((with_reducible refine gate_dst (N := 11) rfl ?_); refine box_event ?hg (N := 11) ?hd (cs := #[.int .u64 0, .int .u64 0]) (t := 25) ?hr ?_; (case hd => rfl); (case hg => rfl); (case hr => first | (go_simp; done) | (go_simp; rfl)); intro gb318 hg w54 hbox hb; have n0_ := Aside0.mk (blk_below (g := gb296) (o := .cells #[.int .u64 a1_0, .int .u64 a1_1] 25 (0, 0)) (by (with_reducible repeat (first | refine blk_drewN ?_ _ | refine blk_drew ?_ | refine blk_alloc ?_ _)); exact BK296.out) hb); have n1_ := Aside0.mk (blk_below (g := gb297) (o := .cells #[.int .i64 0, .bool false, .int .u64 0, .int .u64 0, .int .i64 0] 27 (0, 0)) (by (with_reducible repeat (first | refine blk_drewN ?_ _ | refine blk_drew ?_ | refine blk_alloc ?_ _)); exact BK297.out) hb); have n2_ := Aside0.mk (blk_below (g := gb305) (o := .cells #[.int .i64 t298, .int .i64 t299, .int .i64 t300, .int .i64 t301, .int .i64 t302, .bool t303] 91 (0, 0)) (by (with_reducible repeat (first | refine blk_drewN ?_ _ | refine blk_drew ?_ | refine blk_alloc ?_ _)); exact BK305.out) hb); have n3_ := Aside0.mk (blk_below (g := gb311) (o := .cells #[.int .u64 t309, .int .u64 t310] 25 (0, 0)) (by (with_reducible repeat (first | refine blk_drewN ?_ _ | refine blk_drew ?_ | refine blk_alloc ?_ _)); exact BK311.out) hb); have n4_ := Aside0.mk (below_step (by repeat (first | (with_reducible first | exact HB.out | apply below_alloc | apply pw_below_drewN | apply below_drew1 | refine below_set ?_ GE296.out | refine below_set ?_ GE297.out | refine below_set ?_ GE305.out | refine below_set ?_ GE311.out) | exact HB.out)) hb); have n5_ := Aside0.mk (hbox); have n6_ := Aside0.mk ((by rw [hg]; exact (below_size (by repeat (first | (with_reducible first | exact HB.out | apply below_alloc | apply pw_below_drewN | apply below_drew1 | refine below_set ?_ GE296.out | refine below_set ?_ GE297.out | refine below_set ?_ GE305.out | refine below_set ?_ GE311.out) | exact HB.out))) : w.heap.size ≤ gb318)); have n7_ := Aside0.mk ((by rw [hg]; exact (below_size (by repeat (first | (with_reducible first | exact HB.out | apply below_alloc | apply pw_below_drewN | apply below_drew1 | refine below_set ?_ GE296.out | refine below_set ?_ GE297.out | refine below_set ?_ GE305.out | refine below_set ?_ GE311.out) | exact HB.out))) : w.heap.size ≤ gb318)); have n8_ := Aside0.mk ((by rw [hg]; exact Nat.ne_of_lt (blk_lt (g := gb296) (o := .cells #[.int .u64 a1_0, .int .u64 a1_1] 25 (0, 0)) (by (with_reducible repeat (first | refine blk_drewN ?_ _ | refine blk_drew ?_ | refine blk_alloc ?_ _)); exact BK296.out)) : gb296 ≠ gb318)); have n9_ := Aside0.mk ((by rw [hg]; exact Nat.ne_of_gt (blk_lt (g := gb296) (o := .cells #[.int .u64 a1_0, .int .u64 a1_1] 25 (0, 0)) (by (with_reducible repeat (first | refine blk_drewN ?_ _ | refine blk_drew ?_ | refine blk_alloc ?_ _)); exact BK296.out)) : gb318 ≠ gb296)); have n10_ := Aside0.mk ((by rw [hg]; exact Nat.ne_of_lt (blk_lt (g := gb297) (o := .cells #[.int .i64 0, .bool false, .int .u64 0, .int .u64 0, .int .i64 0] 27 (0, 0)) (by (with_reducible repeat (first | refine blk_drewN ?_ _ | refine blk_drew ?_ | refine blk_alloc ?_ _)); exact BK297.out)) : gb297 ≠ gb318)); have n11_ := Aside0.mk ((by rw [hg]; exact Nat.ne_of_gt (blk_lt (g := gb297) (o := .cells #[.int .i64 0, .bool false, .int .u64 0, .int .u64 0, .int .i64 0] 27 (0, 0)) (by (with_reducible repeat (first | refine blk_drewN ?_ _ | refine blk_drew ?_ | refine blk_alloc ?_ _)); exact BK297.out)) : gb318 ≠ gb297)); have n12_ := Aside0.mk ((by rw [hg]; exact Nat.ne_of_lt (blk_lt (g := gb305) (o := .cells #[.int .i64 t298, .int .i64 t299, .int .i64 t300, .int .i64 t301, .int .i64 t302, .bool t303] 91 (0, 0)) (by (with_reducible repeat (first | refine blk_drewN ?_ _ | refine blk_drew ?_ | refine blk_alloc ?_ _)); exact BK305.out)) : gb305 ≠ gb318)); have n13_ := Aside0.mk ((by rw [hg]; exact Nat.ne_of_gt (blk_lt (g := gb305) (o := .cells #[.int .i64 t298, .int .i64 t299, .int .i64 t300, .int .i64 t301, .int .i64 t302, .bool t303] 91 (0, 0)) (by (with_reducible repeat (first | refine blk_drewN ?_ _ | refine blk_drew ?_ | refine blk_alloc ?_ _)); exact BK305.out)) : gb318 ≠ gb305)); have n14_ := Aside0.mk ((by rw [hg]; exact Nat.ne_of_lt (blk_lt (g := gb311) (o := .cells #[.int .u64 t309, .int .u64 t310] 25 (0, 0)) (by (with_reducible repeat (first | refine blk_drewN ?_ _ | refine blk_drew ?_ | refine blk_alloc ?_ _)); exact BK311.out)) : gb311 ≠ gb318)); have n15_ := Aside0.mk ((by rw [hg]; exact Nat.ne_of_gt (blk_lt (g := gb311) (o := .cells #[.int .u64 t309, .int .u64 t310] 25 (0, 0)) (by (with_reducible repeat (first | refine blk_drewN ?_ _ | refine blk_drew ?_ | refine blk_alloc ?_ _)); exact BK311.out)) : gb318 ≠ gb311)); clear BK296; clear BK297; clear BK305; clear BK311; clear HB; have BK296 := n0_; have BK297 := n1_; have BK305 := n2_; have BK311 := n3_; have HB := n4_; have BK318 := n5_; have GW318 := n6_; have GE318 := n7_; have NB296_318 := n8_; have NB318_296 := n9_; have NB297_318 := n10_; have NB318_297 := n11_; have NB305_318 := n12_; have NB318_305 := n13_; have NB311_318 := n14_; have NB318_311 := n15_; clear n0_ n1_ n2_ n3_ n4_ n5_ n6_ n7_ n8_ n9_ n10_ n11_ n12_ n13_ n14_ n15_; clear hb hbox hg; have hnb55 := NB318_296.out; have hnc55 := NB296_318.out; have hnb56 := NB318_297.out; have hnc56 := NB297_318.out; have hnb57 := NB318_305.out; have hnc57 := NB305_318.out; have hnb58 := NB318_311.out; have hnc58 := NB311_318.out; have hcz59_0 : w54.cell? ⟨gb318, 0, none⟩ = some (.int .u64 0) := (blk_cell BK318.out 0).trans rfl; have hcz59_1 : w54.cell? ⟨gb318, 1, none⟩ = some (.int .u64 0) := (blk_cell BK318.out 1).trans rfl; have hfz59_0 := blk_frozen BK318.out 0; have hfz59_1 := blk_frozen BK318.out 1; have hcz60_0 : w54.cell? ⟨gb305, 0, none⟩ = some (.int .i64 t298) := (blk_cell BK305.out 0).trans rfl; have hcz60_1 : w54.cell? ⟨gb305, 1, none⟩ = some (.int .i64 t299) := (blk_cell BK305.out 1).trans rfl; have hcz60_2 : w54.cell? ⟨gb305, 2, none⟩ = some (.int .i64 t300) := (blk_cell BK305.out 2).trans rfl; have hcz60_3 : w54.cell? ⟨gb305, 3, none⟩ = some (.int .i64 t301) := (blk_cell BK305.out 3).trans rfl; have hcz60_4 : w54.cell? ⟨gb305, 4, none⟩ = some (.int .i64 t302) := (blk_cell BK305.out 4).trans rfl; have hcz60_5 : w54.cell? ⟨gb305, 5, none⟩ = some (.bool t303) := (blk_cell BK305.out 5).trans rfl; have hfz60_0 := blk_frozen BK305.out 0; have hfz60_1 := blk_frozen BK305.out 1; have hfz60_2 := blk_frozen BK305.out 2; have hfz60_3 := blk_frozen BK305.out 3; have hfz60_4 := blk_frozen BK305.out 4; have hfz60_5 := blk_frozen BK305.out 5))
    (try simp only [Act.put, List.setIfInBounds_toArray, List.set_cons_zero, List.set_cons_succ])
    go_cut [] (fun wc => ∃ (kq : Nat) (x298000_32 : Int) (x298001_32 : Bool) (x298002_32 : Int) (x298003_32 : Int) (x298004_32 : Int) (x319000_32 : Int) (x319001_32 : Int), Aside0 (impl_Unpack.j1 kq (wrap64 (t315)) (!(t316 == 0) || (!(t317 == 0))) t298 t299 t300 t301 t302 t303 t309 t310 x319000_32 x319001_32 = some (r1, r2, r3, r4, r5)) ∧ Aside0 (kq ≤ kj3) ∧ Aside0 (wc.heap[gb296]? = some (.cells #[.int .u64 a1_0, .int .u64 a1_1] 25 (0, 0))) ∧ Aside0 (wc.heap[gb297]? = some (.cells #[.int .i64 x298000_32, .bool x298001_32, .int .u64 x298002_32, .int .u64 x298003_32, .int .i64 x298004_32] 27 (0, 0))) ∧ Aside0 (wc.heap[gb305]? = some (.cells #[.int .i64 t298, .int .i64 t299, .int .i64 t300, .int .i64 t301, .int .i64 t302, .bool t303] 91 (0, 0))) ∧ Aside0 (wc.heap[gb311]? = some (.cells #[.int .u64 t309, .int .u64 t310] 25 (0, 0))) ∧ Aside0 (wc.heap[gb318]? = some (.cells #[.int .u64 x319000_32, .int .u64 x319001_32] 25 (0, 0))) ∧ Aside0 (Below w.heap.size w wc))
    case first =>
     have H := HC33.out
     clear HC33
     by_cases c61 : t303 = true
     ·subst c61
      have H1 : ((impl_Word_right.f t309 t310 (wrap64 (t298 - 1))).bind fun bt319 => (if ((!(bt319.1 == 0) || (!(bt319.2 == 0))) != ((wrap64 (t315)) != 0)) = true then (some (0, false, 0, 0, 0)) else ((impl_Word_low.f t309 t310 (wrap64 (t298 - 1))).bind fun bt321 => (impl_Unpack.j1 kj3 (wrap64 (t315)) (!(t316 == 0) || (!(t317 == 0))) t298 t299 t300 t301 t302 true t309 t310 bt321.1 bt321.2)))) = some (r1, r2, r3, r4, r5) := by rw [if_pos rfl] at H; exact H
      clear H
      have H := H1
      clear H1
      replace H := Option.bind_eq_some_iff.mp H
      obtain ⟨⟨t319, t320⟩, A620, H⟩ := H
      replace H : (if ((!(t319 == 0) || (!(t320 == 0))) != ((wrap64 (t315)) != 0)) = true then (some (0, false, 0, 0, 0)) else ((impl_Word_low.f t309 t310 (wrap64 (t298 - 1))).bind fun bt321 => (impl_Unpack.j1 kj3 (wrap64 (t315)) (!(t316 == 0) || (!(t317 == 0))) t298 t299 t300 t301 t302 true t309 t310 bt321.1 bt321.2))) = some (r1, r2, r3, r4, r5) := H
      have A62 := Aside0.mk A620
      clear A620
      by_cases c63 : ((!(t319 == 0) || (!(t320 == 0))) != ((wrap64 (t315)) != 0)) = true
      ·rw [if_pos c63] at H
       have c63b0 : ((!(t319 == 0) || (!(t320 == 0))) != ((wrap64 (t315)) != 0)) = true := c63
       (try (have c63b1 : decide ((!(t319 == 0) || (!(t320 == 0))) = ((wrap64 (t315)) != 0)) = false := by simpa using c63))
       (try (have c63b2 : ((!(t319 == 0) || (!(t320 == 0))) == ((wrap64 (t315)) != 0)) = false := by simpa using c63))
       (try (have c63b3 : ¬ ((!(t319 == 0) || (!(t320 == 0))) = ((wrap64 (t315)) != 0)) := by simpa using c63))
       clear c63
       (first | rw [c63b0] | (simp only [i64_w, i32_w]; rw [c63b0]) | rw [c63b1] | (simp only [c63b1]) | skip)
       simp only [Option.some.injEq, Prod.mk.injEq] at H
       obtain ⟨rfl, rfl, rfl, rfl, rfl⟩ := H
       have hnb64 := NB311_296.out
       have hnc64 := NB296_311.out
       have hnb65 := NB311_297.out
       have hnc65 := NB297_311.out
       have hnb66 := NB311_305.out
       have hnc66 := NB305_311.out
       have hnb67 := NB311_318.out
       have hnc67 := NB318_311.out
       have hcz68_0 : w54.cell? ⟨gb311, 0, none⟩ = some (.int .u64 t309) := (blk_cell BK311.out 0).trans rfl
       have hcz68_1 : w54.cell? ⟨gb311, 1, none⟩ = some (.int .u64 t310) := (blk_cell BK311.out 1).trans rfl
       have hfz68_0 := blk_frozen BK311.out 0
       have hfz68_1 := blk_frozen BK311.out 1
       have hnb69 := NB305_296.out
       have hnc69 := NB296_305.out
       have hnb70 := NB305_297.out
       have hnc70 := NB297_305.out
       have hnb71 := NB305_318.out
       have hnc71 := NB318_305.out
       have hcz72_0 : w54.cell? ⟨gb305, 0, none⟩ = some (.int .i64 t298) := (blk_cell BK305.out 0).trans rfl
       have hcz72_1 : w54.cell? ⟨gb305, 1, none⟩ = some (.int .i64 t299) := (blk_cell BK305.out 1).trans rfl
       have hcz72_2 : w54.cell? ⟨gb305, 2, none⟩ = some (.int .i64 t300) := (blk_cell BK305.out 2).trans rfl
       have hcz72_3 : w54.cell? ⟨gb305, 3, none⟩ = some (.int .i64 t301) := (blk_cell BK305.out 3).trans rfl
       have hcz72_4 : w54.cell? ⟨gb305, 4, none⟩ = some (.int .i64 t302) := (blk_cell BK305.out 4).trans rfl
       have hcz72_5 : w54.cell? ⟨gb305, 5, none⟩ = some (.bool true) := (blk_cell BK305.out 5).trans rfl
       have hfz72_0 := blk_frozen BK305.out 0
       have hfz72_1 := blk_frozen BK305.out 1
       have hfz72_2 := blk_frozen BK305.out 2
       have hfz72_3 := blk_frozen BK305.out 3
       have hfz72_4 := blk_frozen BK305.out 4
       have hfz72_5 := blk_frozen BK305.out 5
       go_wp2_with (first | ((with_reducible refine gate_callee (f := 66) rfl ?_); refine goesL_ (some 67) rfl rfl Tryd.func66 (by kernel_rfl) rfl #[.agg #[.int .u64 t309, .int .u64 t310], .int .i64 (wrap64 (t298 - 1))] rfl (by (try simp only [List.map_toArray, List.map_cons, List.map_nil]); first | done | rfl | (simp only [List.length_drop, List.length_take]; rfl)) ?_; (with_reducible refine (impl_Word_right.calls t309 t310 (wrap64 (t298 - 1)) t319 t320 _ A62.out).mono ?_); rintro e w73 ⟨rfl, hb⟩; refine ⟨_, rfl, ?_⟩; have n0_ := Aside0.mk (blk_below (g := gb296) (o := .cells #[.int .u64 a1_0, .int .u64 a1_1] 25 (0, 0)) (by (with_reducible repeat (first | refine blk_drewN ?_ _ | refine blk_drew ?_ | refine blk_alloc ?_ _)); refine blk_far ?_ NB296_318.out _; (with_reducible repeat (first | refine blk_drewN ?_ _ | refine blk_drew ?_ | refine blk_alloc ?_ _)); refine blk_far ?_ NB296_318.out _; (with_reducible repeat (first | refine blk_drewN ?_ _ | refine blk_drew ?_ | refine blk_alloc ?_ _)); exact BK296.out) hb); have n1_ := Aside0.mk (blk_below (g := gb297) (o := .cells #[.int .i64 0, .bool false, .int .u64 0, .int .u64 0, .int .i64 0] 27 (0, 0)) (by (with_reducible repeat (first | refine blk_drewN ?_ _ | refine blk_drew ?_ | refine blk_alloc ?_ _)); refine blk_far ?_ NB297_318.out _; (with_reducible repeat (first | refine blk_drewN ?_ _ | refine blk_drew ?_ | refine blk_alloc ?_ _)); refine blk_far ?_ NB297_318.out _; (with_reducible repeat (first | refine blk_drewN ?_ _ | refine blk_drew ?_ | refine blk_alloc ?_ _)); exact BK297.out) hb); have n2_ := Aside0.mk (blk_below (g := gb305) (o := .cells #[.int .i64 t298, .int .i64 t299, .int .i64 t300, .int .i64 t301, .int .i64 t302, .bool true] 91 (0, 0)) (by (with_reducible repeat (first | refine blk_drewN ?_ _ | refine blk_drew ?_ | refine blk_alloc ?_ _)); refine blk_far ?_ NB305_318.out _; (with_reducible repeat (first | refine blk_drewN ?_ _ | refine blk_drew ?_ | refine blk_alloc ?_ _)); refine blk_far ?_ NB305_318.out _; (with_reducible repeat (first | refine blk_drewN ?_ _ | refine blk_drew ?_ | refine blk_alloc ?_ _)); exact BK305.out) hb); have n3_ := Aside0.mk (blk_below (g := gb311) (o := .cells #[.int .u64 t309, .int .u64 t310] 25 (0, 0)) (by (with_reducible repeat (first | refine blk_drewN ?_ _ | refine blk_drew ?_ | refine blk_alloc ?_ _)); refine blk_far ?_ NB311_318.out _; (with_reducible repeat (first | refine blk_drewN ?_ _ | refine blk_drew ?_ | refine blk_alloc ?_ _)); refine blk_far ?_ NB311_318.out _; (with_reducible repeat (first | refine blk_drewN ?_ _ | refine blk_drew ?_ | refine blk_alloc ?_ _)); exact BK311.out) hb); have n4_ := Aside0.mk (blk_below (g := gb318) (o := .cells #[.int .u64 t309, .int .u64 t310] 25 (0, 0)) (by (with_reducible repeat (first | refine blk_drewN ?_ _ | refine blk_drew ?_ | refine blk_alloc ?_ _)); refine blk_put (cs := #[.int .u64 t309, .int .u64 0]) ?_ 1 _ rfl; (with_reducible repeat (first | refine blk_drewN ?_ _ | refine blk_drew ?_ | refine blk_alloc ?_ _)); refine blk_put (cs := #[.int .u64 0, .int .u64 0]) ?_ 0 _ rfl; (with_reducible repeat (first | refine blk_drewN ?_ _ | refine blk_drew ?_ | refine blk_alloc ?_ _)); exact BK318.out) hb); have n5_ := Aside0.mk (below_step (by repeat (first | (with_reducible first | exact HB.out | apply below_alloc | apply pw_below_drewN | apply below_drew1 | refine below_set ?_ GE296.out | refine below_set ?_ GE297.out | refine below_set ?_ GE305.out | refine below_set ?_ GE311.out | refine below_set ?_ GE318.out) | exact HB.out)) hb); clear BK296; clear BK297; clear BK305; clear BK311; clear BK318; clear HB; have BK296 := n0_; have BK297 := n1_; have BK305 := n2_; have BK311 := n3_; have BK318 := n4_; have HB := n5_; clear n0_ n1_ n2_ n3_ n4_ n5_; (try clear hb); (try clear hb2); (try clear hk); (try clear hi); have hnb74 := NB297_296.out; have hnc74 := NB296_297.out; have hnb75 := NB297_318.out; have hnc75 := NB318_297.out; have hcz76_0 : w73.cell? ⟨gb297, 0, none⟩ = some (.int .i64 0) := (blk_cell BK297.out 0).trans rfl; have hcz76_1 : w73.cell? ⟨gb297, 1, none⟩ = some (.bool false) := (blk_cell BK297.out 1).trans rfl; have hcz76_2 : w73.cell? ⟨gb297, 2, none⟩ = some (.int .u64 0) := (blk_cell BK297.out 2).trans rfl; have hcz76_3 : w73.cell? ⟨gb297, 3, none⟩ = some (.int .u64 0) := (blk_cell BK297.out 3).trans rfl; have hcz76_4 : w73.cell? ⟨gb297, 4, none⟩ = some (.int .i64 0) := (blk_cell BK297.out 4).trans rfl; have hfz76_0 := blk_frozen BK297.out 0; have hfz76_1 := blk_frozen BK297.out 1; have hfz76_2 := blk_frozen BK297.out 2; have hfz76_3 := blk_frozen BK297.out 3; have hfz76_4 := blk_frozen BK297.out 4))
       refine bodyPost_ret (results_cell_row rfl _ _ gb297 27 #[.int .i64 0, .bool false, .int .u64 0, .int .u64 0, .int .i64 0] (0, 0) _ rfl (by (with_reducible repeat (first | refine blk_drewN ?_ _ | refine blk_drew ?_ | refine blk_alloc ?_ _)); refine blk_put (cs := #[.int .i64 0, .bool false, .int .u64 0, .int .u64 0, .int .i64 0]) ?_ 4 _ rfl; (with_reducible repeat (first | refine blk_drewN ?_ _ | refine blk_drew ?_ | refine blk_alloc ?_ _)); refine blk_put (cs := #[.int .i64 0, .bool false, .int .u64 0, .int .u64 0, .int .i64 0]) ?_ 3 _ rfl; (with_reducible repeat (first | refine blk_drewN ?_ _ | refine blk_drew ?_ | refine blk_alloc ?_ _)); refine blk_put (cs := #[.int .i64 0, .bool false, .int .u64 0, .int .u64 0, .int .i64 0]) ?_ 2 _ rfl; (with_reducible repeat (first | refine blk_drewN ?_ _ | refine blk_drew ?_ | refine blk_alloc ?_ _)); refine blk_put (cs := #[.int .i64 0, .bool false, .int .u64 0, .int .u64 0, .int .i64 0]) ?_ 1 _ rfl; (with_reducible repeat (first | refine blk_drewN ?_ _ | refine blk_drew ?_ | refine blk_alloc ?_ _)); refine blk_put (cs := #[.int .i64 0, .bool false, .int .u64 0, .int .u64 0, .int .i64 0]) ?_ 0 _ rfl; (with_reducible repeat (first | refine blk_drewN ?_ _ | refine blk_drew ?_ | refine blk_alloc ?_ _)); exact BK297.out) Tryd.underlying27 rfl (by kernel_rfl)) rfl ?_
       exact ⟨by first | rfl | (simp [errW_none, errW_some] <;> rfl) | (simp [*, errW_none, errW_some] <;> rfl), by repeat (first | (with_reducible first | exact HB.out | apply below_alloc | apply pw_below_drewN | apply below_drew1 | refine below_set ?_ GE296.out | refine below_set ?_ GE297.out | refine below_set ?_ GE305.out | refine below_set ?_ GE311.out | refine below_set ?_ GE318.out) | exact HB.out)⟩
      ·rw [if_neg c63] at H
       have c63b0 : ((!(t319 == 0) || (!(t320 == 0))) != ((wrap64 (t315)) != 0)) = false := by simpa using c63
       (try (have c63b1 : decide ((!(t319 == 0) || (!(t320 == 0))) = ((wrap64 (t315)) != 0)) = true := by simpa using c63))
       (try (have c63b2 : ((!(t319 == 0) || (!(t320 == 0))) == ((wrap64 (t315)) != 0)) = true := by simpa using c63))
       clear c63
       (first | rw [c63b0] | (simp only [i64_w, i32_w]; rw [c63b0]) | rw [c63b1] | (simp only [c63b1]) | skip)
       replace H := Option.bind_eq_some_iff.mp H
       obtain ⟨⟨t321, t322⟩, A770, H⟩ := H
       replace H : (impl_Unpack.j1 kj3 (wrap64 (t315)) (!(t316 == 0) || (!(t317 == 0))) t298 t299 t300 t301 t302 true t309 t310 t321 t322) = some (r1, r2, r3, r4, r5) := H
       have A77 := Aside0.mk A770
       clear A770
       have H' := Aside0.mk H
       clear H
       have hnb78 := NB311_296.out
       have hnc78 := NB296_311.out
       have hnb79 := NB311_297.out
       have hnc79 := NB297_311.out
       have hnb80 := NB311_305.out
       have hnc80 := NB305_311.out
       have hnb81 := NB311_318.out
       have hnc81 := NB318_311.out
       have hcz82_0 : w54.cell? ⟨gb311, 0, none⟩ = some (.int .u64 t309) := (blk_cell BK311.out 0).trans rfl
       have hcz82_1 : w54.cell? ⟨gb311, 1, none⟩ = some (.int .u64 t310) := (blk_cell BK311.out 1).trans rfl
       have hfz82_0 := blk_frozen BK311.out 0
       have hfz82_1 := blk_frozen BK311.out 1
       have hnb83 := NB305_296.out
       have hnc83 := NB296_305.out
       have hnb84 := NB305_297.out
       have hnc84 := NB297_305.out
       have hnb85 := NB305_318.out
       have hnc85 := NB318_305.out
       have hcz86_0 : w54.cell? ⟨gb305, 0, none⟩ = some (.int .i64 t298) := (blk_cell BK305.out 0).trans rfl
       have hcz86_1 : w54.cell? ⟨gb305, 1, none⟩ = some (.int .i64 t299) := (blk_cell BK305.out 1).trans rfl
       have hcz86_2 : w54.cell? ⟨gb305, 2, none⟩ = some (.int .i64 t300) := (blk_cell BK305.out 2).trans rfl
       have hcz86_3 : w54.cell? ⟨gb305, 3, none⟩ = some (.int .i64 t301) := (blk_cell BK305.out 3).trans rfl
       have hcz86_4 : w54.cell? ⟨gb305, 4, none⟩ = some (.int .i64 t302) := (blk_cell BK305.out 4).trans rfl
       have hcz86_5 : w54.cell? ⟨gb305, 5, none⟩ = some (.bool true) := (blk_cell BK305.out 5).trans rfl
       have hfz86_0 := blk_frozen BK305.out 0
       have hfz86_1 := blk_frozen BK305.out 1
       have hfz86_2 := blk_frozen BK305.out 2
       have hfz86_3 := blk_frozen BK305.out 3
       have hfz86_4 := blk_frozen BK305.out 4
       have hfz86_5 := blk_frozen BK305.out 5
       go_wp2_with (first | ((with_reducible refine gate_callee (f := 66) rfl ?_); refine goesL_ (some 67) rfl rfl Tryd.func66 (by kernel_rfl) rfl #[.agg #[.int .u64 t309, .int .u64 t310], .int .i64 (wrap64 (t298 - 1))] rfl (by (try simp only [List.map_toArray, List.map_cons, List.map_nil]); first | done | rfl | (simp only [List.length_drop, List.length_take]; rfl)) ?_; (with_reducible refine (impl_Word_right.calls t309 t310 (wrap64 (t298 - 1)) t319 t320 _ A62.out).mono ?_); rintro e w87 ⟨rfl, hb⟩; refine ⟨_, rfl, ?_⟩; have n0_ := Aside0.mk (blk_below (g := gb296) (o := .cells #[.int .u64 a1_0, .int .u64 a1_1] 25 (0, 0)) (by (with_reducible repeat (first | refine blk_drewN ?_ _ | refine blk_drew ?_ | refine blk_alloc ?_ _)); refine blk_far ?_ NB296_318.out _; (with_reducible repeat (first | refine blk_drewN ?_ _ | refine blk_drew ?_ | refine blk_alloc ?_ _)); refine blk_far ?_ NB296_318.out _; (with_reducible repeat (first | refine blk_drewN ?_ _ | refine blk_drew ?_ | refine blk_alloc ?_ _)); exact BK296.out) hb); have n1_ := Aside0.mk (blk_below (g := gb297) (o := .cells #[.int .i64 0, .bool false, .int .u64 0, .int .u64 0, .int .i64 0] 27 (0, 0)) (by (with_reducible repeat (first | refine blk_drewN ?_ _ | refine blk_drew ?_ | refine blk_alloc ?_ _)); refine blk_far ?_ NB297_318.out _; (with_reducible repeat (first | refine blk_drewN ?_ _ | refine blk_drew ?_ | refine blk_alloc ?_ _)); refine blk_far ?_ NB297_318.out _; (with_reducible repeat (first | refine blk_drewN ?_ _ | refine blk_drew ?_ | refine blk_alloc ?_ _)); exact BK297.out) hb); have n2_ := Aside0.mk (blk_below (g := gb305) (o := .cells #[.int .i64 t298, .int .i64 t299, .int .i64 t300, .int .i64 t301, .int .i64 t302, .bool true] 91 (0, 0)) (by (with_reducible repeat (first | refine blk_drewN ?_ _ | refine blk_drew ?_ | refine blk_alloc ?_ _)); refine blk_far ?_ NB305_318.out _; (with_reducible repeat (first | refine blk_drewN ?_ _ | refine blk_drew ?_ | refine blk_alloc ?_ _)); refine blk_far ?_ NB305_318.out _; (with_reducible repeat (first | refine blk_drewN ?_ _ | refine blk_drew ?_ | refine blk_alloc ?_ _)); exact BK305.out) hb); have n3_ := Aside0.mk (blk_below (g := gb311) (o := .cells #[.int .u64 t309, .int .u64 t310] 25 (0, 0)) (by (with_reducible repeat (first | refine blk_drewN ?_ _ | refine blk_drew ?_ | refine blk_alloc ?_ _)); refine blk_far ?_ NB311_318.out _; (with_reducible repeat (first | refine blk_drewN ?_ _ | refine blk_drew ?_ | refine blk_alloc ?_ _)); refine blk_far ?_ NB311_318.out _; (with_reducible repeat (first | refine blk_drewN ?_ _ | refine blk_drew ?_ | refine blk_alloc ?_ _)); exact BK311.out) hb); have n4_ := Aside0.mk (blk_below (g := gb318) (o := .cells #[.int .u64 t309, .int .u64 t310] 25 (0, 0)) (by (with_reducible repeat (first | refine blk_drewN ?_ _ | refine blk_drew ?_ | refine blk_alloc ?_ _)); refine blk_put (cs := #[.int .u64 t309, .int .u64 0]) ?_ 1 _ rfl; (with_reducible repeat (first | refine blk_drewN ?_ _ | refine blk_drew ?_ | refine blk_alloc ?_ _)); refine blk_put (cs := #[.int .u64 0, .int .u64 0]) ?_ 0 _ rfl; (with_reducible repeat (first | refine blk_drewN ?_ _ | refine blk_drew ?_ | refine blk_alloc ?_ _)); exact BK318.out) hb); have n5_ := Aside0.mk (below_step (by repeat (first | (with_reducible first | exact HB.out | apply below_alloc | apply pw_below_drewN | apply below_drew1 | refine below_set ?_ GE296.out | refine below_set ?_ GE297.out | refine below_set ?_ GE305.out | refine below_set ?_ GE311.out | refine below_set ?_ GE318.out) | exact HB.out)) hb); clear BK296; clear BK297; clear BK305; clear BK311; clear BK318; clear HB; have BK296 := n0_; have BK297 := n1_; have BK305 := n2_; have BK311 := n3_; have BK318 := n4_; have HB := n5_; clear n0_ n1_ n2_ n3_ n4_ n5_; (try clear hb); (try clear hb2); (try clear hk); (try clear hi); have hcz88_0 : w87.cell? ⟨gb311, 0, none⟩ = some (.int .u64 t309) := (blk_cell BK311.out 0).trans rfl; have hcz88_1 : w87.cell? ⟨gb311, 1, none⟩ = some (.int .u64 t310) := (blk_cell BK311.out 1).trans rfl; have hfz88_0 := blk_frozen BK311.out 0; have hfz88_1 := blk_frozen BK311.out 1; have hcz89_0 : w87.cell? ⟨gb305, 0, none⟩ = some (.int .i64 t298) := (blk_cell BK305.out 0).trans rfl; have hcz89_1 : w87.cell? ⟨gb305, 1, none⟩ = some (.int .i64 t299) := (blk_cell BK305.out 1).trans rfl; have hcz89_2 : w87.cell? ⟨gb305, 2, none⟩ = some (.int .i64 t300) := (blk_cell BK305.out 2).trans rfl; have hcz89_3 : w87.cell? ⟨gb305, 3, none⟩ = some (.int .i64 t301) := (blk_cell BK305.out 3).trans rfl; have hcz89_4 : w87.cell? ⟨gb305, 4, none⟩ = some (.int .i64 t302) := (blk_cell BK305.out 4).trans rfl; have hcz89_5 : w87.cell? ⟨gb305, 5, none⟩ = some (.bool true) := (blk_cell BK305.out 5).trans rfl; have hfz89_0 := blk_frozen BK305.out 0; have hfz89_1 := blk_frozen BK305.out 1; have hfz89_2 := blk_frozen BK305.out 2; have hfz89_3 := blk_frozen BK305.out 3; have hfz89_4 := blk_frozen BK305.out 4; have hfz89_5 := blk_frozen BK305.out 5) | ((with_reducible refine gate_callee (f := 68) rfl ?_); refine goesL_ (some 80) rfl rfl Tryd.func68 (by kernel_rfl) rfl #[.agg #[.int .u64 t309, .int .u64 t310], .int .i64 (wrap64 (t298 - 1))] rfl (by (try simp only [List.map_toArray, List.map_cons, List.map_nil]); first | done | rfl | (simp only [List.length_drop, List.length_take]; rfl)) ?_; (with_reducible refine (impl_Word_low.calls t309 t310 (wrap64 (t298 - 1)) t321 t322 _ A77.out).mono ?_); rintro e w90 ⟨rfl, hb⟩; refine ⟨_, rfl, ?_⟩; have n0_ := Aside0.mk (blk_below (g := gb296) (o := .cells #[.int .u64 a1_0, .int .u64 a1_1] 25 (0, 0)) (by (with_reducible repeat (first | refine blk_drewN ?_ _ | refine blk_drew ?_ | refine blk_alloc ?_ _)); exact BK296.out) hb); have n1_ := Aside0.mk (blk_below (g := gb297) (o := .cells #[.int .i64 0, .bool false, .int .u64 0, .int .u64 0, .int .i64 0] 27 (0, 0)) (by (with_reducible repeat (first | refine blk_drewN ?_ _ | refine blk_drew ?_ | refine blk_alloc ?_ _)); exact BK297.out) hb); have n2_ := Aside0.mk (blk_below (g := gb305) (o := .cells #[.int .i64 t298, .int .i64 t299, .int .i64 t300, .int .i64 t301, .int .i64 t302, .bool true] 91 (0, 0)) (by (with_reducible repeat (first | refine blk_drewN ?_ _ | refine blk_drew ?_ | refine blk_alloc ?_ _)); exact BK305.out) hb); have n3_ := Aside0.mk (blk_below (g := gb311) (o := .cells #[.int .u64 t309, .int .u64 t310] 25 (0, 0)) (by (with_reducible repeat (first | refine blk_drewN ?_ _ | refine blk_drew ?_ | refine blk_alloc ?_ _)); exact BK311.out) hb); have n4_ := Aside0.mk (blk_below (g := gb318) (o := .cells #[.int .u64 t309, .int .u64 t310] 25 (0, 0)) (by (with_reducible repeat (first | refine blk_drewN ?_ _ | refine blk_drew ?_ | refine blk_alloc ?_ _)); exact BK318.out) hb); have n5_ := Aside0.mk (below_step (by repeat (first | (with_reducible first | exact HB.out | apply below_alloc | apply pw_below_drewN | apply below_drew1 | refine below_set ?_ GE296.out | refine below_set ?_ GE297.out | refine below_set ?_ GE305.out | refine below_set ?_ GE311.out | refine below_set ?_ GE318.out) | exact HB.out)) hb); clear BK296; clear BK297; clear BK305; clear BK311; clear BK318; clear HB; have BK296 := n0_; have BK297 := n1_; have BK305 := n2_; have BK311 := n3_; have BK318 := n4_; have HB := n5_; clear n0_ n1_ n2_ n3_ n4_ n5_; (try clear hb); (try clear hb2); (try clear hk); (try clear hi); have hnb91 := NB318_296.out; have hnc91 := NB296_318.out; have hnb92 := NB318_297.out; have hnc92 := NB297_318.out; have hcz93_0 : w90.cell? ⟨gb318, 0, none⟩ = some (.int .u64 t309) := (blk_cell BK318.out 0).trans rfl; have hcz93_1 : w90.cell? ⟨gb318, 1, none⟩ = some (.int .u64 t310) := (blk_cell BK318.out 1).trans rfl; have hfz93_0 := blk_frozen BK318.out 0; have hfz93_1 := blk_frozen BK318.out 1))
       go_meet
       case rel => exact ⟨_, (0), (false), (0), (0), (0), (t321), (t322), H', ⟨by have := HJ3.out; first | omega | exact Nat.le_refl _⟩, ⟨by (with_reducible repeat (first | refine blk_drewN ?_ _ | refine blk_drew ?_ | refine blk_alloc ?_ _)); refine blk_far ?_ NB296_318.out _; (with_reducible repeat (first | refine blk_drewN ?_ _ | refine blk_drew ?_ | refine blk_alloc ?_ _)); refine blk_far ?_ NB296_318.out _; (with_reducible repeat (first | refine blk_drewN ?_ _ | refine blk_drew ?_ | refine blk_alloc ?_ _)); exact BK296.out⟩, ⟨by (with_reducible repeat (first | refine blk_drewN ?_ _ | refine blk_drew ?_ | refine blk_alloc ?_ _)); refine blk_far ?_ NB297_318.out _; (with_reducible repeat (first | refine blk_drewN ?_ _ | refine blk_drew ?_ | refine blk_alloc ?_ _)); refine blk_far ?_ NB297_318.out _; (with_reducible repeat (first | refine blk_drewN ?_ _ | refine blk_drew ?_ | refine blk_alloc ?_ _)); exact BK297.out⟩, ⟨by (with_reducible repeat (first | refine blk_drewN ?_ _ | refine blk_drew ?_ | refine blk_alloc ?_ _)); refine blk_far ?_ NB305_318.out _; (with_reducible repeat (first | refine blk_drewN ?_ _ | refine blk_drew ?_ | refine blk_alloc ?_ _)); refine blk_far ?_ NB305_318.out _; (with_reducible repeat (first | refine blk_drewN ?_ _ | refine blk_drew ?_ | refine blk_alloc ?_ _)); exact BK305.out⟩, ⟨by (with_reducible repeat (first | refine blk_drewN ?_ _ | refine blk_drew ?_ | refine blk_alloc ?_ _)); refine blk_far ?_ NB311_318.out _; (with_reducible repeat (first | refine blk_drewN ?_ _ | refine blk_drew ?_ | refine blk_alloc ?_ _)); refine blk_far ?_ NB311_318.out _; (with_reducible repeat (first | refine blk_drewN ?_ _ | refine blk_drew ?_ | refine blk_alloc ?_ _)); exact BK311.out⟩, ⟨by (with_reducible repeat (first | refine blk_drewN ?_ _ | refine blk_drew ?_ | refine blk_alloc ?_ _)); refine blk_put (cs := #[.int .u64 t321, .int .u64 t310]) ?_ 1 _ rfl; (with_reducible repeat (first | refine blk_drewN ?_ _ | refine blk_drew ?_ | refine blk_alloc ?_ _)); refine blk_put (cs := #[.int .u64 t309, .int .u64 t310]) ?_ 0 _ rfl; (with_reducible repeat (first | refine blk_drewN ?_ _ | refine blk_drew ?_ | refine blk_alloc ?_ _)); exact BK318.out⟩, ⟨by repeat (first | (with_reducible first | exact HB.out | apply below_alloc | apply pw_below_drewN | apply below_drew1 | refine below_set ?_ GE296.out | refine below_set ?_ GE297.out | refine below_set ?_ GE305.out | refine below_set ?_ GE311.out | refine below_set ?_ GE318.out) | exact HB.out)⟩⟩
     ·replace c61 := Bool.eq_false_iff.mpr c61
      subst c61
      have H1 : (impl_Unpack.j1 kj3 (wrap64 (t315)) (!(t316 == 0) || (!(t317 == 0))) t298 t299 t300 t301 t302 false t309 t310 t309 t310) = some (r1, r2, r3, r4, r5) := by rw [if_neg (show ¬ (false = true) by decide)] at H; exact H
      clear H
      have H := H1
      clear H1
      have H' := Aside0.mk H
      clear H
      go_wp2
      go_meet
      case rel => exact ⟨_, (0), (false), (0), (0), (0), (t309), (t310), H', ⟨by have := HJ3.out; first | omega | exact Nat.le_refl _⟩, ⟨by (with_reducible repeat (first | refine blk_drewN ?_ _ | refine blk_drew ?_ | refine blk_alloc ?_ _)); refine blk_far ?_ NB296_318.out _; (with_reducible repeat (first | refine blk_drewN ?_ _ | refine blk_drew ?_ | refine blk_alloc ?_ _)); refine blk_far ?_ NB296_318.out _; (with_reducible repeat (first | refine blk_drewN ?_ _ | refine blk_drew ?_ | refine blk_alloc ?_ _)); exact BK296.out⟩, ⟨by (with_reducible repeat (first | refine blk_drewN ?_ _ | refine blk_drew ?_ | refine blk_alloc ?_ _)); refine blk_far ?_ NB297_318.out _; (with_reducible repeat (first | refine blk_drewN ?_ _ | refine blk_drew ?_ | refine blk_alloc ?_ _)); refine blk_far ?_ NB297_318.out _; (with_reducible repeat (first | refine blk_drewN ?_ _ | refine blk_drew ?_ | refine blk_alloc ?_ _)); exact BK297.out⟩, ⟨by (with_reducible repeat (first | refine blk_drewN ?_ _ | refine blk_drew ?_ | refine blk_alloc ?_ _)); refine blk_far ?_ NB305_318.out _; (with_reducible repeat (first | refine blk_drewN ?_ _ | refine blk_drew ?_ | refine blk_alloc ?_ _)); refine blk_far ?_ NB305_318.out _; (with_reducible repeat (first | refine blk_drewN ?_ _ | refine blk_drew ?_ | refine blk_alloc ?_ _)); exact BK305.out⟩, ⟨by (with_reducible repeat (first | refine blk_drewN ?_ _ | refine blk_drew ?_ | refine blk_alloc ?_ _)); refine blk_far ?_ NB311_318.out _; (with_reducible repeat (first | refine blk_drewN ?_ _ | refine blk_drew ?_ | refine blk_alloc ?_ _)); refine blk_far ?_ NB311_318.out _; (with_reducible repeat (first | refine blk_drewN ?_ _ | refine blk_drew ?_ | refine blk_alloc ?_ _)); exact BK311.out⟩, ⟨by (with_reducible repeat (first | refine blk_drewN ?_ _ | refine blk_drew ?_ | refine blk_alloc ?_ _)); refine blk_put (cs := #[.int .u64 t309, .int .u64 0]) ?_ 1 _ rfl; (with_reducible repeat (first | refine blk_drewN ?_ _ | refine blk_drew ?_ | refine blk_alloc ?_ _)); refine blk_put (cs := #[.int .u64 0, .int .u64 0]) ?_ 0 _ rfl; (with_reducible repeat (first | refine blk_drewN ?_ _ | refine blk_drew ?_ | refine blk_alloc ?_ _)); exact BK318.out⟩, ⟨by repeat (first | (with_reducible first | exact HB.out | apply below_alloc | apply pw_below_drewN | apply below_drew1 | refine below_set ?_ GE296.out | refine below_set ?_ GE297.out | refine below_set ?_ GE305.out | refine below_set ?_ GE311.out | refine below_set ?_ GE318.out) | exact HB.out)⟩⟩
    case rest =>
     clear HC33
     try clear c1; try clear c2; try clear p2; try clear c3; try clear c4; try clear c5; try clear c6; try clear p6; try clear c7; try clear c8; try clear c9; try clear c10; try clear c12; try clear c13; try clear c13b0; try clear c13b1; try clear c15; try clear c16; try clear c17; try clear c18; try clear c21; try clear c22; try clear c24; try clear c25; try clear c26; try clear c34; try clear c35; try clear c38; try clear c42; try clear c43; try clear c44; try clear c55; try clear c56; try clear c57; try clear c58; try clear c61; try clear c63; try clear c63b0; try clear c63b1; try clear c63b2; try clear c64; try clear p64; try clear c65; try clear c66; try clear c67; try clear c68; try clear c69; try clear c70; try clear c71; try clear c74; try clear c75; try clear c78; try clear c79; try clear c80; try clear c81; try clear c83; try clear c84; try clear c85; try clear c91; try clear c92; try clear hcz11_0; try clear hcz11_1; try clear hcz11_2; try clear hcz11_3; try clear hcz11_4; try clear hcz11_5; try clear hcz17_0; try clear hcz17_1; try clear hcz17_2; try clear hcz17_3; try clear hcz17_4; try clear hcz17_5; try clear hcz19_0; try clear hcz19_1; try clear hcz23_0; try clear hcz23_1; try clear hcz23_2; try clear hcz23_3; try clear hcz23_4; try clear hcz23_5; try clear hcz27_0; try clear hcz27_1; try clear hcz27_2; try clear hcz27_3; try clear hcz27_4; try clear hcz36_0; try clear hcz36_1; try clear hcz36_2; try clear hcz36_3; try clear hcz36_4; try clear hcz36_5; try clear hcz39_0; try clear hcz39_1; try clear hcz45_0; try clear hcz45_1; try clear hcz50_0; try clear hcz50_1; try clear hcz51_0; try clear hcz51_1; try clear hcz51_2; try clear hcz51_3; try clear hcz51_4; try clear hcz51_5; try clear hcz53_0; try clear hcz53_1; try clear hcz59_0; try clear hcz59_1; try clear hcz60_0; try clear hcz60_1; try clear hcz60_2; try clear hcz60_3; try clear hcz60_4; try clear hcz60_5; try clear hcz68_0; try clear hcz68_1; try clear hcz72_0; try clear hcz72_1; try clear hcz72_2; try clear hcz72_3; try clear hcz72_4; try clear hcz72_5; try clear hcz76_0; try clear hcz76_1; try clear hcz76_2; try clear hcz76_3; try clear hcz76_4; try clear hcz82_0; try clear hcz82_1; try clear hcz86_0; try clear hcz86_1; try clear hcz86_2; try clear hcz86_3; try clear hcz86_4; try clear hcz86_5; try clear hcz88_0; try clear hcz88_1; try clear hcz89_0; try clear hcz89_1; try clear hcz89_2; try clear hcz89_3; try clear hcz89_4; try clear hcz89_5; try clear hcz93_0; try clear hcz93_1; try clear hfz11_0; try clear hfz11_1; try clear hfz11_2; try clear hfz11_3; try clear hfz11_4; try clear hfz11_5; try clear hfz17_0; try clear hfz17_1; try clear hfz17_2; try clear hfz17_3; try clear hfz17_4; try clear hfz17_5; try clear hfz19_0; try clear hfz19_1; try clear hfz23_0; try clear hfz23_1; try clear hfz23_2; try clear hfz23_3; try clear hfz23_4; try clear hfz23_5; try clear hfz27_0; try clear hfz27_1; try clear hfz27_2; try clear hfz27_3; try clear hfz27_4; try clear hfz36_0; try clear hfz36_1; try clear hfz36_2; try clear hfz36_3; try clear hfz36_4; try clear hfz36_5; try clear hfz39_0; try clear hfz39_1; try clear hfz45_0; try clear hfz45_1; try clear hfz50_0; try clear hfz50_1; try clear hfz51_0; try clear hfz51_1; try clear hfz51_2; try clear hfz51_3; try clear hfz51_4; try clear hfz51_5; try clear hfz53_0; try clear hfz53_1; try clear hfz59_0; try clear hfz59_1; try clear hfz60_0; try clear hfz60_1; try clear hfz60_2; try clear hfz60_3; try clear hfz60_4; try clear hfz60_5; try clear hfz68_0; try clear hfz68_1; try clear hfz72_0; try clear hfz72_1; try clear hfz72_2; try clear hfz72_3; try clear hfz72_4; try clear hfz72_5; try clear hfz76_0; try clear hfz76_1; try clear hfz76_2; try clear hfz76_3; try clear hfz76_4; try clear hfz82_0; try clear hfz82_1; try clear hfz86_0; try clear hfz86_1; try clear hfz86_2; try clear hfz86_3; try clear hfz86_4; try clear hfz86_5; try clear hfz88_0; try clear hfz88_1; try clear hfz89_0; try clear hfz89_1; try clear hfz89_2; try clear hfz89_3; try clear hfz89_4; try clear hfz89_5; try clear hfz93_0; try clear hfz93_1; try clear p2
     obtain ⟨kq, x298000_32, x298001_32, x298002_32, x298003_32, x298004_32, x319000_32, x319001_32, HA, HJ32, BK296, BK297, BK305, BK311, BK318, HB⟩ := hcut
     cases kq with
     | zero => exact absurd HA.out (by simp [impl_Unpack.j1])
     | succ kj32 =>
      have H := HA.out
      clear HA
      simp only [impl_Unpack.j1] at H
      have HC94 := Aside0.mk H
      clear H
      go_upto_region 14 with (fail)
      go_cut [81] (fun v81 wc => ∃ (kq : Nat) (x81_93 : Bool), v81 = .bool x81_93 ∧ Aside0 (impl_Unpack.j2 kq (wrap64 (t315)) (!(t316 == 0) || (!(t317 == 0))) x81_93 t298 t299 t300 t301 t302 t303 t309 t310 = some (r1, r2, r3, r4, r5)) ∧ Aside0 (kq ≤ kj32) ∧ Aside0 (wc.heap[gb296]? = some (.cells #[.int .u64 a1_0, .int .u64 a1_1] 25 (0, 0))) ∧ Aside0 (wc.heap[gb297]? = some (.cells #[.int .i64 x298000_32, .bool x298001_32, .int .u64 x298002_32, .int .u64 x298003_32, .int .i64 x298004_32] 27 (0, 0))) ∧ Aside0 (wc.heap[gb305]? = some (.cells #[.int .i64 t298, .int .i64 t299, .int .i64 t300, .int .i64 t301, .int .i64 t302, .bool t303] 91 (0, 0))) ∧ Aside0 (wc.heap[gb311]? = some (.cells #[.int .u64 t309, .int .u64 t310] 25 (0, 0))) ∧ Aside0 (wc.heap[gb318]? = some (.cells #[.int .u64 x319000_32, .int .u64 x319001_32] 25 (0, 0))) ∧ Aside0 (Below w.heap.size w wc))
      case first =>
       have H := HC94.out
       clear HC94
       replace H := Option.bind_eq_some_iff.mp H
       obtain ⟨t323, A950, H⟩ := H
       replace H : (if (wrap64 (t315)) = t323 then (impl_Unpack.j2 kj32 (wrap64 (t315)) (!(t316 == 0) || (!(t317 == 0))) (x319000_32 == 0 && (x319001_32 == 0)) t298 t299 t300 t301 t302 t303 t309 t310) else (impl_Unpack.j2 kj32 (wrap64 (t315)) (!(t316 == 0) || (!(t317 == 0))) false t298 t299 t300 t301 t302 t303 t309 t310)) = some (r1, r2, r3, r4, r5) := H
       have A95 := Aside0.mk A950
       clear A950
       by_cases c96 : (wrap64 (t315)) = t323
       ·rw [if_pos c96] at H
        have c96b0 : ((wrap64 (t315)) == t323) = true := beq_iff_eq.mpr c96
        have c96b1 : ((wrap64 (t315)) != t323) = false := bne_eq_false_iff_eq.mpr c96
        clear c96
        (first | rw [c96b0] | (simp only [i64_w, i32_w]; rw [c96b0]) | rw [c96b1] | (simp only [c96b1]) | skip)
        have H' := Aside0.mk H
        clear H
        have hnb97 := NB305_296.out
        have hnc97 := NB296_305.out
        have hnb98 := NB305_297.out
        have hnc98 := NB297_305.out
        have hnb99 := NB305_311.out
        have hnc99 := NB311_305.out
        have hnb100 := NB305_318.out
        have hnc100 := NB318_305.out
        have hcz101_0 : wc.cell? ⟨gb305, 0, none⟩ = some (.int .i64 t298) := (blk_cell BK305.out 0).trans rfl
        have hcz101_1 : wc.cell? ⟨gb305, 1, none⟩ = some (.int .i64 t299) := (blk_cell BK305.out 1).trans rfl
        have hcz101_2 : wc.cell? ⟨gb305, 2, none⟩ = some (.int .i64 t300) := (blk_cell BK305.out 2).trans rfl
        have hcz101_3 : wc.cell? ⟨gb305, 3, none⟩ = some (.int .i64 t301) := (blk_cell BK305.out 3).trans rfl
        have hcz101_4 : wc.cell? ⟨gb305, 4, none⟩ = some (.int .i64 t302) := (blk_cell BK305.out 4).trans rfl
        have hcz101_5 : wc.cell? ⟨gb305, 5, none⟩ = some (.bool t303) := (blk_cell BK305.out 5).trans rfl
        have hfz101_0 := blk_frozen BK305.out 0
        have hfz101_1 := blk_frozen BK305.out 1
        have hfz101_2 := blk_frozen BK305.out 2
        have hfz101_3 := blk_frozen BK305.out 3
        have hfz101_4 := blk_frozen BK305.out 4
        have hfz101_5 := blk_frozen BK305.out 5
        go_wp2_with (first | ((with_reducible refine gate_callee (f := 69) rfl ?_); refine goesL_ (some 84) rfl rfl Tryd.func69 (by kernel_rfl) rfl #[.agg #[.int .i64 t298, .int .i64 t299, .int .i64 t300, .int .i64 t301, .int .i64 t302, .bool t303]] rfl (by (try simp only [List.map_toArray, List.map_cons, List.map_nil]); first | done | rfl | (simp only [List.length_drop, List.length_take]; rfl)) ?_; (with_reducible refine (impl_layout_top.calls t298 t299 t300 t301 t302 t303 t323 _ A95.out).mono ?_); rintro e w102 ⟨rfl, hb⟩; refine ⟨_, rfl, ?_⟩; have n0_ := Aside0.mk (blk_below (g := gb296) (o := .cells #[.int .u64 a1_0, .int .u64 a1_1] 25 (0, 0)) (by (with_reducible repeat (first | refine blk_drewN ?_ _ | refine blk_drew ?_ | refine blk_alloc ?_ _)); exact BK296.out) hb); have n1_ := Aside0.mk (blk_below (g := gb297) (o := .cells #[.int .i64 x298000_32, .bool x298001_32, .int .u64 x298002_32, .int .u64 x298003_32, .int .i64 x298004_32] 27 (0, 0)) (by (with_reducible repeat (first | refine blk_drewN ?_ _ | refine blk_drew ?_ | refine blk_alloc ?_ _)); exact BK297.out) hb); have n2_ := Aside0.mk (blk_below (g := gb305) (o := .cells #[.int .i64 t298, .int .i64 t299, .int .i64 t300, .int .i64 t301, .int .i64 t302, .bool t303] 91 (0, 0)) (by (with_reducible repeat (first | refine blk_drewN ?_ _ | refine blk_drew ?_ | refine blk_alloc ?_ _)); exact BK305.out) hb); have n3_ := Aside0.mk (blk_below (g := gb311) (o := .cells #[.int .u64 t309, .int .u64 t310] 25 (0, 0)) (by (with_reducible repeat (first | refine blk_drewN ?_ _ | refine blk_drew ?_ | refine blk_alloc ?_ _)); exact BK311.out) hb); have n4_ := Aside0.mk (blk_below (g := gb318) (o := .cells #[.int .u64 x319000_32, .int .u64 x319001_32] 25 (0, 0)) (by (with_reducible repeat (first | refine blk_drewN ?_ _ | refine blk_drew ?_ | refine blk_alloc ?_ _)); exact BK318.out) hb); have n5_ := Aside0.mk (below_step (by repeat (first | (with_reducible first | exact HB.out | apply below_alloc | apply pw_below_drewN | apply below_drew1 | refine below_set ?_ GE296.out | refine below_set ?_ GE297.out | refine below_set ?_ GE305.out | refine below_set ?_ GE311.out | refine below_set ?_ GE318.out) | exact HB.out)) hb); clear BK296; clear BK297; clear BK305; clear BK311; clear BK318; clear HB; have BK296 := n0_; have BK297 := n1_; have BK305 := n2_; have BK311 := n3_; have BK318 := n4_; have HB := n5_; clear n0_ n1_ n2_ n3_ n4_ n5_; (try clear hb); (try clear hb2); (try clear hk); (try clear hi); have hnb103 := NB318_296.out; have hnc103 := NB296_318.out; have hnb104 := NB318_297.out; have hnc104 := NB297_318.out; have hnb105 := NB318_311.out; have hnc105 := NB311_318.out; have hcz106_0 : w102.cell? ⟨gb318, 0, none⟩ = some (.int .u64 x319000_32) := (blk_cell BK318.out 0).trans rfl; have hcz106_1 : w102.cell? ⟨gb318, 1, none⟩ = some (.int .u64 x319001_32) := (blk_cell BK318.out 1).trans rfl; have hfz106_0 := blk_frozen BK318.out 0; have hfz106_1 := blk_frozen BK318.out 1))
        go_meet
        case rel => exact ⟨_, ((x319000_32 == 0 && (x319001_32 == 0))), (by first | rfl | (simp; done) | (simp [*]; done)), H', ⟨by have := HJ3.out; have := HJ32.out; first | omega | exact Nat.le_refl _⟩, ⟨by (with_reducible repeat (first | refine blk_drewN ?_ _ | refine blk_drew ?_ | refine blk_alloc ?_ _)); exact BK296.out⟩, ⟨by (with_reducible repeat (first | refine blk_drewN ?_ _ | refine blk_drew ?_ | refine blk_alloc ?_ _)); exact BK297.out⟩, ⟨by (with_reducible repeat (first | refine blk_drewN ?_ _ | refine blk_drew ?_ | refine blk_alloc ?_ _)); exact BK305.out⟩, ⟨by (with_reducible repeat (first | refine blk_drewN ?_ _ | refine blk_drew ?_ | refine blk_alloc ?_ _)); exact BK311.out⟩, ⟨by (with_reducible repeat (first | refine blk_drewN ?_ _ | refine blk_drew ?_ | refine blk_alloc ?_ _)); exact BK318.out⟩, ⟨by repeat (first | (with_reducible first | exact HB.out | apply below_alloc | apply pw_below_drewN | apply below_drew1 | refine below_set ?_ GE296.out | refine below_set ?_ GE297.out | refine below_set ?_ GE305.out | refine below_set ?_ GE311.out | refine below_set ?_ GE318.out) | exact HB.out)⟩⟩
       ·rw [if_neg c96] at H
        have c96b0 : ((wrap64 (t315)) == t323) = false := beq_eq_false_iff_ne.mpr c96
        have c96b1 : ((wrap64 (t315)) != t323) = true := bne_iff_ne.mpr c96
        (first | rw [c96b0] | (simp only [i64_w, i32_w]; rw [c96b0]) | rw [c96b1] | (simp only [c96b1]) | skip)
        have H' := Aside0.mk H
        clear H
        have hnb107 := NB305_296.out
        have hnc107 := NB296_305.out
        have hnb108 := NB305_297.out
        have hnc108 := NB297_305.out
        have hnb109 := NB305_311.out
        have hnc109 := NB311_305.out
        have hnb110 := NB305_318.out
        have hnc110 := NB318_305.out
        have hcz111_0 : wc.cell? ⟨gb305, 0, none⟩ = some (.int .i64 t298) := (blk_cell BK305.out 0).trans rfl
        have hcz111_1 : wc.cell? ⟨gb305, 1, none⟩ = some (.int .i64 t299) := (blk_cell BK305.out 1).trans rfl
        have hcz111_2 : wc.cell? ⟨gb305, 2, none⟩ = some (.int .i64 t300) := (blk_cell BK305.out 2).trans rfl
        have hcz111_3 : wc.cell? ⟨gb305, 3, none⟩ = some (.int .i64 t301) := (blk_cell BK305.out 3).trans rfl
        have hcz111_4 : wc.cell? ⟨gb305, 4, none⟩ = some (.int .i64 t302) := (blk_cell BK305.out 4).trans rfl
        have hcz111_5 : wc.cell? ⟨gb305, 5, none⟩ = some (.bool t303) := (blk_cell BK305.out 5).trans rfl
        have hfz111_0 := blk_frozen BK305.out 0
        have hfz111_1 := blk_frozen BK305.out 1
        have hfz111_2 := blk_frozen BK305.out 2
        have hfz111_3 := blk_frozen BK305.out 3
        have hfz111_4 := blk_frozen BK305.out 4
        have hfz111_5 := blk_frozen BK305.out 5
        go_wp2_with (first | ((with_reducible refine gate_callee (f := 69) rfl ?_); refine goesL_ (some 84) rfl rfl Tryd.func69 (by kernel_rfl) rfl #[.agg #[.int .i64 t298, .int .i64 t299, .int .i64 t300, .int .i64 t301, .int .i64 t302, .bool t303]] rfl (by (try simp only [List.map_toArray, List.map_cons, List.map_nil]); first | done | rfl | (simp only [List.length_drop, List.length_take]; rfl)) ?_; (with_reducible refine (impl_layout_top.calls t298 t299 t300 t301 t302 t303 t323 _ A95.out).mono ?_); rintro e w112 ⟨rfl, hb⟩; refine ⟨_, rfl, ?_⟩; have n0_ := Aside0.mk (blk_below (g := gb296) (o := .cells #[.int .u64 a1_0, .int .u64 a1_1] 25 (0, 0)) (by (with_reducible repeat (first | refine blk_drewN ?_ _ | refine blk_drew ?_ | refine blk_alloc ?_ _)); exact BK296.out) hb); have n1_ := Aside0.mk (blk_below (g := gb297) (o := .cells #[.int .i64 x298000_32, .bool x298001_32, .int .u64 x298002_32, .int .u64 x298003_32, .int .i64 x298004_32] 27 (0, 0)) (by (with_reducible repeat (first | refine blk_drewN ?_ _ | refine blk_drew ?_ | refine blk_alloc ?_ _)); exact BK297.out) hb); have n2_ := Aside0.mk (blk_below (g := gb305) (o := .cells #[.int .i64 t298, .int .i64 t299, .int .i64 t300, .int .i64 t301, .int .i64 t302, .bool t303] 91 (0, 0)) (by (with_reducible repeat (first | refine blk_drewN ?_ _ | refine blk_drew ?_ | refine blk_alloc ?_ _)); exact BK305.out) hb); have n3_ := Aside0.mk (blk_below (g := gb311) (o := .cells #[.int .u64 t309, .int .u64 t310] 25 (0, 0)) (by (with_reducible repeat (first | refine blk_drewN ?_ _ | refine blk_drew ?_ | refine blk_alloc ?_ _)); exact BK311.out) hb); have n4_ := Aside0.mk (blk_below (g := gb318) (o := .cells #[.int .u64 x319000_32, .int .u64 x319001_32] 25 (0, 0)) (by (with_reducible repeat (first | refine blk_drewN ?_ _ | refine blk_drew ?_ | refine blk_alloc ?_ _)); exact BK318.out) hb); have n5_ := Aside0.mk (below_step (by repeat (first | (with_reducible first | exact HB.out | apply below_alloc | apply pw_below_drewN | apply below_drew1 | refine below_set ?_ GE296.out | refine below_set ?_ GE297.out | refine below_set ?_ GE305.out | refine below_set ?_ GE311.out | refine below_set ?_ GE318.out) | exact HB.out)) hb); clear BK296; clear BK297; clear BK305; clear BK311; clear BK318; clear HB; have BK296 := n0_; have BK297 := n1_; have BK305 := n2_; have BK311 := n3_; have BK318 := n4_; have HB := n5_; clear n0_ n1_ n2_ n3_ n4_ n5_; (try clear hb); (try clear hb2); (try clear hk); (try clear hi)))
        go_meet
        case rel => exact ⟨_, (false), (by first | rfl | (simp; done) | (simp [*]; done)), H', ⟨by have := HJ3.out; have := HJ32.out; first | omega | exact Nat.le_refl _⟩, ⟨by (with_reducible repeat (first | refine blk_drewN ?_ _ | refine blk_drew ?_ | refine blk_alloc ?_ _)); exact BK296.out⟩, ⟨by (with_reducible repeat (first | refine blk_drewN ?_ _ | refine blk_drew ?_ | refine blk_alloc ?_ _)); exact BK297.out⟩, ⟨by (with_reducible repeat (first | refine blk_drewN ?_ _ | refine blk_drew ?_ | refine blk_alloc ?_ _)); exact BK305.out⟩, ⟨by (with_reducible repeat (first | refine blk_drewN ?_ _ | refine blk_drew ?_ | refine blk_alloc ?_ _)); exact BK311.out⟩, ⟨by (with_reducible repeat (first | refine blk_drewN ?_ _ | refine blk_drew ?_ | refine blk_alloc ?_ _)); exact BK318.out⟩, ⟨by repeat (first | (with_reducible first | exact HB.out | apply below_alloc | apply pw_below_drewN | apply below_drew1 | refine below_set ?_ GE296.out | refine below_set ?_ GE297.out | refine below_set ?_ GE305.out | refine below_set ?_ GE311.out | refine below_set ?_ GE318.out) | exact HB.out)⟩⟩
      case rest =>
       clear HC94
       try clear c1; try clear c2; try clear p2; try clear c3; try clear c4; try clear c5; try clear c6; try clear p6; try clear c7; try clear c8; try clear c9; try clear c10; try clear c11; try clear c12; try clear c13; try clear c13b0; try clear c13b1; try clear c15; try clear c16; try clear c17; try clear c18; try clear c21; try clear c22; try clear c24; try clear c25; try clear c26; try clear c34; try clear c35; try clear c38; try clear c42; try clear c43; try clear c44; try clear c55; try clear c56; try clear c57; try clear c58; try clear c61; try clear c63; try clear c63b0; try clear c63b1; try clear c63b2; try clear c64; try clear p64; try clear c65; try clear c66; try clear c67; try clear c68; try clear c69; try clear c70; try clear c71; try clear c74; try clear c75; try clear c78; try clear c79; try clear c80; try clear c81; try clear c83; try clear c84; try clear c85; try clear c91; try clear c92; try clear c96; try clear c96b0; try clear c96b1; try clear c97; try clear c98; try clear c99; try clear c100; try clear c103; try clear c104; try clear c105; try clear c107; try clear c108; try clear c109; try clear c110; try clear hcz101_0; try clear hcz101_1; try clear hcz101_2; try clear hcz101_3; try clear hcz101_4; try clear hcz101_5; try clear hcz106_0; try clear hcz106_1; try clear hcz111_0; try clear hcz111_1; try clear hcz111_2; try clear hcz111_3; try clear hcz111_4; try clear hcz111_5; try clear hcz11_0; try clear hcz11_1; try clear hcz11_2; try clear hcz11_3; try clear hcz11_4; try clear hcz11_5; try clear hcz17_0; try clear hcz17_1; try clear hcz17_2; try clear hcz17_3; try clear hcz17_4; try clear hcz17_5; try clear hcz19_0; try clear hcz19_1; try clear hcz23_0; try clear hcz23_1; try clear hcz23_2; try clear hcz23_3; try clear hcz23_4; try clear hcz23_5; try clear hcz27_0; try clear hcz27_1; try clear hcz27_2; try clear hcz27_3; try clear hcz27_4; try clear hcz36_0; try clear hcz36_1; try clear hcz36_2; try clear hcz36_3; try clear hcz36_4; try clear hcz36_5; try clear hcz39_0; try clear hcz39_1; try clear hcz45_0; try clear hcz45_1; try clear hcz50_0; try clear hcz50_1; try clear hcz51_0; try clear hcz51_1; try clear hcz51_2; try clear hcz51_3; try clear hcz51_4; try clear hcz51_5; try clear hcz53_0; try clear hcz53_1; try clear hcz59_0; try clear hcz59_1; try clear hcz60_0; try clear hcz60_1; try clear hcz60_2; try clear hcz60_3; try clear hcz60_4; try clear hcz60_5; try clear hcz68_0; try clear hcz68_1; try clear hcz72_0; try clear hcz72_1; try clear hcz72_2; try clear hcz72_3; try clear hcz72_4; try clear hcz72_5; try clear hcz76_0; try clear hcz76_1; try clear hcz76_2; try clear hcz76_3; try clear hcz76_4; try clear hcz82_0; try clear hcz82_1; try clear hcz86_0; try clear hcz86_1; try clear hcz86_2; try clear hcz86_3; try clear hcz86_4; try clear hcz86_5; try clear hcz88_0; try clear hcz88_1; try clear hcz89_0; try clear hcz89_1; try clear hcz89_2; try clear hcz89_3; try clear hcz89_4; try clear hcz89_5; try clear hcz93_0; try clear hcz93_1; try clear hfz101_0; try clear hfz101_1; try clear hfz101_2; try clear hfz101_3; try clear hfz101_4; try clear hfz101_5; try clear hfz106_0; try clear hfz106_1; try clear hfz111_0; try clear hfz111_1; try clear hfz111_2; try clear hfz111_3; try clear hfz111_4; try clear hfz111_5; try clear hfz11_0; try clear hfz11_1; try clear hfz11_2; try clear hfz11_3; try clear hfz11_4; try clear hfz11_5; try clear hfz17_0; try clear hfz17_1; try clear hfz17_2; try clear hfz17_3; try clear hfz17_4; try clear hfz17_5; try clear hfz19_0; try clear hfz19_1; try clear hfz23_0; try clear hfz23_1; try clear hfz23_2; try clear hfz23_3; try clear hfz23_4; try clear hfz23_5; try clear hfz27_0; try clear hfz27_1; try clear hfz27_2; try clear hfz27_3; try clear hfz27_4; try clear hfz36_0; try clear hfz36_1; try clear hfz36_2; try clear hfz36_3; try clear hfz36_4; try clear hfz36_5; try clear hfz39_0; try clear hfz39_1; try clear hfz45_0; try clear hfz45_1; try clear hfz50_0; try clear hfz50_1; try clear hfz51_0; try clear hfz51_1; try clear hfz51_2; try clear hfz51_3; try clear hfz51_4; try clear hfz51_5; try clear hfz53_0; try clear hfz53_1; try clear hfz59_0; try clear hfz59_1; try clear hfz60_0; try clear hfz60_1; try clear hfz60_2; try clear hfz60_3; try clear hfz60_4; try clear hfz60_5; try clear hfz68_0; try clear hfz68_1; try clear hfz72_0; try clear hfz72_1; try clear hfz72_2; try clear hfz72_3; try clear hfz72_4; try clear hfz72_5; try clear hfz76_0; try clear hfz76_1; try clear hfz76_2; try clear hfz76_3; try clear hfz76_4; try clear hfz82_0; try clear hfz82_1; try clear hfz86_0; try clear hfz86_1; try clear hfz86_2; try clear hfz86_3; try clear hfz86_4; try clear hfz86_5; try clear hfz88_0; try clear hfz88_1; try clear hfz89_0; try clear hfz89_1; try clear hfz89_2; try clear hfz89_3; try clear hfz89_4; try clear hfz89_5; try clear hfz93_0; try clear hfz93_1; try clear p2; try clear p6; try clear p64
       obtain ⟨kq, x81_93, rfl, HA, HJ93, BK296, BK297, BK305, BK311, BK318, HB⟩ := hcut
       cases kq with
       | zero => exact absurd HA.out (by simp [impl_Unpack.j2])
       | succ kj93 =>
        have H := HA.out
        clear HA
        simp only [impl_Unpack.j2] at H
        by_cases c113 : x81_93 = true
        ·subst c113
         have H1 : (some (4, (!(t316 == 0) || (!(t317 == 0))), 0, 0, 0)) = some (r1, r2, r3, r4, r5) := by rw [if_pos rfl] at H; exact H
         clear H
         have H := H1
         clear H1
         simp only [Option.some.injEq, Prod.mk.injEq] at H
         obtain ⟨rfl, rfl, rfl, rfl, rfl⟩ := H
         have hnb114 := NB297_296.out
         have hnc114 := NB296_297.out
         have hnb115 := NB297_305.out
         have hnc115 := NB305_297.out
         have hnb116 := NB297_311.out
         have hnc116 := NB311_297.out
         have hnb117 := NB297_318.out
         have hnc117 := NB318_297.out
         have hcz118_0 : wc.cell? ⟨gb297, 0, none⟩ = some (.int .i64 x298000_32) := (blk_cell BK297.out 0).trans rfl
         have hcz118_1 : wc.cell? ⟨gb297, 1, none⟩ = some (.bool x298001_32) := (blk_cell BK297.out 1).trans rfl
         have hcz118_2 : wc.cell? ⟨gb297, 2, none⟩ = some (.int .u64 x298002_32) := (blk_cell BK297.out 2).trans rfl
         have hcz118_3 : wc.cell? ⟨gb297, 3, none⟩ = some (.int .u64 x298003_32) := (blk_cell BK297.out 3).trans rfl
         have hcz118_4 : wc.cell? ⟨gb297, 4, none⟩ = some (.int .i64 x298004_32) := (blk_cell BK297.out 4).trans rfl
         have hfz118_0 := blk_frozen BK297.out 0
         have hfz118_1 := blk_frozen BK297.out 1
         have hfz118_2 := blk_frozen BK297.out 2
         have hfz118_3 := blk_frozen BK297.out 3
         have hfz118_4 := blk_frozen BK297.out 4
         go_wp2
         refine bodyPost_ret (results_cell_row rfl _ _ gb297 27 #[.int .i64 4, .bool (!(t316 == 0) || (!(t317 == 0))), .int .u64 0, .int .u64 0, .int .i64 0] (0, 0) _ rfl (by (with_reducible repeat (first | refine blk_drewN ?_ _ | refine blk_drew ?_ | refine blk_alloc ?_ _)); refine blk_put (cs := #[.int .i64 4, .bool (!(t316 == 0) || (!(t317 == 0))), .int .u64 0, .int .u64 0, .int .i64 x298004_32]) ?_ 4 _ rfl; (with_reducible repeat (first | refine blk_drewN ?_ _ | refine blk_drew ?_ | refine blk_alloc ?_ _)); refine blk_put (cs := #[.int .i64 4, .bool (!(t316 == 0) || (!(t317 == 0))), .int .u64 0, .int .u64 x298003_32, .int .i64 x298004_32]) ?_ 3 _ rfl; (with_reducible repeat (first | refine blk_drewN ?_ _ | refine blk_drew ?_ | refine blk_alloc ?_ _)); refine blk_put (cs := #[.int .i64 4, .bool (!(t316 == 0) || (!(t317 == 0))), .int .u64 x298002_32, .int .u64 x298003_32, .int .i64 x298004_32]) ?_ 2 _ rfl; (with_reducible repeat (first | refine blk_drewN ?_ _ | refine blk_drew ?_ | refine blk_alloc ?_ _)); refine blk_put (cs := #[.int .i64 4, .bool x298001_32, .int .u64 x298002_32, .int .u64 x298003_32, .int .i64 x298004_32]) ?_ 1 _ rfl; (with_reducible repeat (first | refine blk_drewN ?_ _ | refine blk_drew ?_ | refine blk_alloc ?_ _)); refine blk_put (cs := #[.int .i64 x298000_32, .bool x298001_32, .int .u64 x298002_32, .int .u64 x298003_32, .int .i64 x298004_32]) ?_ 0 _ rfl; (with_reducible repeat (first | refine blk_drewN ?_ _ | refine blk_drew ?_ | refine blk_alloc ?_ _)); exact BK297.out) Tryd.underlying27 rfl (by kernel_rfl)) rfl ?_
         exact ⟨by first | rfl | (simp [errW_none, errW_some] <;> rfl) | (simp [*, errW_none, errW_some] <;> rfl), by repeat (first | (with_reducible first | exact HB.out | apply below_alloc | apply pw_below_drewN | apply below_drew1 | refine below_set ?_ GE296.out | refine below_set ?_ GE297.out | refine below_set ?_ GE305.out | refine below_set ?_ GE311.out | refine below_set ?_ GE318.out) | exact HB.out)⟩
        ·replace c113 := Bool.eq_false_iff.mpr c113
         subst c113
         have H1 : ((impl_layout_top.f t298 t299 t300 t301 t302 t303).bind fun t324 => (if (wrap64 (t315)) = t324 then (some (5, false, 0, 0, 0)) else (if (wrap64 (t315)) = 0 then (impl_Unpack.j3 kj93 (wrap64 (t315)) (!(t316 == 0) || (!(t317 == 0))) (t309 == 0 && (t310 == 0)) t298 t299 t300 t301 t302 t303 t309 t310) else (impl_Unpack.j3 kj93 (wrap64 (t315)) (!(t316 == 0) || (!(t317 == 0))) false t298 t299 t300 t301 t302 t303 t309 t310)))) = some (r1, r2, r3, r4, r5) := by rw [if_neg (show ¬ (false = true) by decide)] at H; exact H
         clear H
         have H := H1
         clear H1
         replace H := Option.bind_eq_some_iff.mp H
         obtain ⟨t324, A1190, H⟩ := H
         replace H : (if (wrap64 (t315)) = t324 then (some (5, false, 0, 0, 0)) else (if (wrap64 (t315)) = 0 then (impl_Unpack.j3 kj93 (wrap64 (t315)) (!(t316 == 0) || (!(t317 == 0))) (t309 == 0 && (t310 == 0)) t298 t299 t300 t301 t302 t303 t309 t310) else (impl_Unpack.j3 kj93 (wrap64 (t315)) (!(t316 == 0) || (!(t317 == 0))) false t298 t299 t300 t301 t302 t303 t309 t310))) = some (r1, r2, r3, r4, r5) := H
         have A119 := Aside0.mk A1190
         clear A1190
         by_cases c120 : (wrap64 (t315)) = t324
         ·rw [if_pos c120] at H
          have c120b0 : ((wrap64 (t315)) == t324) = true := beq_iff_eq.mpr c120
          have c120b1 : ((wrap64 (t315)) != t324) = false := bne_eq_false_iff_eq.mpr c120
          clear c120
          simp only [Option.some.injEq, Prod.mk.injEq] at H
          obtain ⟨rfl, rfl, rfl, rfl, rfl⟩ := H
          have hnb121 := NB305_296.out
          have hnc121 := NB296_305.out
          have hnb122 := NB305_297.out
          have hnc122 := NB297_305.out
          have hnb123 := NB305_311.out
          have hnc123 := NB311_305.out
          have hnb124 := NB305_318.out
          have hnc124 := NB318_305.out
          have hcz125_0 : wc.cell? ⟨gb305, 0, none⟩ = some (.int .i64 t298) := (blk_cell BK305.out 0).trans rfl
          have hcz125_1 : wc.cell? ⟨gb305, 1, none⟩ = some (.int .i64 t299) := (blk_cell BK305.out 1).trans rfl
          have hcz125_2 : wc.cell? ⟨gb305, 2, none⟩ = some (.int .i64 t300) := (blk_cell BK305.out 2).trans rfl
          have hcz125_3 : wc.cell? ⟨gb305, 3, none⟩ = some (.int .i64 t301) := (blk_cell BK305.out 3).trans rfl
          have hcz125_4 : wc.cell? ⟨gb305, 4, none⟩ = some (.int .i64 t302) := (blk_cell BK305.out 4).trans rfl
          have hcz125_5 : wc.cell? ⟨gb305, 5, none⟩ = some (.bool t303) := (blk_cell BK305.out 5).trans rfl
          have hfz125_0 := blk_frozen BK305.out 0
          have hfz125_1 := blk_frozen BK305.out 1
          have hfz125_2 := blk_frozen BK305.out 2
          have hfz125_3 := blk_frozen BK305.out 3
          have hfz125_4 := blk_frozen BK305.out 4
          have hfz125_5 := blk_frozen BK305.out 5
          go_wp2_with (first | ((with_reducible refine gate_callee (f := 69) rfl ?_); refine goesL_ (some 96) rfl rfl Tryd.func69 (by kernel_rfl) rfl #[.agg #[.int .i64 t298, .int .i64 t299, .int .i64 t300, .int .i64 t301, .int .i64 t302, .bool t303]] rfl (by (try simp only [List.map_toArray, List.map_cons, List.map_nil]); first | done | rfl | (simp only [List.length_drop, List.length_take]; rfl)) ?_; (with_reducible refine (impl_layout_top.calls t298 t299 t300 t301 t302 t303 t324 _ A119.out).mono ?_); rintro e w126 ⟨rfl, hb⟩; refine ⟨_, rfl, ?_⟩; have n0_ := Aside0.mk (blk_below (g := gb296) (o := .cells #[.int .u64 a1_0, .int .u64 a1_1] 25 (0, 0)) (by (with_reducible repeat (first | refine blk_drewN ?_ _ | refine blk_drew ?_ | refine blk_alloc ?_ _)); exact BK296.out) hb); have n1_ := Aside0.mk (blk_below (g := gb297) (o := .cells #[.int .i64 x298000_32, .bool x298001_32, .int .u64 x298002_32, .int .u64 x298003_32, .int .i64 x298004_32] 27 (0, 0)) (by (with_reducible repeat (first | refine blk_drewN ?_ _ | refine blk_drew ?_ | refine blk_alloc ?_ _)); exact BK297.out) hb); have n2_ := Aside0.mk (blk_below (g := gb305) (o := .cells #[.int .i64 t298, .int .i64 t299, .int .i64 t300, .int .i64 t301, .int .i64 t302, .bool t303] 91 (0, 0)) (by (with_reducible repeat (first | refine blk_drewN ?_ _ | refine blk_drew ?_ | refine blk_alloc ?_ _)); exact BK305.out) hb); have n3_ := Aside0.mk (blk_below (g := gb311) (o := .cells #[.int .u64 t309, .int .u64 t310] 25 (0, 0)) (by (with_reducible repeat (first | refine blk_drewN ?_ _ | refine blk_drew ?_ | refine blk_alloc ?_ _)); exact BK311.out) hb); have n4_ := Aside0.mk (blk_below (g := gb318) (o := .cells #[.int .u64 x319000_32, .int .u64 x319001_32] 25 (0, 0)) (by (with_reducible repeat (first | refine blk_drewN ?_ _ | refine blk_drew ?_ | refine blk_alloc ?_ _)); exact BK318.out) hb); have n5_ := Aside0.mk (below_step (by repeat (first | (with_reducible first | exact HB.out | apply below_alloc | apply pw_below_drewN | apply below_drew1 | refine below_set ?_ GE296.out | refine below_set ?_ GE297.out | refine below_set ?_ GE305.out | refine below_set ?_ GE311.out | refine below_set ?_ GE318.out) | exact HB.out)) hb); clear BK296; clear BK297; clear BK305; clear BK311; clear BK318; clear HB; have BK296 := n0_; have BK297 := n1_; have BK305 := n2_; have BK311 := n3_; have BK318 := n4_; have HB := n5_; clear n0_ n1_ n2_ n3_ n4_ n5_; (try clear hb); (try clear hb2); (try clear hk); (try clear hi); have hnb127 := NB297_296.out; have hnc127 := NB296_297.out; have hnb128 := NB297_311.out; have hnc128 := NB311_297.out; have hnb129 := NB297_318.out; have hnc129 := NB318_297.out; have hcz130_0 : w126.cell? ⟨gb297, 0, none⟩ = some (.int .i64 x298000_32) := (blk_cell BK297.out 0).trans rfl; have hcz130_1 : w126.cell? ⟨gb297, 1, none⟩ = some (.bool x298001_32) := (blk_cell BK297.out 1).trans rfl; have hcz130_2 : w126.cell? ⟨gb297, 2, none⟩ = some (.int .u64 x298002_32) := (blk_cell BK297.out 2).trans rfl; have hcz130_3 : w126.cell? ⟨gb297, 3, none⟩ = some (.int .u64 x298003_32) := (blk_cell BK297.out 3).trans rfl; have hcz130_4 : w126.cell? ⟨gb297, 4, none⟩ = some (.int .i64 x298004_32) := (blk_cell BK297.out 4).trans rfl; have hfz130_0 := blk_frozen BK297.out 0; have hfz130_1 := blk_frozen BK297.out 1; have hfz130_2 := blk_frozen BK297.out 2; have hfz130_3 := blk_frozen BK297.out 3; have hfz130_4 := blk_frozen BK297.out 4))
          refine bodyPost_ret (results_cell_row rfl _ _ gb297 27 #[.int .i64 5, .bool false, .int .u64 0, .int .u64 0, .int .i64 0] (0, 0) _ rfl (by (with_reducible repeat (first | refine blk_drewN ?_ _ | refine blk_drew ?_ | refine blk_alloc ?_ _)); refine blk_put (cs := #[.int .i64 5, .bool false, .int .u64 0, .int .u64 0, .int .i64 x298004_32]) ?_ 4 _ rfl; (with_reducible repeat (first | refine blk_drewN ?_ _ | refine blk_drew ?_ | refine blk_alloc ?_ _)); refine blk_put (cs := #[.int .i64 5, .bool false, .int .u64 0, .int .u64 x298003_32, .int .i64 x298004_32]) ?_ 3 _ rfl; (with_reducible repeat (first | refine blk_drewN ?_ _ | refine blk_drew ?_ | refine blk_alloc ?_ _)); refine blk_put (cs := #[.int .i64 5, .bool false, .int .u64 x298002_32, .int .u64 x298003_32, .int .i64 x298004_32]) ?_ 2 _ rfl; (with_reducible repeat (first | refine blk_drewN ?_ _ | refine blk_drew ?_ | refine blk_alloc ?_ _)); refine blk_put (cs := #[.int .i64 5, .bool x298001_32, .int .u64 x298002_32, .int .u64 x298003_32, .int .i64 x298004_32]) ?_ 1 _ rfl; (with_reducible repeat (first | refine blk_drewN ?_ _ | refine blk_drew ?_ | refine blk_alloc ?_ _)); refine blk_put (cs := #[.int .i64 x298000_32, .bool x298001_32, .int .u64 x298002_32, .int .u64 x298003_32, .int .i64 x298004_32]) ?_ 0 _ rfl; (with_reducible repeat (first | refine blk_drewN ?_ _ | refine blk_drew ?_ | refine blk_alloc ?_ _)); exact BK297.out) Tryd.underlying27 rfl (by kernel_rfl)) rfl ?_
          exact ⟨by first | rfl | (simp [errW_none, errW_some] <;> rfl) | (simp [*, errW_none, errW_some] <;> rfl), by repeat (first | (with_reducible first | exact HB.out | apply below_alloc | apply pw_below_drewN | apply below_drew1 | refine below_set ?_ GE296.out | refine below_set ?_ GE297.out | refine below_set ?_ GE305.out | refine below_set ?_ GE311.out | refine below_set ?_ GE318.out) | exact HB.out)⟩
         ·rw [if_neg c120] at H
          have c120b0 : ((wrap64 (t315)) == t324) = false := beq_eq_false_iff_ne.mpr c120
          have c120b1 : ((wrap64 (t315)) != t324) = true := bne_iff_ne.mpr c120
          have HC131 := Aside0.mk H
          clear H
          have hnb132 := NB305_296.out
          have hnc132 := NB296_305.out
          have hnb133 := NB305_297.out
          have hnc133 := NB297_305.out
          have hnb134 := NB305_311.out
          have hnc134 := NB311_305.out
          have hnb135 := NB305_318.out
          have hnc135 := NB318_305.out
          have hcz136_0 : wc.cell? ⟨gb305, 0, none⟩ = some (.int .i64 t298) := (blk_cell BK305.out 0).trans rfl
          have hcz136_1 : wc.cell? ⟨gb305, 1, none⟩ = some (.int .i64 t299) := (blk_cell BK305.out 1).trans rfl
          have hcz136_2 : wc.cell? ⟨gb305, 2, none⟩ = some (.int .i64 t300) := (blk_cell BK305.out 2).trans rfl
          have hcz136_3 : wc.cell? ⟨gb305, 3, none⟩ = some (.int .i64 t301) := (blk_cell BK305.out 3).trans rfl
          have hcz136_4 : wc.cell? ⟨gb305, 4, none⟩ = some (.int .i64 t302) := (blk_cell BK305.out 4).trans rfl
          have hcz136_5 : wc.cell? ⟨gb305, 5, none⟩ = some (.bool t303) := (blk_cell BK305.out 5).trans rfl
          have hfz136_0 := blk_frozen BK305.out 0
          have hfz136_1 := blk_frozen BK305.out 1
          have hfz136_2 := blk_frozen BK305.out 2
          have hfz136_3 := blk_frozen BK305.out 3
          have hfz136_4 := blk_frozen BK305.out 4
          have hfz136_5 := blk_frozen BK305.out 5
          go_upto_region 18 with (first | ((with_reducible refine gate_callee (f := 69) rfl ?_); refine goesL_ (some 96) rfl rfl Tryd.func69 (by kernel_rfl) rfl #[.agg #[.int .i64 t298, .int .i64 t299, .int .i64 t300, .int .i64 t301, .int .i64 t302, .bool t303]] rfl (by (try simp only [List.map_toArray, List.map_cons, List.map_nil]); first | done | rfl | (simp only [List.length_drop, List.length_take]; rfl)) ?_; (with_reducible refine (impl_layout_top.calls t298 t299 t300 t301 t302 t303 t324 _ A119.out).mono ?_); rintro e w137 ⟨rfl, hb⟩; refine ⟨_, rfl, ?_⟩; have n0_ := Aside0.mk (blk_below (g := gb296) (o := .cells #[.int .u64 a1_0, .int .u64 a1_1] 25 (0, 0)) (by (with_reducible repeat (first | refine blk_drewN ?_ _ | refine blk_drew ?_ | refine blk_alloc ?_ _)); exact BK296.out) hb); have n1_ := Aside0.mk (blk_below (g := gb297) (o := .cells #[.int .i64 x298000_32, .bool x298001_32, .int .u64 x298002_32, .int .u64 x298003_32, .int .i64 x298004_32] 27 (0, 0)) (by (with_reducible repeat (first | refine blk_drewN ?_ _ | refine blk_drew ?_ | refine blk_alloc ?_ _)); exact BK297.out) hb); have n2_ := Aside0.mk (blk_below (g := gb305) (o := .cells #[.int .i64 t298, .int .i64 t299, .int .i64 t300, .int .i64 t301, .int .i64 t302, .bool t303] 91 (0, 0)) (by (with_reducible repeat (first | refine blk_drewN ?_ _ | refine blk_drew ?_ | refine blk_alloc ?_ _)); exact BK305.out) hb); have n3_ := Aside0.mk (blk_below (g := gb311) (o := .cells #[.int .u64 t309, .int .u64 t310] 25 (0, 0)) (by (with_reducible repeat (first | refine blk_drewN ?_ _ | refine blk_drew ?_ | refine blk_alloc ?_ _)); exact BK311.out) hb); have n4_ := Aside0.mk (blk_below (g := gb318) (o := .cells #[.int .u64 x319000_32, .int .u64 x319001_32] 25 (0, 0)) (by (with_reducible repeat (first | refine blk_drewN ?_ _ | refine blk_drew ?_ | refine blk_alloc ?_ _)); exact BK318.out) hb); have n5_ := Aside0.mk (below_step (by repeat (first | (with_reducible first | exact HB.out | apply below_alloc | apply pw_below_drewN | apply below_drew1 | refine below_set ?_ GE296.out | refine below_set ?_ GE297.out | refine below_set ?_ GE305.out | refine below_set ?_ GE311.out | refine below_set ?_ GE318.out) | exact HB.out)) hb); clear BK296; clear BK297; clear BK305; clear BK311; clear BK318; clear HB; have BK296 := n0_; have BK297 := n1_; have BK305 := n2_; have BK311 := n3_; have BK318 := n4_; have HB := n5_; clear n0_ n1_ n2_ n3_ n4_ n5_; (try clear hb); (try clear hb2); (try clear hk); (try clear hi)))
          (try simp only [Act.put, List.setIfInBounds_toArray, List.set_cons_zero, List.set_cons_succ])
          go_cut [99] (fun v99 wc => ∃ (kq : Nat) (x99_130 : Bool), v99 = .bool x99_130 ∧ Aside0 (impl_Unpack.j3 kq (wrap64 (t315)) (!(t316 == 0) || (!(t317 == 0))) x99_130 t298 t299 t300 t301 t302 t303 t309 t310 = some (r1, r2, r3, r4, r5)) ∧ Aside0 (kq ≤ kj93) ∧ Aside0 (wc.heap[gb296]? = some (.cells #[.int .u64 a1_0, .int .u64 a1_1] 25 (0, 0))) ∧ Aside0 (wc.heap[gb297]? = some (.cells #[.int .i64 x298000_32, .bool x298001_32, .int .u64 x298002_32, .int .u64 x298003_32, .int .i64 x298004_32] 27 (0, 0))) ∧ Aside0 (wc.heap[gb305]? = some (.cells #[.int .i64 t298, .int .i64 t299, .int .i64 t300, .int .i64 t301, .int .i64 t302, .bool t303] 91 (0, 0))) ∧ Aside0 (wc.heap[gb311]? = some (.cells #[.int .u64 t309, .int .u64 t310] 25 (0, 0))) ∧ Aside0 (wc.heap[gb318]? = some (.cells #[.int .u64 x319000_32, .int .u64 x319001_32] 25 (0, 0))) ∧ Aside0 (Below w.heap.size w wc))
          case first =>
           have H := HC131.out
           clear HC131
           by_cases c138 : (wrap64 (t315)) = 0
           ·rw [if_pos c138] at H
            have c138b0 : ((wrap64 (t315)) == 0) = true := beq_iff_eq.mpr c138
            have c138b1 : ((wrap64 (t315)) != 0) = false := bne_eq_false_iff_eq.mpr c138
            clear c138
            (first | rw [c138b0] | (simp only [i64_w, i32_w]; rw [c138b0]) | rw [c138b1] | (simp only [c138b1]) | skip)
            have H' := Aside0.mk H
            clear H
            have hnb139 := NB311_296.out
            have hnc139 := NB296_311.out
            have hnb140 := NB311_297.out
            have hnc140 := NB297_311.out
            have hnb141 := NB311_305.out
            have hnc141 := NB305_311.out
            have hnb142 := NB311_318.out
            have hnc142 := NB318_311.out
            have hcz143_0 : w137.cell? ⟨gb311, 0, none⟩ = some (.int .u64 t309) := (blk_cell BK311.out 0).trans rfl
            have hcz143_1 : w137.cell? ⟨gb311, 1, none⟩ = some (.int .u64 t310) := (blk_cell BK311.out 1).trans rfl
            have hfz143_0 := blk_frozen BK311.out 0
            have hfz143_1 := blk_frozen BK311.out 1
            go_wp2
            go_meet
            case rel => exact ⟨_, ((t309 == 0 && (t310 == 0))), (by first | rfl | (simp; done) | (simp [*]; done)), H', ⟨by have := HJ3.out; have := HJ32.out; have := HJ93.out; first | omega | exact Nat.le_refl _⟩, ⟨by (with_reducible repeat (first | refine blk_drewN ?_ _ | refine blk_drew ?_ | refine blk_alloc ?_ _)); exact BK296.out⟩, ⟨by (with_reducible repeat (first | refine blk_drewN ?_ _ | refine blk_drew ?_ | refine blk_alloc ?_ _)); exact BK297.out⟩, ⟨by (with_reducible repeat (first | refine blk_drewN ?_ _ | refine blk_drew ?_ | refine blk_alloc ?_ _)); exact BK305.out⟩, ⟨by (with_reducible repeat (first | refine blk_drewN ?_ _ | refine blk_drew ?_ | refine blk_alloc ?_ _)); exact BK311.out⟩, ⟨by (with_reducible repeat (first | refine blk_drewN ?_ _ | refine blk_drew ?_ | refine blk_alloc ?_ _)); exact BK318.out⟩, ⟨by repeat (first | (with_reducible first | exact HB.out | apply below_alloc | apply pw_below_drewN | apply below_drew1 | refine below_set ?_ GE296.out | refine below_set ?_ GE297.out | refine below_set ?_ GE305.out | refine below_set ?_ GE311.out | refine below_set ?_ GE318.out) | exact HB.out)⟩⟩
           ·rw [if_neg c138] at H
            have c138b0 : ((wrap64 (t315)) == 0) = false := beq_eq_false_iff_ne.mpr c138
            have c138b1 : ((wrap64 (t315)) != 0) = true := bne_iff_ne.mpr c138
            (first | rw [c138b0] | (simp only [i64_w, i32_w]; rw [c138b0]) | rw [c138b1] | (simp only [c138b1]) | skip)
            have H' := Aside0.mk H
            clear H
            go_wp2
            go_meet
            case rel => exact ⟨_, (false), (by first | rfl | (simp; done) | (simp [*]; done)), H', ⟨by have := HJ3.out; have := HJ32.out; have := HJ93.out; first | omega | exact Nat.le_refl _⟩, ⟨by (with_reducible repeat (first | refine blk_drewN ?_ _ | refine blk_drew ?_ | refine blk_alloc ?_ _)); exact BK296.out⟩, ⟨by (with_reducible repeat (first | refine blk_drewN ?_ _ | refine blk_drew ?_ | refine blk_alloc ?_ _)); exact BK297.out⟩, ⟨by (with_reducible repeat (first | refine blk_drewN ?_ _ | refine blk_drew ?_ | refine blk_alloc ?_ _)); exact BK305.out⟩, ⟨by (with_reducible repeat (first | refine blk_drewN ?_ _ | refine blk_drew ?_ | refine blk_alloc ?_ _)); exact BK311.out⟩, ⟨by (with_reducible repeat (first | refine blk_drewN ?_ _ | refine blk_drew ?_ | refine blk_alloc ?_ _)); exact BK318.out⟩, ⟨by repeat (first | (with_reducible first | exact HB.out | apply below_alloc | apply pw_below_drewN | apply below_drew1 | refine below_set ?_ GE296.out | refine below_set ?_ GE297.out | refine below_set ?_ GE305.out | refine below_set ?_ GE311.out | refine below_set ?_ GE318.out) | exact HB.out)⟩⟩
          case rest =>
           clear HC131
           try clear c1; try clear c2; try clear p2; try clear c3; try clear c4; try clear c5; try clear c6; try clear p6; try clear c7; try clear c8; try clear c9; try clear c10; try clear c11; try clear c12; try clear c13; try clear c13b0; try clear c13b1; try clear c14; try clear c15; try clear c16; try clear c17; try clear c18; try clear c21; try clear c22; try clear c24; try clear c25; try clear c26; try clear c34; try clear c35; try clear c38; try clear c42; try clear c43; try clear c44; try clear c55; try clear c56; try clear c57; try clear c58; try clear c61; try clear c63; try clear c63b0; try clear c63b1; try clear c63b2; try clear c64; try clear p64; try clear c65; try clear c66; try clear c67; try clear c68; try clear c69; try clear c70; try clear c71; try clear c74; try clear c75; try clear c78; try clear c79; try clear c80; try clear c81; try clear c83; try clear c84; try clear c85; try clear c91; try clear c92; try clear c96; try clear c96b0; try clear c96b1; try clear c97; try clear c98; try clear c99; try clear c100; try clear c103; try clear c104; try clear c105; try clear c107; try clear c108; try clear c109; try clear c110; try clear c113; try clear c114; try clear c115; try clear c116; try clear c117; try clear c120; try clear c120b0; try clear c120b1; try clear c121; try clear c122; try clear c123; try clear c124; try clear c127; try clear c128; try clear c129; try clear c132; try clear c133; try clear c134; try clear c135; try clear c138; try clear c138b0; try clear c138b1; try clear c139; try clear c140; try clear c141; try clear c142; try clear hcz101_0; try clear hcz101_1; try clear hcz101_2; try clear hcz101_3; try clear hcz101_4; try clear hcz101_5; try clear hcz106_0; try clear hcz106_1; try clear hcz111_0; try clear hcz111_1; try clear hcz111_2; try clear hcz111_3; try clear hcz111_4; try clear hcz111_5; try clear hcz118_0; try clear hcz118_1; try clear hcz118_2; try clear hcz118_3; try clear hcz118_4; try clear hcz11_0; try clear hcz11_1; try clear hcz11_2; try clear hcz11_3; try clear hcz11_4; try clear hcz11_5; try clear hcz125_0; try clear hcz125_1; try clear hcz125_2; try clear hcz125_3; try clear hcz125_4; try clear hcz125_5; try clear hcz130_0; try clear hcz130_1; try clear hcz130_2; try clear hcz130_3; try clear hcz130_4; try clear hcz136_0; try clear hcz136_1; try clear hcz136_2; try clear hcz136_3; try clear hcz136_4; try clear hcz136_5; try clear hcz143_0; try clear hcz143_1; try clear hcz17_0; try clear hcz17_1; try clear hcz17_2; try clear hcz17_3; try clear hcz17_4; try clear hcz17_5; try clear hcz19_0; try clear hcz19_1; try clear hcz23_0; try clear hcz23_1; try clear hcz23_2; try clear hcz23_3; try clear hcz23_4; try clear hcz23_5; try clear hcz27_0; try clear hcz27_1; try clear hcz27_2; try clear hcz27_3; try clear hcz27_4; try clear hcz36_0; try clear hcz36_1; try clear hcz36_2; try clear hcz36_3; try clear hcz36_4; try clear hcz36_5; try clear hcz39_0; try clear hcz39_1; try clear hcz45_0; try clear hcz45_1; try clear hcz50_0; try clear hcz50_1; try clear hcz51_0; try clear hcz51_1; try clear hcz51_2; try clear hcz51_3; try clear hcz51_4; try clear hcz51_5; try clear hcz53_0; try clear hcz53_1; try clear hcz59_0; try clear hcz59_1; try clear hcz60_0; try clear hcz60_1; try clear hcz60_2; try clear hcz60_3; try clear hcz60_4; try clear hcz60_5; try clear hcz68_0; try clear hcz68_1; try clear hcz72_0; try clear hcz72_1; try clear hcz72_2; try clear hcz72_3; try clear hcz72_4; try clear hcz72_5; try clear hcz76_0; try clear hcz76_1; try clear hcz76_2; try clear hcz76_3; try clear hcz76_4; try clear hcz82_0; try clear hcz82_1; try clear hcz86_0; try clear hcz86_1; try clear hcz86_2; try clear hcz86_3; try clear hcz86_4; try clear hcz86_5; try clear hcz88_0; try clear hcz88_1; try clear hcz89_0; try clear hcz89_1; try clear hcz89_2; try clear hcz89_3; try clear hcz89_4; try clear hcz89_5; try clear hcz93_0; try clear hcz93_1; try clear hfz101_0; try clear hfz101_1; try clear hfz101_2; try clear hfz101_3; try clear hfz101_4; try clear hfz101_5; try clear hfz106_0; try clear hfz106_1; try clear hfz111_0; try clear hfz111_1; try clear hfz111_2; try clear hfz111_3; try clear hfz111_4; try clear hfz111_5; try clear hfz118_0; try clear hfz118_1; try clear hfz118_2; try clear hfz118_3; try clear hfz118_4; try clear hfz11_0; try clear hfz11_1; try clear hfz11_2; try clear hfz11_3; try clear hfz11_4; try clear hfz11_5; try clear hfz125_0; try clear hfz125_1; try clear hfz125_2; try clear hfz125_3; try clear hfz125_4; try clear hfz125_5; try clear hfz130_0; try clear hfz130_1; try clear hfz130_2; try clear hfz130_3; try clear hfz130_4; try clear hfz136_0; try clear hfz136_1; try clear hfz136_2; try clear hfz136_3; try clear hfz136_4; try clear hfz136_5; try clear hfz143_0; try clear hfz143_1; try clear hfz17_0; try clear hfz17_1; try clear hfz17_2; try clear hfz17_3; try clear hfz17_4; try clear hfz17_5; try clear hfz19_0; try clear hfz19_1; try clear hfz23_0; try clear hfz23_1; try clear hfz23_2; try clear hfz23_3; try clear hfz23_4; try clear hfz23_5; try clear hfz27_0; try clear hfz27_1; try clear hfz27_2; try clear hfz27_3; try clear hfz27_4; try clear hfz36_0; try clear hfz36_1; try clear hfz36_2; try clear hfz36_3; try clear hfz36_4; try clear hfz36_5; try clear hfz39_0; try clear hfz39_1; try clear hfz45_0; try clear hfz45_1; try clear hfz50_0; try clear hfz50_1; try clear hfz51_0; try clear hfz51_1; try clear hfz51_2; try clear hfz51_3; try clear hfz51_4; try clear hfz51_5; try clear hfz53_0; try clear hfz53_1; try clear hfz59_0; try clear hfz59_1; try clear hfz60_0; try clear hfz60_1; try clear hfz60_2; try clear hfz60_3; try clear hfz60_4; try clear hfz60_5; try clear hfz68_0; try clear hfz68_1; try clear hfz72_0; try clear hfz72_1; try clear hfz72_2; try clear hfz72_3; try clear hfz72_4; try clear hfz72_5; try clear hfz76_0; try clear hfz76_1; try clear hfz76_2; try clear hfz76_3; try clear hfz76_4; try clear hfz82_0; try clear hfz82_1; try clear hfz86_0; try clear hfz86_1; try clear hfz86_2; try clear hfz86_3; try clear hfz86_4; try clear hfz86_5; try clear hfz88_0; try clear hfz88_1; try clear hfz89_0; try clear hfz89_1; try clear hfz89_2; try clear hfz89_3; try clear hfz89_4; try clear hfz89_5; try clear hfz93_0; try clear hfz93_1; try clear p2; try clear p6; try clear p64
           obtain ⟨kq, x99_130, rfl, HA, HJ130, BK296, BK297, BK305, BK311, BK318, HB⟩ := hcut
           cases kq with
           | zero => exact absurd HA.out (by simp [impl_Unpack.j3])
           | succ kj130 =>
            have H := HA.out
            clear HA
            simp only [impl_Unpack.j3] at H
            by_cases c144 : x99_130 = true
            ·subst c144
             have H1 : (some (1, (!(t316 == 0) || (!(t317 == 0))), 0, 0, 0)) = some (r1, r2, r3, r4, r5) := by rw [if_pos rfl] at H; exact H
             clear H
             have H := H1
             clear H1
             simp only [Option.some.injEq, Prod.mk.injEq] at H
             obtain ⟨rfl, rfl, rfl, rfl, rfl⟩ := H
             have hnb145 := NB297_296.out
             have hnc145 := NB296_297.out
             have hnb146 := NB297_305.out
             have hnc146 := NB305_297.out
             have hnb147 := NB297_311.out
             have hnc147 := NB311_297.out
             have hnb148 := NB297_318.out
             have hnc148 := NB318_297.out
             have hcz149_0 : wc.cell? ⟨gb297, 0, none⟩ = some (.int .i64 x298000_32) := (blk_cell BK297.out 0).trans rfl
             have hcz149_1 : wc.cell? ⟨gb297, 1, none⟩ = some (.bool x298001_32) := (blk_cell BK297.out 1).trans rfl
             have hcz149_2 : wc.cell? ⟨gb297, 2, none⟩ = some (.int .u64 x298002_32) := (blk_cell BK297.out 2).trans rfl
             have hcz149_3 : wc.cell? ⟨gb297, 3, none⟩ = some (.int .u64 x298003_32) := (blk_cell BK297.out 3).trans rfl
             have hcz149_4 : wc.cell? ⟨gb297, 4, none⟩ = some (.int .i64 x298004_32) := (blk_cell BK297.out 4).trans rfl
             have hfz149_0 := blk_frozen BK297.out 0
             have hfz149_1 := blk_frozen BK297.out 1
             have hfz149_2 := blk_frozen BK297.out 2
             have hfz149_3 := blk_frozen BK297.out 3
             have hfz149_4 := blk_frozen BK297.out 4
             go_wp2
             refine bodyPost_ret (results_cell_row rfl _ _ gb297 27 #[.int .i64 1, .bool (!(t316 == 0) || (!(t317 == 0))), .int .u64 0, .int .u64 0, .int .i64 0] (0, 0) _ rfl (by (with_reducible repeat (first | refine blk_drewN ?_ _ | refine blk_drew ?_ | refine blk_alloc ?_ _)); refine blk_put (cs := #[.int .i64 1, .bool (!(t316 == 0) || (!(t317 == 0))), .int .u64 0, .int .u64 0, .int .i64 x298004_32]) ?_ 4 _ rfl; (with_reducible repeat (first | refine blk_drewN ?_ _ | refine blk_drew ?_ | refine blk_alloc ?_ _)); refine blk_put (cs := #[.int .i64 1, .bool (!(t316 == 0) || (!(t317 == 0))), .int .u64 0, .int .u64 x298003_32, .int .i64 x298004_32]) ?_ 3 _ rfl; (with_reducible repeat (first | refine blk_drewN ?_ _ | refine blk_drew ?_ | refine blk_alloc ?_ _)); refine blk_put (cs := #[.int .i64 1, .bool (!(t316 == 0) || (!(t317 == 0))), .int .u64 x298002_32, .int .u64 x298003_32, .int .i64 x298004_32]) ?_ 2 _ rfl; (with_reducible repeat (first | refine blk_drewN ?_ _ | refine blk_drew ?_ | refine blk_alloc ?_ _)); refine blk_put (cs := #[.int .i64 1, .bool x298001_32, .int .u64 x298002_32, .int .u64 x298003_32, .int .i64 x298004_32]) ?_ 1 _ rfl; (with_reducible repeat (first | refine blk_drewN ?_ _ | refine blk_drew ?_ | refine blk_alloc ?_ _)); refine blk_put (cs := #[.int .i64 x298000_32, .bool x298001_32, .int .u64 x298002_32, .int .u64 x298003_32, .int .i64 x298004_32]) ?_ 0 _ rfl; (with_reducible repeat (first | refine blk_drewN ?_ _ | refine blk_drew ?_ | refine blk_alloc ?_ _)); exact BK297.out) Tryd.underlying27 rfl (by kernel_rfl)) rfl ?_
             exact ⟨by first | rfl | (simp [errW_none, errW_some] <;> rfl) | (simp [*, errW_none, errW_some] <;> rfl), by repeat (first | (with_reducible first | exact HB.out | apply below_alloc | apply pw_below_drewN | apply below_drew1 | refine below_set ?_ GE296.out | refine below_set ?_ GE297.out | refine below_set ?_ GE305.out | refine below_set ?_ GE311.out | refine below_set ?_ GE318.out) | exact HB.out)⟩
            ·replace c144 := Bool.eq_false_iff.mpr c144
             subst c144
             have H1 : (if (wrap64 (t315)) = 0 then ((impl_layout_qMin.f t298 t299 t300 t301 t302 t303).bind fun t325 => (some (2, (!(t316 == 0) || (!(t317 == 0))), t309, t310, t325))) else ((impl_one.f (wrap64 (t298 - 1))).bind fun bt326 => ((impl_Word_or.f t309 t310 bt326.1 bt326.2).bind fun bt328 => (some (3, (!(t316 == 0) || (!(t317 == 0))), bt328.1, bt328.2, wrap64 ((wrap64 ((wrap64 ((wrap64 (t315)) - t300)) - t298)) + 1)))))) = some (r1, r2, r3, r4, r5) := by rw [if_neg (show ¬ (false = true) by decide)] at H; exact H
             clear H
             have H := H1
             clear H1
             by_cases c150 : (wrap64 (t315)) = 0
             ·rw [if_pos c150] at H
              have c150b0 : ((wrap64 (t315)) == 0) = true := beq_iff_eq.mpr c150
              have c150b1 : ((wrap64 (t315)) != 0) = false := bne_eq_false_iff_eq.mpr c150
              clear c150
              replace H := Option.bind_eq_some_iff.mp H
              obtain ⟨t325, A1510, H⟩ := H
              replace H : (some (2, (!(t316 == 0) || (!(t317 == 0))), t309, t310, t325)) = some (r1, r2, r3, r4, r5) := H
              have A151 := Aside0.mk A1510
              clear A1510
              simp only [Option.some.injEq, Prod.mk.injEq] at H
              obtain ⟨rfl, rfl, rfl, rfl, rfl⟩ := H
              try go_wp2
              have n0_ := Aside0.mk (blk_drew BK296.out)
              have n1_ := Aside0.mk (blk_drew BK297.out)
              have n2_ := Aside0.mk (blk_drew BK305.out)
              have n3_ := Aside0.mk (blk_drew BK311.out)
              have n4_ := Aside0.mk (blk_drew BK318.out)
              have n5_ := Aside0.mk (below_drew1 HB.out)
              clear BK296
              clear BK297
              clear BK305
              clear BK311
              clear BK318
              clear HB
              have BK296 := n0_
              have BK297 := n1_
              have BK305 := n2_
              have BK311 := n3_
              have BK318 := n4_
              have HB := n5_
              clear n0_ n1_ n2_ n3_ n4_ n5_
              refine start_ (n := 6) (S := fun w' => w'.cell? ⟨gb311, 0, none⟩ = some (.int .u64 t309) ∧ w'.cell? ⟨gb311, 1, none⟩ = some (.int .u64 t310) ∧ w'.cell? ⟨gb305, 0, none⟩ = some (.int .i64 t298) ∧ w'.cell? ⟨gb305, 1, none⟩ = some (.int .i64 t299) ∧ w'.cell? ⟨gb305, 2, none⟩ = some (.int .i64 t300) ∧ w'.cell? ⟨gb305, 3, none⟩ = some (.int .i64 t301) ∧ w'.cell? ⟨gb305, 4, none⟩ = some (.int .i64 t302) ∧ w'.cell? ⟨gb305, 5, none⟩ = some (.bool t303)) (ds := []) #[false, false, false, false, false, false] (by kernel_rfl) rfl rfl ⟨(blk_cell BK311.out 0).trans rfl, (blk_cell BK311.out 1).trans rfl, (blk_cell BK305.out 0).trans rfl, (blk_cell BK305.out 1).trans rfl, (blk_cell BK305.out 2).trans rfl, (blk_cell BK305.out 3).trans rfl, (blk_cell BK305.out 4).trans rfl, (blk_cell BK305.out 5).trans rfl⟩ (fun hHeld => ?_)
              generalize wc.drew = w152 at BK296 BK297 BK305 BK311 BK318 HB hHeld ⊢
              refine pure_ (i := 0) (N := some 112) (v := ?_) (a' := ?_) #[true, false, false, false, false, false] rfl rfl (by kernel_rfl) (fun _ _ _ h => h) (Or.inl ⟨by rfl, ?_⟩) ?_ ?_
              rotate_left
              ·intro w'
               go_simp
               with_reducible rfl
              rotate_left
              ·simp only [Act.put, List.setIfInBounds_toArray, List.set_cons_zero, List.set_cons_succ, i64_w, i32_w]
               rfl
              refine take_ (i := 1) (N := some 113) (v := ?_) (a' := ?_) #[true, true, false, false, false, false] rfl rfl (by kernel_rfl) (fun _ _ _ h => h) (Or.inl ⟨by rfl, ?_⟩) hHeld ?_ ?_
              rotate_left
              ·rintro w' ⟨s0, s1, s2, s3, s4, s5, s6, s7⟩
               go_simp
               with_reducible rfl
              rotate_left
              ·simp only [Act.put, List.setIfInBounds_toArray, List.set_cons_zero, List.set_cons_succ, i64_w, i32_w]
               rfl
              refine take_ (i := 2) (N := some 114) (v := ?_) (a' := ?_) #[true, true, true, false, false, false] rfl rfl (by kernel_rfl) (fun _ _ _ h => h) (Or.inl ⟨by rfl, ?_⟩) hHeld ?_ ?_
              rotate_left
              ·rintro w' ⟨s0, s1, s2, s3, s4, s5, s6, s7⟩
               go_simp
               with_reducible rfl
              rotate_left
              ·simp only [Act.put, List.setIfInBounds_toArray, List.set_cons_zero, List.set_cons_succ, i64_w, i32_w]
               rfl
              refine one_ (i := 3) (N := some 115) #[true, true, true, true, false, false] rfl rfl (by kernel_rfl) (by decide) (fun K hK => ?_)
              refine goes_ Tryd.func70 (by kernel_rfl) rfl #[.agg #[.int .i64 t298, .int .i64 t299, .int .i64 t300, .int .i64 t301, .int .i64 t302, .bool t303]] (by rfl) rfl rfl (by (try simp only [List.map_toArray, List.map_cons, List.map_nil]); first | done | rfl | (simp only [List.length_drop, List.length_take]; rfl)) ?_
              with_reducible refine (impl_layout_qMin.calls t298 t299 t300 t301 t302 t303 t325 _ A151.out).mono ?_
              rintro e w153 ⟨rfl, hb⟩
              refine ⟨_, rfl, ?_⟩
              have n0_ := Aside0.mk (blk_below (g := gb296) (o := .cells #[.int .u64 a1_0, .int .u64 a1_1] 25 (0, 0)) (by (with_reducible repeat (first | refine blk_drewN ?_ _ | refine blk_drew ?_ | refine blk_alloc ?_ _)); exact BK296.out) hb)
              have n1_ := Aside0.mk (blk_below (g := gb297) (o := .cells #[.int .i64 x298000_32, .bool x298001_32, .int .u64 x298002_32, .int .u64 x298003_32, .int .i64 x298004_32] 27 (0, 0)) (by (with_reducible repeat (first | refine blk_drewN ?_ _ | refine blk_drew ?_ | refine blk_alloc ?_ _)); exact BK297.out) hb)
              have n2_ := Aside0.mk (blk_below (g := gb305) (o := .cells #[.int .i64 t298, .int .i64 t299, .int .i64 t300, .int .i64 t301, .int .i64 t302, .bool t303] 91 (0, 0)) (by (with_reducible repeat (first | refine blk_drewN ?_ _ | refine blk_drew ?_ | refine blk_alloc ?_ _)); exact BK305.out) hb)
              have n3_ := Aside0.mk (blk_below (g := gb311) (o := .cells #[.int .u64 t309, .int .u64 t310] 25 (0, 0)) (by (with_reducible repeat (first | refine blk_drewN ?_ _ | refine blk_drew ?_ | refine blk_alloc ?_ _)); exact BK311.out) hb)
              have n4_ := Aside0.mk (blk_below (g := gb318) (o := .cells #[.int .u64 x319000_32, .int .u64 x319001_32] 25 (0, 0)) (by (with_reducible repeat (first | refine blk_drewN ?_ _ | refine blk_drew ?_ | refine blk_alloc ?_ _)); exact BK318.out) hb)
              have n5_ := Aside0.mk (below_step (by repeat (first | (with_reducible first | exact HB.out | apply below_alloc | apply pw_below_drewN | apply below_drew1 | refine below_set ?_ GE296.out | refine below_set ?_ GE297.out | refine below_set ?_ GE305.out | refine below_set ?_ GE311.out | refine below_set ?_ GE318.out) | exact HB.out)) hb)
              clear BK296
              clear BK297
              clear BK305
              clear BK311
              clear BK318
              clear HB
              have BK296 := n0_
              have BK297 := n1_
              have BK305 := n2_
              have BK311 := n3_
              have BK318 := n4_
              have HB := n5_
              clear n0_ n1_ n2_ n3_ n4_ n5_
              (try clear hb)
              (try clear hb2)
              (try clear hk)
              (try clear hi)
              refine hK.out _ _ ⟨(blk_cell BK311.out 0).trans rfl, (blk_cell BK311.out 1).trans rfl, (blk_cell BK305.out 0).trans rfl, (blk_cell BK305.out 1).trans rfl, (blk_cell BK305.out 2).trans rfl, (blk_cell BK305.out 3).trans rfl, (blk_cell BK305.out 4).trans rfl, (blk_cell BK305.out 5).trans rfl⟩ (fun hHeld => ?_)
              clear hK K
              refine norm_ (a' := ?_) ?_ ?_
              rotate_left
              ·show Act.put _ (some 115) _ = _
               simp only [Act.put, List.setIfInBounds_toArray, List.set_cons_zero, List.set_cons_succ, i64_w, i32_w]
               rfl
              refine pure_ (i := 4) (N := some 116) (v := ?_) (a' := ?_) #[true, true, true, true, true, false] rfl rfl (by kernel_rfl) (fun _ _ _ h => h) (Or.inl ⟨by rfl, ?_⟩) ?_ ?_
              rotate_left
              ·intro w'
               go_simp
               with_reducible rfl
              rotate_left
              ·simp only [Act.put, List.setIfInBounds_toArray, List.set_cons_zero, List.set_cons_succ, i64_w, i32_w]
               rfl
              refine one_ (i := 5) (N := none) #[true, true, true, true, true, true] rfl rfl (by kernel_rfl) (by decide) (fun K hK => ?_)
              have hs154 : w153.cell? ⟨gb297, 0, none⟩ = some (.int .i64 x298000_32) := (blk_cell BK297.out 0).trans rfl
              have hfs154 := blk_frozen BK297.out 0
              have hns154_0 := NB296_297.out
              have hns154_2 := NB305_297.out
              have hns154_3 := NB311_297.out
              have hns154_4 := NB318_297.out
              have hms154_0 := NB297_296.out
              have hms154_2 := NB297_305.out
              have hms154_3 := NB297_311.out
              have hms154_4 := NB297_318.out
              have hs155 : w153.cell? ⟨gb297, 1, none⟩ = some (.bool x298001_32) := (blk_cell BK297.out 1).trans rfl
              have hfs155 := blk_frozen BK297.out 1
              have hns155_0 := NB296_297.out
              have hns155_2 := NB305_297.out
              have hns155_3 := NB311_297.out
              have hns155_4 := NB318_297.out
              have hms155_0 := NB297_296.out
              have hms155_2 := NB297_305.out
              have hms155_3 := NB297_311.out
              have hms155_4 := NB297_318.out
              have hs156 : w153.cell? ⟨gb297, 2, none⟩ = some (.int .u64 x298002_32) := (blk_cell BK297.out 2).trans rfl
              have hfs156 := blk_frozen BK297.out 2
              have hns156_0 := NB296_297.out
              have hns156_2 := NB305_297.out
              have hns156_3 := NB311_297.out
              have hns156_4 := NB318_297.out
              have hms156_0 := NB297_296.out
              have hms156_2 := NB297_305.out
              have hms156_3 := NB297_311.out
              have hms156_4 := NB297_318.out
              have hs157 : w153.cell? ⟨gb297, 3, none⟩ = some (.int .u64 x298003_32) := (blk_cell BK297.out 3).trans rfl
              have hfs157 := blk_frozen BK297.out 3
              have hns157_0 := NB296_297.out
              have hns157_2 := NB305_297.out
              have hns157_3 := NB311_297.out
              have hns157_4 := NB318_297.out
              have hms157_0 := NB297_296.out
              have hms157_2 := NB297_305.out
              have hms157_3 := NB297_311.out
              have hms157_4 := NB297_318.out
              have hs158 : w153.cell? ⟨gb297, 4, none⟩ = some (.int .i64 x298004_32) := (blk_cell BK297.out 4).trans rfl
              have hfs158 := blk_frozen BK297.out 4
              have hns158_0 := NB296_297.out
              have hns158_2 := NB305_297.out
              have hns158_3 := NB311_297.out
              have hns158_4 := NB318_297.out
              have hms158_0 := NB297_296.out
              have hms158_2 := NB297_305.out
              have hms158_3 := NB297_311.out
              have hms158_4 := NB297_318.out
              refine skip_ (w1 := ?_) (by rfl) rfl ?_ ?_
              rotate_left
              ·go_simp
               rfl
              refine hK.out _ _ ⟨((cell_far (p := ⟨gb297, _, none⟩) NB311_297.out _).trans (((cell_far (p := ⟨gb297, _, none⟩) NB311_297.out _).trans (((cell_far (p := ⟨gb297, _, none⟩) NB311_297.out _).trans (((cell_far (p := ⟨gb297, _, none⟩) NB311_297.out _).trans (((cell_far (p := ⟨gb297, _, none⟩) NB311_297.out _).trans (hHeld.1)))))))))), ((cell_far (p := ⟨gb297, _, none⟩) NB311_297.out _).trans (((cell_far (p := ⟨gb297, _, none⟩) NB311_297.out _).trans (((cell_far (p := ⟨gb297, _, none⟩) NB311_297.out _).trans (((cell_far (p := ⟨gb297, _, none⟩) NB311_297.out _).trans (((cell_far (p := ⟨gb297, _, none⟩) NB311_297.out _).trans (hHeld.2.1)))))))))), ((cell_far (p := ⟨gb297, _, none⟩) NB305_297.out _).trans (((cell_far (p := ⟨gb297, _, none⟩) NB305_297.out _).trans (((cell_far (p := ⟨gb297, _, none⟩) NB305_297.out _).trans (((cell_far (p := ⟨gb297, _, none⟩) NB305_297.out _).trans (((cell_far (p := ⟨gb297, _, none⟩) NB305_297.out _).trans (hHeld.2.2.1)))))))))), ((cell_far (p := ⟨gb297, _, none⟩) NB305_297.out _).trans (((cell_far (p := ⟨gb297, _, none⟩) NB305_297.out _).trans (((cell_far (p := ⟨gb297, _, none⟩) NB305_297.out _).trans (((cell_far (p := ⟨gb297, _, none⟩) NB305_297.out _).trans (((cell_far (p := ⟨gb297, _, none⟩) NB305_297.out _).trans (hHeld.2.2.2.1)))))))))), ((cell_far (p := ⟨gb297, _, none⟩) NB305_297.out _).trans (((cell_far (p := ⟨gb297, _, none⟩) NB305_297.out _).trans (((cell_far (p := ⟨gb297, _, none⟩) NB305_297.out _).trans (((cell_far (p := ⟨gb297, _, none⟩) NB305_297.out _).trans (((cell_far (p := ⟨gb297, _, none⟩) NB305_297.out _).trans (hHeld.2.2.2.2.1)))))))))), ((cell_far (p := ⟨gb297, _, none⟩) NB305_297.out _).trans (((cell_far (p := ⟨gb297, _, none⟩) NB305_297.out _).trans (((cell_far (p := ⟨gb297, _, none⟩) NB305_297.out _).trans (((cell_far (p := ⟨gb297, _, none⟩) NB305_297.out _).trans (((cell_far (p := ⟨gb297, _, none⟩) NB305_297.out _).trans (hHeld.2.2.2.2.2.1)))))))))), ((cell_far (p := ⟨gb297, _, none⟩) NB305_297.out _).trans (((cell_far (p := ⟨gb297, _, none⟩) NB305_297.out _).trans (((cell_far (p := ⟨gb297, _, none⟩) NB305_297.out _).trans (((cell_far (p := ⟨gb297, _, none⟩) NB305_297.out _).trans (((cell_far (p := ⟨gb297, _, none⟩) NB305_297.out _).trans (hHeld.2.2.2.2.2.2.1)))))))))), ((cell_far (p := ⟨gb297, _, none⟩) NB305_297.out _).trans (((cell_far (p := ⟨gb297, _, none⟩) NB305_297.out _).trans (((cell_far (p := ⟨gb297, _, none⟩) NB305_297.out _).trans (((cell_far (p := ⟨gb297, _, none⟩) NB305_297.out _).trans (((cell_far (p := ⟨gb297, _, none⟩) NB305_297.out _).trans (hHeld.2.2.2.2.2.2.2))))))))))⟩ (fun hHeld => ?_)
              clear hK K
              refine done_ (by kernel_rfl) ?_
              try go_wp2
              refine bodyPost_ret (results_cell_row rfl _ _ gb297 27 #[.int .i64 2, .bool (!(t316 == 0) || (!(t317 == 0))), .int .u64 t309, .int .u64 t310, .int .i64 t325] (0, 0) _ rfl (by (with_reducible repeat (first | refine blk_drewN ?_ _ | refine blk_drew ?_ | refine blk_alloc ?_ _)); refine blk_put (cs := #[.int .i64 2, .bool (!(t316 == 0) || (!(t317 == 0))), .int .u64 t309, .int .u64 t310, .int .i64 x298004_32]) ?_ 4 _ rfl; (with_reducible repeat (first | refine blk_drewN ?_ _ | refine blk_drew ?_ | refine blk_alloc ?_ _)); refine blk_put (cs := #[.int .i64 2, .bool (!(t316 == 0) || (!(t317 == 0))), .int .u64 t309, .int .u64 x298003_32, .int .i64 x298004_32]) ?_ 3 _ rfl; (with_reducible repeat (first | refine blk_drewN ?_ _ | refine blk_drew ?_ | refine blk_alloc ?_ _)); refine blk_put (cs := #[.int .i64 2, .bool (!(t316 == 0) || (!(t317 == 0))), .int .u64 x298002_32, .int .u64 x298003_32, .int .i64 x298004_32]) ?_ 2 _ rfl; (with_reducible repeat (first | refine blk_drewN ?_ _ | refine blk_drew ?_ | refine blk_alloc ?_ _)); refine blk_put (cs := #[.int .i64 2, .bool x298001_32, .int .u64 x298002_32, .int .u64 x298003_32, .int .i64 x298004_32]) ?_ 1 _ rfl; (with_reducible repeat (first | refine blk_drewN ?_ _ | refine blk_drew ?_ | refine blk_alloc ?_ _)); refine blk_put (cs := #[.int .i64 x298000_32, .bool x298001_32, .int .u64 x298002_32, .int .u64 x298003_32, .int .i64 x298004_32]) ?_ 0 _ rfl; (with_reducible repeat (first | refine blk_drewN ?_ _ | refine blk_drew ?_ | refine blk_alloc ?_ _)); exact BK297.out) Tryd.underlying27 rfl (by kernel_rfl)) rfl ?_
              exact ⟨by first | rfl | (simp [errW_none, errW_some] <;> rfl) | (simp [*, errW_none, errW_some] <;> rfl), by repeat (first | (with_reducible first | exact HB.out | apply below_alloc | apply pw_below_drewN | apply below_drew1 | refine below_set ?_ GE296.out | refine below_set ?_ GE297.out | refine below_set ?_ GE305.out | refine below_set ?_ GE311.out | refine below_set ?_ GE318.out) | exact HB.out)⟩
             ·rw [if_neg c150] at H
              have c150b0 : ((wrap64 (t315)) == 0) = false := beq_eq_false_iff_ne.mpr c150
              have c150b1 : ((wrap64 (t315)) != 0) = true := bne_iff_ne.mpr c150
              replace H := Option.bind_eq_some_iff.mp H
              obtain ⟨⟨t326, t327⟩, A1590, H⟩ := H
              replace H : ((impl_Word_or.f t309 t310 t326 t327).bind fun bt328 => (some (3, (!(t316 == 0) || (!(t317 == 0))), bt328.1, bt328.2, wrap64 ((wrap64 ((wrap64 ((wrap64 (t315)) - t300)) - t298)) + 1)))) = some (r1, r2, r3, r4, r5) := H
              have A159 := Aside0.mk A1590
              clear A1590
              replace H := Option.bind_eq_some_iff.mp H
              obtain ⟨⟨t328, t329⟩, A1600, H⟩ := H
              replace H : (some (3, (!(t316 == 0) || (!(t317 == 0))), t328, t329, wrap64 ((wrap64 ((wrap64 ((wrap64 (t315)) - t300)) - t298)) + 1))) = some (r1, r2, r3, r4, r5) := H
              have A160 := Aside0.mk A1600
              clear A1600
              simp only [Option.some.injEq, Prod.mk.injEq] at H
              obtain ⟨rfl, rfl, rfl, rfl, rfl⟩ := H
              try go_wp2
              have n0_ := Aside0.mk (blk_drew BK296.out)
              have n1_ := Aside0.mk (blk_drew BK297.out)
              have n2_ := Aside0.mk (blk_drew BK305.out)
              have n3_ := Aside0.mk (blk_drew BK311.out)
              have n4_ := Aside0.mk (blk_drew BK318.out)
              have n5_ := Aside0.mk (below_drew1 HB.out)
              clear BK296
              clear BK297
              clear BK305
              clear BK311
              clear BK318
              clear HB
              have BK296 := n0_
              have BK297 := n1_
              have BK305 := n2_
              have BK311 := n3_
              have BK318 := n4_
              have HB := n5_
              clear n0_ n1_ n2_ n3_ n4_ n5_
              refine start_ (n := 20) (S := fun w' => w'.cell? ⟨gb311, 0, none⟩ = some (.int .u64 t309) ∧ w'.cell? ⟨gb311, 1, none⟩ = some (.int .u64 t310) ∧ w'.cell? ⟨gb305, 0, none⟩ = some (.int .i64 t298) ∧ w'.cell? ⟨gb305, 1, none⟩ = some (.int .i64 t299) ∧ w'.cell? ⟨gb305, 2, none⟩ = some (.int .i64 t300) ∧ w'.cell? ⟨gb305, 3, none⟩ = some (.int .i64 t301) ∧ w'.cell? ⟨gb305, 4, none⟩ = some (.int .i64 t302) ∧ w'.cell? ⟨gb305, 5, none⟩ = some (.bool t303)) (ds := []) #[false, false, false, false, false, false, false, false, false, false, false, false, false, false, false, false, false, false, false, false] (by kernel_rfl) rfl rfl ⟨(blk_cell BK311.out 0).trans rfl, (blk_cell BK311.out 1).trans rfl, (blk_cell BK305.out 0).trans rfl, (blk_cell BK305.out 1).trans rfl, (blk_cell BK305.out 2).trans rfl, (blk_cell BK305.out 3).trans rfl, (blk_cell BK305.out 4).trans rfl, (blk_cell BK305.out 5).trans rfl⟩ (fun hHeld => ?_); refine with_tabW impl_Unpack.tab22 impl_Unpack.bits22 (fun HT_ HW_ => ?_)
              generalize wc.drew = w161 at BK296 BK297 BK305 BK311 BK318 HB hHeld ⊢
              refine pure_ (i := 0) (N := some 117) (v := ?_) (a' := ?_) #[true, false, false, false, false, false, false, false, false, false, false, false, false, false, false, false, false, false, false, false] rfl rfl (any_of HT_.out (by kernel_rfl)) (fun _ _ _ h => h) (Or.inl ⟨by rfl, ?_⟩) ?_ ?_
              rotate_left
              ·intro w'
               go_simp
               with_reducible rfl
              rotate_left
              ·simp only [Act.put, List.setIfInBounds_toArray, List.set_cons_zero, List.set_cons_succ, i64_w, i32_w]
               rfl
              refine pure_ (i := 2) (N := some 119) (v := ?_) (a' := ?_) #[true, false, true, false, false, false, false, false, false, false, false, false, false, false, false, false, false, false, false, false] rfl rfl (any_of HT_.out (by kernel_rfl)) (fun _ _ _ h => h) (Or.inl ⟨by rfl, ?_⟩) ?_ ?_
              rotate_left
              ·intro w'
               go_simp
               with_reducible rfl
              rotate_left
              ·simp only [Act.put, List.setIfInBounds_toArray, List.set_cons_zero, List.set_cons_succ, i64_w, i32_w]
               rfl
              refine pure_ (i := 3) (N := some 120) (v := ?_) (a' := ?_) #[true, false, true, true, false, false, false, false, false, false, false, false, false, false, false, false, false, false, false, false] rfl rfl (any_of HT_.out (by kernel_rfl)) (fun _ _ _ h => h) (Or.inl ⟨by rfl, ?_⟩) ?_ ?_
              rotate_left
              ·intro w'
               go_simp
               with_reducible rfl
              rotate_left
              ·simp only [Act.put, List.setIfInBounds_toArray, List.set_cons_zero, List.set_cons_succ, i64_w, i32_w]
               rfl
              refine pure_ (i := 8) (N := some 125) (v := ?_) (a' := ?_) #[true, false, true, true, false, false, false, false, true, false, false, false, false, false, false, false, false, false, false, false] rfl rfl (any_of HT_.out (by kernel_rfl)) (fun _ _ _ h => h) (Or.inl ⟨by rfl, ?_⟩) ?_ ?_
              rotate_left
              ·intro w'
               go_simp
               with_reducible rfl
              rotate_left
              ·simp only [Act.put, List.setIfInBounds_toArray, List.set_cons_zero, List.set_cons_succ, i64_w, i32_w]
               rfl
              refine pure_ (i := 9) (N := some 126) (v := ?_) (a' := ?_) #[true, false, true, true, false, false, false, false, true, true, false, false, false, false, false, false, false, false, false, false] rfl rfl (any_of HT_.out (by kernel_rfl)) (fun _ _ _ h => h) (Or.inl ⟨by rfl, ?_⟩) ?_ ?_
              rotate_left
              ·intro w'
               go_simp
               with_reducible rfl
              rotate_left
              ·simp only [Act.put, List.setIfInBounds_toArray, List.set_cons_zero, List.set_cons_succ, i64_w, i32_w]
               rfl
              refine pure_ (i := 10) (N := some 127) (v := ?_) (a' := ?_) #[true, false, true, true, false, false, false, false, true, true, true, false, false, false, false, false, false, false, false, false] rfl rfl (any_of HT_.out (by kernel_rfl)) (fun _ _ _ h => h) (Or.inl ⟨by rfl, ?_⟩) ?_ ?_
              rotate_left
              ·intro w'
               go_simp
               with_reducible rfl
              rotate_left
              ·simp only [Act.put, List.setIfInBounds_toArray, List.set_cons_zero, List.set_cons_succ, i64_w, i32_w]
               rfl
              refine pure_ (i := 13) (N := some 130) (v := ?_) (a' := ?_) #[true, false, true, true, false, false, false, false, true, true, true, false, false, true, false, false, false, false, false, false] rfl rfl (any_of HT_.out (by kernel_rfl)) (fun _ _ _ h => h) (Or.inl ⟨by rfl, ?_⟩) ?_ ?_
              rotate_left
              ·intro w'
               go_simp
               with_reducible rfl
              rotate_left
              ·simp only [Act.put, List.setIfInBounds_toArray, List.set_cons_zero, List.set_cons_succ, i64_w, i32_w]
               rfl
              refine pure_ (i := 14) (N := some 131) (v := ?_) (a' := ?_) #[true, false, true, true, false, false, false, false, true, true, true, false, false, true, true, false, false, false, false, false] rfl rfl (any_of HT_.out (by kernel_rfl)) (fun _ _ _ h => h) (Or.inl ⟨by rfl, ?_⟩) ?_ ?_
              rotate_left
              ·intro w'
               go_simp
               with_reducible rfl
              rotate_left
              ·simp only [Act.put, List.setIfInBounds_toArray, List.set_cons_zero, List.set_cons_succ, i64_w, i32_w]
               rfl
              refine take_ (i := 1) (N := some 118) (v := ?_) (a' := ?_) #[true, true, true, true, false, false, false, false, true, true, true, false, false, true, true, false, false, false, false, false] rfl rfl (take_ofW HT_.out HW_.out (by kernel_rfl)) (fun _ _ _ h => h) (Or.inl ⟨by rfl, ?_⟩) hHeld ?_ ?_
              rotate_left
              ·rintro w' ⟨s0, s1, s2, s3, s4, s5, s6, s7⟩
               go_simp
               with_reducible rfl
              rotate_left
              ·simp only [Act.put, List.setIfInBounds_toArray, List.set_cons_zero, List.set_cons_succ, i64_w, i32_w]
               rfl
              refine take_ (i := 4) (N := some 121) (v := ?_) (a' := ?_) #[true, true, true, true, true, false, false, false, true, true, true, false, false, true, true, false, false, false, false, false] rfl rfl (take_ofW HT_.out HW_.out (by kernel_rfl)) (fun _ _ _ h => h) (Or.inl ⟨by rfl, ?_⟩) hHeld ?_ ?_
              rotate_left
              ·rintro w' ⟨s0, s1, s2, s3, s4, s5, s6, s7⟩
               go_simp
               with_reducible rfl
              rotate_left
              ·simp only [Act.put, List.setIfInBounds_toArray, List.set_cons_zero, List.set_cons_succ, i64_w, i32_w]
               rfl
              refine pure_ (i := 5) (N := some 122) (v := ?_) (a' := ?_) #[true, true, true, true, true, true, false, false, true, true, true, false, false, true, true, false, false, false, false, false] rfl rfl (any_of HT_.out (by kernel_rfl)) (fun _ _ _ h => h) (Or.inl ⟨by rfl, ?_⟩) ?_ ?_
              rotate_left
              ·intro w'
               go_simp
               with_reducible rfl
              rotate_left
              ·simp only [Act.put, List.setIfInBounds_toArray, List.set_cons_zero, List.set_cons_succ, i64_w, i32_w]
               rfl
              refine take_ (i := 11) (N := some 128) (v := ?_) (a' := ?_) #[true, true, true, true, true, true, false, false, true, true, true, true, false, true, true, false, false, false, false, false] rfl rfl (take_ofW HT_.out HW_.out (by kernel_rfl)) (fun _ _ _ h => h) (Or.inl ⟨by rfl, ?_⟩) hHeld ?_ ?_
              rotate_left
              ·rintro w' ⟨s0, s1, s2, s3, s4, s5, s6, s7⟩
               go_simp
               with_reducible rfl
              rotate_left
              ·simp only [Act.put, List.setIfInBounds_toArray, List.set_cons_zero, List.set_cons_succ, i64_w, i32_w]
               rfl
              refine pure_ (i := 12) (N := some 129) (v := ?_) (a' := ?_) #[true, true, true, true, true, true, false, false, true, true, true, true, true, true, true, false, false, false, false, false] rfl rfl (any_of HT_.out (by kernel_rfl)) (fun _ _ _ h => h) (Or.inl ⟨by rfl, ?_⟩) ?_ ?_
              rotate_left
              ·intro w'
               go_simp
               with_reducible rfl
              rotate_left
              ·simp only [Act.put, List.setIfInBounds_toArray, List.set_cons_zero, List.set_cons_succ, i64_w, i32_w]
               rfl
              refine take_ (i := 15) (N := some 132) (v := ?_) (a' := ?_) #[true, true, true, true, true, true, false, false, true, true, true, true, true, true, true, true, false, false, false, false] rfl rfl (take_ofW HT_.out HW_.out (by kernel_rfl)) (fun _ _ _ h => h) (Or.inl ⟨by rfl, ?_⟩) hHeld ?_ ?_
              rotate_left
              ·rintro w' ⟨s0, s1, s2, s3, s4, s5, s6, s7⟩
               go_simp
               with_reducible rfl
              rotate_left
              ·simp only [Act.put, List.setIfInBounds_toArray, List.set_cons_zero, List.set_cons_succ, i64_w, i32_w]
               rfl
              refine pure_ (i := 16) (N := some 133) (v := ?_) (a' := ?_) #[true, true, true, true, true, true, false, false, true, true, true, true, true, true, true, true, true, false, false, false] rfl rfl (any_of HT_.out (by kernel_rfl)) (fun _ _ _ h => h) (Or.inl ⟨by rfl, ?_⟩) ?_ ?_
              rotate_left
              ·intro w'
               go_simp
               with_reducible rfl
              rotate_left
              ·simp only [Act.put, List.setIfInBounds_toArray, List.set_cons_zero, List.set_cons_succ, i64_w, i32_w]
               rfl
              refine pure_ (i := 17) (N := some 134) (v := ?_) (a' := ?_) #[true, true, true, true, true, true, false, false, true, true, true, true, true, true, true, true, true, true, false, false] rfl rfl (any_of HT_.out (by kernel_rfl)) (fun _ _ _ h => h) (Or.inl ⟨by rfl, ?_⟩) ?_ ?_
              rotate_left
              ·intro w'
               go_simp
               with_reducible rfl
              rotate_left
              ·simp only [Act.put, List.setIfInBounds_toArray, List.set_cons_zero, List.set_cons_succ, i64_w, i32_w]
               rfl
              refine one_ (i := 6) (N := some 123) #[true, true, true, true, true, true, true, false, true, true, true, true, true, true, true, true, true, true, false, false] rfl rfl (one_of HT_.out (by kernel_rfl)) (by decide) (fun K hK => ?_)
              refine goes_ Tryd.func72 (by kernel_rfl) rfl #[.int .i64 (wrap64 (t298 - 1))] (by rfl) rfl rfl (by (try simp only [List.map_toArray, List.map_cons, List.map_nil]); first | done | rfl | (simp only [List.length_drop, List.length_take]; rfl)) ?_
              with_reducible refine (impl_one.calls (wrap64 (t298 - 1)) t326 t327 _ A159.out).mono ?_
              rintro e w162 ⟨rfl, hb⟩
              refine ⟨_, rfl, ?_⟩
              have n0_ := Aside0.mk (blk_below (g := gb296) (o := .cells #[.int .u64 a1_0, .int .u64 a1_1] 25 (0, 0)) (by (with_reducible repeat (first | refine blk_drewN ?_ _ | refine blk_drew ?_ | refine blk_alloc ?_ _)); exact BK296.out) hb)
              have n1_ := Aside0.mk (blk_below (g := gb297) (o := .cells #[.int .i64 x298000_32, .bool x298001_32, .int .u64 x298002_32, .int .u64 x298003_32, .int .i64 x298004_32] 27 (0, 0)) (by (with_reducible repeat (first | refine blk_drewN ?_ _ | refine blk_drew ?_ | refine blk_alloc ?_ _)); exact BK297.out) hb)
              have n2_ := Aside0.mk (blk_below (g := gb305) (o := .cells #[.int .i64 t298, .int .i64 t299, .int .i64 t300, .int .i64 t301, .int .i64 t302, .bool t303] 91 (0, 0)) (by (with_reducible repeat (first | refine blk_drewN ?_ _ | refine blk_drew ?_ | refine blk_alloc ?_ _)); exact BK305.out) hb)
              have n3_ := Aside0.mk (blk_below (g := gb311) (o := .cells #[.int .u64 t309, .int .u64 t310] 25 (0, 0)) (by (with_reducible repeat (first | refine blk_drewN ?_ _ | refine blk_drew ?_ | refine blk_alloc ?_ _)); exact BK311.out) hb)
              have n4_ := Aside0.mk (blk_below (g := gb318) (o := .cells #[.int .u64 x319000_32, .int .u64 x319001_32] 25 (0, 0)) (by (with_reducible repeat (first | refine blk_drewN ?_ _ | refine blk_drew ?_ | refine blk_alloc ?_ _)); exact BK318.out) hb)
              have n5_ := Aside0.mk (below_step (by repeat (first | (with_reducible first | exact HB.out | apply below_alloc | apply pw_below_drewN | apply below_drew1 | refine below_set ?_ GE296.out | refine below_set ?_ GE297.out | refine below_set ?_ GE305.out | refine below_set ?_ GE311.out | refine below_set ?_ GE318.out) | exact HB.out)) hb)
              clear BK296
              clear BK297
              clear BK305
              clear BK311
              clear BK318
              clear HB
              have BK296 := n0_
              have BK297 := n1_
              have BK305 := n2_
              have BK311 := n3_
              have BK318 := n4_
              have HB := n5_
              clear n0_ n1_ n2_ n3_ n4_ n5_
              (try clear hb)
              (try clear hb2)
              (try clear hk)
              (try clear hi)
              refine hK.out _ _ ⟨(blk_cell BK311.out 0).trans rfl, (blk_cell BK311.out 1).trans rfl, (blk_cell BK305.out 0).trans rfl, (blk_cell BK305.out 1).trans rfl, (blk_cell BK305.out 2).trans rfl, (blk_cell BK305.out 3).trans rfl, (blk_cell BK305.out 4).trans rfl, (blk_cell BK305.out 5).trans rfl⟩ (fun hHeld => ?_)
              clear hK K
              refine norm_ (a' := ?_) ?_ ?_
              rotate_left
              ·show Act.put _ (some 123) _ = _
               simp only [Act.put, List.setIfInBounds_toArray, List.set_cons_zero, List.set_cons_succ, i64_w, i32_w]
               rfl
              refine one_ (i := 7) (N := some 124) #[true, true, true, true, true, true, true, true, true, true, true, true, true, true, true, true, true, true, false, false] rfl rfl (one_of HT_.out (by kernel_rfl)) (by decide) (fun K hK => ?_)
              refine goes_ Tryd.func71 (by kernel_rfl) rfl #[.agg #[.int .u64 t309, .int .u64 t310], .agg #[.int .u64 t326, .int .u64 t327]] (by rfl) rfl rfl (by (try simp only [List.map_toArray, List.map_cons, List.map_nil]); first | done | rfl | (simp only [List.length_drop, List.length_take]; rfl)) ?_
              with_reducible refine (impl_Word_or.calls t309 t310 t326 t327 t328 t329 _ A160.out).mono ?_
              rintro e w163 ⟨rfl, hb⟩
              refine ⟨_, rfl, ?_⟩
              have n0_ := Aside0.mk (blk_below (g := gb296) (o := .cells #[.int .u64 a1_0, .int .u64 a1_1] 25 (0, 0)) (by (with_reducible repeat (first | refine blk_drewN ?_ _ | refine blk_drew ?_ | refine blk_alloc ?_ _)); exact BK296.out) hb)
              have n1_ := Aside0.mk (blk_below (g := gb297) (o := .cells #[.int .i64 x298000_32, .bool x298001_32, .int .u64 x298002_32, .int .u64 x298003_32, .int .i64 x298004_32] 27 (0, 0)) (by (with_reducible repeat (first | refine blk_drewN ?_ _ | refine blk_drew ?_ | refine blk_alloc ?_ _)); exact BK297.out) hb)
              have n2_ := Aside0.mk (blk_below (g := gb305) (o := .cells #[.int .i64 t298, .int .i64 t299, .int .i64 t300, .int .i64 t301, .int .i64 t302, .bool t303] 91 (0, 0)) (by (with_reducible repeat (first | refine blk_drewN ?_ _ | refine blk_drew ?_ | refine blk_alloc ?_ _)); exact BK305.out) hb)
              have n3_ := Aside0.mk (blk_below (g := gb311) (o := .cells #[.int .u64 t309, .int .u64 t310] 25 (0, 0)) (by (with_reducible repeat (first | refine blk_drewN ?_ _ | refine blk_drew ?_ | refine blk_alloc ?_ _)); exact BK311.out) hb)
              have n4_ := Aside0.mk (blk_below (g := gb318) (o := .cells #[.int .u64 x319000_32, .int .u64 x319001_32] 25 (0, 0)) (by (with_reducible repeat (first | refine blk_drewN ?_ _ | refine blk_drew ?_ | refine blk_alloc ?_ _)); exact BK318.out) hb)
              have n5_ := Aside0.mk (below_step (by repeat (first | (with_reducible first | exact HB.out | apply below_alloc | apply pw_below_drewN | apply below_drew1 | refine below_set ?_ GE296.out | refine below_set ?_ GE297.out | refine below_set ?_ GE305.out | refine below_set ?_ GE311.out | refine below_set ?_ GE318.out) | exact HB.out)) hb)
              clear BK296
              clear BK297
              clear BK305
              clear BK311
              clear BK318
              clear HB
              have BK296 := n0_
              have BK297 := n1_
              have BK305 := n2_
              have BK311 := n3_
              have BK318 := n4_
              have HB := n5_
              clear n0_ n1_ n2_ n3_ n4_ n5_
              (try clear hb)
              (try clear hb2)
              (try clear hk)
              (try clear hi)
              refine hK.out _ _ ⟨(blk_cell BK311.out 0).trans rfl, (blk_cell BK311.out 1).trans rfl, (blk_cell BK305.out 0).trans rfl, (blk_cell BK305.out 1).trans rfl, (blk_cell BK305.out 2).trans rfl, (blk_cell BK305.out 3).trans rfl, (blk_cell BK305.out 4).trans rfl, (blk_cell BK305.out 5).trans rfl⟩ (fun hHeld => ?_)
              clear hK K
              refine norm_ (a' := ?_) ?_ ?_
              rotate_left
              ·show Act.put _ (some 124) _ = _
               simp only [Act.put, List.setIfInBounds_toArray, List.set_cons_zero, List.set_cons_succ, i64_w, i32_w]
               rfl
              refine pure_ (i := 18) (N := some 135) (v := ?_) (a' := ?_) #[true, true, true, true, true, true, true, true, true, true, true, true, true, true, true, true, true, true, true, false] rfl rfl (any_of HT_.out (by kernel_rfl)) (fun _ _ _ h => h) (Or.inl ⟨by rfl, ?_⟩) ?_ ?_
              rotate_left
              ·intro w'
               go_simp
               with_reducible rfl
              rotate_left
              ·simp only [Act.put, List.setIfInBounds_toArray, List.set_cons_zero, List.set_cons_succ, i64_w, i32_w]
               rfl
              refine one_ (i := 19) (N := none) #[true, true, true, true, true, true, true, true, true, true, true, true, true, true, true, true, true, true, true, true] rfl rfl (one_of HT_.out (by kernel_rfl)) (by decide) (fun K hK => ?_)
              have hs164 : w163.cell? ⟨gb297, 0, none⟩ = some (.int .i64 x298000_32) := (blk_cell BK297.out 0).trans rfl
              have hfs164 := blk_frozen BK297.out 0
              have hns164_0 := NB296_297.out
              have hns164_2 := NB305_297.out
              have hns164_3 := NB311_297.out
              have hns164_4 := NB318_297.out
              have hms164_0 := NB297_296.out
              have hms164_2 := NB297_305.out
              have hms164_3 := NB297_311.out
              have hms164_4 := NB297_318.out
              have hs165 : w163.cell? ⟨gb297, 1, none⟩ = some (.bool x298001_32) := (blk_cell BK297.out 1).trans rfl
              have hfs165 := blk_frozen BK297.out 1
              have hns165_0 := NB296_297.out
              have hns165_2 := NB305_297.out
              have hns165_3 := NB311_297.out
              have hns165_4 := NB318_297.out
              have hms165_0 := NB297_296.out
              have hms165_2 := NB297_305.out
              have hms165_3 := NB297_311.out
              have hms165_4 := NB297_318.out
              have hs166 : w163.cell? ⟨gb297, 2, none⟩ = some (.int .u64 x298002_32) := (blk_cell BK297.out 2).trans rfl
              have hfs166 := blk_frozen BK297.out 2
              have hns166_0 := NB296_297.out
              have hns166_2 := NB305_297.out
              have hns166_3 := NB311_297.out
              have hns166_4 := NB318_297.out
              have hms166_0 := NB297_296.out
              have hms166_2 := NB297_305.out
              have hms166_3 := NB297_311.out
              have hms166_4 := NB297_318.out
              have hs167 : w163.cell? ⟨gb297, 3, none⟩ = some (.int .u64 x298003_32) := (blk_cell BK297.out 3).trans rfl
              have hfs167 := blk_frozen BK297.out 3
              have hns167_0 := NB296_297.out
              have hns167_2 := NB305_297.out
              have hns167_3 := NB311_297.out
              have hns167_4 := NB318_297.out
              have hms167_0 := NB297_296.out
              have hms167_2 := NB297_305.out
              have hms167_3 := NB297_311.out
              have hms167_4 := NB297_318.out
              have hs168 : w163.cell? ⟨gb297, 4, none⟩ = some (.int .i64 x298004_32) := (blk_cell BK297.out 4).trans rfl
              have hfs168 := blk_frozen BK297.out 4
              have hns168_0 := NB296_297.out
              have hns168_2 := NB305_297.out
              have hns168_3 := NB311_297.out
              have hns168_4 := NB318_297.out
              have hms168_0 := NB297_296.out
              have hms168_2 := NB297_305.out
              have hms168_3 := NB297_311.out
              have hms168_4 := NB297_318.out
              refine skip_ (w1 := ?_) (by rfl) rfl ?_ ?_
              rotate_left
              ·go_simp
               rfl
              refine hK.out _ _ ⟨((cell_far (p := ⟨gb297, _, none⟩) NB311_297.out _).trans (((cell_far (p := ⟨gb297, _, none⟩) NB311_297.out _).trans (((cell_far (p := ⟨gb297, _, none⟩) NB311_297.out _).trans (((cell_far (p := ⟨gb297, _, none⟩) NB311_297.out _).trans (((cell_far (p := ⟨gb297, _, none⟩) NB311_297.out _).trans (hHeld.1)))))))))), ((cell_far (p := ⟨gb297, _, none⟩) NB311_297.out _).trans (((cell_far (p := ⟨gb297, _, none⟩) NB311_297.out _).trans (((cell_far (p := ⟨gb297, _, none⟩) NB311_297.out _).trans (((cell_far (p := ⟨gb297, _, none⟩) NB311_297.out _).trans (((cell_far (p := ⟨gb297, _, none⟩) NB311_297.out _).trans (hHeld.2.1)))))))))), ((cell_far (p := ⟨gb297, _, none⟩) NB305_297.out _).trans (((cell_far (p := ⟨gb297, _, none⟩) NB305_297.out _).trans (((cell_far (p := ⟨gb297, _, none⟩) NB305_297.out _).trans (((cell_far (p := ⟨gb297, _, none⟩) NB305_297.out _).trans (((cell_far (p := ⟨gb297, _, none⟩) NB305_297.out _).trans (hHeld.2.2.1)))))))))), ((cell_far (p := ⟨gb297, _, none⟩) NB305_297.out _).trans (((cell_far (p := ⟨gb297, _, none⟩) NB305_297.out _).trans (((cell_far (p := ⟨gb297, _, none⟩) NB305_297.out _).trans (((cell_far (p := ⟨gb297, _, none⟩) NB305_297.out _).trans (((cell_far (p := ⟨gb297, _, none⟩) NB305_297.out _).trans (hHeld.2.2.2.1)))))))))), ((cell_far (p := ⟨gb297, _, none⟩) NB305_297.out _).trans (((cell_far (p := ⟨gb297, _, none⟩) NB305_297.out _).trans (((cell_far (p := ⟨gb297, _, none⟩) NB305_297.out _).trans (((cell_far (p := ⟨gb297, _, none⟩) NB305_297.out _).trans (((cell_far (p := ⟨gb297, _, none⟩) NB305_297.out _).trans (hHeld.2.2.2.2.1)))))))))), ((cell_far (p := ⟨gb297, _, none⟩) NB305_297.out _).trans (((cell_far (p := ⟨gb297, _, none⟩) NB305_297.out _).trans (((cell_far (p := ⟨gb297, _, none⟩) NB305_297.out _).trans (((cell_far (p := ⟨gb297, _, none⟩) NB305_297.out _).trans (((cell_far (p := ⟨gb297, _, none⟩) NB305_297.out _).trans (hHeld.2.2.2.2.2.1)))))))))), ((cell_far (p := ⟨gb297, _, none⟩) NB305_297.out _).trans (((cell_far (p := ⟨gb297, _, none⟩) NB305_297.out _).trans (((cell_far (p := ⟨gb297, _, none⟩) NB305_297.out _).trans (((cell_far (p := ⟨gb297, _, none⟩) NB305_297.out _).trans (((cell_far (p := ⟨gb297, _, none⟩) NB305_297.out _).trans (hHeld.2.2.2.2.2.2.1)))))))))), ((cell_far (p := ⟨gb297, _, none⟩) NB305_297.out _).trans (((cell_far (p := ⟨gb297, _, none⟩) NB305_297.out _).trans (((cell_far (p := ⟨gb297, _, none⟩) NB305_297.out _).trans (((cell_far (p := ⟨gb297, _, none⟩) NB305_297.out _).trans (((cell_far (p := ⟨gb297, _, none⟩) NB305_297.out _).trans (hHeld.2.2.2.2.2.2.2))))))))))⟩ (fun hHeld => ?_)
              clear hK K
              refine done_ (done_of HT_.out (by kernel_rfl)) ?_
              try go_wp2
              refine bodyPost_ret (results_cell_row rfl _ _ gb297 27 #[.int .i64 3, .bool (!(t316 == 0) || (!(t317 == 0))), .int .u64 t328, .int .u64 t329, .int .i64 (wrap64 ((wrap64 ((wrap64 ((wrap64 (t315)) - t300)) - t298)) + 1))] (0, 0) _ rfl (by (with_reducible repeat (first | refine blk_drewN ?_ _ | refine blk_drew ?_ | refine blk_alloc ?_ _)); refine blk_put (cs := #[.int .i64 3, .bool (!(t316 == 0) || (!(t317 == 0))), .int .u64 t328, .int .u64 t329, .int .i64 x298004_32]) ?_ 4 _ rfl; (with_reducible repeat (first | refine blk_drewN ?_ _ | refine blk_drew ?_ | refine blk_alloc ?_ _)); refine blk_put (cs := #[.int .i64 3, .bool (!(t316 == 0) || (!(t317 == 0))), .int .u64 t328, .int .u64 x298003_32, .int .i64 x298004_32]) ?_ 3 _ rfl; (with_reducible repeat (first | refine blk_drewN ?_ _ | refine blk_drew ?_ | refine blk_alloc ?_ _)); refine blk_put (cs := #[.int .i64 3, .bool (!(t316 == 0) || (!(t317 == 0))), .int .u64 x298002_32, .int .u64 x298003_32, .int .i64 x298004_32]) ?_ 2 _ rfl; (with_reducible repeat (first | refine blk_drewN ?_ _ | refine blk_drew ?_ | refine blk_alloc ?_ _)); refine blk_put (cs := #[.int .i64 3, .bool x298001_32, .int .u64 x298002_32, .int .u64 x298003_32, .int .i64 x298004_32]) ?_ 1 _ rfl; (with_reducible repeat (first | refine blk_drewN ?_ _ | refine blk_drew ?_ | refine blk_alloc ?_ _)); refine blk_put (cs := #[.int .i64 x298000_32, .bool x298001_32, .int .u64 x298002_32, .int .u64 x298003_32, .int .i64 x298004_32]) ?_ 0 _ rfl; (with_reducible repeat (first | refine blk_drewN ?_ _ | refine blk_drew ?_ | refine blk_alloc ?_ _)); exact BK297.out) Tryd.underlying27 rfl (by kernel_rfl)) rfl ?_
              exact ⟨by first | rfl | (simp [errW_none, errW_some] <;> rfl) | (simp [*, errW_none, errW_some] <;> rfl), by repeat (first | (with_reducible first | exact HB.out | apply below_alloc | apply pw_below_drewN | apply below_drew1 | refine below_set ?_ GE296.out | refine below_set ?_ GE297.out | refine below_set ?_ GE305.out | refine below_set ?_ GE311.out | refine below_set ?_ GE318.out) | exact HB.out)⟩
end Go.Proofs.YtdbnmdchecacdaaDoor.PL
end
section
namespace Go.Proofs.YtdbnmdchecacdaaDoor.M
open Go.RowKit Go.Proofs.YtdbnmdchecacdaaDoor.G Go.Proofs.YtdbnmdchecacdaaDoorV.PrintWords Go.Proofs.YtdbnmdchecacdaaDoorV.PrintLast Go.Proofs.YtdbnmdchecacdaaDoorV.PrintMore Go.Proofs.YtdbnmdchecacdaaDoor.PL
set_option linter.unusedVariables false
set_option linter.unusedSimpArgs false
theorem word_ne (x : Nat) : (!(hiI x == 0) || (!(loI x == 0))) = decide (x ≠ 0) := by
  unfold hiI loI
  by_cases h : x = 0
  · subst h; rfl
  · rw [decide_eq_true h]
    by_cases h1 : x / 18446744073709551616 = 0
    · have h2 : x % 18446744073709551616 ≠ 0 := by omega
      have : (((x % 18446744073709551616 : Nat) : Int) == 0) = false := by rw [beq_eq_false_iff_ne]; omega
      rw [this]; simp
    · have : (((x / 18446744073709551616 : Nat) : Int) == 0) = false := by rw [beq_eq_false_iff_ne]; omega
      rw [this]; rfl
theorem word_eq0 (x : Nat) : (hiI x == 0 && (loI x == 0)) = decide (x = 0) := by
  have h := word_ne x
  have h2 : (hiI x == 0 && (loI x == 0)) = !(!(hiI x == 0) || (!(loI x == 0))) := by cases (hiI x == 0) <;> cases (loI x == 0) <;> rfl
  rw [h2, h]
  by_cases h0 : x = 0
  · rw [decide_eq_true h0, decide_eq_false (by simpa using h0)]; rfl
  · rw [decide_eq_false h0, decide_eq_true h0]; rfl
section
variable {P : Nat} {emin emax : Int} {W E : Nat} {ex : Bool}
theorem top_eq (h : Fmt P emin emax W E ex) : impl_layout_top.f (P : Int) emin emax (W : Int) (E : Int) ex = some ((2 ^ E - 1 : Nat) : Int) := by
  have hE := h.plt
  have he1 := h.e1
  have hp : 0 < 2 ^ E := Nat.pow_pos (by decide)
  unfold impl_layout_top.f
  have hs : shl .i64 1 (E : Int) = ((2 ^ E : Nat) : Int) := by
    unfold shl
    rw [Int.toNat_natCast, show IntKind.i64.bits = 64 from rfl, Nat.min_eq_left (by omega), show ((1 : Int) * 2 ^ E) = ((2 ^ E : Nat) : Int) by simp]
    have : IntKind.i64.wrap ((2 ^ E : Nat) : Int) = wrap64 ((2 ^ E : Nat) : Int) := (i64_w _)
    rw [this]
    exact wsm _ (by omega)
  rw [if_pos (Int.natCast_nonneg _), hs, wsm _ (by omega)]
  congr 1
  omega
theorem frac_eq (h : Fmt P emin emax W E ex) : impl_layout_fracBits.f (P : Int) emin emax (W : Int) (E : Int) ex = some (fracN P ex : Int) := by
  have hp0 := h.p0
  have hp1 := h.p1
  unfold impl_layout_fracBits.f fracN
  cases ex with
  | true => rfl
  | false =>
    rw [if_neg (by decide), if_neg (by decide), wsm _ (by omega)]
    congr 1
    omega
theorem qmin_eq (h : Fmt P emin emax W E ex) : impl_layout_qMin.f (P : Int) emin emax (W : Int) (E : Int) ex = some (emin - P + 1) := by
  have hp1 := h.p1
  have m0 := h.m0
  unfold impl_layout_qMin.f
  rw [wsm (emin - (P : Int)) (by omega), wsm _ (by omega)]
theorem small2 (q : Nat) (h : q < 2) : q ≠ 0 ↔ q % 2 = 1 := by omega
theorem dne_f {p q : Prop} [Decidable p] [Decidable q] (h : p ↔ q) : (decide p != decide q) = false := by by_cases hp : p <;> by_cases hq : q <;> simp_all
theorem dne_t {p q : Prop} [Decidable p] [Decidable q] (h : ¬ (p ↔ q)) : (decide p != decide q) = true := by by_cases hp : p <;> by_cases hq : q <;> simp_all
theorem im_j1 (h : Fmt P emin emax W E ex) (e : Nat) (he : e < 2 ^ E) (neg : Bool) (rest : Nat) (hr : rest < 2 ^ (P - 1)) (b : Bool) (hb : e = 0 → b = false) (hb2 : ex = false → b = false) :
    Ev (fun k => impl_Unpack.j1 k (e : Int) neg (P : Int) emin emax (W : Int) (E : Int) ex (hiI (if b = true then rest + 2 ^ (P - 1) else rest)) (loI (if b = true then rest + 2 ^ (P - 1) else rest)) (hiI rest) (loI rest)) (partsOf P emin emax E e neg rest) := by
  have hp0 := h.p0
  have hp1 := h.p1
  have hE := h.plt
  have m1 := h.m1
  have ht := top_eq h
  have hq := qmin_eq h
  have hz := word_eq0 rest
  have hfz : e = 0 → (if b = true then rest + 2 ^ (P - 1) else rest) = rest := fun h0 => by rw [hb h0]; rfl
  have hor := or_eq rest (P - 1) (by omega) hr b
  obtain ⟨fr, hfr⟩ : ∃ fr, fr = (if b = true then rest + 2 ^ (P - 1) else rest) := ⟨_, rfl⟩
  rw [← hfr] at hor hfz ⊢
  have hone := one_eq (P - 1) (by omega)
  have wp : wrap64 ((P : Int) - 1) = ((P - 1 : Nat) : Int) := by rw [wsm _ (by omega)]; omega
  have wq : wrap64 (wrap64 (wrap64 ((e : Int) - emax) - (P : Int)) + 1) = (e : Int) - emax - (P : Int) + 1 := by
    clear wp
    rw [wsm ((e : Int) - emax) (by omega), wsm ((e : Int) - emax - (P : Int)) (by omega), wsm _ (by omega)]
  have j3 : e ≠ 2 ^ E - 1 → ∀ z : Bool, z = decide (e = 0 ∧ rest = 0) → Ev (fun k => impl_Unpack.j3 k (e : Int) neg z (P : Int) emin emax (W : Int) (E : Int) ex (hiI fr) (loI fr)) (partsOf P emin emax E e neg rest) := by
    intro hne z hzz
    unfold partsOf
    rw [if_neg hne]
    by_cases h0 : e = 0
    · have c0 : (e : Int) = 0 := by clear wp wq; omega
      rw [if_pos h0]
      by_cases h1 : rest = 0
      · rw [if_pos h1]
        refine Ev.step (f := fun _ => some (1, neg, 0, 0, 0)) (fun k => ?_) (Ev.now _)
        simp only [impl_Unpack.j3]
        rw [hzz, decide_eq_true ⟨h0, h1⟩, if_pos rfl]
      · rw [if_neg h1]
        refine Ev.step (f := fun _ => some (2, neg, hiI rest, loI rest, emin - P + 1)) (fun k => ?_) (Ev.now _)
        simp only [impl_Unpack.j3]
        rw [hzz, decide_eq_false (fun a => h1 a.2), if_neg (by decide), if_pos c0, hq, Option.bind_some, hfz h0]
    · have c0 : ¬ (e : Int) = 0 := by clear wp wq; omega
      rw [if_neg h0]
      refine Ev.step (f := fun _ => some (3, neg, hiI (rest + 2 ^ (P - 1)), loI (rest + 2 ^ (P - 1)), (e : Int) - emax - P + 1)) (fun k => ?_) (Ev.now _)
      simp only [impl_Unpack.j3]
      rw [hzz, decide_eq_false (fun a => h0 a.1), if_neg (by decide), if_neg c0, wp, hone, Option.bind_some]
      dsimp only
      rw [hor, Option.bind_some, wq]
  by_cases hte : e = 2 ^ E - 1
  · have c1 : (e : Int) = ((2 ^ E - 1 : Nat) : Int) := by rw [hte]
    unfold partsOf
    rw [if_pos hte]
    by_cases h1 : rest = 0
    · rw [if_pos h1]
      refine Ev.step (f := fun k => impl_Unpack.j2 k (e : Int) neg true (P : Int) emin emax (W : Int) (E : Int) ex (hiI fr) (loI fr)) (fun k => ?_) (Ev.step (f := fun _ => some (4, neg, 0, 0, 0)) (fun k => ?_) (Ev.now _))
      · simp only [impl_Unpack.j1]
        rw [ht, Option.bind_some, if_pos c1, hz, decide_eq_true h1]
      · simp only [impl_Unpack.j2]
        rw [if_pos trivial]
    · rw [if_neg h1]
      refine Ev.step (f := fun k => impl_Unpack.j2 k (e : Int) neg false (P : Int) emin emax (W : Int) (E : Int) ex (hiI fr) (loI fr)) (fun k => ?_) (Ev.step (f := fun _ => some (5, false, 0, 0, 0)) (fun k => ?_) (Ev.now _))
      · simp only [impl_Unpack.j1]
        rw [ht, Option.bind_some, if_pos c1, hz, decide_eq_false h1]
      · simp only [impl_Unpack.j2]
        rw [if_neg (by decide), ht, Option.bind_some, if_pos c1]
  · have c1 : ¬ (e : Int) = ((2 ^ E - 1 : Nat) : Int) := by clear wp wq; omega
    refine Ev.step (f := fun k => impl_Unpack.j2 k (e : Int) neg false (P : Int) emin emax (W : Int) (E : Int) ex (hiI fr) (loI fr)) (fun k => ?_) (Ev.step (f := fun k => impl_Unpack.j3 k (e : Int) neg (decide (e = 0 ∧ rest = 0)) (P : Int) emin emax (W : Int) (E : Int) ex (hiI fr) (loI fr)) (fun k => ?_) (j3 hte _ rfl))
    · simp only [impl_Unpack.j1]
      rw [ht, Option.bind_some, if_neg c1]
    · simp only [impl_Unpack.j2]
      rw [if_neg (by decide), ht, Option.bind_some, if_neg c1]
      by_cases h0 : e = 0
      · have c0 : (e : Int) = 0 := by clear wp wq; omega
        rw [if_pos c0, hfz h0, hz]
        congr 1
        rw [decide_eq_decide]
        exact ⟨fun a => ⟨h0, a⟩, fun a => a.2⟩
      · have c0 : ¬ (e : Int) = 0 := by clear wp wq; omega
        rw [if_neg c0, decide_eq_false (fun a => h0 a.1)]
theorem frac_split (x p : Nat) (hx : x < 2 ^ (p + 1)) : x = (if decide (2 ^ p ≤ x) = true then x % 2 ^ p + 2 ^ p else x % 2 ^ p) := by
  have hp : 0 < 2 ^ p := Nat.pow_pos (by decide)
  rw [Nat.pow_succ] at hx
  by_cases h : 2 ^ p ≤ x
  · rw [decide_eq_true h, if_pos rfl, Nat.mod_eq_sub_mod h, Nat.mod_eq_of_lt (by omega)]
    omega
  · rw [decide_eq_false h, if_neg (by decide), Nat.mod_eq_of_lt (by omega)]
theorem unpI_ev (h : Fmt P emin emax W E ex) (f : Int) (hf : impl_layoutOf.f f = some ((P : Int), emin, emax, (W : Int), (E : Int), ex, true)) (w : Nat) (hw : w < B128) : Ev (fun k => impl_Unpack.f k f (hiI w) (loI w)) (unpN P emin emax W E ex w) := by
  have hp0 := h.p0
  have hp1 := h.p1
  have hw1 := h.w1
  have hw2 := h.w2
  have he0 := h.e0
  have he1 := h.e1
  have hE := h.plt
  have hfn : fracN P ex = if ex = true then P else P - 1 := rfl
  have hfr : fracN P ex ≤ 113 := by rw [hfn]; split <;> omega
  -- behind the first check
  have core : w < 2 ^ W → Ev (fun k => impl_Unpack.j0 k false (hiI w) (loI w) (P : Int) emin emax (W : Int) (E : Int) ex) (unpN P emin emax W E ex w) := by
    intro hlt
    have l1 := low_eq w (fracN P ex) hw (by omega)
    have r1 := right_eq w (fracN P ex) hw (by omega)
    have hq : w / 2 ^ fracN P ex < B128 := Nat.lt_of_le_of_lt (Nat.div_le_self _ _) hw
    have l2 := low_eq (w / 2 ^ fracN P ex) E hq (by omega)
    have r2 := right_eq w (W - 1) hw (by omega)
    have hne := word_ne (w / 2 ^ (W - 1))
    have helt : w / 2 ^ fracN P ex % 2 ^ E < 2 ^ E := Nat.mod_lt _ (Nat.pow_pos (by decide))
    have hneg : decide (w / 2 ^ (W - 1) ≠ 0) = decide (w / 2 ^ (W - 1) % 2 = 1) := by
      have h2 : w / 2 ^ (W - 1) < 2 := by
        rw [Nat.div_lt_iff_lt_mul (Nat.pow_pos (by decide)), Nat.mul_comm, ← Nat.pow_succ, show (W - 1).succ = W by omega]
        exact hlt
      rw [decide_eq_decide]
      exact small2 _ h2
    rw [hneg] at hne
    have hflt : w % 2 ^ fracN P ex < 2 ^ fracN P ex := Nat.mod_lt _ (Nat.pow_pos (by decide))
    have wW : wrap64 ((W : Int) - 1) = ((W - 1 : Nat) : Int) := by rw [wsm _ (by omega)]; omega
    have wP : wrap64 ((P : Int) - 1) = ((P - 1 : Nat) : Int) := by rw [wsm _ (by clear wW; omega)]; clear wW; omega
    have heI : loI (w / 2 ^ fracN P ex % 2 ^ E) = ((w / 2 ^ fracN P ex % 2 ^ E : Nat) : Int) := by
      clear wW wP
      unfold loI
      rw [Nat.mod_eq_of_lt (show w / 2 ^ fracN P ex % 2 ^ E < 18446744073709551616 by omega)]
    have wE : wrap64 ((w / 2 ^ fracN P ex % 2 ^ E : Nat) : Int) = ((w / 2 ^ fracN P ex % 2 ^ E : Nat) : Int) := wsm _ (by clear wW wP; omega)
    have hfE := frac_eq h
    have hj : ∀ R : Prt, (if ex = true then (if (2 ^ (P - 1) ≤ w % 2 ^ fracN P ex ↔ w / 2 ^ fracN P ex % 2 ^ E ≠ 0) then Ev (fun k => impl_Unpack.j1 k ((w / 2 ^ fracN P ex % 2 ^ E : Nat) : Int) (decide (w / 2 ^ (W - 1) % 2 = 1)) (P : Int) emin emax (W : Int) (E : Int) ex (hiI (w % 2 ^ fracN P ex)) (loI (w % 2 ^ fracN P ex)) (hiI (w % 2 ^ fracN P ex % 2 ^ (P - 1))) (loI (w % 2 ^ fracN P ex % 2 ^ (P - 1)))) R else R = badP) else Ev (fun k => impl_Unpack.j1 k ((w / 2 ^ fracN P ex % 2 ^ E : Nat) : Int) (decide (w / 2 ^ (W - 1) % 2 = 1)) (P : Int) emin emax (W : Int) (E : Int) ex (hiI (w % 2 ^ fracN P ex)) (loI (w % 2 ^ fracN P ex)) (hiI (w % 2 ^ fracN P ex)) (loI (w % 2 ^ fracN P ex))) R) →
        Ev (fun k => impl_Unpack.j0 k false (hiI w) (loI w) (P : Int) emin emax (W : Int) (E : Int) ex) R := by
      intro R hR
      have hfB : w % 2 ^ fracN P ex < B128 := Nat.lt_of_le_of_lt (Nat.mod_le _ _) hw
      cases ex with
      | false =>
        rw [if_neg (by decide)] at hR
        refine Ev.step (fun k => ?_) hR
        simp only [impl_Unpack.j0]
        rw [if_neg (by decide), hfE, Option.bind_some, l1, Option.bind_some, r1, Option.bind_some]
        dsimp only
        rw [l2, Option.bind_some, wW, r2, Option.bind_some]
        dsimp only
        rw [if_neg (by decide), heI, wE, hne]
      | true =>
        rw [if_pos rfl] at hR
        have r3 := right_eq (w % 2 ^ fracN P true) (P - 1) hfB (by clear wW wP wE; omega)
        have l3 := low_eq (w % 2 ^ fracN P true) (P - 1) hfB (by clear wW wP wE; omega)
        have hn3 := word_ne (w % 2 ^ fracN P true / 2 ^ (P - 1))
        have hbit : decide (w % 2 ^ fracN P true / 2 ^ (P - 1) ≠ 0) = decide (2 ^ (P - 1) ≤ w % 2 ^ fracN P true) := by
          rw [decide_eq_decide, Nat.div_ne_zero_iff]
          exact ⟨fun a => a.2, fun a => ⟨Nat.ne_of_gt (Nat.pow_pos (by decide)), a⟩⟩
        rw [hbit] at hn3
        have he0' : (((w / 2 ^ fracN P true % 2 ^ E : Nat) : Int) != 0) = decide (w / 2 ^ fracN P true % 2 ^ E ≠ 0) := by
          clear wW wP wE
          by_cases hz : w / 2 ^ fracN P true % 2 ^ E = 0
          · rw [hz]; rfl
          · rw [decide_eq_true hz, bne_iff_ne]
            omega
        by_cases hc : (2 ^ (P - 1) ≤ w % 2 ^ fracN P true ↔ w / 2 ^ fracN P true % 2 ^ E ≠ 0)
        · rw [if_pos hc] at hR
          have hcd : (decide (2 ^ (P - 1) ≤ w % 2 ^ fracN P true) != decide (w / 2 ^ fracN P true % 2 ^ E ≠ 0)) = false := dne_f hc
          refine Ev.step (fun k => ?_) hR
          simp only [impl_Unpack.j0]
          rw [if_neg (by decide), hfE, Option.bind_some, l1, Option.bind_some, r1, Option.bind_some]
          dsimp only
          rw [l2, Option.bind_some, wW, r2, Option.bind_some]
          dsimp only
          rw [if_pos trivial, wP, r3, Option.bind_some, heI, wE, he0', hn3, hcd, if_neg (by decide), l3, Option.bind_some, hne]
        · rw [if_neg hc] at hR
          have hcd : (decide (2 ^ (P - 1) ≤ w % 2 ^ fracN P true) != decide (w / 2 ^ fracN P true % 2 ^ E ≠ 0)) = true := dne_t hc
          refine Ev.step (f := fun _ => some R) (fun k => ?_) (Ev.now _)
          simp only [impl_Unpack.j0]
          rw [if_neg (by decide), hfE, Option.bind_some, l1, Option.bind_some, r1, Option.bind_some]
          dsimp only
          rw [l2, Option.bind_some, wW, r2, Option.bind_some]
          dsimp only
          rw [if_pos trivial, wP, r3, Option.bind_some, heI, wE, he0', hn3, hcd, if_pos rfl, hR]
          rfl
    apply hj
    unfold unpN
    rw [if_neg (Nat.not_le.2 hlt)]
    clear wW wP wE hj
    cases ex with
    | false =>
      rw [if_neg (by decide), if_neg (by decide)]
      rw [hfn, if_neg (by decide)] at hflt helt ⊢
      have hj1 := im_j1 h (w / 2 ^ (P - 1) % 2 ^ E) helt (decide (w / 2 ^ (W - 1) % 2 = 1)) (w % 2 ^ (P - 1)) hflt false (fun _ => rfl) (fun _ => rfl)
      rw [if_neg (by decide)] at hj1
      exact hj1
    | true =>
      rw [if_pos rfl, if_pos rfl]
      rw [hfn, if_pos rfl] at hflt helt ⊢
      by_cases hc : (2 ^ (P - 1) ≤ w % 2 ^ P ↔ w / 2 ^ P % 2 ^ E ≠ 0)
      · rw [if_pos hc, if_pos hc]
        have hs := frac_split (w % 2 ^ P) (P - 1) (by rw [show P - 1 + 1 = P by omega]; exact hflt)
        have hj1 := im_j1 h (w / 2 ^ P % 2 ^ E) helt (decide (w / 2 ^ (W - 1) % 2 = 1)) (w % 2 ^ P % 2 ^ (P - 1)) (Nat.mod_lt _ (Nat.pow_pos (by decide))) (decide (2 ^ (P - 1) ≤ w % 2 ^ P)) (fun h0 => decide_eq_false (fun a => (hc.1 a) h0)) (fun a => by cases a)
        rw [← hs] at hj1
        exact hj1
      · rw [if_neg hc, if_neg hc]
  unfold impl_Unpack.f
  by_cases h128 : W < 128
  · have c1 : (W : Int) < 128 := by omega
    have r0 := right_eq w W hw (by omega)
    have n0 := word_ne (w / 2 ^ W)
    by_cases hge : 2 ^ W ≤ w
    · have hz : decide (w / 2 ^ W ≠ 0) = true := by
        rw [decide_eq_true_iff, Nat.div_ne_zero_iff]
        exact ⟨Nat.ne_of_gt (Nat.pow_pos (by decide)), hge⟩
      have hu : unpN P emin emax W E ex w = badP := by unfold unpN; rw [if_pos hge]
      rw [hu]
      refine Ev.congr (f := fun k => impl_Unpack.j0 k true (hiI w) (loI w) (P : Int) emin emax (W : Int) (E : Int) ex) (fun k => ?_) (Ev.step (f := fun _ => some badP) (fun k => ?_) (Ev.now _))
      · rw [hf, Option.bind_some]
        dsimp only
        rw [if_pos rfl, if_pos c1, r0, Option.bind_some]
        dsimp only
        rw [n0, hz]
      · simp only [impl_Unpack.j0]
        rw [if_pos trivial]
        rfl
    · have hz : decide (w / 2 ^ W ≠ 0) = false := by
        rw [decide_eq_false_iff_not, Nat.div_ne_zero_iff]
        exact fun a => hge a.2
      refine Ev.congr (fun k => ?_) (core (Nat.lt_of_not_le hge))
      rw [hf, Option.bind_some]
      dsimp only
      rw [if_pos rfl, if_pos c1, r0, Option.bind_some]
      dsimp only
      rw [n0, hz]
  · have c1 : ¬ (W : Int) < 128 := by omega
    have hWe : W = 128 := by omega
    refine Ev.congr (fun k => ?_) (core (by rw [hWe]; exact hw))
    rw [hf, Option.bind_some]
    dsimp only
    rw [if_pos rfl, if_neg c1]
end
end Go.Proofs.YtdbnmdchecacdaaDoor.M
end
section
namespace Go.Proofs.YtdbnmdchecacdaaDoor.M
open Go.RowKit Go.Proofs.YtdbnmdchecacdaaDoor.G Go.Proofs.YtdbnmdchecacdaaDoorV.PrintWords Go.Proofs.YtdbnmdchecacdaaDoorV.PrintLast Go.Proofs.YtdbnmdchecacdaaDoorV.PrintMore Go.Proofs.YtdbnmdchecacdaaDoor.PL
set_option linter.unusedVariables false
set_option linter.unusedSimpArgs false
theorem fmt0 : Fmt 24 (-126) 127 32 8 false := ⟨by decide, by decide, by decide, by decide, by decide, by decide, by decide, by decide⟩
theorem fmt1 : Fmt 53 (-1022) 1023 64 11 false := ⟨by decide, by decide, by decide, by decide, by decide, by decide, by decide, by decide⟩
theorem fmt2 : Fmt 64 (-16382) 16383 80 15 true := ⟨by decide, by decide, by decide, by decide, by decide, by decide, by decide, by decide⟩
theorem fmt3 : Fmt 113 (-16382) 16383 128 15 false := ⟨by decide, by decide, by decide, by decide, by decide, by decide, by decide, by decide⟩
theorem word_split {hi lo : Int} (h1 : (Lit.int .u64 hi).wf = true) (h2 : (Lit.int .u64 lo).wf = true) : ∃ w : Nat, w < B128 ∧ hi = hiI w ∧ lo = loI w := by
  have a := wf_u64 (l := [hi]) (by simpa using h1) hi (by simp)
  have b := wf_u64 (l := [lo]) (by simpa using h2) lo (by simp)
  unfold B64 at a b
  obtain ⟨x, rfl⟩ : ∃ x : Nat, hi = x := ⟨hi.toNat, by omega⟩
  obtain ⟨y, rfl⟩ : ∃ y : Nat, lo = y := ⟨lo.toNat, by omega⟩
  have h := wordI_of x y (by omega)
  exact ⟨x * 18446744073709551616 + y, by unfold B128; omega, h.1.symm, h.2.symm⟩
end Go.Proofs.YtdbnmdchecacdaaDoor.M
end
section
namespace Go.Proofs.YtdbnmdchecacdaaDoor.M
open Go.RowKit Go.Proofs.YtdbnmdchecacdaaDoor.G Go.Proofs.YtdbnmdchecacdaaDoorV.PrintWords Go.Proofs.YtdbnmdchecacdaaDoorV.PrintLast Go.Proofs.YtdbnmdchecacdaaDoorV.PrintMore Go.Proofs.YtdbnmdchecacdaaDoor.PL Go.Proofs.YtdbnmdchecacdaaDoor.X
set_option linter.unusedVariables false
set_option linter.unusedSimpArgs false
theorem digits_exist {B : Nat} (hB : 2 ≤ B) (n : Nat) : ∃ l, Dig B l ∧ Norm l ∧ val B l = n := by
  induction n using Nat.strongRecOn with
  | _ n ih =>
    by_cases h0 : n = 0
    · exact ⟨[], Dig.nil _, norm_nil, by rw [h0]; rfl⟩
    · obtain ⟨l, h1, h2, h3⟩ := ih (n / B) (Nat.div_lt_self (by omega) hB)
      have hm : n % B < B := Nat.mod_lt _ (by omega)
      have hv : val B (((n % B : Nat) : Int) :: l) = n := by
        rw [val_cons, h3, Int.toNat_natCast]
        exact Nat.mod_add_div n B
      refine ⟨((n % B : Nat) : Int) :: l, Dig.cons ⟨by omega, by omega⟩ h1, ?_, hv⟩
      rcases Nat.eq_zero_or_pos l.length with hl | hl
      · have : l = [] := List.eq_nil_of_length_eq_zero hl
        subst this
        have h4 : n / B = 0 := by rw [← h3]; rfl
        have h5 : n % B = n := Nat.mod_eq_of_lt (by
          rcases Nat.lt_or_ge n B with h | h
          · exact h
          · have := Nat.div_pos h (by omega); omega)
        have : ((((n % B : Nat) : Int)) :: ([] : List Int)) = [] ++ [((n % B : Nat) : Int)] := rfl
        rw [this, norm_snoc, h5]
        omega
      · obtain ⟨a, y, rfl⟩ := snoc_of hl
        have : (((n % B : Nat) : Int)) :: (a ++ [y]) = (((n % B : Nat) : Int) :: a) ++ [y] := rfl
        rw [this, norm_snoc]
        exact norm_snoc.1 h2
noncomputable def ofN (B n : Nat) : List Int := @dite _ (∃ l, Dig B l ∧ Norm l ∧ val B l = n) (Classical.propDecidable _) (fun h => Classical.choose h) (fun _ => [])
theorem ofN_spec {B : Nat} (hB : 2 ≤ B) (n : Nat) : Dig B (ofN B n) ∧ Norm (ofN B n) ∧ val B (ofN B n) = n := by
  unfold ofN
  rw [dif_pos (digits_exist hB n)]
  exact Classical.choose_spec (digits_exist hB n)
theorem B32_2 : 2 ≤ B32 := by unfold B32; omega
theorem ofN_of {B : Nat} (hB : 2 ≤ B) {l : List Int} (h1 : Dig B l) (h2 : Norm l) {n : Nat} (h3 : val B l = n) : l = ofN B n := by
  obtain ⟨k1, k2, k3⟩ := ofN_spec hB n
  exact norm_inj (by omega) h1 k1 h2 k2 (h3.trans k3.symm)
theorem ofN_zero {B : Nat} (hB : 2 ≤ B) (n : Nat) : (ofN B n).length = 0 ↔ n = 0 := by
  obtain ⟨k1, k2, k3⟩ := ofN_spec hB n
  have := norm_zero (by omega) k1 k2
  rw [k3] at this
  rw [← this]
  exact ⟨fun h => List.eq_nil_of_length_eq_zero h, fun h => by rw [h]; rfl⟩
theorem ofN_nil {B : Nat} (hB : 2 ≤ B) : ofN B 0 = [] := List.eq_nil_of_length_eq_zero ((ofN_zero hB 0).2 rfl)
theorem ofN_len {B : Nat} (hB : 2 ≤ B) {n k : Nat} (h : n < B ^ k) : (ofN B n).length ≤ k := by
  obtain ⟨k1, k2, k3⟩ := ofN_spec hB n
  rcases Nat.lt_or_ge k (ofN B n).length with hk | hk
  · have h1 := val_ge k1 k2 (by omega)
    rw [k3] at h1
    have h2 := Nat.pow_le_pow_right (n := B) (by omega) (show k ≤ (ofN B n).length - 1 by omega)
    omega
  · exact hk
def capL : Nat := 100000
def Sm (n : Nat) : Prop := n < B32 ^ capL
theorem capL_le : capL ≤ 100000 := Nat.le_refl _
theorem Sm.len {n : Nat} (h : Sm n) : (ofN B32 n).length ≤ 100000 := by
  unfold Sm at h
  exact Nat.le_trans (ofN_len B32_2 h) capL_le
theorem pow_base {n : Nat} : B32 ^ n = 2 ^ (32 * n) := by rw [show B32 = 2 ^ 32 from rfl, ← Nat.pow_mul]
theorem Sm.of {n k : Nat} (h : n < 2 ^ k) (hk : k ≤ 3200000) : Sm n := by
  unfold Sm
  rw [pow_base]
  exact Nat.lt_of_lt_of_le h (Nat.pow_le_pow_right (by decide) (by unfold capL; omega))
theorem Sm.mono {n m : Nat} (h : Sm m) (hn : n ≤ m) : Sm n := Nat.lt_of_le_of_lt hn h
structure Nn (a : Int) (n : Nat) : Prop where
  out : a = (n : Int)
theorem wsi {x : Int} (h : -9223372036854775808 ≤ x ∧ x ≤ 9223372036854775807) : IntKind.i64.wrap x = x := (i64_w x).trans (wrap64_id h)
theorem Nn.wrap {x : Int} {n : Nat} (h : x = (n : Int)) (hn : n ≤ 9223372036854775807) : Nn (IntKind.i64.wrap x) n := ⟨by rw [wsi (by omega)]; exact h⟩
structure Wd (h l : Int) (x : Nat) : Prop where
  hi : h = hiI x
  lo : l = loI x
section
theorem ct_spec_l1Of (a : Int) (n : Nat) (ha : Nn a n) (hn : n < 18446744073709551616) : CtR Tryd.prog 90 [.int .u64 a] [] .u64 (ofN B32 n) := by
  obtain ⟨rfl⟩ := ha
  refine ctR0 (fun w => spec_l1Of.calls _ _ w ?_)
  rw [ofW_eq n hn, ofN_of B32_2 (ofW_dig n hn) (norm_trim _) (ofW_val n)]
theorem ct_spec_l2Of (x : Nat) (hx : x < B128) : CtR Tryd.prog 58 [.agg #[.int .u64 (hiI x), .int .u64 (loI x)]] [] .u64 (ofN B32 x) := by
  obtain ⟨r, hr, d, n, v, _⟩ := l2Of_ev x hx
  obtain ⟨k, hk⟩ := hr.rounds
  rw [ofN_of B32_2 d n v] at hk
  exact ctR0 (fun w => spec_l2Of.calls k _ _ _ w hk)
theorem ct_spec_l1Bits (x : Nat) (A : Option Addr) (c : Nat) (hx : Sm x) (m : Nat) (hm : IsBits x m) : CtV Tryd.prog 59 [.slice A (ofN B32 x).length c] [Row .u64 A c (ofN B32 x)] (.int .i64 m) := by
  obtain ⟨d, n, v⟩ := ofN_spec B32_2 x
  have hl := hx.len
  obtain ⟨m', hr, hb, _⟩ := sbits_gen (ofN B32 x) d n (by omega)
  rw [v] at hb
  rw [hm.uniq hb]
  obtain ⟨k, hk⟩ := hr.rounds
  exact ctV1 (fun w h1 => (spec_l1Bits.calls k A c _ _ w h1.1 h1.2 hk).mono (fun e w' h => ⟨h.1, h.2.below⟩))
theorem ct_spec_l1Left (x : Nat) (A : Option Addr) (c : Nat) (a : Int) (i : Nat) (ha : Nn a i) (hi : i ≤ 1000000) (hx : Sm x) : CtR Tryd.prog 92 [.slice A (ofN B32 x).length c, .int .i64 a] [Row .u64 A c (ofN B32 x)] .u64 (ofN B32 (x * 2 ^ i)) := by
  obtain ⟨rfl⟩ := ha
  obtain ⟨d, n, v⟩ := ofN_spec B32_2 x
  have hl := hx.len
  obtain ⟨r, hr, d2, n2, v2, _⟩ := sleft_ev (ofN B32 x) d (by omega) i hi
  obtain ⟨k, hk⟩ := hr.rounds
  rw [ofN_of B32_2 d2 n2 v2, v] at hk
  exact ctR1 (fun w h1 => spec_l1Left.calls k A c _ _ _ w h1.1 h1.2 hk)
theorem ct_spec_l1Add (x y : Nat) (A A' : Option Addr) (c c' : Nat) (hx : Sm x) (hy : Sm y) : CtR Tryd.prog 63 [.slice A (ofN B32 x).length c, .slice A' (ofN B32 y).length c'] [Row .u64 A c (ofN B32 x), Row .u64 A' c' (ofN B32 y)] .u64 (ofN B32 (x + y)) := by
  obtain ⟨d, n, v⟩ := ofN_spec B32_2 x
  obtain ⟨d', n', v'⟩ := ofN_spec B32_2 y
  have hl := hx.len
  have hl' := hy.len
  obtain ⟨r, hr, d2, n2, v2, _⟩ := sadd_ev (ofN B32 x) (ofN B32 y) d d' (by omega) (by omega)
  obtain ⟨k, hk⟩ := hr.rounds
  rw [ofN_of B32_2 d2 n2 v2, v, v'] at hk
  exact ctR2 (fun w h1 h2 => spec_l1Add.calls k A c _ A' c' _ _ w h1.1 h1.2 h2.1 h2.2 hk)
theorem ct_spec_l2Low (x : Nat) (A : Option Addr) (c : Nat) (a : Int) (i : Nat) (ha : Nn a i) (hi : i ≤ 100000) (hx : Sm x) : CtR Tryd.prog 60 [.slice A (ofN B32 x).length c, .int .i64 a] [Row .u64 A c (ofN B32 x)] .u64 (ofN B32 (x % 2 ^ i)) := by
  obtain ⟨rfl⟩ := ha
  obtain ⟨d, n, v⟩ := ofN_spec B32_2 x
  have hl := hx.len
  obtain ⟨r, hr, d2, n2, v2, _⟩ := l2Low_ev (ofN B32 x) d (by omega) i hi
  obtain ⟨k, hk⟩ := hr.rounds
  rw [ofN_of B32_2 d2 n2 v2, v] at hk
  exact ctR1 (fun w h1 => spec_l2Low.calls k A c _ _ _ w h1.1 h1.2 hk)
theorem ct_spec_l2Two (a : Int) (i : Nat) (ha : Nn a i) (hi : i ≤ 100000) : CtR Tryd.prog 64 [.int .i64 a] [] .u64 (ofN B32 (2 ^ i)) := by
  obtain ⟨rfl⟩ := ha
  obtain ⟨r, hr, d2, n2, v2, _⟩ := l2Two_ev i hi
  obtain ⟨k, hk⟩ := hr.rounds
  rw [ofN_of B32_2 d2 n2 v2] at hk
  exact ctR_of (fun w hp => spec_l2Two.calls k _ _ w hk)
theorem ct_spec_l2Word (x : Nat) (A : Option Addr) (c : Nat) (hx : x < B128) : CtV Tryd.prog 62 [.slice A (ofN B32 x).length c] [Row .u64 A c (ofN B32 x)] (.agg #[.int .u64 (hiI x), .int .u64 (loI x)]) := by
  obtain ⟨d, n, v⟩ := ofN_spec B32_2 x
  have hl : (ofN B32 x).length ≤ 4 := ofN_len B32_2 (show x < B32 ^ 4 from hx)
  have hr := l2Word_ev (ofN B32 x) d n (by omega) (by rw [v]; exact hx)
  rw [v] at hr
  obtain ⟨k, hk⟩ := hr.rounds
  exact ctV1 (fun w h1 => spec_l2Word.calls k A c _ _ _ w h1.1 h1.2 hk)
def prtV (u : Prt) : Value := .agg #[.int .i64 u.1, .bool u.2.1, .int .u64 u.2.2.1, .int .u64 u.2.2.2.1, .int .i64 u.2.2.2.2]
abbrev dscV (P : Nat) (emin emax : Int) (W E : Nat) (ex : Bool) : Value := .agg #[.int .i64 P, .int .i64 emin, .int .i64 emax, .int .i64 W, .int .i64 E, .bool ex]
theorem ct_spec_Describe {P : Nat} {emin emax : Int} {W E : Nat} {ex : Bool} (f : Int) (hf : spec_Describe.f f = some ((P : Int), emin, emax, (W : Int), (E : Int), ex)) : CtV Tryd.prog 57 [.int .i64 f] [] (dscV P emin emax W E ex) :=
  ctV0 (fun w => spec_Describe.calls _ _ _ _ _ _ _ w hf)
theorem ct_impl_layoutOf {P : Nat} {emin emax : Int} {W E : Nat} {ex : Bool} (f : Int) (hf : impl_layoutOf.f f = some ((P : Int), emin, emax, (W : Int), (E : Int), ex, true)) : CtV Tryd.prog 65 [.int .i64 f] [Tabled] (.tuple #[dscV P emin emax W E ex, .bool true]) :=
  ctV1 (fun w h1 => impl_layoutOf.calls _ _ _ _ _ _ _ _ w h1 hf)
theorem ct_impl_layout_fracBits {P : Nat} {emin emax : Int} {W E : Nat} {ex : Bool} (h : Fmt P emin emax W E ex) : CtV Tryd.prog 67 [.agg #[.int .i64 P, .int .i64 emin, .int .i64 emax, .int .i64 W, .int .i64 E, .bool ex]] [] (.int .i64 (fracN P ex)) :=
  ctV0 (fun w => impl_layout_fracBits.calls _ _ _ _ _ _ _ w (frac_eq h))
theorem ct_impl_layout_top {P : Nat} {emin emax : Int} {W E : Nat} {ex : Bool} (h : Fmt P emin emax W E ex) : CtV Tryd.prog 69 [.agg #[.int .i64 P, .int .i64 emin, .int .i64 emax, .int .i64 W, .int .i64 E, .bool ex]] [] (.int .i64 ((2 ^ E - 1 : Nat) : Int)) :=
  ctV0 (fun w => impl_layout_top.calls _ _ _ _ _ _ _ w (top_eq h))
theorem ct_impl_Word_left (h l : Int) (x : Nat) (hw : Wd h l x) (a : Int) (i : Nat) (ha : Nn a i) (hi : i < 128) (hx : x < B128) : CtV Tryd.prog 80 [.agg #[.int .u64 h, .int .u64 l], .int .i64 a] [] (.agg #[.int .u64 (hiI (x * 2 ^ i % B128)), .int .u64 (loI (x * 2 ^ i % B128))]) := by
  obtain ⟨rfl⟩ := ha
  obtain ⟨rfl, rfl⟩ := hw
  exact ctV0 (fun w => impl_Word_left.calls _ _ _ _ _ w (left_eq x i hx hi))
theorem or64 (a b : Nat) (ha : a < 18446744073709551616) (hb : b < 18446744073709551616) : bits .or .u64 (a : Int) (b : Int) = ((a ||| b : Nat) : Int) := by
  have hlt : a ||| b < 2 ^ 64 := Nat.or_lt_two_pow ha hb
  show IntKind.u64.wrap ((BitVec.ofInt 64 (a : Int) ||| BitVec.ofInt 64 (b : Int)).toNat : Int) = _
  have e1 : (BitVec.ofInt 64 (a : Int) ||| BitVec.ofInt 64 (b : Int)).toNat = a ||| b := by
    rw [BitVec.toNat_or, BitVec.toNat_ofInt, BitVec.toNat_ofInt]
    congr 1 <;> omega
  rw [e1]
  exact wrap_u64_id ⟨by omega, by have : (a ||| b : Nat) < 18446744073709551616 := hlt; omega⟩
theorem or_word (x y : Nat) (hx : x < B128) (hy : y < B128) : impl_Word_or.f (hiI x) (loI x) (hiI y) (loI y) = some (hiI (x ||| y), loI (x ||| y)) := by
  have h1 : (x ||| y) / 18446744073709551616 = x / 18446744073709551616 ||| y / 18446744073709551616 := by
    rw [show (18446744073709551616 : Nat) = 2 ^ 64 from rfl, ← Nat.shiftRight_eq_div_pow, ← Nat.shiftRight_eq_div_pow, ← Nat.shiftRight_eq_div_pow, Nat.shiftRight_or_distrib]
  have h2 : (x ||| y) % 18446744073709551616 = x % 18446744073709551616 ||| y % 18446744073709551616 := by
    rw [show (18446744073709551616 : Nat) = 2 ^ 64 from rfl, Nat.or_mod_two_pow]
  have hx' : x < 340282366920938463463374607431768211456 := hx
  have hy' : y < 340282366920938463463374607431768211456 := hy
  unfold impl_Word_or.f hiI loI
  rw [or64 _ _ (by omega) (by omega), or64 _ _ (by omega) (by omega), h1, h2]
theorem ct_impl_Word_or (h l h' l' : Int) (x y : Nat) (hw : Wd h l x) (hw' : Wd h' l' y) (hx : x < B128) (hy : y < B128) : CtV Tryd.prog 71 [.agg #[.int .u64 h, .int .u64 l], .agg #[.int .u64 h', .int .u64 l']] [] (.agg #[.int .u64 (hiI (x ||| y)), .int .u64 (loI (x ||| y))]) := by
  obtain ⟨rfl, rfl⟩ := hw
  obtain ⟨rfl, rfl⟩ := hw'
  exact ctV0 (fun w => impl_Word_or.calls _ _ _ _ _ _ w (or_word x y hx hy))
theorem ct_impl_Word_low (x : Nat) (a : Int) (i : Nat) (ha : Nn a i) (hi : i < 128) (hx : x < B128) : CtV Tryd.prog 68 [.agg #[.int .u64 (hiI x), .int .u64 (loI x)], .int .i64 a] [] (.agg #[.int .u64 (hiI (x % 2 ^ i)), .int .u64 (loI (x % 2 ^ i))]) := by
  obtain ⟨rfl⟩ := ha
  exact ctV0 (fun w => impl_Word_low.calls _ _ _ _ _ w (low_eq x i hx hi))
theorem ct_impl_one (a : Int) (i : Nat) (ha : Nn a i) (hi : i < 128) : CtV Tryd.prog 72 [.int .i64 a] [] (.agg #[.int .u64 (hiI (2 ^ i)), .int .u64 (loI (2 ^ i))]) := by
  obtain ⟨rfl⟩ := ha
  exact ctV0 (fun w => impl_one.calls _ _ _ w (one_eq i hi))
end
end Go.Proofs.YtdbnmdchecacdaaDoor.M
end
section
namespace Go.Proofs.YtdbnmdchecacdaaDoor.M
open Go.RowKit Go.Proofs.YtdbnmdchecacdaaDoorV.PrintWords Go.Proofs.YtdbnmdchecacdaaDoorV.PrintLast Go.Proofs.YtdbnmdchecacdaaDoor.X
set_option linter.unusedVariables false
set_option linter.unusedSimpArgs false
theorem run_neq {P : Program} {t : TypeId} {ρ : Operand → Value} {o : Oper} {x y : Operand} {xs ys : Array Value} {yt : TypeId} {r : Bool} (ho : o.op = .binOp .neq t x y yt) (hx : ρ x = .agg xs) (hy : ρ y = .agg ys) (hg : P.eqGuardType P.depth t = false) (w : World) (h : (Op.equal t (.agg xs) (.agg ys)).run P w = .ok r w) : (execOp ρ o).run P w = .ok (.value (.bool (!r))) w := by
  unfold execOp
  simp [ho, hx, hy, eqGuard, program, Sem.run_bind, Sem.run, hg, binOp, h, Result.andThen]
theorem eq_word (d : Nat) (h l h' l' : Int) (w : World) : (Op.equalIn (d + 1 + 1) 25 (.agg #[.int .u64 h, .int .u64 l]) (.agg #[.int .u64 h', .int .u64 l'])).run Tryd.prog w = .ok ((h == h') && (l == l')) w :=
  eqA_of Tryd.underlying25 (by kernel_rfl) (eqf_cons (by kernel_rfl) (a := .int .u64 h) (b := .int .u64 h') (by kernel_rfl) (by kernel_rfl) (by kernel_rfl) (eqf_last (by kernel_rfl) (a := .int .u64 l) (b := .int .u64 l') (by kernel_rfl) (by kernel_rfl) (by kernel_rfl)))
theorem eq_parts (d : Nat) (c q h l c' q' h' l' : Int) (n n' : Bool) (w : World) : (Op.equalIn (d + 1 + 1 + 1) 27 (.agg #[.int .i64 c, .bool n, .int .u64 h, .int .u64 l, .int .i64 q]) (.agg #[.int .i64 c', .bool n', .int .u64 h', .int .u64 l', .int .i64 q'])).run Tryd.prog w = .ok ((c == c') && ((n == n') && (((h == h') && (l == l')) && (q == q')))) w :=
  eqA_of Tryd.underlying27 (by kernel_rfl) (eqf_cons (by kernel_rfl) (a := .int .i64 c) (b := .int .i64 c') (by kernel_rfl) (by kernel_rfl) (by kernel_rfl)
    (eqf_cons (by kernel_rfl) (a := .bool n) (b := .bool n') (by kernel_rfl) (by kernel_rfl) (by kernel_rfl)
      (eqf_cons (by kernel_rfl) (a := .agg #[.int .u64 h, .int .u64 l]) (b := .agg #[.int .u64 h', .int .u64 l']) (by kernel_rfl) (by kernel_rfl) (eq_word d h l h' l' w)
        (eqf_last (by kernel_rfl) (a := .int .i64 q) (b := .int .i64 q') (by kernel_rfl) (by kernel_rfl) (by kernel_rfl)))))
end Go.Proofs.YtdbnmdchecacdaaDoor.M
end
section
namespace Go.Proofs.YtdbnmdchecacdaaDoor.M
open Go.RowKit Go.Proofs.YtdbnmdchecacdaaDoor.G Go.Proofs.YtdbnmdchecacdaaDoorV.PrintWords Go.Proofs.YtdbnmdchecacdaaDoorV.PrintLast Go.Proofs.YtdbnmdchecacdaaDoorV.PrintMore Go.Proofs.YtdbnmdchecacdaaDoor.PL Go.Proofs.YtdbnmdchecacdaaDoor.X
set_option linter.unusedVariables false
set_option linter.unusedSimpArgs false
def makeN (P W : Nat) (ex : Bool) (neg lead : Bool) (exp rest : Nat) : Nat :=
  rest + (if ex = true ∧ lead = true then 2 ^ (P - 1) else 0) + exp * 2 ^ fracN P ex + (if neg = true then 2 ^ (W - 1) else 0)
theorem makeN_lt {P : Nat} {emin emax : Int} {W E : Nat} {ex : Bool} (h : Fmt P emin emax W E ex) (neg lead : Bool) (exp rest : Nat) (he : exp < 2 ^ E) (hr : rest < 2 ^ (P - 1)) : makeN P W ex neg lead exp rest < 2 ^ W := by
  have hw1 := h.w1
  have p0 := h.p0
  unfold makeN
  have h1 : rest + (if ex = true ∧ lead = true then 2 ^ (P - 1) else 0) < 2 ^ fracN P ex := by
    unfold fracN
    cases ex with
    | true =>
      rw [if_pos rfl]
      have h2 : 2 ^ P = 2 ^ (P - 1) * 2 := by rw [← Nat.pow_succ]; congr 1; omega
      split <;> omega
    | false =>
      rw [if_neg (show ¬ (false = true ∧ lead = true) from fun a => absurd a.1 (by decide)), if_neg (show ¬ false = true by decide)]
      exact hr
  have h3 : (rest + (if ex = true ∧ lead = true then 2 ^ (P - 1) else 0)) + exp * 2 ^ fracN P ex < 2 ^ (W - 1) := by
    have e1 : 2 ^ (W - 1) = 2 ^ E * 2 ^ fracN P ex := by rw [← Nat.pow_add]; congr 1; omega
    rw [e1]
    have h4 : (exp + 1) * 2 ^ fracN P ex ≤ 2 ^ E * 2 ^ fracN P ex := Nat.mul_le_mul_right _ he
    rw [Nat.add_mul, Nat.one_mul] at h4
    omega
  have h5 : 2 ^ W = 2 ^ (W - 1) * 2 := by rw [← Nat.pow_succ]; congr 1; omega
  rw [h5]
  generalize (rest + (if ex = true ∧ lead = true then 2 ^ (P - 1) else 0)) + exp * 2 ^ fracN P ex = X at *
  generalize 2 ^ (W - 1) = Y at *
  split <;> omega
theorem Weak.mk' {s t : St} (he : t.env.map (fun p => X.look s.env p.1) = t.env.map (fun p => some p.2)) (hb : s.bs = t.bs) (hf : Sub t.fs s.fs) : Weak s t := by
  refine Weak.of ?_ hb hf
  have : ∀ l : List (Nat × Value), l.map (fun p => X.look s.env p.1) = l.map (fun p => some p.2) → lookAll s.env l := by
    intro l
    induction l with
    | nil => intro _; trivial
    | cons p r ih =>
      intro h
      simp only [List.map_cons, List.cons.injEq] at h
      exact ⟨h.1, ih h.2⟩
  exact this _ he
theorem sm128 {x : Nat} (h : x < 2 ^ 250) : Sm x := Sm.of (k := 250) h (by decide)
theorem ct_spec_l2Make {P : Nat} {emin emax : Int} {W E : Nat} {ex : Bool} (h : Fmt P emin emax W E ex) (neg lead : Bool) (exp rest : Nat) (he : exp < 2 ^ E) (hr : rest < 2 ^ (P - 1)) (a : Int) (hea : Nn a exp) (A : Option Addr) (c : Nat) :
    CtV Tryd.prog 78 [dscV P emin emax W E ex, .bool neg, .int .i64 a, .bool lead, .slice A (ofN B32 rest).length c] [Row .u64 A c (ofN B32 rest)] (.agg #[.int .u64 (hiI (makeN P W ex neg lead exp rest)), .int .u64 (loI (makeN P W ex neg lead exp rest))]) := by
  obtain ⟨rfl⟩ := hea
  have p0 := h.p0
  have p1 := h.p1
  have w1 := h.w1
  have w2 := h.w2
  have hlt := makeN_lt h neg lead exp rest he hr
  have h128 : 2 ^ W ≤ B128 := Nat.pow_le_pow_right (n := 2) (by decide) w2
  have hP1 : 2 ^ (P - 1) ≤ 2 ^ 128 := Nat.pow_le_pow_right (by decide) (by omega)
  have s1 : Sm rest := sm128 (by omega)
  have s2 : Sm (2 ^ (P - 1)) := sm128 (by omega)
  have nP : Nn (IntKind.i64.wrap ((P : Int) - 1)) (P - 1) := Nn.wrap (by omega) (by omega)
  have nW : Nn (IntKind.i64.wrap ((W : Int) - 1)) (W - 1) := Nn.wrap (by omega) (by omega)
  have hB : 2 ^ E ≤ 2 ^ 15 := Nat.pow_le_pow_right (by decide) h.e1
  have n1 : Nn (IntKind.u64.wrap (exp : Int)) exp := ⟨wrap_u64_id (by omega)⟩
  have n2 : exp < 18446744073709551616 := by omega
  have s3 : Sm exp := sm128 (by omega)
  have hF : fracN P ex ≤ 113 := by unfold fracN; split <;> omega
  have nF : fracN P ex = if ex = true then P else P - 1 := rfl
  refine ct_of Tryd.func78 rfl (by kernel_rfl) (fun B w0 => ?_)
  refine SW_seq ?_
  refine SW_region ?_
  refine nn 1 5 [.int .i64 ((P : Nat) : Int), .int .i64 emin, .int .i64 emax, .int .i64 ((W : Nat) : Int), .int .i64 ((E : Nat) : Int), .bool ex] 83 (fun g => by kernel_rfl) rfl (fun g0 => ?_)
  refine nn 2 10 [.int .u64 0, .int .u64 0] 25 (fun g => by kernel_rfl) rfl (fun g1 => ?_)
  refine NW_nil 2 (by kernel_rfl) ?_
  refine SW_seq ?_
  refine SW_region ?_
  refine nr 2 [] [(11, .slice A (List.length (ofN B32 rest)) c), (13, .slice A (List.length (ofN B32 rest)) c)] [] (by kernel_rfl) rfl ?_
  refine NW_nil 2 (by kernel_rfl) ?_
  refine SW_seq ?_
  refine SW_region ?_
  refine nr 4 [(1, [0])] [(12, .int .i64 (IntKind.wrap IntKind.i64 (((P : Nat) : Int) - 1))), (16, .int .i64 (IntKind.wrap IntKind.i64 (((P : Nat) : Int) - 1))), (15, .int .i64 ((P : Nat) : Int)), (14, .pointer (some ⟨g0, 0, none⟩))] [g0] (by kernel_rfl) rfl ?_
  refine NW_nil 4 (by kernel_rfl) ?_
  refine SW_cut (fun s' => ∃ a x A1 c1, Nn a (fracN P ex) ∧ x = rest + (if ex = true ∧ lead = true then 2 ^ (P - 1) else 0) ∧ Weak s' ⟨[(1, .bool neg), (2, .int .i64 exp), (5, .pointer (some ⟨g0, 0, none⟩)), (10, .pointer (some ⟨g1, 0, none⟩)), (11, .slice A1 (ofN B32 x).length c1), (12, .int .i64 a)], [⟨g0, [.int .i64 P, .int .i64 emin, .int .i64 emax, .int .i64 W, .int .i64 E, .bool ex], 83⟩, ⟨g1, [.int .u64 0, .int .u64 0], 25⟩], [Row .u64 A1 c1 (ofN B32 x)]⟩) ?_ ?_
  · refine SW_seq ?_
    refine SW_region ?_
    refine nr 2 [(1, [0])] [(18, .bool ex), (17, .pointer (some ⟨g0, 5, none⟩))] [g0] (by kernel_rfl) rfl ?_
    refine NW_nil 2 (by kernel_rfl) ?_
    refine sc (ex) (by kernel_rfl) (fun q0 => ?_) (fun q0 => ?_)
    · refine SW_seq ?_
      refine SW_region ?_
      refine nr 3 [(1, [0])] [(12, .int .i64 ((P : Nat) : Int)), (20, .int .i64 ((P : Nat) : Int)), (19, .pointer (some ⟨g0, 0, none⟩))] [g0] (by kernel_rfl) rfl ?_
      refine NW_nil 3 (by kernel_rfl) ?_
      refine SW_seq ?_
      refine SW_region ?_
      refine nr 1 [] [(21, .bool lead)] [] (by kernel_rfl) rfl ?_
      refine NW_nil 1 (by kernel_rfl) ?_
      refine sc (lead) (by kernel_rfl) (fun q1 => ?_) (fun q1 => ?_)
      · refine SW_region ?_
        refine nr 4 [(2, [0])] [(25, .int .i64 (IntKind.wrap IntKind.i64 (((P : Nat) : Int) - 1))), (24, .int .i64 ((P : Nat) : Int)), (23, .pointer (some ⟨g0, 0, none⟩)), (22, .slice A (List.length (ofN B32 rest)) c)] [g0] (by kernel_rfl) rfl ?_
        refine ncr 5 26 (ct_spec_l2Two (IntKind.wrap IntKind.i64 (((P : Nat) : Int) - 1)) (P - 1) nP (by omega)) (by kernel_rfl) rfl zs0 (fun A0 k0 => ?_)
        refine ncr 6 27 (ct_spec_l1Add (rest) (2 ^ (P - 1)) (A) (A0) (c) (k0) s1 s2) (by kernel_rfl) rfl (zsS (ziS zi0) (zsS zi0 zs0)) (fun A1 k1 => ?_)
        refine nr 7 [] [(11, .slice A1 (List.length (ofN B32 (rest + 2 ^ (P - 1)))) k1)] [] (by kernel_rfl) rfl ?_
        refine NW_nil 7 (by kernel_rfl) ?_
        refine ⟨(P : Int), _, A1, k1, ⟨by rw [nF, if_pos q0]⟩, rfl, ?_⟩
        rw [if_pos ⟨q0, q1⟩]
        exact Weak.mk' (by kernel_rfl) rfl (zsS zi0 zs0)
      · refine SW_skip ?_
        refine ⟨(P : Int), _, A, c, ⟨by rw [nF, if_pos q0]⟩, rfl, ?_⟩
        rw [if_neg (fun z => by rw [z.2] at q1; cases q1)]
        exact Weak.mk' (by kernel_rfl) rfl (zsS zi0 zs0)
    · refine SW_skip ?_
      refine ⟨IntKind.i64.wrap ((P : Int) - 1), _, A, c, ⟨by rw [nF, if_neg (by rw [q0]; decide)]; exact nP.out⟩, rfl, ?_⟩
      rw [if_neg (fun z => by rw [z.1] at q0; cases q0)]
      exact Weak.mk' (by kernel_rfl) rfl (zsS zi0 zs0)
  · rintro s' ⟨a, x, A1, c1, na, hx, hw⟩
    refine SW_weak hw ?_
    have hm : makeN P W ex neg lead exp rest = x + exp * 2 ^ fracN P ex + (if neg = true then 2 ^ (W - 1) else 0) := by rw [hx]; rfl
    rw [hm] at hlt ⊢
    have hW1 : 2 ^ (W - 1) ≤ 2 ^ 128 := Nat.pow_le_pow_right (by decide) (by omega)
    have hl0 : x + exp * 2 ^ fracN P ex < 2 ^ 128 := Nat.lt_of_le_of_lt (Nat.le_add_right _ _) (Nat.lt_of_lt_of_le hlt h128)
    have hl1 : x + exp * 2 ^ fracN P ex + (if neg = true then 2 ^ (W - 1) else 0) < B128 := Nat.lt_of_lt_of_le hlt h128
    have s4 : Sm x := sm128 (by omega)
    have s5 : Sm (exp * 2 ^ fracN P ex) := sm128 (by omega)
    have s6 : Sm (x + exp * 2 ^ fracN P ex) := sm128 (by omega)
    have s7 : Sm (2 ^ (W - 1)) := sm128 (by omega)
    refine SW_seq ?_
    refine SW_region ?_
    refine nr 3 [] [(30, .int .u64 (IntKind.wrap IntKind.u64 ((exp : Nat) : Int))), (29, .int .i64 ((exp : Nat) : Int)), (28, .slice A1 (List.length (ofN B32 x)) c1)] [] (by kernel_rfl) rfl ?_
    refine ncr 4 31 (ct_spec_l1Of (IntKind.wrap IntKind.u64 ((exp : Nat) : Int)) (exp) n1 n2) (by kernel_rfl) rfl zs0 (fun A2 k2 => ?_)
    refine nr 5 [] [(32, .int .i64 a)] [] (by kernel_rfl) rfl ?_
    refine ncr 6 33 (ct_spec_l1Left (exp) (A2) (k2) (a) (fracN P ex) na (by omega) s3) (by kernel_rfl) rfl (zsS zi0 zs0) (fun A3 k3 => ?_)
    refine ncr 7 34 (ct_spec_l1Add (x) (exp * 2 ^ fracN P ex) (A1) (A3) (c1) (k3) s4 s5) (by kernel_rfl) rfl (zsS (ziS (ziS zi0)) (zsS zi0 zs0)) (fun A4 k4 => ?_)
    refine nr 8 [] [(11, .slice A4 (List.length (ofN B32 (x + exp * 2 ^ fracN P ex))) k4)] [] (by kernel_rfl) rfl ?_
    refine NW_nil 8 (by kernel_rfl) ?_
    refine SW_cut (fun s' => ∃ A2 c2, Weak s' ⟨[(10, .pointer (some ⟨g1, 0, none⟩)), (11, .slice A2 (ofN B32 (x + exp * 2 ^ fracN P ex + (if neg = true then 2 ^ (W - 1) else 0))).length c2)], [⟨g0, [.int .i64 P, .int .i64 emin, .int .i64 emax, .int .i64 W, .int .i64 E, .bool ex], 83⟩, ⟨g1, [.int .u64 0, .int .u64 0], 25⟩], [Row .u64 A2 c2 (ofN B32 (x + exp * 2 ^ fracN P ex + (if neg = true then 2 ^ (W - 1) else 0)))]⟩) ?_ ?_
    · refine SW_seq ?_
      refine SW_region ?_
      refine nr 1 [] [(35, .bool neg)] [] (by kernel_rfl) rfl ?_
      refine NW_nil 1 (by kernel_rfl) ?_
      refine sc (neg) (by kernel_rfl) (fun q0 => ?_) (fun q0 => ?_)
      · refine SW_region ?_
        refine nr 4 [(2, [0])] [(39, .int .i64 (IntKind.wrap IntKind.i64 (((W : Nat) : Int) - 1))), (38, .int .i64 ((W : Nat) : Int)), (37, .pointer (some ⟨g0, 3, none⟩)), (36, .slice A4 (List.length (ofN B32 (x + exp * 2 ^ fracN P ex))) k4)] [g0] (by kernel_rfl) rfl ?_
        refine ncr 5 40 (ct_spec_l2Two (IntKind.wrap IntKind.i64 (((W : Nat) : Int) - 1)) (W - 1) nW (by omega)) (by kernel_rfl) rfl zs0 (fun A5 k5 => ?_)
        refine ncr 6 41 (ct_spec_l1Add (x + exp * 2 ^ fracN P ex) (2 ^ (W - 1)) (A4) (A5) (k4) (k5) s6 s7) (by kernel_rfl) rfl (zsS (ziS zi0) (zsS zi0 zs0)) (fun A6 k6 => ?_)
        refine nr 7 [] [(11, .slice A6 (List.length (ofN B32 (x + exp * 2 ^ fracN P ex + 2 ^ (W - 1)))) k6)] [] (by kernel_rfl) rfl ?_
        refine NW_nil 7 (by kernel_rfl) ?_
        refine ⟨A6, k6, ?_⟩
        rw [if_pos q0]
        exact Weak.mk' (by kernel_rfl) rfl (zsS zi0 zs0)
      · refine SW_skip ?_
        refine ⟨A4, k4, ?_⟩
        rw [if_neg (by rw [q0]; decide), Nat.add_zero]
        exact Weak.mk' (by kernel_rfl) rfl (zsS zi0 zs0)
    · rintro s' ⟨A2, c2, hw⟩
      refine SW_weak hw ?_
      refine SW_seq ?_
      refine SW_region ?_
      refine nr 1 [] [(42, .slice A2 (List.length (ofN B32 (x + exp * 2 ^ fracN P ex + if neg = true then 2 ^ (W - 1) else 0))) c2)] [] (by kernel_rfl) rfl ?_
      refine ncv 2 43 (ct_spec_l2Word (x + exp * 2 ^ fracN P ex + if neg = true then 2 ^ (W - 1) else 0) (A2) (c2) hl1) (by kernel_rfl) rfl (zsS zi0 zs0) ?_
      refine nq 3 [(2, [1])] [] [⟨g0, [.int .i64 ((P : Nat) : Int), .int .i64 emin, .int .i64 emax, .int .i64 ((W : Nat) : Int), .int .i64 ((E : Nat) : Int), .bool ex], 83⟩, ⟨g1, [.int .u64 (hiI (x + exp * 2 ^ fracN P ex + if neg = true then 2 ^ (W - 1) else 0)), .int .u64 (loI (x + exp * 2 ^ fracN P ex + if neg = true then 2 ^ (W - 1) else 0))], 25⟩] [g1, g1] (by kernel_rfl) rfl ?_
      refine NW_nil 3 (by kernel_rfl) ?_
      refine SW_ret ?_
      refine rkr (.agg #[.int .u64 (hiI (x + exp * 2 ^ fracN P ex + if neg = true then 2 ^ (W - 1) else 0)), .int .u64 (loI (x + exp * 2 ^ fracN P ex + if neg = true then 2 ^ (W - 1) else 0))]) [1] [g1, g1] (by kernel_rfl) () ?_ trivial
      rfl
theorem ct_spec_l2Make' {P : Nat} {emin emax : Int} {W E : Nat} {ex : Bool} (h : Fmt P emin emax W E ex) (neg lead : Bool) (exp : Nat) (he : exp < 2 ^ E) (a : Int) (hea : Nn a exp) :
    CtV Tryd.prog 78 [dscV P emin emax W E ex, .bool neg, .int .i64 a, .bool lead, .slice none 0 0] [] (.agg #[.int .u64 (hiI (makeN P W ex neg lead exp 0)), .int .u64 (loI (makeN P W ex neg lead exp 0))]) := by
  have := ct_spec_l2Make h neg lead exp 0 he (Nat.pow_pos (by decide)) a hea none 0
  rw [ofN_nil B32_2] at this
  exact Ct_drop (Row_nil _ _) this
end Go.Proofs.YtdbnmdchecacdaaDoor.M
end
section
namespace Go.Proofs.YtdbnmdchecacdaaDoor.M
open Go.RowKit Go.Proofs.YtdbnmdchecacdaaDoor.G Go.Proofs.YtdbnmdchecacdaaDoorV.PrintWords Go.Proofs.YtdbnmdchecacdaaDoorV.PrintLast Go.Proofs.YtdbnmdchecacdaaDoorV.PrintMore Go.Proofs.YtdbnmdchecacdaaDoor.PL Go.Proofs.YtdbnmdchecacdaaDoor.X
set_option linter.unusedVariables false
set_option linter.unusedSimpArgs false
structure Fmt2 (P : Nat) (emin emax : Int) (W E : Nat) (ex : Bool) : Prop extends Fmt P emin emax W E ex where
  top : 2 * emax + 1 = ((2 ^ E - 1 : Nat) : Int)
  mn : emin = 1 - emax
  p3 : 3 ≤ P
theorem fmt2_0 : Fmt2 24 (-126) 127 32 8 false := ⟨fmt0, by decide, by decide, by decide⟩
theorem fmt2_1 : Fmt2 53 (-1022) 1023 64 11 false := ⟨fmt1, by decide, by decide, by decide⟩
theorem fmt2_2 : Fmt2 64 (-16382) 16383 80 15 true := ⟨fmt2, by decide, by decide, by decide⟩
theorem fmt2_3 : Fmt2 113 (-16382) 16383 128 15 false := ⟨fmt3, by decide, by decide, by decide⟩
theorem hilo_inj {a b : Nat} (h1 : hiI a = hiI b) (h2 : loI a = loI b) : a = b := by
  unfold hiI at h1
  unfold loI at h2
  omega
section
variable {P : Nat} {emin emax : Int} {W E : Nat} {ex : Bool}
theorem unp_make (h : Fmt P emin emax W E ex) (neg : Bool) (e rest : Nat) (he : e < 2 ^ E) (hr : rest < 2 ^ (P - 1)) : unpN P emin emax W E ex (makeN P W ex neg (decide (e ≠ 0)) e rest) = partsOf P emin emax E e neg rest := by
  have hw1 := h.w1
  have p0 := h.p0
  have hlt := makeN_lt h neg (decide (e ≠ 0)) e rest he hr
  unfold unpN
  rw [if_neg (Nat.not_le.2 hlt)]
  obtain ⟨low, hlow⟩ : ∃ low, low = rest + (if ex = true ∧ decide (e ≠ 0) = true then 2 ^ (P - 1) else 0) := ⟨_, rfl⟩
  have hl : low < 2 ^ fracN P ex := by
    rw [hlow]
    unfold fracN
    cases ex with
    | true =>
      rw [if_pos rfl]
      have h2 : 2 ^ P = 2 ^ (P - 1) * 2 := by rw [← Nat.pow_succ]; congr 1; omega
      split <;> omega
    | false =>
      rw [if_neg (show ¬ (false = true ∧ decide (e ≠ 0) = true) from fun a => absurd a.1 (by decide)), if_neg (show ¬ false = true by decide)]
      exact hr
  have hm : makeN P W ex neg (decide (e ≠ 0)) e rest = low + (e + (if neg = true then 2 ^ E else 0)) * 2 ^ fracN P ex := by
    unfold makeN
    rw [← hlow, Nat.add_mul, Nat.add_assoc]
    congr 2
    cases neg with
    | true => rw [if_pos rfl, if_pos rfl, ← Nat.pow_add]; congr 1; omega
    | false => rw [if_neg (by decide), if_neg (by decide), Nat.zero_mul]
  have hp : 0 < 2 ^ fracN P ex := Nat.pow_pos (by decide)
  have m1 : makeN P W ex neg (decide (e ≠ 0)) e rest % 2 ^ fracN P ex = low := by rw [hm, Nat.add_mul_mod_self_right, Nat.mod_eq_of_lt hl]
  have m2 : makeN P W ex neg (decide (e ≠ 0)) e rest / 2 ^ fracN P ex = e + (if neg = true then 2 ^ E else 0) := by rw [hm, Nat.add_mul_div_right _ _ hp, Nat.div_eq_of_lt hl, Nat.zero_add]
  have m3 : (e + (if neg = true then 2 ^ E else 0)) % 2 ^ E = e := by
    cases neg with
    | true => rw [if_pos rfl, Nat.add_mod_right, Nat.mod_eq_of_lt he]
    | false => rw [if_neg (by decide), Nat.add_zero, Nat.mod_eq_of_lt he]
  have m4 : decide (makeN P W ex neg (decide (e ≠ 0)) e rest / 2 ^ (W - 1) % 2 = 1) = neg := by
    have : 2 ^ (W - 1) = 2 ^ fracN P ex * 2 ^ E := by rw [← Nat.pow_add]; congr 1; omega
    rw [this, ← Nat.div_div_eq_div_mul, m2]
    have hE : 0 < 2 ^ E := Nat.pow_pos (by decide)
    cases neg with
    | true =>
      rw [if_pos rfl, Nat.add_div_right _ hE, Nat.div_eq_of_lt he]
      rfl
    | false =>
      rw [if_neg (by decide), Nat.add_zero, Nat.div_eq_of_lt he]
      rfl
  rw [m4]
  cases ex with
  | false =>
    have hf : fracN P false = P - 1 := rfl
    rw [hf] at m1 m2
    rw [if_neg (by decide), m1, m2, m3, hlow, if_neg (show ¬ (false = true ∧ decide (e ≠ 0) = true) from fun a => absurd a.1 (by decide)), Nat.add_zero]
  | true =>
    have hf : fracN P true = P := rfl
    rw [hf] at m1 m2
    rw [if_pos rfl, m1, m2, m3]
    have hq : low % 2 ^ (P - 1) = rest := by
      rw [hlow]
      split
      · rw [Nat.add_mod_right, Nat.mod_eq_of_lt hr]
      · rw [Nat.add_zero, Nat.mod_eq_of_lt hr]
    rw [hq, if_pos]
    rw [hlow]
    by_cases h0 : e = 0
    · rw [if_neg (by simp [h0])]
      exact ⟨fun z => by omega, fun z => absurd h0 z⟩
    · rw [if_pos (by simp [h0])]
      exact ⟨fun _ => h0, fun _ => by omega⟩
theorem unp_cases (w : Nat) : unpN P emin emax W E ex w = badP ∨ ∃ e neg rest, e < 2 ^ E ∧ rest < 2 ^ (P - 1) ∧ unpN P emin emax W E ex w = partsOf P emin emax E e neg rest := by
  have h1 : ∀ z : Nat, z % 2 ^ E < 2 ^ E := fun z => Nat.mod_lt _ (Nat.pow_pos (by decide))
  have h2 : ∀ z : Nat, z % 2 ^ (P - 1) < 2 ^ (P - 1) := fun z => Nat.mod_lt _ (Nat.pow_pos (by decide))
  unfold unpN
  split
  · exact .inl rfl
  · split
    · split
      · exact .inr ⟨_, _, _, h1 _, h2 _, rfl⟩
      · exact .inl rfl
    · exact .inr ⟨_, _, _, h1 _, h2 _, rfl⟩
theorem unp_sig (h : Fmt P emin emax W E ex) {w : Nat} {c : Int} {neg : Bool} {S : Nat} {q : Int} (hu : unpN P emin emax W E ex w = (c, neg, hiI S, loI S, q)) : (c = 2 → S < 2 ^ (P - 1)) ∧ (c = 3 → 2 ^ (P - 1) ≤ S ∧ S < 2 ^ P) := by
  have p0 := h.p0
  have hP : 2 ^ P = 2 ^ (P - 1) * 2 := by rw [← Nat.pow_succ]; congr 1; omega
  rcases unp_cases (P := P) (emin := emin) (emax := emax) (W := W) (E := E) (ex := ex) w with hb | ⟨e, n2, rest, he, hr, hb⟩
  · rw [hb] at hu
    have : c = 0 := by have := congrArg Prod.fst hu; exact this.symm
    exact ⟨fun z => by omega, fun z => by omega⟩
  · rw [hb] at hu
    unfold partsOf at hu
    split at hu
    · split at hu
      · have : c = 4 := (congrArg Prod.fst hu).symm
        exact ⟨fun z => by omega, fun z => by omega⟩
      · have : c = 5 := (congrArg Prod.fst hu).symm
        exact ⟨fun z => by omega, fun z => by omega⟩
    · split at hu
      · split at hu
        · have : c = 1 := (congrArg Prod.fst hu).symm
          exact ⟨fun z => by omega, fun z => by omega⟩
        · simp only [Prod.mk.injEq] at hu
          obtain ⟨h1, h2, h3, h4, h5⟩ := hu
          have := hilo_inj h3 h4
          exact ⟨fun z => by omega, fun z => by omega⟩
      · simp only [Prod.mk.injEq] at hu
        obtain ⟨h1, h2, h3, h4, h5⟩ := hu
        have := hilo_inj h3 h4
        exact ⟨fun z => by omega, fun z => by omega⟩
end
def packN (P : Nat) (emax : Int) (W E : Nat) (ex : Bool) (c : Int) (neg : Bool) (S : Nat) (q : Int) : Option Nat :=
  if c = 1 then some (makeN P W ex neg false 0 0)
  else if c = 4 then some (makeN P W ex neg true (2 ^ E - 1) 0)
  else if c = 5 then some (makeN P W ex false true (2 ^ E - 1) (2 ^ (P - 2)))
  else if c = 2 then (if S < 2 ^ (P - 1) then some (makeN P W ex neg false 0 S) else none)
  else if c = 3 then (if (2 ^ (P - 1) ≤ S ∧ S < 2 ^ P) ∧ 1 ≤ q + emax + P - 1 ∧ q + emax + P - 1 < ((2 ^ E - 1 : Nat) : Int) then some (makeN P W ex neg true (q + emax + P - 1).toNat (S % 2 ^ (P - 1))) else none)
  else none
def packR (P : Nat) (emin emax : Int) (W E : Nat) (ex : Bool) (c : Int) (neg : Bool) (S : Nat) (q : Int) : Nat × Bool :=
  match packN P emax W E ex c neg S q with
  | none => (0, false)
  | some w => if unpN P emin emax W E ex w = (c, neg, hiI S, loI S, q) then (w, true) else (0, false)
def eqb (u p : Prt) : Bool := (u.1 == p.1) && ((u.2.1 == p.2.1) && (((u.2.2.1 == p.2.2.1) && (u.2.2.2.1 == p.2.2.2.1)) && (u.2.2.2.2 == p.2.2.2.2)))
theorem eqb_iff (u p : Prt) : eqb u p = true ↔ u = p := by
  obtain ⟨a, b, c, d, e⟩ := u
  obtain ⟨a', b', c', d', e'⟩ := p
  simp [eqb, Prod.mk.injEq, and_assoc]
theorem packR_some {P : Nat} {emin emax : Int} {W E : Nat} {ex : Bool} {c : Int} {neg : Bool} {S : Nat} {q : Int} {w : Nat} (h : packN P emax W E ex c neg S q = some w) :
    packR P emin emax W E ex c neg S q = if unpN P emin emax W E ex w = (c, neg, hiI S, loI S, q) then (w, true) else (0, false) := by unfold packR; rw [h]
theorem packR_none {P : Nat} {emin emax : Int} {W E : Nat} {ex : Bool} {c : Int} {neg : Bool} {S : Nat} {q : Int} (h : packN P emax W E ex c neg S q = none) : packR P emin emax W E ex c neg S q = (0, false) := by unfold packR; rw [h]
theorem packR_of {P : Nat} {emin emax : Int} {W E : Nat} {ex : Bool} {c : Int} {neg : Bool} {S : Nat} {q : Int} {w : Nat} (h : packN P emax W E ex c neg S q = some w ∨ (packR P emin emax W E ex c neg S q = (0, false) ∧ unpN P emin emax W E ex w ≠ (c, neg, hiI S, loI S, q))) :
    packR P emin emax W E ex c neg S q = if unpN P emin emax W E ex w = (c, neg, hiI S, loI S, q) then (w, true) else (0, false) := by
  rcases h with h | ⟨h1, h2⟩
  · exact packR_some h
  · rw [h1, if_neg h2]
theorem wrap_flat (a b c : Int) : wrap64 (wrap64 (wrap64 a + b) - c) = wrap64 (a + b - c) := by
  unfold wrap64
  omega
theorem wrap_big (x : Int) (h : 9223372036854775808 ≤ x) (h2 : x ≤ 9223372036855775808) : wrap64 x < 0 := by
  unfold wrap64
  omega
theorem wrapE (q emax : Int) (P : Nat) (hq : -9223372036854775808 ≤ q ∧ q ≤ 9223372036854775807) (h0 : 0 ≤ emax) (h1 : emax ≤ 20000) (hP : P ≤ 113) (hP1 : 1 ≤ P) :
    IntKind.i64.wrap (IntKind.i64.wrap (IntKind.i64.wrap (q + emax) + (P : Int)) - 1) = q + emax + P - 1 ∨ (IntKind.i64.wrap (IntKind.i64.wrap (IntKind.i64.wrap (q + emax) + (P : Int)) - 1) < 1 ∧ 9223372036854775808 ≤ q + emax + P - 1) := by
  rw [i64_w, i64_w, i64_w, wrap_flat]
  by_cases h : q + emax + P - 1 ≤ 9223372036854775807
  · exact .inl (wrap64_id ⟨by omega, h⟩)
  · exact .inr ⟨Int.lt_of_lt_of_le (wrap_big _ (by omega) (by omega)) (by decide), by omega⟩
theorem bits_ex (x : Nat) : ∃ m, IsBits x m := by
  induction x using Nat.strongRecOn with
  | _ x ih =>
    by_cases h0 : x = 0
    · exact ⟨0, by rw [h0]; exact IsBits.zero⟩
    · obtain ⟨m, h1, h2⟩ := ih (x / 2) (by omega)
      refine ⟨m + 1, ?_, .inr ?_⟩
      · rw [Nat.pow_succ]; omega
      · rcases h2 with h2 | h2
        · subst h2; simp at h1 ⊢; omega
        · have hm : m ≠ 0 := by
            intro z; subst z; simp at h2 h1; omega
          have : 2 ^ m = 2 ^ (m - 1) * 2 := by rw [← Nat.pow_succ]; congr 1; omega
          simp only [Nat.add_sub_cancel]
          rw [this]
          omega
theorem bits_lt {x m k : Nat} (h : IsBits x m) : m ≤ k ↔ x < 2 ^ k := by
  constructor
  · intro hk
    exact Nat.lt_of_lt_of_le h.1 (Nat.pow_le_pow_right (by decide) hk)
  · intro hk
    exact h.le hk
def packU (P : Nat) (emax : Int) (E : Nat) (ex : Bool) (c : Int) (S : Nat) (q : Int) : Option Nat :=
  if c = 1 then some 0
  else if c = 2 then some S
  else if c = 3 then (if 1 ≤ q + emax + P - 1 ∧ q + emax + P - 1 < ((2 ^ E - 1 : Nat) : Int) then some (S % 2 ^ fracN P ex ||| (q + emax + P - 1).toNat * 2 ^ fracN P ex) else none)
  else if c = 4 then some (if ex = true then ((2 ^ E - 1) * 2 ^ fracN P ex ||| 2 ^ (P - 1)) else (2 ^ E - 1) * 2 ^ fracN P ex)
  else if c = 5 then some ((if ex = true then ((2 ^ E - 1) * 2 ^ fracN P ex ||| 2 ^ (P - 1)) else (2 ^ E - 1) * 2 ^ fracN P ex) ||| 2 ^ (P - 2))
  else some 0
theorem lor_add {a b i : Nat} (h : b < 2 ^ i) : b ||| a * 2 ^ i = b + a * 2 ^ i := by
  have := Nat.two_pow_add_eq_or_of_lt h a
  rw [Nat.mul_comm a, Nat.or_comm, ← this, Nat.add_comm]
theorem lor_add' {a b i : Nat} (h : b < 2 ^ i) : a * 2 ^ i ||| b = a * 2 ^ i + b := by rw [Nat.or_comm, lor_add h, Nat.add_comm]
theorem lor_top {b i : Nat} (h : b < 2 ^ i) : b ||| 2 ^ i = b + 2 ^ i := by
  have := lor_add (a := 1) h
  rwa [Nat.one_mul] at this
section
variable {P : Nat} {emin emax : Int} {W E : Nat} {ex : Bool}
theorem sign_make (h : Fmt P emin emax W E ex) (neg lead : Bool) (e r u : Nat) (he : e < 2 ^ E) (hr : r < 2 ^ (P - 1)) (hu : u = r + (if ex = true ∧ lead = true then 2 ^ (P - 1) else 0) + e * 2 ^ fracN P ex) :
    (if neg = true then u ||| 2 ^ (W - 1) else u) = makeN P W ex neg lead e r := by
  have hw1 := h.w1
  have h0 : makeN P W ex false lead e r = u := by rw [hu]; unfold makeN; rw [if_neg (show ¬ false = true by decide), Nat.add_zero]
  have hlt : u < 2 ^ (W - 1) := by
    have hl := makeN_lt h true lead e r he hr
    have h1 : makeN P W ex true lead e r = u + 2 ^ (W - 1) := by rw [hu]; unfold makeN; rw [if_pos rfl]
    rw [h1] at hl
    have h5 : 2 ^ W = 2 ^ (W - 1) * 2 := by rw [← Nat.pow_succ]; congr 1; omega
    omega
  cases neg with
  | true =>
    rw [if_pos rfl, lor_top hlt, hu]
    unfold makeN
    rw [if_pos rfl]
  | false => rw [if_neg (by decide), h0]
theorem packU_none (h : Fmt2 P emin emax W E ex) {c : Int} {neg : Bool} {S : Nat} {q : Int} (hu : packU P emax E ex c S q = none) : packR P emin emax W E ex c neg S q = (0, false) := by
  unfold packU at hu
  split at hu
  · cases hu
  · split at hu
    · cases hu
    · split at hu
      · rename_i h1 h2 h3
        split at hu
        · cases hu
        · rename_i h4
          refine packR_none ?_
          unfold packN
          rw [if_neg h1, if_neg (by omega), if_neg (by omega), if_neg h2, if_pos h3, if_neg (fun z => h4 z.2)]
      · split at hu
        · cases hu
        · split at hu
          · cases hu
          · cases hu
theorem packU_some (h : Fmt2 P emin emax W E ex) {c : Int} {neg : Bool} {S : Nat} {q : Int} {u : Nat} (hu : packU P emax E ex c S q = some u) :
    packR P emin emax W E ex c neg S q = if unpN P emin emax W E ex (if neg = true then u ||| 2 ^ (W - 1) else u) = (c, neg, hiI S, loI S, q) then ((if neg = true then u ||| 2 ^ (W - 1) else u), true) else (0, false) := by
  have h1 := h.toFmt
  have p3 := h.p3
  have e0 : 0 < 2 ^ E := Nat.pow_pos (by decide)
  have e1 : 2 ^ E - 1 < 2 ^ E := by omega
  have z0 : 0 < 2 ^ (P - 1) := Nat.pow_pos (by decide)
  have r2 : 2 ^ (P - 2) < 2 ^ (P - 1) := Nat.pow_lt_pow_right (by decide) (by omega)
  have hP : 2 ^ P = 2 ^ (P - 1) * 2 := by rw [← Nat.pow_succ]; congr 1; omega
  have hfr : 2 ^ (P - 1) ≤ 2 ^ fracN P ex := Nat.pow_le_pow_right (by decide) (by unfold fracN; split <;> omega)
  -- the sign bit alone
  have zero : ∀ n : Bool, unpN P emin emax W E ex (if n = true then 0 ||| 2 ^ (W - 1) else 0) = (1, n, 0, 0, 0) := by
    intro n
    rw [sign_make h1 n false 0 0 0 e0 z0 (by simp)]
    have := unp_make h1 n 0 0 e0 z0
    simp only [ne_eq, not_true, decide_false] at this
    rw [this]
    unfold partsOf
    have hE := h1.e0
    have : (2 : Nat) ≤ 2 ^ E := by
      have := Nat.pow_le_pow_right (n := 2) (by decide) hE
      simpa using this
    rw [if_neg (by omega), if_pos rfl, if_pos rfl]
  have tb : (if ex = true then ((2 ^ E - 1) * 2 ^ fracN P ex ||| 2 ^ (P - 1)) else (2 ^ E - 1) * 2 ^ fracN P ex) = (if ex = true ∧ true = true then 2 ^ (P - 1) else 0) + (2 ^ E - 1) * 2 ^ fracN P ex := by
    cases hex : ex with
    | true =>
      rw [if_pos rfl, if_pos ⟨rfl, rfl⟩, lor_add' (by unfold fracN; rw [if_pos rfl]; omega), Nat.add_comm]
    | false => rw [if_neg (by decide), if_neg (fun z => absurd z.1 (by decide)), Nat.zero_add]
  refine packR_of ?_
  unfold packU at hu
  by_cases c1 : c = 1
  · rw [if_pos c1] at hu
    cases hu
    exact .inl (by unfold packN; rw [if_pos c1, sign_make h1 neg false 0 0 0 e0 z0 (by simp)])
  rw [if_neg c1] at hu
  by_cases c2 : c = 2
  · rw [if_pos c2] at hu
    cases hu
    have hpk : packN P emax W E ex c neg S q = if S < 2 ^ (P - 1) then some (makeN P W ex neg false 0 S) else none := by unfold packN; rw [if_neg c1, if_neg (by omega), if_neg (by omega), if_pos c2]
    by_cases hS : S < 2 ^ (P - 1)
    · exact .inl (by rw [hpk, if_pos hS, sign_make h1 neg false 0 S S e0 hS (by simp)])
    · refine .inr ⟨packR_none (by rw [hpk, if_neg hS]), fun he => hS ((unp_sig h1 he).1 c2)⟩
  rw [if_neg c2] at hu
  by_cases c3 : c = 3
  · rw [if_pos c3] at hu
    have hpk : packN P emax W E ex c neg S q = if (2 ^ (P - 1) ≤ S ∧ S < 2 ^ P) ∧ 1 ≤ q + emax + P - 1 ∧ q + emax + P - 1 < ((2 ^ E - 1 : Nat) : Int) then some (makeN P W ex neg true (q + emax + P - 1).toNat (S % 2 ^ (P - 1))) else none := by unfold packN; rw [if_neg c1, if_neg (by omega), if_neg (by omega), if_neg c2, if_pos c3]
    split at hu
    · rename_i hr
      cases hu
      have he3 : (q + emax + P - 1).toNat < 2 ^ E := by omega
      by_cases hS : 2 ^ (P - 1) ≤ S ∧ S < 2 ^ P
      · refine .inl ?_
        rw [hpk, if_pos ⟨hS, hr⟩, sign_make h1 neg true _ (S % 2 ^ (P - 1)) _ he3 (Nat.mod_lt _ z0) ?_]
        rw [lor_add (Nat.mod_lt _ (Nat.pow_pos (by decide)))]
        congr 1
        cases hex : ex with
        | true =>
          have : fracN P true = P := rfl
          rw [this, if_pos ⟨rfl, rfl⟩, Nat.mod_eq_of_lt hS.2, Nat.mod_eq_sub_mod hS.1, Nat.mod_eq_of_lt (by omega)]
          omega
        | false =>
          have : fracN P false = P - 1 := rfl
          rw [this, if_neg (fun z => absurd z.1 (by decide)), Nat.add_zero]
      · exact .inr ⟨packR_none (by rw [hpk, if_neg (fun z => hS z.1)]), fun he => hS ((unp_sig h1 he).2 c3)⟩
    · cases hu
  rw [if_neg c3] at hu
  by_cases c4 : c = 4
  · rw [if_pos c4] at hu
    cases hu
    exact .inl (by unfold packN; rw [if_neg c1, if_pos c4, sign_make h1 neg true (2 ^ E - 1) 0 _ e1 z0 (by rw [tb, Nat.zero_add])])
  rw [if_neg c4] at hu
  by_cases c5 : c = 5
  · rw [if_pos c5] at hu
    injection hu with hu
    have hu2 : u = 2 ^ (P - 2) + (if ex = true ∧ true = true then 2 ^ (P - 1) else 0) + (2 ^ E - 1) * 2 ^ fracN P ex := by
      rw [← hu, tb]
      cases hex : ex with
      | true =>
        have hf : fracN P true = P := rfl
        rw [if_pos ⟨rfl, rfl⟩, hf]
        have e5 : 2 ^ (P - 1) + (2 ^ E - 1) * 2 ^ P = (1 + (2 ^ E - 1) * 2) * 2 ^ (P - 1) := by rw [hP, Nat.add_mul, Nat.one_mul, Nat.mul_comm (2 ^ (P - 1)) 2, Nat.mul_assoc]
        rw [Nat.add_assoc, e5, lor_add' r2, Nat.add_comm]
      | false =>
        rw [if_neg (fun z => absurd z.1 (by decide)), Nat.zero_add, Nat.add_zero, lor_add' (by have : fracN P false = P - 1 := rfl; rw [this]; exact r2), Nat.add_comm]
    have hm : (if neg = true then u ||| 2 ^ (W - 1) else u) = makeN P W ex neg true (2 ^ E - 1) (2 ^ (P - 2)) := sign_make h1 neg true _ _ _ e1 r2 hu2
    rw [hm]
    have hpk : packN P emax W E ex c neg S q = some (makeN P W ex false true (2 ^ E - 1) (2 ^ (P - 2))) := by unfold packN; rw [if_neg c1, if_neg c4, if_pos c5]
    have hE := h1.e0
    have hE2 : (2 : Nat) ≤ 2 ^ E := by
      have := Nat.pow_le_pow_right (n := 2) (by decide) hE
      simpa using this
    have hun : ∀ n, unpN P emin emax W E ex (makeN P W ex n true (2 ^ E - 1) (2 ^ (P - 2))) = (5, false, 0, 0, 0) := by
      intro n
      have := unp_make h1 n (2 ^ E - 1) (2 ^ (P - 2)) e1 r2
      have hd : decide (2 ^ E - 1 ≠ 0) = true := by simp; omega
      rw [hd] at this
      rw [this]
      unfold partsOf
      rw [if_pos rfl, if_neg (Nat.ne_of_gt (Nat.pow_pos (by decide)))]
    cases neg with
    | false => exact .inl hpk
    | true =>
      refine .inr ⟨?_, ?_⟩
      · rw [packR_some hpk, hun false, if_neg]
        intro z
        simp at z
      · rw [hun true]
        intro z
        simp at z
  rw [if_neg c5] at hu
  cases hu
  refine .inr ⟨packR_none (by unfold packN; rw [if_neg c1, if_neg c4, if_neg c5, if_neg c2, if_neg c3]), ?_⟩
  rw [zero neg]
  intro z
  exact c1 (congrArg Prod.fst z).symm
end
end Go.Proofs.YtdbnmdchecacdaaDoor.M
end
section
namespace Go.Proofs.YtdbnmdchecacdaaDoor.M
open Go.RowKit Go.Proofs.YtdbnmdchecacdaaDoor.G Go.Proofs.YtdbnmdchecacdaaDoorV.PrintWords Go.Proofs.YtdbnmdchecacdaaDoorV.PrintLast Go.Proofs.YtdbnmdchecacdaaDoorV.PrintMore Go.Proofs.YtdbnmdchecacdaaDoor.PL Go.Proofs.YtdbnmdchecacdaaDoor.X
set_option linter.unusedVariables false
set_option linter.unusedSimpArgs false
theorem ct_spec_Unpack {P : Nat} {emin emax : Int} {W E : Nat} {ex : Bool} (h : Fmt P emin emax W E ex) (f : Int) (hf : spec_Describe.f f = some ((P : Int), emin, emax, (W : Int), (E : Int), ex)) (x : Nat) (hx : x < B128) : CtV Tryd.prog 15 [.int .i64 f, .agg #[.int .u64 (hiI x), .int .u64 (loI x)]] [] (prtV (unpN P emin emax W E ex x)) := by
  obtain ⟨k, hk⟩ := (unpS_ev h f hf x hx).rounds
  exact ctV0 (fun w => spec_Unpack.calls k _ _ _ _ _ _ _ _ w hk)
theorem ct_impl_Unpack {P : Nat} {emin emax : Int} {W E : Nat} {ex : Bool} (h : Fmt P emin emax W E ex) (f : Int) (hf : impl_layoutOf.f f = some ((P : Int), emin, emax, (W : Int), (E : Int), ex, true)) (x : Nat) (hx : x < B128) : CtV Tryd.prog 17 [.int .i64 f, .agg #[.int .u64 (hiI x), .int .u64 (loI x)]] [Tabled] (prtV (unpN P emin emax W E ex x)) := by
  obtain ⟨k, hk⟩ := (unpI_ev h f hf x hx).rounds
  exact ctV1 (fun w h1 => impl_Unpack.calls k _ _ _ _ _ _ _ _ w h1 hk)
end Go.Proofs.YtdbnmdchecacdaaDoor.M
end
