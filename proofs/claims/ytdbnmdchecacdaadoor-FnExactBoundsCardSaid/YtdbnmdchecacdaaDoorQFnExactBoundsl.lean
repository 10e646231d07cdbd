import Derived.Test.YtdbnmdchecacdaaDoorQFnExactBoundsk
section
namespace Go.Proofs.YtdbnmdchecacdaaDoor.PB
open Go.RowKit Go.Proofs.YtdbnmdchecacdaaDoor.G Go.Proofs.YtdbnmdchecacdaaDoorV.PrintWords Go.Proofs.YtdbnmdchecacdaaDoorV.PrintLast Go.Proofs.YtdbnmdchecacdaaDoorV.PrintMore
attribute [local go_sem] max2_int min2_int max_two min_two max_three min_three max_four min_four run_Add64 run_Sub64 fld25_1
set_option linter.unusedVariables false
set_option linter.unusedSimpArgs false
attribute [local go_sem high] eqA25
mutual
def impl_Bounds.j0 : Nat → Bool → Int → Int → Int → Int → Int → Bool → Int → Bool → Int → Int → Int → Option (List Int × List Int × List Int × Bool × Bool)
 | 0, _, _, _, _, _, _, _, _, _, _, _, _ => none
 | k + 1, x28, x429000, x429001, x429002, x429003, x429004, x429005, x435000, x435001, x435002, x435003, x435004 => if x28 = true then (some (([] : List Int), ([] : List Int), ([] : List Int), false, false)) else ((impl_Word_nat.f x435002 x435003).bind fun t435 => ((impl_nat_left.f k t435 2).bind fun t438 => ((impl_word.f 2).bind fun t441 => ((impl_nat_add.f k t438 t441).bind fun t444 => ((impl_word.f 2).bind fun t447 => ((impl_nat_sub.f k t438 t447).bind fun t450 => (if x435000 = 3 then ((impl_one.f (wrap64 (x429000 - 1))).bind fun bt453 => (if (x435002 == bt453.1 && (x435003 == bt453.2)) = true then ((impl_layout_qMin.f x429000 x429001 x429002 x429003 x429004 x429005).bind fun t455 => (impl_Bounds.j1 k t438 t444 t450 (decide (x435004 > t455)) x435000 x435001 x435002 x435003 x435004)) else (impl_Bounds.j1 k t438 t444 t450 false x435000 x435001 x435002 x435003 x435004))) else (impl_Bounds.j1 k t438 t444 t450 false x435000 x435001 x435002 x435003 x435004))))))))
def impl_Bounds.j1 : Nat → List Int → List Int → List Int → Bool → Int → Bool → Int → Int → Int → Option (List Int × List Int × List Int × Bool × Bool)
 | 0, _, _, _, _, _, _, _, _, _ => none
 | k + 1, x8, x9, x10, x59, x435000, x435001, x435002, x435003, x435004 => if x59 = true then ((impl_word.f 1).bind fun t456 => ((impl_nat_sub.f k x8 t456).bind fun t459 => (impl_Bounds.j2 k x9 t459 x435000 x435001 x435002 x435003 x435004))) else (impl_Bounds.j2 k x9 x10 x435000 x435001 x435002 x435003 x435004)
def impl_Bounds.j2 : Nat → List Int → List Int → Int → Bool → Int → Int → Int → Option (List Int × List Int × List Int × Bool × Bool)
 | 0, _, _, _, _, _, _, _ => none
 | k + 1, x9, x10, x435000, x435001, x435002, x435003, x435004 => if (wrap64 (x435004 - 2)) ≥ 0 then ((impl_nat_left.f k x10 (wrap64 (x435004 - 2))).bind fun t463 => ((impl_nat_left.f k x9 (wrap64 (x435004 - 2))).bind fun t466 => ((impl_word.f 1).bind fun t469 => (some (t463, t466, t469, ((Go.bits .and .u64 x435003 1) == 0), true))))) else ((impl_word.f 1).bind fun t472 => ((impl_nat_left.f k t472 (wrap64 (-(wrap64 (x435004 - 2))))).bind fun t475 => (some (x10, x9, t475, ((Go.bits .and .u64 x435003 1) == 0), true))))
end
def impl_Bounds.f (k : Nat) (a0 : Int) (a1_0 : Int) (a1_1 : Int) : Option (List Int × List Int × List Int × Bool × Bool) := (impl_layoutOf.f a0).bind fun bt421 => ((impl_Unpack.f k a0 a1_0 a1_1).bind fun bt429 => (if bt429.1 = 2 then (impl_Bounds.j0 k false bt421.1 bt421.2.1 bt421.2.2.1 bt421.2.2.2.1 bt421.2.2.2.2.1 bt421.2.2.2.2.2.1 bt429.1 bt429.2.1 bt429.2.2.1 bt429.2.2.2.1 bt429.2.2.2.2) else (impl_Bounds.j0 k (bt429.1 != 3) bt421.1 bt421.2.1 bt421.2.2.1 bt421.2.2.2.1 bt421.2.2.2.2.1 bt421.2.2.2.2.2.1 bt429.1 bt429.2.1 bt429.2.2.1 bt429.2.2.2.1 bt429.2.2.2.2)))
def impl_Bounds.T7 : Bool × List (List Nat × List Nat) := (true, [([], []), ([0], [0]), ([1], [1]), ([2], [2]), ([3], [3]), ([4, 3], [3, 4]), ([3], [3]), ([6, 3], [3, 6]), ([7, 3], [3, 7]), ([8, 3], [3, 8]), ([9, 3, 3], [3, 9]), ([5, 10, 3], [3, 5, 10]), ([3, 11], [3, 11]), ([12, 10], [12]), ([13], [13]), ([14, 13], [13, 14]), ([13], [13]), ([16, 13, 13], [13, 16]), ([15, 17, 13], [13, 15, 17]), ([13, 18], [13, 18])])
def impl_Bounds.B7 : List Nat := [0, 1, 3, 7, 15, 31, 15, 79, 207, 463, 975, 2047, 4095, 8191, 16383, 32767, 16383, 81919, 262143, 524287]
theorem impl_Bounds.tab7 : rtab .any (opsOf Tryd.f26 7) = impl_Bounds.T7 := by kernel_rfl
theorem impl_Bounds.bits7 : waitsOk impl_Bounds.T7.2 impl_Bounds.B7 = true := by kernel_rfl
set_option maxHeartbeats 8000000 in
set_option maxRecDepth 100000 in
theorem impl_Bounds.calls (k : Nat) (a0 : Int) (a1_0 : Int) (a1_1 : Int) (r1 : List Int) (r2 : List Int) (r3 : List Int) (r4 : Bool) (r5 : Bool) (w : World) (hT : Tabled w) (h : impl_Bounds.f k a0 a1_0 a1_1 = some (r1, r2, r3, r4, r5)) :
  Calls Tryd.prog 26 #[.int .i64 a0, .agg #[.int .u64 a1_0, .int .u64 a1_1]] w fun e w' => ∃ v0_ v1_ v2_ : Value, e = .returned (.agg #[v0_, v1_, v2_, .bool r4, .bool r5]) ∧ Kd.R (Kd.int .u64) 22 w' w.heap.size (fun k_ => some k_ ≠ (v1_ : Value).ownBlock ∧ some k_ ≠ (v2_ : Value).ownBlock) v0_ r1 ∧ Kd.R (Kd.int .u64) 22 w' w.heap.size (fun k_ => some k_ ≠ (v0_ : Value).ownBlock ∧ some k_ ≠ (v2_ : Value).ownBlock) v1_ r2 ∧ Kd.R (Kd.int .u64) 22 w' w.heap.size (fun k_ => some k_ ≠ (v0_ : Value).ownBlock ∧ some k_ ≠ (v1_ : Value).ownBlock) v2_ r3 ∧ Below w.heap.size w w' := by
 have hu25 := Tryd.underlying25
 have hu43 := Tryd.underlying43
 have hu91 := Tryd.underlying91
 have hu27 := Tryd.underlying27
 have HTb_ := zM hT
 clear hT
 have HB := zM (Below.refl w.heap.size w)
 have H : ((impl_layoutOf.f a0).bind fun bt421 => ((impl_Unpack.f k a0 a1_0 a1_1).bind fun bt429 => (if bt429.1 = 2 then (impl_Bounds.j0 k false bt421.1 bt421.2.1 bt421.2.2.1 bt421.2.2.2.1 bt421.2.2.2.2.1 bt421.2.2.2.2.2.1 bt429.1 bt429.2.1 bt429.2.2.1 bt429.2.2.2.1 bt429.2.2.2.2) else (impl_Bounds.j0 k (bt429.1 != 3) bt421.1 bt421.2.1 bt421.2.2.1 bt421.2.2.2.1 bt421.2.2.2.2.1 bt421.2.2.2.2.2.1 bt429.1 bt429.2.1 bt429.2.2.1 bt429.2.2.2.1 bt429.2.2.2.2)))) = some (r1, r2, r3, r4, r5) := h
 clear h
 replace H := Option.bind_eq_some_iff.mp H
 obtain ⟨⟨t421, t422, t423, t424, t425, t426, t427⟩, A30, H⟩ := H
 replace H : ((impl_Unpack.f k a0 a1_0 a1_1).bind fun bt429 => (if bt429.1 = 2 then (impl_Bounds.j0 k false t421 t422 t423 t424 t425 t426 bt429.1 bt429.2.1 bt429.2.2.1 bt429.2.2.2.1 bt429.2.2.2.2) else (impl_Bounds.j0 k (bt429.1 != 3) t421 t422 t423 t424 t425 t426 bt429.1 bt429.2.1 bt429.2.2.1 bt429.2.2.2.1 bt429.2.2.2.2))) = some (r1, r2, r3, r4, r5) := H
 have A3 := zM A30
 clear A30
 replace H := Option.bind_eq_some_iff.mp H
 obtain ⟨⟨t429, t430, t431, t432, t433⟩, A40, H⟩ := H
 replace H : (if t429 = 2 then (impl_Bounds.j0 k false t421 t422 t423 t424 t425 t426 t429 t430 t431 t432 t433) else (impl_Bounds.j0 k (t429 != 3) t421 t422 t423 t424 t425 t426 t429 t430 t431 t432 t433)) = some (r1, r2, r3, r4, r5) := H
 have A4 := zM A40
 clear A40
 have HC5 := zM H
 clear H
 go_enter Tryd.func26, Tryd.ntmps26
 go_upto_region 3 with (first | ((with_reducible refine gate_dst (N := 3) rfl ?_); refine box_event ?hg (N := 3) ?hd (cs := #[.int .u64 a1_0, .int .u64 a1_1]) (t := 25) ?hr ?_; (case hd => rfl); (case hg => rfl); (case hr => first | (go_simp; done) | (go_simp; rfl)); intro gb419 hg w6 hbox hb; have n0_ := zM (below_step HB.out hb); have n1_ := zM (hbox); have n2_ := zM ((by rw [hg]; exact (below_size HB.out) : w.heap.size ≤ gb419)); have n3_ := zM ((by rw [hg]; exact (below_size HB.out) : w.heap.size ≤ gb419)); clear HB; have HB := n0_; have BK419 := n1_; have GW419 := n2_; have GE419 := n3_; clear n0_ n1_ n2_ n3_; clear hb hbox hg) | ((with_reducible refine gate_dst (N := 4) rfl ?_); refine box_event ?hg (N := 4) ?hd (cs := #[.slice none 0 0, .slice none 0 0, .slice none 0 0, .bool false, .bool false]) (t := 43) ?hr ?_; (case hd => rfl); (case hg => rfl); (case hr => first | (go_simp; done) | (go_simp; rfl)); intro gb420 hg w7 hbox hb; have n0_ := zM (blk_below BK419.out hb); have n1_ := zM (below_step HB.out hb); have n2_ := zM (hbox); have n3_ := zM ((by rw [hg]; exact (below_size HB.out) : w.heap.size ≤ gb420)); have n4_ := zM ((by rw [hg]; exact (below_size HB.out) : w.heap.size ≤ gb420)); have n5_ := zM ((by rw [hg]; exact Nat.ne_of_lt (blk_lt BK419.out) : gb419 ≠ gb420)); have n6_ := zM ((by rw [hg]; exact Nat.ne_of_gt (blk_lt BK419.out) : gb420 ≠ gb419)); clear BK419; clear HB; have BK419 := n0_; have HB := n1_; have BK420 := n2_; have GW420 := n3_; have GE420 := n4_; have NB419_420 := n5_; have NB420_419 := n6_; clear n0_ n1_ n2_ n3_ n4_ n5_ n6_; clear hb hbox hg) | ((with_reducible refine gate_callee (f := 65) rfl ?_); refine goesL_ (some 15) rfl rfl Tryd.func65 (by kernel_rfl) rfl #[.int .i64 a0] rfl (by first | rfl | (simp only [List.map_toArray, List.map_cons, List.map_nil, List.length_drop, List.length_take]; rfl)) ?_; (with_reducible refine (impl_layoutOf.calls a0 t421 t422 t423 t424 t425 t426 t427 _ ?side1 A3.out).mono ?_); (case side1 => exact tabled_below HTb_.out HB.out); rintro e w8 ⟨rfl, hb⟩; refine ⟨_, rfl, ?_⟩; have n0_ := zM (blk_below BK419.out hb); have n1_ := zM (blk_below BK420.out hb); have n2_ := zM (below_step HB.out hb); clear BK419; clear BK420; clear HB; have BK419 := n0_; have BK420 := n1_; have HB := n2_; clear n0_ n1_ n2_; (try clear hb); (try clear hb2); (try clear hk); (try clear hi)) | ((with_reducible refine gate_dst (N := 5) rfl ?_); refine box_event ?hg (N := 5) ?hd (cs := #[.int .i64 0, .int .i64 0, .int .i64 0, .int .i64 0, .int .i64 0, .bool false]) (t := 91) ?hr ?_; (case hd => rfl); (case hg => rfl); (case hr => first | (go_simp; done) | (go_simp; rfl)); intro gb428 hg w9 hbox hb; have n0_ := zM (blk_below BK419.out hb); have n1_ := zM (blk_below BK420.out hb); have n2_ := zM (below_step HB.out hb); have n3_ := zM (hbox); have n4_ := zM ((by rw [hg]; exact (below_size HB.out) : w.heap.size ≤ gb428)); have n5_ := zM ((by rw [hg]; exact (below_size HB.out) : w.heap.size ≤ gb428)); have n6_ := zM ((by rw [hg]; exact Nat.ne_of_lt (blk_lt BK419.out) : gb419 ≠ gb428)); have n7_ := zM ((by rw [hg]; exact Nat.ne_of_gt (blk_lt BK419.out) : gb428 ≠ gb419)); have n8_ := zM ((by rw [hg]; exact Nat.ne_of_lt (blk_lt BK420.out) : gb420 ≠ gb428)); have n9_ := zM ((by rw [hg]; exact Nat.ne_of_gt (blk_lt BK420.out) : gb428 ≠ gb420)); clear BK419; clear BK420; clear HB; have BK419 := n0_; have BK420 := n1_; have HB := n2_; have BK428 := n3_; have GW428 := n4_; have GE428 := n5_; have NB419_428 := n6_; have NB428_419 := n7_; have NB420_428 := n8_; have NB428_420 := n9_; clear n0_ n1_ n2_ n3_ n4_ n5_ n6_ n7_ n8_ n9_; clear hb hbox hg; have hnb10 := NB428_419.out; have hnc10 := NB419_428.out; have hnb11 := NB428_420.out; have hnc11 := NB420_428.out; have hcz12_0 : w9.cell? ⟨gb428, 0, none⟩ = some (.int .i64 0) := (blk_cell BK428.out 0).trans rfl; have hcz12_1 : w9.cell? ⟨gb428, 1, none⟩ = some (.int .i64 0) := (blk_cell BK428.out 1).trans rfl; have hcz12_2 : w9.cell? ⟨gb428, 2, none⟩ = some (.int .i64 0) := (blk_cell BK428.out 2).trans rfl; have hcz12_3 : w9.cell? ⟨gb428, 3, none⟩ = some (.int .i64 0) := (blk_cell BK428.out 3).trans rfl; have hcz12_4 : w9.cell? ⟨gb428, 4, none⟩ = some (.int .i64 0) := (blk_cell BK428.out 4).trans rfl; have hcz12_5 : w9.cell? ⟨gb428, 5, none⟩ = some (.bool false) := (blk_cell BK428.out 5).trans rfl; have hfz12_0 := blk_frozen BK428.out 0; have hfz12_1 := blk_frozen BK428.out 1; have hfz12_2 := blk_frozen BK428.out 2; have hfz12_3 := blk_frozen BK428.out 3; have hfz12_4 := blk_frozen BK428.out 4; have hfz12_5 := blk_frozen BK428.out 5; have hnb13 := NB419_420.out; have hnc13 := NB420_419.out; have hcz14_0 : w9.cell? ⟨gb419, 0, none⟩ = some (.int .u64 a1_0) := (blk_cell BK419.out 0).trans rfl; have hcz14_1 : w9.cell? ⟨gb419, 1, none⟩ = some (.int .u64 a1_1) := (blk_cell BK419.out 1).trans rfl; have hfz14_0 := blk_frozen BK419.out 0; have hfz14_1 := blk_frozen BK419.out 1) | ((with_reducible refine gate_callee (f := 17) rfl ?_); refine goesL_ (some 20) rfl rfl Tryd.func17 (by kernel_rfl) rfl #[.int .i64 a0, .agg #[.int .u64 a1_0, .int .u64 a1_1]] rfl (by first | rfl | (simp only [List.map_toArray, List.map_cons, List.map_nil, List.length_drop, List.length_take]; rfl)) ?_; (with_reducible refine (impl_Unpack.calls k a0 a1_0 a1_1 t429 t430 t431 t432 t433 _ ?side1 A4.out).mono ?_); (case side1 => exact tabled_below HTb_.out (by repeat (first | (with_reducible first | exact HB.out | apply yA | apply yN | apply yD | refine below_set ?_ GE419.out | refine below_set ?_ GE420.out | refine below_set ?_ GE428.out) | exact HB.out))); rintro e w15 ⟨rfl, hb⟩; refine ⟨_, rfl, ?_⟩; have n0_ := zM (blk_below (g := gb419) (o := .cells #[.int .u64 a1_0, .int .u64 a1_1] 25 (0, 0)) (by refine blk_far ?_ NB419_428.out _; refine blk_far ?_ NB419_428.out _; refine blk_far ?_ NB419_428.out _; refine blk_far ?_ NB419_428.out _; refine blk_far ?_ NB419_428.out _; refine blk_far ?_ NB419_428.out _; exact BK419.out) hb); have n1_ := zM (blk_below (g := gb420) (o := .cells #[.slice none 0 0, .slice none 0 0, .slice none 0 0, .bool false, .bool false] 43 (0, 0)) (by refine blk_far ?_ NB420_428.out _; refine blk_far ?_ NB420_428.out _; refine blk_far ?_ NB420_428.out _; refine blk_far ?_ NB420_428.out _; refine blk_far ?_ NB420_428.out _; refine blk_far ?_ NB420_428.out _; exact BK420.out) hb); have n2_ := zM (blk_below (g := gb428) (o := .cells #[.int .i64 t421, .int .i64 t422, .int .i64 t423, .int .i64 t424, .int .i64 t425, .bool t426] 91 (0, 0)) (by refine blk_put (cs := #[.int .i64 t421, .int .i64 t422, .int .i64 t423, .int .i64 t424, .int .i64 t425, .bool false]) ?_ 5 _ rfl; refine blk_put (cs := #[.int .i64 t421, .int .i64 t422, .int .i64 t423, .int .i64 t424, .int .i64 0, .bool false]) ?_ 4 _ rfl; refine blk_put (cs := #[.int .i64 t421, .int .i64 t422, .int .i64 t423, .int .i64 0, .int .i64 0, .bool false]) ?_ 3 _ rfl; refine blk_put (cs := #[.int .i64 t421, .int .i64 t422, .int .i64 0, .int .i64 0, .int .i64 0, .bool false]) ?_ 2 _ rfl; refine blk_put (cs := #[.int .i64 t421, .int .i64 0, .int .i64 0, .int .i64 0, .int .i64 0, .bool false]) ?_ 1 _ rfl; refine blk_put (cs := #[.int .i64 0, .int .i64 0, .int .i64 0, .int .i64 0, .int .i64 0, .bool false]) ?_ 0 _ rfl; exact BK428.out) hb); have n3_ := zM (below_step (by repeat (first | (with_reducible first | exact HB.out | apply yA | apply yN | apply yD | refine below_set ?_ GE419.out | refine below_set ?_ GE420.out | refine below_set ?_ GE428.out) | exact HB.out)) hb); clear BK419; clear BK420; clear BK428; clear HB; have BK419 := n0_; have BK420 := n1_; have BK428 := n2_; have HB := n3_; clear n0_ n1_ n2_ n3_; (try clear hb); (try clear hb2); (try clear hk); (try clear hi)) | ((with_reducible refine gate_dst (N := 7) rfl ?_); refine box_event ?hg (N := 7) ?hd (cs := #[.int .i64 0, .bool false, .int .u64 0, .int .u64 0, .int .i64 0]) (t := 27) ?hr ?_; (case hd => rfl); (case hg => rfl); (case hr => first | (go_simp; done) | (go_simp; rfl)); intro gb434 hg w16 hbox hb; have n0_ := zM (blk_below BK419.out hb); have n1_ := zM (blk_below BK420.out hb); have n2_ := zM (blk_below BK428.out hb); have n3_ := zM (below_step HB.out hb); have n4_ := zM (hbox); have n5_ := zM ((by rw [hg]; exact (below_size HB.out) : w.heap.size ≤ gb434)); have n6_ := zM ((by rw [hg]; exact (below_size HB.out) : w.heap.size ≤ gb434)); have n7_ := zM ((by rw [hg]; exact Nat.ne_of_lt (blk_lt BK419.out) : gb419 ≠ gb434)); have n8_ := zM ((by rw [hg]; exact Nat.ne_of_gt (blk_lt BK419.out) : gb434 ≠ gb419)); have n9_ := zM ((by rw [hg]; exact Nat.ne_of_lt (blk_lt BK420.out) : gb420 ≠ gb434)); have n10_ := zM ((by rw [hg]; exact Nat.ne_of_gt (blk_lt BK420.out) : gb434 ≠ gb420)); have n11_ := zM ((by rw [hg]; exact Nat.ne_of_lt (blk_lt BK428.out) : gb428 ≠ gb434)); have n12_ := zM ((by rw [hg]; exact Nat.ne_of_gt (blk_lt BK428.out) : gb434 ≠ gb428)); clear BK419; clear BK420; clear BK428; clear HB; have BK419 := n0_; have BK420 := n1_; have BK428 := n2_; have HB := n3_; have BK434 := n4_; have GW434 := n5_; have GE434 := n6_; have NB419_434 := n7_; have NB434_419 := n8_; have NB420_434 := n9_; have NB434_420 := n10_; have NB428_434 := n11_; have NB434_428 := n12_; clear n0_ n1_ n2_ n3_ n4_ n5_ n6_ n7_ n8_ n9_ n10_ n11_ n12_; clear hb hbox hg; have hnb17 := NB434_419.out; have hnc17 := NB419_434.out; have hnb18 := NB434_420.out; have hnc18 := NB420_434.out; have hnb19 := NB434_428.out; have hnc19 := NB428_434.out; have hcz20_0 : w16.cell? ⟨gb434, 0, none⟩ = some (.int .i64 0) := (blk_cell BK434.out 0).trans rfl; have hcz20_1 : w16.cell? ⟨gb434, 1, none⟩ = some (.bool false) := (blk_cell BK434.out 1).trans rfl; have hcz20_2 : w16.cell? ⟨gb434, 2, none⟩ = some (.int .u64 0) := (blk_cell BK434.out 2).trans rfl; have hcz20_3 : w16.cell? ⟨gb434, 3, none⟩ = some (.int .u64 0) := (blk_cell BK434.out 3).trans rfl; have hcz20_4 : w16.cell? ⟨gb434, 4, none⟩ = some (.int .i64 0) := (blk_cell BK434.out 4).trans rfl; have hfz20_0 := blk_frozen BK434.out 0; have hfz20_1 := blk_frozen BK434.out 1; have hfz20_2 := blk_frozen BK434.out 2; have hfz20_3 := blk_frozen BK434.out 3; have hfz20_4 := blk_frozen BK434.out 4))
 (try simp only [Act.put, xT, xZ, xS])
 go_cut [28] (fun v28 wc => ∃ (kq : Nat) (x28_4 : Bool), v28 = .bool x28_4 ∧ Aside0 (impl_Bounds.j0 kq x28_4 t421 t422 t423 t424 t425 t426 t429 t430 t431 t432 t433 = some (r1, r2, r3, r4, r5)) ∧ Aside0 (kq ≤ k) ∧ Aside0 (wc.heap[gb419]? = some (.cells #[.int .u64 a1_0, .int .u64 a1_1] 25 (0, 0))) ∧ Aside0 (wc.heap[gb420]? = some (.cells #[(.slice none 0 0), (.slice none 0 0), (.slice none 0 0), .bool false, .bool false] 43 (0, 0))) ∧ Aside0 (wc.heap[gb428]? = some (.cells #[.int .i64 t421, .int .i64 t422, .int .i64 t423, .int .i64 t424, .int .i64 t425, .bool t426] 91 (0, 0))) ∧ Aside0 (wc.heap[gb434]? = some (.cells #[.int .i64 t429, .bool t430, .int .u64 t431, .int .u64 t432, .int .i64 t433] 27 (0, 0))) ∧ Aside0 (Below w.heap.size w wc))
 case first =>
  have H := HC5.out
  clear HC5
  by_cases c21 : t429 = 2
  ·rw [if_pos c21] at H
   have c21b0 : (t429 == 2) = true := beq_iff_eq.mpr c21
   have c21b1 : (t429 != 2) = false := bne_eq_false_iff_eq.mpr c21
   clear c21
   (first | rw [c21b0] | (simp only [i64_w, i32_w]; rw [c21b0]) | rw [c21b1] | (simp only [c21b1]) | skip)
   have H' := zM H
   clear H
   have hnb22 := NB434_419.out
   have hnc22 := NB419_434.out
   have hnb23 := NB434_420.out
   have hnc23 := NB420_434.out
   have hnb24 := NB434_428.out
   have hnc24 := NB428_434.out
   have hcz25_0 : w16.cell? ⟨gb434, 0, none⟩ = some (.int .i64 0) := (blk_cell BK434.out 0).trans rfl
   have hcz25_1 : w16.cell? ⟨gb434, 1, none⟩ = some (.bool false) := (blk_cell BK434.out 1).trans rfl
   have hcz25_2 : w16.cell? ⟨gb434, 2, none⟩ = some (.int .u64 0) := (blk_cell BK434.out 2).trans rfl
   have hcz25_3 : w16.cell? ⟨gb434, 3, none⟩ = some (.int .u64 0) := (blk_cell BK434.out 3).trans rfl
   have hcz25_4 : w16.cell? ⟨gb434, 4, none⟩ = some (.int .i64 0) := (blk_cell BK434.out 4).trans rfl
   have hfz25_0 := blk_frozen BK434.out 0
   have hfz25_1 := blk_frozen BK434.out 1
   have hfz25_2 := blk_frozen BK434.out 2
   have hfz25_3 := blk_frozen BK434.out 3
   have hfz25_4 := blk_frozen BK434.out 4
   go_wp2
   go_meet
   case rel => exact ⟨_, (false), (by first | rfl | (simp; done) | (simp [*]; done)), H', ⟨by first | omega | exact Nat.le_refl _⟩, ⟨by refine blk_far ?_ NB419_434.out _; refine blk_far ?_ NB419_434.out _; refine blk_far ?_ NB419_434.out _; refine blk_far ?_ NB419_434.out _; refine blk_far ?_ NB419_434.out _; exact BK419.out⟩, ⟨by refine blk_far ?_ NB420_434.out _; refine blk_far ?_ NB420_434.out _; refine blk_far ?_ NB420_434.out _; refine blk_far ?_ NB420_434.out _; refine blk_far ?_ NB420_434.out _; exact BK420.out⟩, ⟨by refine blk_far ?_ NB428_434.out _; refine blk_far ?_ NB428_434.out _; refine blk_far ?_ NB428_434.out _; refine blk_far ?_ NB428_434.out _; refine blk_far ?_ NB428_434.out _; exact BK428.out⟩, ⟨by refine blk_put (cs := #[.int .i64 t429, .bool t430, .int .u64 t431, .int .u64 t432, .int .i64 0]) ?_ 4 _ rfl; refine blk_put (cs := #[.int .i64 t429, .bool t430, .int .u64 t431, .int .u64 0, .int .i64 0]) ?_ 3 _ rfl; refine blk_put (cs := #[.int .i64 t429, .bool t430, .int .u64 0, .int .u64 0, .int .i64 0]) ?_ 2 _ rfl; refine blk_put (cs := #[.int .i64 t429, .bool false, .int .u64 0, .int .u64 0, .int .i64 0]) ?_ 1 _ rfl; refine blk_put (cs := #[.int .i64 0, .bool false, .int .u64 0, .int .u64 0, .int .i64 0]) ?_ 0 _ rfl; exact BK434.out⟩, ⟨by repeat (first | (with_reducible first | exact HB.out | apply yA | apply yN | apply yD | refine below_set ?_ GE419.out | refine below_set ?_ GE420.out | refine below_set ?_ GE428.out | refine below_set ?_ GE434.out) | exact HB.out)⟩⟩
  ·rw [if_neg c21] at H
   have c21b0 : (t429 == 2) = false := beq_eq_false_iff_ne.mpr c21
   have c21b1 : (t429 != 2) = true := bne_iff_ne.mpr c21
   (first | rw [c21b0] | (simp only [i64_w, i32_w]; rw [c21b0]) | rw [c21b1] | (simp only [c21b1]) | skip)
   have H' := zM H
   clear H
   have hnb26 := NB434_419.out
   have hnc26 := NB419_434.out
   have hnb27 := NB434_420.out
   have hnc27 := NB420_434.out
   have hnb28 := NB434_428.out
   have hnc28 := NB428_434.out
   have hcz29_0 : w16.cell? ⟨gb434, 0, none⟩ = some (.int .i64 0) := (blk_cell BK434.out 0).trans rfl
   have hcz29_1 : w16.cell? ⟨gb434, 1, none⟩ = some (.bool false) := (blk_cell BK434.out 1).trans rfl
   have hcz29_2 : w16.cell? ⟨gb434, 2, none⟩ = some (.int .u64 0) := (blk_cell BK434.out 2).trans rfl
   have hcz29_3 : w16.cell? ⟨gb434, 3, none⟩ = some (.int .u64 0) := (blk_cell BK434.out 3).trans rfl
   have hcz29_4 : w16.cell? ⟨gb434, 4, none⟩ = some (.int .i64 0) := (blk_cell BK434.out 4).trans rfl
   have hfz29_0 := blk_frozen BK434.out 0
   have hfz29_1 := blk_frozen BK434.out 1
   have hfz29_2 := blk_frozen BK434.out 2
   have hfz29_3 := blk_frozen BK434.out 3
   have hfz29_4 := blk_frozen BK434.out 4
   go_wp2
   go_meet
   case rel => exact ⟨_, ((t429 != 3)), (by first | rfl | (simp; done) | (simp [*]; done)), H', ⟨by first | omega | exact Nat.le_refl _⟩, ⟨by refine blk_far ?_ NB419_434.out _; refine blk_far ?_ NB419_434.out _; refine blk_far ?_ NB419_434.out _; refine blk_far ?_ NB419_434.out _; refine blk_far ?_ NB419_434.out _; exact BK419.out⟩, ⟨by refine blk_far ?_ NB420_434.out _; refine blk_far ?_ NB420_434.out _; refine blk_far ?_ NB420_434.out _; refine blk_far ?_ NB420_434.out _; refine blk_far ?_ NB420_434.out _; exact BK420.out⟩, ⟨by refine blk_far ?_ NB428_434.out _; refine blk_far ?_ NB428_434.out _; refine blk_far ?_ NB428_434.out _; refine blk_far ?_ NB428_434.out _; refine blk_far ?_ NB428_434.out _; exact BK428.out⟩, ⟨by refine blk_put (cs := #[.int .i64 t429, .bool t430, .int .u64 t431, .int .u64 t432, .int .i64 0]) ?_ 4 _ rfl; refine blk_put (cs := #[.int .i64 t429, .bool t430, .int .u64 t431, .int .u64 0, .int .i64 0]) ?_ 3 _ rfl; refine blk_put (cs := #[.int .i64 t429, .bool t430, .int .u64 0, .int .u64 0, .int .i64 0]) ?_ 2 _ rfl; refine blk_put (cs := #[.int .i64 t429, .bool false, .int .u64 0, .int .u64 0, .int .i64 0]) ?_ 1 _ rfl; refine blk_put (cs := #[.int .i64 0, .bool false, .int .u64 0, .int .u64 0, .int .i64 0]) ?_ 0 _ rfl; exact BK434.out⟩, ⟨by repeat (first | (with_reducible first | exact HB.out | apply yA | apply yN | apply yD | refine below_set ?_ GE419.out | refine below_set ?_ GE420.out | refine below_set ?_ GE428.out | refine below_set ?_ GE434.out) | exact HB.out)⟩⟩
 case rest =>
  clear HC5
  obtain ⟨kq, x28_4, rfl, HA, HJ4, BK419, BK420, BK428, BK434, HB⟩ := hcut
  cases kq with
  | zero => exact absurd HA.out (by simp [impl_Bounds.j0])
  | succ kj4 =>
   have H := HA.out
   clear HA
   simp only [impl_Bounds.j0] at H
   by_cases c30 : x28_4 = true
   ·subst c30
    have H1 : (some (([] : List Int), ([] : List Int), ([] : List Int), false, false)) = some (r1, r2, r3, r4, r5) := by rw [if_pos rfl] at H; exact H
    clear H
    have H := H1
    clear H1
    simp only [Option.some.injEq, Prod.mk.injEq] at H
    obtain ⟨rfl, rfl, rfl, rfl, rfl⟩ := H
    have hnb31 := NB420_419.out
    have hnc31 := NB419_420.out
    have hnb32 := NB420_428.out
    have hnc32 := NB428_420.out
    have hnb33 := NB420_434.out
    have hnc33 := NB434_420.out
    have hcz34_0 : wc.cell? ⟨gb420, 0, none⟩ = some (.slice none 0 0) := (blk_cell BK420.out 0).trans rfl
    have hcz34_1 : wc.cell? ⟨gb420, 1, none⟩ = some (.slice none 0 0) := (blk_cell BK420.out 1).trans rfl
    have hcz34_2 : wc.cell? ⟨gb420, 2, none⟩ = some (.slice none 0 0) := (blk_cell BK420.out 2).trans rfl
    have hcz34_3 : wc.cell? ⟨gb420, 3, none⟩ = some (.bool false) := (blk_cell BK420.out 3).trans rfl
    have hcz34_4 : wc.cell? ⟨gb420, 4, none⟩ = some (.bool false) := (blk_cell BK420.out 4).trans rfl
    have hfz34_0 := blk_frozen BK420.out 0
    have hfz34_1 := blk_frozen BK420.out 1
    have hfz34_2 := blk_frozen BK420.out 2
    have hfz34_3 := blk_frozen BK420.out 3
    have hfz34_4 := blk_frozen BK420.out 4
    go_wp2
    refine bodyPost_ret (results_cell_row rfl _ _ gb420 43 #[.slice none 0 0, .slice none 0 0, .slice none 0 0, .bool false, .bool false] (0, 0) _ rfl (by refine blk_put (cs := #[.slice none 0 0, .slice none 0 0, .slice none 0 0, .bool false, .bool false]) ?_ 4 _ rfl; refine blk_put (cs := #[.slice none 0 0, .slice none 0 0, .slice none 0 0, .bool false, .bool false]) ?_ 3 _ rfl; refine blk_put (cs := #[.slice none 0 0, .slice none 0 0, .slice none 0 0, .bool false, .bool false]) ?_ 2 _ rfl; refine blk_put (cs := #[.slice none 0 0, .slice none 0 0, .slice none 0 0, .bool false, .bool false]) ?_ 1 _ rfl; refine blk_put (cs := #[.slice none 0 0, .slice none 0 0, .slice none 0 0, .bool false, .bool false]) ?_ 0 _ rfl; exact BK420.out) Tryd.underlying43 rfl (by kernel_rfl)) rfl ?_
    exact ⟨_, _, _, by first | rfl | (simp [errW_none, errW_some] <;> rfl) | (simp [*, errW_none, errW_some] <;> rfl), by first | exact Kd.R_nil _ _ _ _ _ | exact Kd.N_nil _ _ _ _ _ | exact Kd.V_nil _ _ _ _ _ | exact Kd.Q_nil _ _ _ _ _ | exact Kd.S_nil _ _ _ _ _, by first | exact Kd.R_nil _ _ _ _ _ | exact Kd.N_nil _ _ _ _ _ | exact Kd.V_nil _ _ _ _ _ | exact Kd.Q_nil _ _ _ _ _ | exact Kd.S_nil _ _ _ _ _, by first | exact Kd.R_nil _ _ _ _ _ | exact Kd.N_nil _ _ _ _ _ | exact Kd.V_nil _ _ _ _ _ | exact Kd.Q_nil _ _ _ _ _ | exact Kd.S_nil _ _ _ _ _, by repeat (first | (with_reducible first | exact HB.out | apply yA | apply yN | apply yD | refine below_set ?_ GE419.out | refine below_set ?_ GE420.out | refine below_set ?_ GE428.out | refine below_set ?_ GE434.out) | exact HB.out)⟩
   ·replace c30 := Bool.eq_false_iff.mpr c30
    subst c30
    have H1 : ((impl_Word_nat.f t431 t432).bind fun t435 => ((impl_nat_left.f kj4 t435 2).bind fun t438 => ((impl_word.f 2).bind fun t441 => ((impl_nat_add.f kj4 t438 t441).bind fun t444 => ((impl_word.f 2).bind fun t447 => ((impl_nat_sub.f kj4 t438 t447).bind fun t450 => (if t429 = 3 then ((impl_one.f (wrap64 (t421 - 1))).bind fun bt453 => (if (t431 == bt453.1 && (t432 == bt453.2)) = true then ((impl_layout_qMin.f t421 t422 t423 t424 t425 t426).bind fun t455 => (impl_Bounds.j1 kj4 t438 t444 t450 (decide (t433 > t455)) t429 t430 t431 t432 t433)) else (impl_Bounds.j1 kj4 t438 t444 t450 false t429 t430 t431 t432 t433))) else (impl_Bounds.j1 kj4 t438 t444 t450 false t429 t430 t431 t432 t433)))))))) = some (r1, r2, r3, r4, r5) := by rw [if_neg (show ¬ (false = true) by decide)] at H; exact H
    clear H
    have H := H1
    clear H1
    replace H := Option.bind_eq_some_iff.mp H
    obtain ⟨t435, A350, H⟩ := H
    replace H : ((impl_nat_left.f kj4 t435 2).bind fun t438 => ((impl_word.f 2).bind fun t441 => ((impl_nat_add.f kj4 t438 t441).bind fun t444 => ((impl_word.f 2).bind fun t447 => ((impl_nat_sub.f kj4 t438 t447).bind fun t450 => (if t429 = 3 then ((impl_one.f (wrap64 (t421 - 1))).bind fun bt453 => (if (t431 == bt453.1 && (t432 == bt453.2)) = true then ((impl_layout_qMin.f t421 t422 t423 t424 t425 t426).bind fun t455 => (impl_Bounds.j1 kj4 t438 t444 t450 (decide (t433 > t455)) t429 t430 t431 t432 t433)) else (impl_Bounds.j1 kj4 t438 t444 t450 false t429 t430 t431 t432 t433))) else (impl_Bounds.j1 kj4 t438 t444 t450 false t429 t430 t431 t432 t433))))))) = some (r1, r2, r3, r4, r5) := H
    have A35 := zM A350
    clear A350
    replace H := Option.bind_eq_some_iff.mp H
    obtain ⟨t438, A360, H⟩ := H
    replace H : ((impl_word.f 2).bind fun t441 => ((impl_nat_add.f kj4 t438 t441).bind fun t444 => ((impl_word.f 2).bind fun t447 => ((impl_nat_sub.f kj4 t438 t447).bind fun t450 => (if t429 = 3 then ((impl_one.f (wrap64 (t421 - 1))).bind fun bt453 => (if (t431 == bt453.1 && (t432 == bt453.2)) = true then ((impl_layout_qMin.f t421 t422 t423 t424 t425 t426).bind fun t455 => (impl_Bounds.j1 kj4 t438 t444 t450 (decide (t433 > t455)) t429 t430 t431 t432 t433)) else (impl_Bounds.j1 kj4 t438 t444 t450 false t429 t430 t431 t432 t433))) else (impl_Bounds.j1 kj4 t438 t444 t450 false t429 t430 t431 t432 t433)))))) = some (r1, r2, r3, r4, r5) := H
    have A36 := zM A360
    clear A360
    replace H := Option.bind_eq_some_iff.mp H
    obtain ⟨t441, A370, H⟩ := H
    replace H : ((impl_nat_add.f kj4 t438 t441).bind fun t444 => ((impl_word.f 2).bind fun t447 => ((impl_nat_sub.f kj4 t438 t447).bind fun t450 => (if t429 = 3 then ((impl_one.f (wrap64 (t421 - 1))).bind fun bt453 => (if (t431 == bt453.1 && (t432 == bt453.2)) = true then ((impl_layout_qMin.f t421 t422 t423 t424 t425 t426).bind fun t455 => (impl_Bounds.j1 kj4 t438 t444 t450 (decide (t433 > t455)) t429 t430 t431 t432 t433)) else (impl_Bounds.j1 kj4 t438 t444 t450 false t429 t430 t431 t432 t433))) else (impl_Bounds.j1 kj4 t438 t444 t450 false t429 t430 t431 t432 t433))))) = some (r1, r2, r3, r4, r5) := H
    have A37 := zM A370
    clear A370
    replace H := Option.bind_eq_some_iff.mp H
    obtain ⟨t444, A380, H⟩ := H
    replace H : ((impl_word.f 2).bind fun t447 => ((impl_nat_sub.f kj4 t438 t447).bind fun t450 => (if t429 = 3 then ((impl_one.f (wrap64 (t421 - 1))).bind fun bt453 => (if (t431 == bt453.1 && (t432 == bt453.2)) = true then ((impl_layout_qMin.f t421 t422 t423 t424 t425 t426).bind fun t455 => (impl_Bounds.j1 kj4 t438 t444 t450 (decide (t433 > t455)) t429 t430 t431 t432 t433)) else (impl_Bounds.j1 kj4 t438 t444 t450 false t429 t430 t431 t432 t433))) else (impl_Bounds.j1 kj4 t438 t444 t450 false t429 t430 t431 t432 t433)))) = some (r1, r2, r3, r4, r5) := H
    have A38 := zM A380
    clear A380
    replace H := Option.bind_eq_some_iff.mp H
    obtain ⟨t447, A390, H⟩ := H
    replace H : ((impl_nat_sub.f kj4 t438 t447).bind fun t450 => (if t429 = 3 then ((impl_one.f (wrap64 (t421 - 1))).bind fun bt453 => (if (t431 == bt453.1 && (t432 == bt453.2)) = true then ((impl_layout_qMin.f t421 t422 t423 t424 t425 t426).bind fun t455 => (impl_Bounds.j1 kj4 t438 t444 t450 (decide (t433 > t455)) t429 t430 t431 t432 t433)) else (impl_Bounds.j1 kj4 t438 t444 t450 false t429 t430 t431 t432 t433))) else (impl_Bounds.j1 kj4 t438 t444 t450 false t429 t430 t431 t432 t433))) = some (r1, r2, r3, r4, r5) := H
    have A39 := zM A390
    clear A390
    replace H := Option.bind_eq_some_iff.mp H
    obtain ⟨t450, A400, H⟩ := H
    replace H : (if t429 = 3 then ((impl_one.f (wrap64 (t421 - 1))).bind fun bt453 => (if (t431 == bt453.1 && (t432 == bt453.2)) = true then ((impl_layout_qMin.f t421 t422 t423 t424 t425 t426).bind fun t455 => (impl_Bounds.j1 kj4 t438 t444 t450 (decide (t433 > t455)) t429 t430 t431 t432 t433)) else (impl_Bounds.j1 kj4 t438 t444 t450 false t429 t430 t431 t432 t433))) else (impl_Bounds.j1 kj4 t438 t444 t450 false t429 t430 t431 t432 t433)) = some (r1, r2, r3, r4, r5) := H
    have A40 := zM A400
    clear A400
    have HC41 := zM H
    clear H
    have hnb42 := NB434_419.out
    have hnc42 := NB419_434.out
    have hnb43 := NB434_420.out
    have hnc43 := NB420_434.out
    have hnb44 := NB434_428.out
    have hnc44 := NB428_434.out
    have hcz45_0 : wc.cell? ⟨gb434, 0, none⟩ = some (.int .i64 t429) := (blk_cell BK434.out 0).trans rfl
    have hcz45_1 : wc.cell? ⟨gb434, 1, none⟩ = some (.bool t430) := (blk_cell BK434.out 1).trans rfl
    have hcz45_2 : wc.cell? ⟨gb434, 2, none⟩ = some (.int .u64 t431) := (blk_cell BK434.out 2).trans rfl
    have hcz45_3 : wc.cell? ⟨gb434, 3, none⟩ = some (.int .u64 t432) := (blk_cell BK434.out 3).trans rfl
    have hcz45_4 : wc.cell? ⟨gb434, 4, none⟩ = some (.int .i64 t433) := (blk_cell BK434.out 4).trans rfl
    have hfz45_0 := blk_frozen BK434.out 0
    have hfz45_1 := blk_frozen BK434.out 1
    have hfz45_2 := blk_frozen BK434.out 2
    have hfz45_3 := blk_frozen BK434.out 3
    have hfz45_4 := blk_frozen BK434.out 4
    go_upto_region 7 with (first | ((with_reducible refine gate_callee (f := 76) rfl ?_); refine goesL_ (some 32) rfl rfl Tryd.func76 (by kernel_rfl) rfl #[.agg #[.int .u64 t431, .int .u64 t432]] rfl (by first | rfl | (simp only [List.map_toArray, List.map_cons, List.map_nil, List.length_drop, List.length_take]; rfl)) ?_; (with_reducible refine (impl_Word_nat.calls t431 t432 t435 _ A35.out).mono ?_); rintro e w46 ⟨v436, rfl, ho0, hb⟩; refine ⟨_, rfl, ?_⟩; have n0_ := zM (Kd.R_lower ho0 (below_size HB.out)); have n1_ := zM (blk_below BK419.out hb); have n2_ := zM (blk_below BK420.out hb); have n3_ := zM (blk_below BK428.out hb); have n4_ := zM (blk_below BK434.out hb); have n5_ := zM (below_step HB.out hb); clear BK419; clear BK420; clear BK428; clear BK434; clear HB; have HO437 := n0_; have BK419 := n1_; have BK420 := n2_; have BK428 := n3_; have BK434 := n4_; have HB := n5_; clear n0_ n1_ n2_ n3_ n4_ n5_; (try clear hb); (try clear hb2); (try clear hk); (try clear hi); (try clear ho0); obtain ⟨Ao47, co47, eo47⟩ := Kd.R_slice HO437.out; subst eo47) | ((with_reducible refine gate_callee (f := 83) rfl ?_); refine goesL_ (some 33) rfl rfl Tryd.func83 (by kernel_rfl) rfl #[.slice Ao47 t435.length co47, .int .i64 2] rfl (by first | rfl | (simp only [List.map_toArray, List.map_cons, List.map_nil, List.length_drop, List.length_take]; rfl)) ?_; (with_reducible refine (impl_nat_left.calls kj4 _ _ t435 2 t438 _ ?side1 ?side2 A36.out).mono ?_); (case side1 => repeat (first | exact (Kd.R_reads' HO437.out).2.2 | (with_reducible refine Kd.C_alloc ?_ _) | (with_reducible refine Kd.C_drewN ?_ _) | (with_reducible refine Kd.C_drew ?_))); (case side2 => exact (Kd.R_reads' HO437.out).2.1); rintro e w48 ⟨v439, rfl, ho0, hb⟩; refine ⟨_, rfl, ?_⟩; have n0_ := zM (Kd.R_elder' (by exact HO437.out) (Kd.R_base ho0) hb); have n1_ := zM (Kd.R_lower (Kd.R_new' ho0 (Kd.R_lt (by exact HO437.out))) (below_size HB.out)); have n2_ := zM (blk_below BK419.out hb); have n3_ := zM (blk_below BK420.out hb); have n4_ := zM (blk_below BK428.out hb); have n5_ := zM (blk_below BK434.out hb); have n6_ := zM (below_step HB.out hb); clear HO437; clear BK419; clear BK420; clear BK428; clear BK434; clear HB; have HO437 := n0_; have HO440 := n1_; have BK419 := n2_; have BK420 := n3_; have BK428 := n4_; have BK434 := n5_; have HB := n6_; clear n0_ n1_ n2_ n3_ n4_ n5_ n6_; (try clear hb); (try clear hb2); (try clear hk); (try clear hi); (try clear ho0)) | ((with_reducible refine gate_callee (f := 85) rfl ?_); refine goesL_ (some 35) rfl rfl Tryd.func85 (by kernel_rfl) rfl #[.int .u64 2] rfl (by first | rfl | (simp only [List.map_toArray, List.map_cons, List.map_nil, List.length_drop, List.length_take]; rfl)) ?_; (with_reducible refine (impl_word.calls 2 t441 _ A37.out).mono ?_); rintro e w49 ⟨v442, rfl, ho0, hb⟩; refine ⟨_, rfl, ?_⟩; have n0_ := zM (Kd.R_elder' (by exact HO437.out) (Kd.R_base ho0) hb); have n1_ := zM (Kd.R_elder' (by exact HO440.out) (Kd.R_base ho0) hb); have n2_ := zM (Kd.R_lower (Kd.R_new' (Kd.R_new' ho0 (Kd.R_lt (by exact HO437.out))) (Kd.R_lt (by exact HO440.out))) (below_size HB.out)); have n3_ := zM (blk_below BK419.out hb); have n4_ := zM (blk_below BK420.out hb); have n5_ := zM (blk_below BK428.out hb); have n6_ := zM (blk_below BK434.out hb); have n7_ := zM (below_step HB.out hb); clear HO437; clear HO440; clear BK419; clear BK420; clear BK428; clear BK434; clear HB; have HO437 := n0_; have HO440 := n1_; have HO443 := n2_; have BK419 := n3_; have BK420 := n4_; have BK428 := n5_; have BK434 := n6_; have HB := n7_; clear n0_ n1_ n2_ n3_ n4_ n5_ n6_ n7_; (try clear hb); (try clear hb2); (try clear hk); (try clear hi); (try clear ho0); obtain ⟨Ao50, co50, eo50⟩ := Kd.R_slice HO440.out; subst eo50; obtain ⟨Ao51, co51, eo51⟩ := Kd.R_slice HO443.out; subst eo51) | ((with_reducible refine gate_callee (f := 84) rfl ?_); refine goesL_ (some 36) rfl rfl Tryd.func84 (by kernel_rfl) rfl #[.slice Ao50 t438.length co50, .slice Ao51 t441.length co51] rfl (by first | rfl | (simp only [List.map_toArray, List.map_cons, List.map_nil, List.length_drop, List.length_take]; rfl)) ?_; (with_reducible refine (impl_nat_add.calls kj4 (fun k_ => some k_ = (.slice Ao50 t438.length co50 : Value).ownBlock) _ _ t438 (fun k_ => some k_ = (.slice Ao51 t441.length co51 : Value).ownBlock) _ _ t441 t444 _ ?side1 ?side2 A38.out).mono ?_); (case side1 => exact Kd.R_V (Kd.R_tight rfl (Kd.R_types (Kd.R_types (Kd.R_types (Kd.R_types (HO440.out) BK419.out (by decide)) BK420.out (by decide)) BK428.out (by decide)) BK434.out (by decide)))); (case side2 => exact Kd.R_V (Kd.R_tight rfl (Kd.R_types (Kd.R_types (Kd.R_types (Kd.R_types (HO443.out) BK419.out (by decide)) BK420.out (by decide)) BK428.out (by decide)) BK434.out (by decide)))); rintro e w52 ⟨v445, rfl, ho0, hb⟩; refine ⟨_, rfl, ?_⟩; have n0_ := zM (Kd.R_elder' (by exact HO437.out) (Kd.R_base ho0) hb); have n1_ := zM (Kd.R_elder' (by exact HO440.out) (Kd.R_base ho0) hb); have n2_ := zM (Kd.R_elder' (by exact HO443.out) (Kd.R_base ho0) hb); have n3_ := zM (Kd.R_lower (Kd.R_new' (Kd.R_new' (Kd.R_new' (Kd.R_mono (ok' := fun k_ => True) ho0 (fun _ hk_ => trivial)) (Kd.R_lt (by exact HO437.out))) (Kd.R_lt (by exact HO440.out))) (Kd.R_lt (by exact HO443.out))) (below_size HB.out)); have n4_ := zM (blk_below BK419.out hb); have n5_ := zM (blk_below BK420.out hb); have n6_ := zM (blk_below BK428.out hb); have n7_ := zM (blk_below BK434.out hb); have n8_ := zM (below_step HB.out hb); clear HO437; clear HO440; clear HO443; clear BK419; clear BK420; clear BK428; clear BK434; clear HB; have HO437 := n0_; have HO440 := n1_; have HO443 := n2_; have HO446 := n3_; have BK419 := n4_; have BK420 := n5_; have BK428 := n6_; have BK434 := n7_; have HB := n8_; clear n0_ n1_ n2_ n3_ n4_ n5_ n6_ n7_ n8_; (try clear hb); (try clear hb2); (try clear hk); (try clear hi); (try clear ho0)) | ((with_reducible refine gate_callee (f := 85) rfl ?_); refine goesL_ (some 38) rfl rfl Tryd.func85 (by kernel_rfl) rfl #[.int .u64 2] rfl (by first | rfl | (simp only [List.map_toArray, List.map_cons, List.map_nil, List.length_drop, List.length_take]; rfl)) ?_; (with_reducible refine (impl_word.calls 2 t447 _ A39.out).mono ?_); rintro e w53 ⟨v448, rfl, ho0, hb⟩; refine ⟨_, rfl, ?_⟩; have n0_ := zM (Kd.R_elder' (by exact HO437.out) (Kd.R_base ho0) hb); have n1_ := zM (Kd.R_elder' (by exact HO440.out) (Kd.R_base ho0) hb); have n2_ := zM (Kd.R_elder' (by exact HO443.out) (Kd.R_base ho0) hb); have n3_ := zM (Kd.R_elder' (by exact HO446.out) (Kd.R_base ho0) hb); have n4_ := zM (Kd.R_lower (Kd.R_new' (Kd.R_new' (Kd.R_new' (Kd.R_new' ho0 (Kd.R_lt (by exact HO437.out))) (Kd.R_lt (by exact HO440.out))) (Kd.R_lt (by exact HO443.out))) (Kd.R_lt (by exact HO446.out))) (below_size HB.out)); have n5_ := zM (blk_below BK419.out hb); have n6_ := zM (blk_below BK420.out hb); have n7_ := zM (blk_below BK428.out hb); have n8_ := zM (blk_below BK434.out hb); have n9_ := zM (below_step HB.out hb); clear HO437; clear HO440; clear HO443; clear HO446; clear BK419; clear BK420; clear BK428; clear BK434; clear HB; have HO437 := n0_; have HO440 := n1_; have HO443 := n2_; have HO446 := n3_; have HO449 := n4_; have BK419 := n5_; have BK420 := n6_; have BK428 := n7_; have BK434 := n8_; have HB := n9_; clear n0_ n1_ n2_ n3_ n4_ n5_ n6_ n7_ n8_ n9_; (try clear hb); (try clear hb2); (try clear hk); (try clear hi); (try clear ho0); obtain ⟨Ao54, co54, eo54⟩ := Kd.R_slice HO449.out; subst eo54) | ((with_reducible refine gate_callee (f := 86) rfl ?_); refine goesL_ (some 39) rfl rfl Tryd.func86 (by kernel_rfl) rfl #[.slice Ao50 t438.length co50, .slice Ao54 t447.length co54] rfl (by first | rfl | (simp only [List.map_toArray, List.map_cons, List.map_nil, List.length_drop, List.length_take]; rfl)) ?_; (with_reducible refine (impl_nat_sub.calls kj4 _ _ t438 _ _ t447 t450 _ ?side1 ?side2 ?side3 ?side4 A40.out).mono ?_); (case side1 => repeat (first | exact (Kd.R_reads' HO440.out).2.2 | (with_reducible refine Kd.C_alloc ?_ _) | (with_reducible refine Kd.C_drewN ?_ _) | (with_reducible refine Kd.C_drew ?_))); (case side2 => exact (Kd.R_reads' HO440.out).2.1); (case side3 => repeat (first | exact (Kd.R_reads' HO449.out).2.2 | (with_reducible refine Kd.C_alloc ?_ _) | (with_reducible refine Kd.C_drewN ?_ _) | (with_reducible refine Kd.C_drew ?_))); (case side4 => exact (Kd.R_reads' HO449.out).2.1); rintro e w55 ⟨v451, rfl, ho0, hb⟩; refine ⟨_, rfl, ?_⟩; have n0_ := zM (Kd.R_elder' (by exact HO437.out) (Kd.R_base ho0) hb); have n1_ := zM (Kd.R_elder' (by exact HO440.out) (Kd.R_base ho0) hb); have n2_ := zM (Kd.R_elder' (by exact HO443.out) (Kd.R_base ho0) hb); have n3_ := zM (Kd.R_elder' (by exact HO446.out) (Kd.R_base ho0) hb); have n4_ := zM (Kd.R_elder' (by exact HO449.out) (Kd.R_base ho0) hb); have n5_ := zM (Kd.R_lower (Kd.R_new' (Kd.R_new' (Kd.R_new' (Kd.R_new' (Kd.R_new' ho0 (Kd.R_lt (by exact HO437.out))) (Kd.R_lt (by exact HO440.out))) (Kd.R_lt (by exact HO443.out))) (Kd.R_lt (by exact HO446.out))) (Kd.R_lt (by exact HO449.out))) (below_size HB.out)); have n6_ := zM (blk_below BK419.out hb); have n7_ := zM (blk_below BK420.out hb); have n8_ := zM (blk_below BK428.out hb); have n9_ := zM (blk_below BK434.out hb); have n10_ := zM (below_step HB.out hb); clear HO437; clear HO440; clear HO443; clear HO446; clear HO449; clear BK419; clear BK420; clear BK428; clear BK434; clear HB; have HO437 := n0_; have HO440 := n1_; have HO443 := n2_; have HO446 := n3_; have HO449 := n4_; have HO452 := n5_; have BK419 := n6_; have BK420 := n7_; have BK428 := n8_; have BK434 := n9_; have HB := n10_; clear n0_ n1_ n2_ n3_ n4_ n5_ n6_ n7_ n8_ n9_ n10_; (try clear hb); (try clear hb2); (try clear hk); (try clear hi); (try clear ho0)))
    (try simp only [Act.put, xT, xZ, xS])
    go_cut [59] (fun v59 wc => ∃ (kq : Nat) (x59_40 : Bool), v59 = .bool x59_40 ∧ Aside0 (impl_Bounds.j1 kq t438 t444 t450 x59_40 t429 t430 t431 t432 t433 = some (r1, r2, r3, r4, r5)) ∧ Aside0 (kq ≤ kj4) ∧ Aside0 (Kd.R (Kd.int .u64) 22 wc w.heap.size (fun k_ => some k_ ≠ (v445 : Value).ownBlock ∧ some k_ ≠ (v451 : Value).ownBlock) (.slice Ao50 t438.length co50) t438) ∧ Aside0 (Kd.R (Kd.int .u64) 22 wc w.heap.size (fun k_ => some k_ ≠ ((.slice Ao50 t438.length co50) : Value).ownBlock ∧ some k_ ≠ (v451 : Value).ownBlock) v445 t444) ∧ Aside0 (Kd.R (Kd.int .u64) 22 wc w.heap.size (fun k_ => some k_ ≠ ((.slice Ao50 t438.length co50) : Value).ownBlock ∧ some k_ ≠ (v445 : Value).ownBlock) v451 t450) ∧ Aside0 (wc.heap[gb419]? = some (.cells #[.int .u64 a1_0, .int .u64 a1_1] 25 (0, 0))) ∧ Aside0 (wc.heap[gb420]? = some (.cells #[(.slice none 0 0), (.slice none 0 0), (.slice none 0 0), .bool false, .bool false] 43 (0, 0))) ∧ Aside0 (wc.heap[gb428]? = some (.cells #[.int .i64 t421, .int .i64 t422, .int .i64 t423, .int .i64 t424, .int .i64 t425, .bool t426] 91 (0, 0))) ∧ Aside0 (wc.heap[gb434]? = some (.cells #[.int .i64 t429, .bool t430, .int .u64 t431, .int .u64 t432, .int .i64 t433] 27 (0, 0))) ∧ Aside0 (Below w.heap.size w wc))
    case first =>
     have H := HC41.out
     clear HC41
     by_cases c56 : t429 = 3
     ·rw [if_pos c56] at H
      have c56b0 : (t429 == 3) = true := beq_iff_eq.mpr c56
      have c56b1 : (t429 != 3) = false := bne_eq_false_iff_eq.mpr c56
      clear c56
      (first | rw [c56b0] | (simp only [i64_w, i32_w]; rw [c56b0]) | rw [c56b1] | (simp only [c56b1]) | skip)
      replace H := Option.bind_eq_some_iff.mp H
      obtain ⟨⟨t453, t454⟩, A570, H⟩ := H
      replace H : (if (t431 == t453 && (t432 == t454)) = true then ((impl_layout_qMin.f t421 t422 t423 t424 t425 t426).bind fun t455 => (impl_Bounds.j1 kj4 t438 t444 t450 (decide (t433 > t455)) t429 t430 t431 t432 t433)) else (impl_Bounds.j1 kj4 t438 t444 t450 false t429 t430 t431 t432 t433)) = some (r1, r2, r3, r4, r5) := H
      have A57 := zM A570
      clear A570
      by_cases c58 : (t431 == t453 && (t432 == t454)) = true
      ·rw [if_pos c58] at H
       have c58b0 : (t431 == t453 && (t432 == t454)) = true := c58
       (try (have c58b1 : decide (t431 = t453 && (t432 == t454)) = true := by simpa using c58))
       (try (have c58b2 : (t431 == t453 && (t432 == t454)) = true := by simpa using c58))
       clear c58
       replace H := Option.bind_eq_some_iff.mp H
       obtain ⟨t455, A590, H⟩ := H
       replace H : (impl_Bounds.j1 kj4 t438 t444 t450 (decide (t433 > t455)) t429 t430 t431 t432 t433) = some (r1, r2, r3, r4, r5) := H
       have A59 := zM A590
       clear A590
       have H' := zM H
       clear H
       try go_wp2
       have n0_ := zM (Kd.R_drew HO437.out)
       have n1_ := zM (Kd.R_drew HO440.out)
       have n2_ := zM (Kd.R_drew HO443.out)
       have n3_ := zM (Kd.R_drew HO446.out)
       have n4_ := zM (Kd.R_drew HO449.out)
       have n5_ := zM (Kd.R_drew HO452.out)
       have n6_ := zM (zD BK419.out)
       have n7_ := zM (zD BK420.out)
       have n8_ := zM (zD BK428.out)
       have n9_ := zM (zD BK434.out)
       have n10_ := zM (yD HB.out)
       clear HO437
       clear HO440
       clear HO443
       clear HO446
       clear HO449
       clear HO452
       clear BK419
       clear BK420
       clear BK428
       clear BK434
       clear HB
       have HO437 := n0_
       have HO440 := n1_
       have HO443 := n2_
       have HO446 := n3_
       have HO449 := n4_
       have HO452 := n5_
       have BK419 := n6_
       have BK420 := n7_
       have BK428 := n8_
       have BK434 := n9_
       have HB := n10_
       clear n0_ n1_ n2_ n3_ n4_ n5_ n6_ n7_ n8_ n9_ n10_
       refine start_ (n := 20) (S := fun w' => w'.cell? ⟨gb434, 0, none⟩ = some (.int .i64 t429) ∧ w'.cell? ⟨gb434, 1, none⟩ = some (.bool t430) ∧ w'.cell? ⟨gb434, 2, none⟩ = some (.int .u64 t431) ∧ w'.cell? ⟨gb434, 3, none⟩ = some (.int .u64 t432) ∧ w'.cell? ⟨gb434, 4, none⟩ = some (.int .i64 t433) ∧ w'.cell? ⟨gb428, 0, none⟩ = some (.int .i64 t421) ∧ w'.cell? ⟨gb428, 1, none⟩ = some (.int .i64 t422) ∧ w'.cell? ⟨gb428, 2, none⟩ = some (.int .i64 t423) ∧ w'.cell? ⟨gb428, 3, none⟩ = some (.int .i64 t424) ∧ w'.cell? ⟨gb428, 4, none⟩ = some (.int .i64 t425) ∧ w'.cell? ⟨gb428, 5, none⟩ = some (.bool t426)) (ds := []) #[false, false, false, false, false, false, false, false, false, false, false, false, false, false, false, false, false, false, false, false] (by kernel_rfl) rfl rfl ⟨(blk_cell BK434.out 0).trans rfl, (blk_cell BK434.out 1).trans rfl, (blk_cell BK434.out 2).trans rfl, (blk_cell BK434.out 3).trans rfl, (blk_cell BK434.out 4).trans rfl, (blk_cell BK428.out 0).trans rfl, (blk_cell BK428.out 1).trans rfl, (blk_cell BK428.out 2).trans rfl, (blk_cell BK428.out 3).trans rfl, (blk_cell BK428.out 4).trans rfl, (blk_cell BK428.out 5).trans rfl⟩ (fun hHeld => ?_); refine with_tabW impl_Bounds.tab7 impl_Bounds.bits7 (fun HT_ HW_ => ?_)
       generalize w55.drew = w60 at HO437 HO440 HO443 HO446 HO449 HO452 BK419 BK420 BK428 BK434 HB hHeld ⊢
       refine pure_ (i := 0) (N := some 40) (v := ?_) (a' := ?_) #[true, false, false, false, false, false, false, false, false, false, false, false, false, false, false, false, false, false, false, false] rfl rfl (any_of HT_.out (by kernel_rfl)) (fun _ _ _ h => h) (Or.inl ⟨by rfl, ?_⟩) ?_ ?_
       rotate_left
       ·intro w'
        go_simp
        with_reducible rfl
       rotate_left
       ·simp only [Act.put, xT, xZ, xS, i64_w, i32_w]
        rfl
       refine take_ (i := 1) (N := some 41) (v := ?_) (a' := ?_) #[true, true, false, false, false, false, false, false, false, false, false, false, false, false, false, false, false, false, false, false] rfl rfl (take_ofW HT_.out HW_.out (by kernel_rfl)) (fun _ _ _ h => h) (Or.inl ⟨by rfl, ?_⟩) hHeld ?_ ?_
       rotate_left
       ·rintro w' ⟨s0, s1, s2, s3, s4, s5, s6, s7, s8, s9, s10⟩
        go_simp
        with_reducible rfl
       rotate_left
       ·simp only [Act.put, xT, xZ, xS, i64_w, i32_w]
        rfl
       refine pure_ (i := 2) (N := some 42) (v := ?_) (a' := ?_) #[true, true, true, false, false, false, false, false, false, false, false, false, false, false, false, false, false, false, false, false] rfl rfl (any_of HT_.out (by kernel_rfl)) (fun _ _ _ h => h) (Or.inl ⟨by rfl, ?_⟩) ?_ ?_
       rotate_left
       ·intro w'
        go_simp
        with_reducible rfl
       rotate_left
       ·simp only [Act.put, xT, xZ, xS, i64_w, i32_w]
        rfl
       refine pure_ (i := 3) (N := some 43) (v := ?_) (a' := ?_) #[true, true, true, true, false, false, false, false, false, false, false, false, false, false, false, false, false, false, false, false] rfl rfl (any_of HT_.out (by kernel_rfl)) (fun _ _ _ h => h) (Or.inl ⟨by rfl, ?_⟩) ?_ ?_
       rotate_left
       ·intro w'
        go_simp
        with_reducible rfl
       rotate_left
       ·simp only [Act.put, xT, xZ, xS, i64_w, i32_w]
        rfl
       refine pure_ (i := 4) (N := some 44) (v := ?_) (a' := ?_) #[true, true, true, true, true, false, false, false, false, false, false, false, false, false, false, false, false, false, false, false] rfl rfl (any_of HT_.out (by kernel_rfl)) (fun _ _ _ h => h) (Or.inl ⟨by rfl, ?_⟩) ?_ ?_
       rotate_left
       ·intro w'
        go_simp
        with_reducible rfl
       rotate_left
       ·simp only [Act.put, xT, xZ, xS, i64_w, i32_w]
        rfl
       refine pure_ (i := 6) (N := some 46) (v := ?_) (a' := ?_) #[true, true, true, true, true, false, true, false, false, false, false, false, false, false, false, false, false, false, false, false] rfl rfl (any_of HT_.out (by kernel_rfl)) (fun _ _ _ h => h) (Or.inl ⟨by rfl, ?_⟩) ?_ ?_
       rotate_left
       ·intro w'
        go_simp
        with_reducible rfl
       rotate_left
       ·simp only [Act.put, xT, xZ, xS, i64_w, i32_w]
        rfl
       refine pure_ (i := 7) (N := some 47) (v := ?_) (a' := ?_) #[true, true, true, true, true, false, true, true, false, false, false, false, false, false, false, false, false, false, false, false] rfl rfl (any_of HT_.out (by kernel_rfl)) (fun _ _ _ h => h) (Or.inl ⟨by rfl, ?_⟩) ?_ ?_
       rotate_left
       ·intro w'
        go_simp
        with_reducible rfl
       rotate_left
       ·simp only [Act.put, xT, xZ, xS, i64_w, i32_w]
        rfl
       refine take_ (i := 5) (N := some 45) (v := ?_) (a' := ?_) #[true, true, true, true, true, true, true, true, false, false, false, false, false, false, false, false, false, false, false, false] rfl rfl (take_ofW HT_.out HW_.out (by kernel_rfl)) (fun _ _ _ h => h) (Or.inl ⟨by rfl, ?_⟩) hHeld ?_ ?_
       rotate_left
       ·rintro w' ⟨s0, s1, s2, s3, s4, s5, s6, s7, s8, s9, s10⟩
        go_simp
        with_reducible rfl
       rotate_left
       ·simp only [Act.put, xT, xZ, xS, i64_w, i32_w]
        rfl
       refine take_ (i := 8) (N := some 48) (v := ?_) (a' := ?_) #[true, true, true, true, true, true, true, true, true, false, false, false, false, false, false, false, false, false, false, false] rfl rfl (take_ofW HT_.out HW_.out (by kernel_rfl)) (fun _ _ _ h => h) (Or.inl ⟨by rfl, ?_⟩) hHeld ?_ ?_
       rotate_left
       ·rintro w' ⟨s0, s1, s2, s3, s4, s5, s6, s7, s8, s9, s10⟩
        go_simp
        with_reducible rfl
       rotate_left
       ·simp only [Act.put, xT, xZ, xS, i64_w, i32_w]
        rfl
       refine pure_ (i := 9) (N := some 49) (v := ?_) (a' := ?_) #[true, true, true, true, true, true, true, true, true, true, false, false, false, false, false, false, false, false, false, false] rfl rfl (any_of HT_.out (by kernel_rfl)) (fun _ _ _ h => h) (Or.inl ⟨by rfl, ?_⟩) ?_ ?_
       rotate_left
       ·intro w'
        go_simp
        with_reducible rfl
       rotate_left
       ·simp only [Act.put, xT, xZ, xS, i64_w, i32_w]
        rfl
       refine one_ (i := 10) (N := some 50) #[true, true, true, true, true, true, true, true, true, true, true, false, false, false, false, false, false, false, false, false] rfl rfl (one_of HT_.out (by kernel_rfl)) (by decide) (fun K hK => ?_)
       refine goes_ Tryd.func72 (by kernel_rfl) rfl #[.int .i64 (wrap64 (t421 - 1))] (by rfl) rfl rfl (by first | rfl | (simp only [List.map_toArray, List.map_cons, List.map_nil, List.length_drop, List.length_take]; rfl)) ?_
       with_reducible refine (impl_one.calls (wrap64 (t421 - 1)) t453 t454 _ A57.out).mono ?_
       rintro e w61 ⟨rfl, hb⟩
       refine ⟨_, rfl, ?_⟩
       have n0_ := zM (Kd.R_below (by exact HO437.out) hb)
       have n1_ := zM (Kd.R_below (by exact HO440.out) hb)
       have n2_ := zM (Kd.R_below (by exact HO443.out) hb)
       have n3_ := zM (Kd.R_below (by exact HO446.out) hb)
       have n4_ := zM (Kd.R_below (by exact HO449.out) hb)
       have n5_ := zM (Kd.R_below (by exact HO452.out) hb)
       have n6_ := zM (blk_below BK419.out hb)
       have n7_ := zM (blk_below BK420.out hb)
       have n8_ := zM (blk_below BK428.out hb)
       have n9_ := zM (blk_below BK434.out hb)
       have n10_ := zM (below_step HB.out hb)
       clear HO437
       clear HO440
       clear HO443
       clear HO446
       clear HO449
       clear HO452
       clear BK419
       clear BK420
       clear BK428
       clear BK434
       clear HB
       have HO437 := n0_
       have HO440 := n1_
       have HO443 := n2_
       have HO446 := n3_
       have HO449 := n4_
       have HO452 := n5_
       have BK419 := n6_
       have BK420 := n7_
       have BK428 := n8_
       have BK434 := n9_
       have HB := n10_
       clear n0_ n1_ n2_ n3_ n4_ n5_ n6_ n7_ n8_ n9_ n10_
       try clear hb; try clear hb2; try clear hk; try clear hi
       refine hK.out _ _ ⟨(blk_cell BK434.out 0).trans rfl, (blk_cell BK434.out 1).trans rfl, (blk_cell BK434.out 2).trans rfl, (blk_cell BK434.out 3).trans rfl, (blk_cell BK434.out 4).trans rfl, (blk_cell BK428.out 0).trans rfl, (blk_cell BK428.out 1).trans rfl, (blk_cell BK428.out 2).trans rfl, (blk_cell BK428.out 3).trans rfl, (blk_cell BK428.out 4).trans rfl, (blk_cell BK428.out 5).trans rfl⟩ (fun hHeld => ?_)
       clear hK K
       refine norm_ (a' := ?_) ?_ ?_
       rotate_left
       ·show Act.put _ (some 50) _ = _
        simp only [Act.put, xT, xZ, xS, i64_w, i32_w]
        rfl
       refine pure_ (i := 11) (N := some 51) (v := ?_) (a' := ?_) #[true, true, true, true, true, true, true, true, true, true, true, true, false, false, false, false, false, false, false, false] rfl rfl (any_of HT_.out (by kernel_rfl)) (fun _ _ _ h => h) (Or.inl ⟨by rfl, ?_⟩) ?_ ?_
       rotate_left
       ·intro w'
        go_simp
        with_reducible rfl
       rotate_left
       ·simp only [Act.put, xT, xZ, xS, i64_w, i32_w]
        rfl
       refine pure_ (i := 12) (N := some 52) (v := ?_) (a' := ?_) #[true, true, true, true, true, true, true, true, true, true, true, true, true, false, false, false, false, false, false, false] rfl rfl (any_of HT_.out (by kernel_rfl)) (fun _ _ _ h => h) (Or.inl ⟨by rfl, ?_⟩) ?_ ?_
       rotate_left
       ·intro w'
        go_simp
        with_reducible rfl
       rotate_left
       ·simp only [Act.put, xT, xZ, xS, i64_w, i32_w]
        rfl
       refine pure_ (i := 13) (N := some 53) (v := ?_) (a' := ?_) #[true, true, true, true, true, true, true, true, true, true, true, true, true, true, false, false, false, false, false, false] rfl rfl (any_of HT_.out (by kernel_rfl)) (fun _ _ _ h => h) (Or.inl ⟨by rfl, ?_⟩) ?_ ?_
       rotate_left
       ·intro w'
        go_simp
        with_reducible rfl
       rotate_left
       ·simp only [Act.put, xT, xZ, xS, i64_w, i32_w]
        rfl
       refine pure_ (i := 14) (N := some 54) (v := ?_) (a' := ?_) #[true, true, true, true, true, true, true, true, true, true, true, true, true, true, true, false, false, false, false, false] rfl rfl (any_of HT_.out (by kernel_rfl)) (fun _ _ _ h => h) (Or.inl ⟨by rfl, ?_⟩) ?_ ?_
       rotate_left
       ·intro w'
        go_simp
        with_reducible rfl
       rotate_left
       ·simp only [Act.put, xT, xZ, xS, i64_w, i32_w]
        rfl
       refine take_ (i := 15) (N := some 55) (v := ?_) (a' := ?_) #[true, true, true, true, true, true, true, true, true, true, true, true, true, true, true, true, false, false, false, false] rfl rfl (take_ofW HT_.out HW_.out (by kernel_rfl)) (fun _ _ _ h => h) (Or.inl ⟨by rfl, ?_⟩) hHeld ?_ ?_
       rotate_left
       ·rintro w' ⟨s0, s1, s2, s3, s4, s5, s6, s7, s8, s9, s10⟩
        go_simp
        with_reducible rfl
       rotate_left
       ·simp only [Act.put, xT, xZ, xS, i64_w, i32_w]
        rfl
       refine take_ (i := 16) (N := some 56) (v := ?_) (a' := ?_) #[true, true, true, true, true, true, true, true, true, true, true, true, true, true, true, true, true, false, false, false] rfl rfl (take_ofW HT_.out HW_.out (by kernel_rfl)) (fun _ _ _ h => h) (Or.inl ⟨by rfl, ?_⟩) hHeld ?_ ?_
       rotate_left
       ·rintro w' ⟨s0, s1, s2, s3, s4, s5, s6, s7, s8, s9, s10⟩
        go_simp
        with_reducible rfl
       rotate_left
       ·simp only [Act.put, xT, xZ, xS, i64_w, i32_w]
        rfl
       refine one_ (i := 17) (N := some 57) #[true, true, true, true, true, true, true, true, true, true, true, true, true, true, true, true, true, true, false, false] rfl rfl (one_of HT_.out (by kernel_rfl)) (by decide) (fun K hK => ?_)
       refine goes_ Tryd.func70 (by kernel_rfl) rfl #[.agg #[.int .i64 t421, .int .i64 t422, .int .i64 t423, .int .i64 t424, .int .i64 t425, .bool t426]] (by rfl) rfl rfl (by first | rfl | (simp only [List.map_toArray, List.map_cons, List.map_nil, List.length_drop, List.length_take]; rfl)) ?_
       with_reducible refine (impl_layout_qMin.calls t421 t422 t423 t424 t425 t426 t455 _ A59.out).mono ?_
       rintro e w62 ⟨rfl, hb⟩
       refine ⟨_, rfl, ?_⟩
       have n0_ := zM (Kd.R_below (by exact HO437.out) hb)
       have n1_ := zM (Kd.R_below (by exact HO440.out) hb)
       have n2_ := zM (Kd.R_below (by exact HO443.out) hb)
       have n3_ := zM (Kd.R_below (by exact HO446.out) hb)
       have n4_ := zM (Kd.R_below (by exact HO449.out) hb)
       have n5_ := zM (Kd.R_below (by exact HO452.out) hb)
       have n6_ := zM (blk_below BK419.out hb)
       have n7_ := zM (blk_below BK420.out hb)
       have n8_ := zM (blk_below BK428.out hb)
       have n9_ := zM (blk_below BK434.out hb)
       have n10_ := zM (below_step HB.out hb)
       clear HO437
       clear HO440
       clear HO443
       clear HO446
       clear HO449
       clear HO452
       clear BK419
       clear BK420
       clear BK428
       clear BK434
       clear HB
       have HO437 := n0_
       have HO440 := n1_
       have HO443 := n2_
       have HO446 := n3_
       have HO449 := n4_
       have HO452 := n5_
       have BK419 := n6_
       have BK420 := n7_
       have BK428 := n8_
       have BK434 := n9_
       have HB := n10_
       clear n0_ n1_ n2_ n3_ n4_ n5_ n6_ n7_ n8_ n9_ n10_
       try clear hb; try clear hb2; try clear hk; try clear hi
       refine hK.out _ _ ⟨(blk_cell BK434.out 0).trans rfl, (blk_cell BK434.out 1).trans rfl, (blk_cell BK434.out 2).trans rfl, (blk_cell BK434.out 3).trans rfl, (blk_cell BK434.out 4).trans rfl, (blk_cell BK428.out 0).trans rfl, (blk_cell BK428.out 1).trans rfl, (blk_cell BK428.out 2).trans rfl, (blk_cell BK428.out 3).trans rfl, (blk_cell BK428.out 4).trans rfl, (blk_cell BK428.out 5).trans rfl⟩ (fun hHeld => ?_)
       clear hK K
       refine norm_ (a' := ?_) ?_ ?_
       rotate_left
       ·show Act.put _ (some 57) _ = _
        simp only [Act.put, xT, xZ, xS, i64_w, i32_w]
        rfl
       refine pure_ (i := 18) (N := some 58) (v := ?_) (a' := ?_) #[true, true, true, true, true, true, true, true, true, true, true, true, true, true, true, true, true, true, true, false] rfl rfl (any_of HT_.out (by kernel_rfl)) (fun _ _ _ h => h) (Or.inl ⟨by rfl, ?_⟩) ?_ ?_
       rotate_left
       ·intro w'
        go_simp
        with_reducible rfl
       rotate_left
       ·simp only [Act.put, xT, xZ, xS, i64_w, i32_w]
        rfl
       refine pure_ (i := 19) (N := some 59) (v := ?_) (a' := ?_) #[true, true, true, true, true, true, true, true, true, true, true, true, true, true, true, true, true, true, true, true] rfl rfl (any_of HT_.out (by kernel_rfl)) (fun _ _ _ h => h) (Or.inl ⟨by rfl, ?_⟩) ?_ ?_
       rotate_left
       ·intro w'
        go_simp
        with_reducible rfl
       rotate_left
       ·simp only [Act.put, xT, xZ, xS, i64_w, i32_w]
        rfl
       refine done_ (done_of HT_.out (by kernel_rfl)) ?_
       try go_wp2
       go_meet
       case rel => exact ⟨_, (decide (t433 > t455)), (by first | rfl | (simp; done) | (simp [*]; done)), H', ⟨by have := HJ4.out; first | omega | exact Nat.le_refl _⟩, ⟨by exact Kd.R_mono HO440.out (fun _ hk => ⟨hk.1.1.2, hk.2⟩)⟩, ⟨by exact Kd.R_mono HO446.out (fun _ hk => ⟨hk.1.1.1.2, hk.2⟩)⟩, ⟨by exact Kd.R_mono HO452.out (fun _ hk => ⟨hk.1.1.1.2, hk.1.2⟩)⟩, ⟨by exact BK419.out⟩, ⟨by exact BK420.out⟩, ⟨by exact BK428.out⟩, ⟨by exact BK434.out⟩, ⟨by repeat (first | (with_reducible first | exact HB.out | apply yA | apply yN | apply yD | refine below_set ?_ GE419.out | refine below_set ?_ GE420.out | refine below_set ?_ GE428.out | refine below_set ?_ GE434.out) | exact HB.out)⟩⟩
      ·rw [if_neg c58] at H
       have c58b0 : (t431 == t453 && (t432 == t454)) = false := by simpa using c58
       (try (have c58b1 : decide (t431 = t453 && (t432 == t454)) = false := by simpa using c58))
       (try (have c58b2 : (t431 == t453 && (t432 == t454)) = false := by simpa using c58))
       (try (have c58b3 : ¬ (t431 = t453 && (t432 == t454)) := by simpa using c58))
       clear c58
       have H' := zM H
       clear H
       try go_wp2
       have n0_ := zM (Kd.R_drew HO437.out)
       have n1_ := zM (Kd.R_drew HO440.out)
       have n2_ := zM (Kd.R_drew HO443.out)
       have n3_ := zM (Kd.R_drew HO446.out)
       have n4_ := zM (Kd.R_drew HO449.out)
       have n5_ := zM (Kd.R_drew HO452.out)
       have n6_ := zM (zD BK419.out)
       have n7_ := zM (zD BK420.out)
       have n8_ := zM (zD BK428.out)
       have n9_ := zM (zD BK434.out)
       have n10_ := zM (yD HB.out)
       clear HO437
       clear HO440
       clear HO443
       clear HO446
       clear HO449
       clear HO452
       clear BK419
       clear BK420
       clear BK428
       clear BK434
       clear HB
       have HO437 := n0_
       have HO440 := n1_
       have HO443 := n2_
       have HO446 := n3_
       have HO449 := n4_
       have HO452 := n5_
       have BK419 := n6_
       have BK420 := n7_
       have BK428 := n8_
       have BK434 := n9_
       have HB := n10_
       clear n0_ n1_ n2_ n3_ n4_ n5_ n6_ n7_ n8_ n9_ n10_
       refine start_ (n := 20) (S := fun w' => w'.cell? ⟨gb434, 0, none⟩ = some (.int .i64 t429) ∧ w'.cell? ⟨gb434, 1, none⟩ = some (.bool t430) ∧ w'.cell? ⟨gb434, 2, none⟩ = some (.int .u64 t431) ∧ w'.cell? ⟨gb434, 3, none⟩ = some (.int .u64 t432) ∧ w'.cell? ⟨gb434, 4, none⟩ = some (.int .i64 t433) ∧ w'.cell? ⟨gb428, 0, none⟩ = some (.int .i64 t421) ∧ w'.cell? ⟨gb428, 1, none⟩ = some (.int .i64 t422) ∧ w'.cell? ⟨gb428, 2, none⟩ = some (.int .i64 t423) ∧ w'.cell? ⟨gb428, 3, none⟩ = some (.int .i64 t424) ∧ w'.cell? ⟨gb428, 4, none⟩ = some (.int .i64 t425) ∧ w'.cell? ⟨gb428, 5, none⟩ = some (.bool t426)) (ds := []) #[false, false, false, false, false, false, false, false, false, false, false, false, false, false, false, false, false, false, false, false] (by kernel_rfl) rfl rfl ⟨(blk_cell BK434.out 0).trans rfl, (blk_cell BK434.out 1).trans rfl, (blk_cell BK434.out 2).trans rfl, (blk_cell BK434.out 3).trans rfl, (blk_cell BK434.out 4).trans rfl, (blk_cell BK428.out 0).trans rfl, (blk_cell BK428.out 1).trans rfl, (blk_cell BK428.out 2).trans rfl, (blk_cell BK428.out 3).trans rfl, (blk_cell BK428.out 4).trans rfl, (blk_cell BK428.out 5).trans rfl⟩ (fun hHeld => ?_); refine with_tabW impl_Bounds.tab7 impl_Bounds.bits7 (fun HT_ HW_ => ?_)
       generalize w55.drew = w63 at HO437 HO440 HO443 HO446 HO449 HO452 BK419 BK420 BK428 BK434 HB hHeld ⊢
       refine pure_ (i := 0) (N := some 40) (v := ?_) (a' := ?_) #[true, false, false, false, false, false, false, false, false, false, false, false, false, false, false, false, false, false, false, false] rfl rfl (any_of HT_.out (by kernel_rfl)) (fun _ _ _ h => h) (Or.inl ⟨by rfl, ?_⟩) ?_ ?_
       rotate_left
       ·intro w'
        go_simp
        with_reducible rfl
       rotate_left
       ·simp only [Act.put, xT, xZ, xS, i64_w, i32_w]
        rfl
       refine take_ (i := 1) (N := some 41) (v := ?_) (a' := ?_) #[true, true, false, false, false, false, false, false, false, false, false, false, false, false, false, false, false, false, false, false] rfl rfl (take_ofW HT_.out HW_.out (by kernel_rfl)) (fun _ _ _ h => h) (Or.inl ⟨by rfl, ?_⟩) hHeld ?_ ?_
       rotate_left
       ·rintro w' ⟨s0, s1, s2, s3, s4, s5, s6, s7, s8, s9, s10⟩
        go_simp
        with_reducible rfl
       rotate_left
       ·simp only [Act.put, xT, xZ, xS, i64_w, i32_w]
        rfl
       refine pure_ (i := 2) (N := some 42) (v := ?_) (a' := ?_) #[true, true, true, false, false, false, false, false, false, false, false, false, false, false, false, false, false, false, false, false] rfl rfl (any_of HT_.out (by kernel_rfl)) (fun _ _ _ h => h) (Or.inl ⟨by rfl, ?_⟩) ?_ ?_
       rotate_left
       ·intro w'
        go_simp
        with_reducible rfl
       rotate_left
       ·simp only [Act.put, xT, xZ, xS, i64_w, i32_w]
        rfl
       refine pure_ (i := 3) (N := some 43) (v := ?_) (a' := ?_) #[true, true, true, true, false, false, false, false, false, false, false, false, false, false, false, false, false, false, false, false] rfl rfl (any_of HT_.out (by kernel_rfl)) (fun _ _ _ h => h) (Or.inl ⟨by rfl, ?_⟩) ?_ ?_
       rotate_left
       ·intro w'
        go_simp
        with_reducible rfl
       rotate_left
       ·simp only [Act.put, xT, xZ, xS, i64_w, i32_w]
        rfl
       refine pure_ (i := 4) (N := some 44) (v := ?_) (a' := ?_) #[true, true, true, true, true, false, false, false, false, false, false, false, false, false, false, false, false, false, false, false] rfl rfl (any_of HT_.out (by kernel_rfl)) (fun _ _ _ h => h) (Or.inl ⟨by rfl, ?_⟩) ?_ ?_
       rotate_left
       ·intro w'
        go_simp
        with_reducible rfl
       rotate_left
       ·simp only [Act.put, xT, xZ, xS, i64_w, i32_w]
        rfl
       refine pure_ (i := 6) (N := some 46) (v := ?_) (a' := ?_) #[true, true, true, true, true, false, true, false, false, false, false, false, false, false, false, false, false, false, false, false] rfl rfl (any_of HT_.out (by kernel_rfl)) (fun _ _ _ h => h) (Or.inl ⟨by rfl, ?_⟩) ?_ ?_
       rotate_left
       ·intro w'
        go_simp
        with_reducible rfl
       rotate_left
       ·simp only [Act.put, xT, xZ, xS, i64_w, i32_w]
        rfl
       refine pure_ (i := 7) (N := some 47) (v := ?_) (a' := ?_) #[true, true, true, true, true, false, true, true, false, false, false, false, false, false, false, false, false, false, false, false] rfl rfl (any_of HT_.out (by kernel_rfl)) (fun _ _ _ h => h) (Or.inl ⟨by rfl, ?_⟩) ?_ ?_
       rotate_left
       ·intro w'
        go_simp
        with_reducible rfl
       rotate_left
       ·simp only [Act.put, xT, xZ, xS, i64_w, i32_w]
        rfl
       refine take_ (i := 5) (N := some 45) (v := ?_) (a' := ?_) #[true, true, true, true, true, true, true, true, false, false, false, false, false, false, false, false, false, false, false, false] rfl rfl (take_ofW HT_.out HW_.out (by kernel_rfl)) (fun _ _ _ h => h) (Or.inl ⟨by rfl, ?_⟩) hHeld ?_ ?_
       rotate_left
       ·rintro w' ⟨s0, s1, s2, s3, s4, s5, s6, s7, s8, s9, s10⟩
        go_simp
        with_reducible rfl
       rotate_left
       ·simp only [Act.put, xT, xZ, xS, i64_w, i32_w]
        rfl
       refine take_ (i := 8) (N := some 48) (v := ?_) (a' := ?_) #[true, true, true, true, true, true, true, true, true, false, false, false, false, false, false, false, false, false, false, false] rfl rfl (take_ofW HT_.out HW_.out (by kernel_rfl)) (fun _ _ _ h => h) (Or.inl ⟨by rfl, ?_⟩) hHeld ?_ ?_
       rotate_left
       ·rintro w' ⟨s0, s1, s2, s3, s4, s5, s6, s7, s8, s9, s10⟩
        go_simp
        with_reducible rfl
       rotate_left
       ·simp only [Act.put, xT, xZ, xS, i64_w, i32_w]
        rfl
       refine pure_ (i := 9) (N := some 49) (v := ?_) (a' := ?_) #[true, true, true, true, true, true, true, true, true, true, false, false, false, false, false, false, false, false, false, false] rfl rfl (any_of HT_.out (by kernel_rfl)) (fun _ _ _ h => h) (Or.inl ⟨by rfl, ?_⟩) ?_ ?_
       rotate_left
       ·intro w'
        go_simp
        with_reducible rfl
       rotate_left
       ·simp only [Act.put, xT, xZ, xS, i64_w, i32_w]
        rfl
       refine one_ (i := 10) (N := some 50) #[true, true, true, true, true, true, true, true, true, true, true, false, false, false, false, false, false, false, false, false] rfl rfl (one_of HT_.out (by kernel_rfl)) (by decide) (fun K hK => ?_)
       refine goes_ Tryd.func72 (by kernel_rfl) rfl #[.int .i64 (wrap64 (t421 - 1))] (by rfl) rfl rfl (by first | rfl | (simp only [List.map_toArray, List.map_cons, List.map_nil, List.length_drop, List.length_take]; rfl)) ?_
       with_reducible refine (impl_one.calls (wrap64 (t421 - 1)) t453 t454 _ A57.out).mono ?_
       rintro e w64 ⟨rfl, hb⟩
       refine ⟨_, rfl, ?_⟩
       have n0_ := zM (Kd.R_below (by exact HO437.out) hb)
       have n1_ := zM (Kd.R_below (by exact HO440.out) hb)
       have n2_ := zM (Kd.R_below (by exact HO443.out) hb)
       have n3_ := zM (Kd.R_below (by exact HO446.out) hb)
       have n4_ := zM (Kd.R_below (by exact HO449.out) hb)
       have n5_ := zM (Kd.R_below (by exact HO452.out) hb)
       have n6_ := zM (blk_below BK419.out hb)
       have n7_ := zM (blk_below BK420.out hb)
       have n8_ := zM (blk_below BK428.out hb)
       have n9_ := zM (blk_below BK434.out hb)
       have n10_ := zM (below_step HB.out hb)
       clear HO437
       clear HO440
       clear HO443
       clear HO446
       clear HO449
       clear HO452
       clear BK419
       clear BK420
       clear BK428
       clear BK434
       clear HB
       have HO437 := n0_
       have HO440 := n1_
       have HO443 := n2_
       have HO446 := n3_
       have HO449 := n4_
       have HO452 := n5_
       have BK419 := n6_
       have BK420 := n7_
       have BK428 := n8_
       have BK434 := n9_
       have HB := n10_
       clear n0_ n1_ n2_ n3_ n4_ n5_ n6_ n7_ n8_ n9_ n10_
       try clear hb; try clear hb2; try clear hk; try clear hi
       refine hK.out _ _ ⟨(blk_cell BK434.out 0).trans rfl, (blk_cell BK434.out 1).trans rfl, (blk_cell BK434.out 2).trans rfl, (blk_cell BK434.out 3).trans rfl, (blk_cell BK434.out 4).trans rfl, (blk_cell BK428.out 0).trans rfl, (blk_cell BK428.out 1).trans rfl, (blk_cell BK428.out 2).trans rfl, (blk_cell BK428.out 3).trans rfl, (blk_cell BK428.out 4).trans rfl, (blk_cell BK428.out 5).trans rfl⟩ (fun hHeld => ?_)
       clear hK K
       refine norm_ (a' := ?_) ?_ ?_
       rotate_left
       ·show Act.put _ (some 50) _ = _
        simp only [Act.put, xT, xZ, xS, i64_w, i32_w]
        rfl
       refine pure_ (i := 11) (N := some 51) (v := ?_) (a' := ?_) #[true, true, true, true, true, true, true, true, true, true, true, true, false, false, false, false, false, false, false, false] rfl rfl (any_of HT_.out (by kernel_rfl)) (fun _ _ _ h => h) (Or.inl ⟨by rfl, ?_⟩) ?_ ?_
       rotate_left
       ·intro w'
        go_simp
        with_reducible rfl
       rotate_left
       ·simp only [Act.put, xT, xZ, xS, i64_w, i32_w]
        rfl
       refine pure_ (i := 12) (N := some 52) (v := ?_) (a' := ?_) #[true, true, true, true, true, true, true, true, true, true, true, true, true, false, false, false, false, false, false, false] rfl rfl (any_of HT_.out (by kernel_rfl)) (fun _ _ _ h => h) (Or.inl ⟨by rfl, ?_⟩) ?_ ?_
       rotate_left
       ·intro w'
        go_simp
        with_reducible rfl
       rotate_left
       ·simp only [Act.put, xT, xZ, xS, i64_w, i32_w]
        rfl
       refine pure_ (i := 13) (N := some 53) (v := ?_) (a' := ?_) #[true, true, true, true, true, true, true, true, true, true, true, true, true, true, false, false, false, false, false, false] rfl rfl (any_of HT_.out (by kernel_rfl)) (fun _ _ _ h => h) (Or.inl ⟨by rfl, ?_⟩) ?_ ?_
       rotate_left
       ·intro w'
        go_simp
        with_reducible rfl
       rotate_left
       ·simp only [Act.put, xT, xZ, xS, i64_w, i32_w]
        rfl
       refine pure_ (i := 14) (N := some 54) (v := undef) (a' := ?_) #[true, true, true, true, true, true, true, true, true, true, true, true, true, true, true, false, false, false, false, false] rfl rfl (any_of HT_.out (by kernel_rfl)) (fun _ _ _ h => h) (Or.inr ⟨by rfl, rfl⟩) ?_ ?_
       rotate_left
       ·simp only [Act.put, xT, xZ, xS, i64_w, i32_w]
        rfl
       refine pure_ (i := 15) (N := some 55) (v := undef) (a' := ?_) #[true, true, true, true, true, true, true, true, true, true, true, true, true, true, true, true, false, false, false, false] rfl rfl (any_of HT_.out (by kernel_rfl)) (fun _ _ _ h => h) (Or.inr ⟨by rfl, rfl⟩) ?_ ?_
       rotate_left
       ·simp only [Act.put, xT, xZ, xS, i64_w, i32_w]
        rfl
       refine pure_ (i := 16) (N := some 56) (v := undef) (a' := ?_) #[true, true, true, true, true, true, true, true, true, true, true, true, true, true, true, true, true, false, false, false] rfl rfl (any_of HT_.out (by kernel_rfl)) (fun _ _ _ h => h) (Or.inr ⟨by rfl, rfl⟩) ?_ ?_
       rotate_left
       ·simp only [Act.put, xT, xZ, xS, i64_w, i32_w]
        rfl
       refine pure_ (i := 17) (N := some 57) (v := undef) (a' := ?_) #[true, true, true, true, true, true, true, true, true, true, true, true, true, true, true, true, true, true, false, false] rfl rfl (any_of HT_.out (by kernel_rfl)) (fun _ _ _ h => h) (Or.inr ⟨by rfl, rfl⟩) ?_ ?_
       rotate_left
       ·simp only [Act.put, xT, xZ, xS, i64_w, i32_w]
        rfl
       refine pure_ (i := 18) (N := some 58) (v := undef) (a' := ?_) #[true, true, true, true, true, true, true, true, true, true, true, true, true, true, true, true, true, true, true, false] rfl rfl (any_of HT_.out (by kernel_rfl)) (fun _ _ _ h => h) (Or.inr ⟨by rfl, rfl⟩) ?_ ?_
       rotate_left
       ·simp only [Act.put, xT, xZ, xS, i64_w, i32_w]
        rfl
       refine pure_ (i := 19) (N := some 59) (v := ?_) (a' := ?_) #[true, true, true, true, true, true, true, true, true, true, true, true, true, true, true, true, true, true, true, true] rfl rfl (any_of HT_.out (by kernel_rfl)) (fun _ _ _ h => h) (Or.inl ⟨by rfl, ?_⟩) ?_ ?_
       rotate_left
       ·intro w'
        go_simp
        with_reducible rfl
       rotate_left
       ·simp only [Act.put, xT, xZ, xS, i64_w, i32_w]
        rfl
       refine done_ (done_of HT_.out (by kernel_rfl)) ?_
       try go_wp2
       go_meet
       case rel => exact ⟨_, (false), (by first | rfl | (simp; done) | (simp [*]; done)), H', ⟨by have := HJ4.out; first | omega | exact Nat.le_refl _⟩, ⟨by exact Kd.R_mono HO440.out (fun _ hk => ⟨hk.1.1.2, hk.2⟩)⟩, ⟨by exact Kd.R_mono HO446.out (fun _ hk => ⟨hk.1.1.1.2, hk.2⟩)⟩, ⟨by exact Kd.R_mono HO452.out (fun _ hk => ⟨hk.1.1.1.2, hk.1.2⟩)⟩, ⟨by exact BK419.out⟩, ⟨by exact BK420.out⟩, ⟨by exact BK428.out⟩, ⟨by exact BK434.out⟩, ⟨by repeat (first | (with_reducible first | exact HB.out | apply yA | apply yN | apply yD | refine below_set ?_ GE419.out | refine below_set ?_ GE420.out | refine below_set ?_ GE428.out | refine below_set ?_ GE434.out) | exact HB.out)⟩⟩
     ·rw [if_neg c56] at H
      have c56b0 : (t429 == 3) = false := beq_eq_false_iff_ne.mpr c56
      have c56b1 : (t429 != 3) = true := bne_iff_ne.mpr c56
      (first | rw [c56b0] | (simp only [i64_w, i32_w]; rw [c56b0]) | rw [c56b1] | (simp only [c56b1]) | skip)
      have H' := zM H
      clear H
      try go_wp2
      have n0_ := zM (Kd.R_drew HO437.out)
      have n1_ := zM (Kd.R_drew HO440.out)
      have n2_ := zM (Kd.R_drew HO443.out)
      have n3_ := zM (Kd.R_drew HO446.out)
      have n4_ := zM (Kd.R_drew HO449.out)
      have n5_ := zM (Kd.R_drew HO452.out)
      have n6_ := zM (zD BK419.out)
      have n7_ := zM (zD BK420.out)
      have n8_ := zM (zD BK428.out)
      have n9_ := zM (zD BK434.out)
      have n10_ := zM (yD HB.out)
      clear HO437
      clear HO440
      clear HO443
      clear HO446
      clear HO449
      clear HO452
      clear BK419
      clear BK420
      clear BK428
      clear BK434
      clear HB
      have HO437 := n0_
      have HO440 := n1_
      have HO443 := n2_
      have HO446 := n3_
      have HO449 := n4_
      have HO452 := n5_
      have BK419 := n6_
      have BK420 := n7_
      have BK428 := n8_
      have BK434 := n9_
      have HB := n10_
      clear n0_ n1_ n2_ n3_ n4_ n5_ n6_ n7_ n8_ n9_ n10_
      refine start_ (n := 20) (S := fun w' => w'.cell? ⟨gb434, 0, none⟩ = some (.int .i64 t429) ∧ w'.cell? ⟨gb434, 1, none⟩ = some (.bool t430) ∧ w'.cell? ⟨gb434, 2, none⟩ = some (.int .u64 t431) ∧ w'.cell? ⟨gb434, 3, none⟩ = some (.int .u64 t432) ∧ w'.cell? ⟨gb434, 4, none⟩ = some (.int .i64 t433)) (ds := []) #[false, false, false, false, false, false, false, false, false, false, false, false, false, false, false, false, false, false, false, false] (by kernel_rfl) rfl rfl ⟨(blk_cell BK434.out 0).trans rfl, (blk_cell BK434.out 1).trans rfl, (blk_cell BK434.out 2).trans rfl, (blk_cell BK434.out 3).trans rfl, (blk_cell BK434.out 4).trans rfl⟩ (fun hHeld => ?_); refine with_tabW impl_Bounds.tab7 impl_Bounds.bits7 (fun HT_ HW_ => ?_)
      generalize w55.drew = w65 at HO437 HO440 HO443 HO446 HO449 HO452 BK419 BK420 BK428 BK434 HB hHeld ⊢
      refine pure_ (i := 0) (N := some 40) (v := ?_) (a' := ?_) #[true, false, false, false, false, false, false, false, false, false, false, false, false, false, false, false, false, false, false, false] rfl rfl (any_of HT_.out (by kernel_rfl)) (fun _ _ _ h => h) (Or.inl ⟨by rfl, ?_⟩) ?_ ?_
      rotate_left
      ·intro w'
       go_simp
       with_reducible rfl
      rotate_left
      ·simp only [Act.put, xT, xZ, xS, i64_w, i32_w]
       rfl
      refine take_ (i := 1) (N := some 41) (v := ?_) (a' := ?_) #[true, true, false, false, false, false, false, false, false, false, false, false, false, false, false, false, false, false, false, false] rfl rfl (take_ofW HT_.out HW_.out (by kernel_rfl)) (fun _ _ _ h => h) (Or.inl ⟨by rfl, ?_⟩) hHeld ?_ ?_
      rotate_left
      ·rintro w' ⟨s0, s1, s2, s3, s4⟩
       go_simp
       with_reducible rfl
      rotate_left
      ·simp only [Act.put, xT, xZ, xS, i64_w, i32_w]
       rfl
      refine pure_ (i := 2) (N := some 42) (v := ?_) (a' := ?_) #[true, true, true, false, false, false, false, false, false, false, false, false, false, false, false, false, false, false, false, false] rfl rfl (any_of HT_.out (by kernel_rfl)) (fun _ _ _ h => h) (Or.inl ⟨by rfl, ?_⟩) ?_ ?_
      rotate_left
      ·intro w'
       go_simp
       with_reducible rfl
      rotate_left
      ·simp only [Act.put, xT, xZ, xS, i64_w, i32_w]
       rfl
      refine pure_ (i := 3) (N := some 43) (v := ?_) (a' := ?_) #[true, true, true, true, false, false, false, false, false, false, false, false, false, false, false, false, false, false, false, false] rfl rfl (any_of HT_.out (by kernel_rfl)) (fun _ _ _ h => h) (Or.inl ⟨by rfl, ?_⟩) ?_ ?_
      rotate_left
      ·intro w'
       go_simp
       with_reducible rfl
      rotate_left
      ·simp only [Act.put, xT, xZ, xS, i64_w, i32_w]
       rfl
      refine pure_ (i := 4) (N := some 44) (v := undef) (a' := ?_) #[true, true, true, true, true, false, false, false, false, false, false, false, false, false, false, false, false, false, false, false] rfl rfl (any_of HT_.out (by kernel_rfl)) (fun _ _ _ h => h) (Or.inr ⟨by rfl, rfl⟩) ?_ ?_
      rotate_left
      ·simp only [Act.put, xT, xZ, xS, i64_w, i32_w]
       rfl
      refine pure_ (i := 5) (N := some 45) (v := undef) (a' := ?_) #[true, true, true, true, true, true, false, false, false, false, false, false, false, false, false, false, false, false, false, false] rfl rfl (any_of HT_.out (by kernel_rfl)) (fun _ _ _ h => h) (Or.inr ⟨by rfl, rfl⟩) ?_ ?_
      rotate_left
      ·simp only [Act.put, xT, xZ, xS, i64_w, i32_w]
       rfl
      refine pure_ (i := 6) (N := some 46) (v := undef) (a' := ?_) #[true, true, true, true, true, true, true, false, false, false, false, false, false, false, false, false, false, false, false, false] rfl rfl (any_of HT_.out (by kernel_rfl)) (fun _ _ _ h => h) (Or.inr ⟨by rfl, rfl⟩) ?_ ?_
      rotate_left
      ·simp only [Act.put, xT, xZ, xS, i64_w, i32_w]
       rfl
      refine pure_ (i := 7) (N := some 47) (v := undef) (a' := ?_) #[true, true, true, true, true, true, true, true, false, false, false, false, false, false, false, false, false, false, false, false] rfl rfl (any_of HT_.out (by kernel_rfl)) (fun _ _ _ h => h) (Or.inr ⟨by rfl, rfl⟩) ?_ ?_
      rotate_left
      ·simp only [Act.put, xT, xZ, xS, i64_w, i32_w]
       rfl
      refine pure_ (i := 8) (N := some 48) (v := undef) (a' := ?_) #[true, true, true, true, true, true, true, true, true, false, false, false, false, false, false, false, false, false, false, false] rfl rfl (any_of HT_.out (by kernel_rfl)) (fun _ _ _ h => h) (Or.inr ⟨by rfl, rfl⟩) ?_ ?_
      rotate_left
      ·simp only [Act.put, xT, xZ, xS, i64_w, i32_w]
       rfl
      refine pure_ (i := 9) (N := some 49) (v := undef) (a' := ?_) #[true, true, true, true, true, true, true, true, true, true, false, false, false, false, false, false, false, false, false, false] rfl rfl (any_of HT_.out (by kernel_rfl)) (fun _ _ _ h => h) (Or.inr ⟨by rfl, rfl⟩) ?_ ?_
      rotate_left
      ·simp only [Act.put, xT, xZ, xS, i64_w, i32_w]
       rfl
      refine pure_ (i := 10) (N := some 50) (v := undef) (a' := ?_) #[true, true, true, true, true, true, true, true, true, true, true, false, false, false, false, false, false, false, false, false] rfl rfl (any_of HT_.out (by kernel_rfl)) (fun _ _ _ h => h) (Or.inr ⟨by rfl, rfl⟩) ?_ ?_
      rotate_left
      ·simp only [Act.put, xT, xZ, xS, i64_w, i32_w]
       rfl
      refine pure_ (i := 11) (N := some 51) (v := undef) (a' := ?_) #[true, true, true, true, true, true, true, true, true, true, true, true, false, false, false, false, false, false, false, false] rfl rfl (any_of HT_.out (by kernel_rfl)) (fun _ _ _ h => h) (Or.inr ⟨by rfl, rfl⟩) ?_ ?_
      rotate_left
      ·simp only [Act.put, xT, xZ, xS, i64_w, i32_w]
       rfl
      refine pure_ (i := 12) (N := some 52) (v := ?_) (a' := ?_) #[true, true, true, true, true, true, true, true, true, true, true, true, true, false, false, false, false, false, false, false] rfl rfl (any_of HT_.out (by kernel_rfl)) (fun _ _ _ h => h) (Or.inl ⟨by rfl, ?_⟩) ?_ ?_
      rotate_left
      ·intro w'
       go_simp
       with_reducible rfl
      rotate_left
      ·simp only [Act.put, xT, xZ, xS, i64_w, i32_w]
       rfl
      refine pure_ (i := 13) (N := some 53) (v := ?_) (a' := ?_) #[true, true, true, true, true, true, true, true, true, true, true, true, true, true, false, false, false, false, false, false] rfl rfl (any_of HT_.out (by kernel_rfl)) (fun _ _ _ h => h) (Or.inl ⟨by rfl, ?_⟩) ?_ ?_
      rotate_left
      ·intro w'
       go_simp
       with_reducible rfl
      rotate_left
      ·simp only [Act.put, xT, xZ, xS, i64_w, i32_w]
       rfl
      refine pure_ (i := 14) (N := some 54) (v := undef) (a' := ?_) #[true, true, true, true, true, true, true, true, true, true, true, true, true, true, true, false, false, false, false, false] rfl rfl (any_of HT_.out (by kernel_rfl)) (fun _ _ _ h => h) (Or.inr ⟨by rfl, rfl⟩) ?_ ?_
      rotate_left
      ·simp only [Act.put, xT, xZ, xS, i64_w, i32_w]
       rfl
      refine pure_ (i := 15) (N := some 55) (v := undef) (a' := ?_) #[true, true, true, true, true, true, true, true, true, true, true, true, true, true, true, true, false, false, false, false] rfl rfl (any_of HT_.out (by kernel_rfl)) (fun _ _ _ h => h) (Or.inr ⟨by rfl, rfl⟩) ?_ ?_
      rotate_left
      ·simp only [Act.put, xT, xZ, xS, i64_w, i32_w]
       rfl
      refine pure_ (i := 16) (N := some 56) (v := undef) (a' := ?_) #[true, true, true, true, true, true, true, true, true, true, true, true, true, true, true, true, true, false, false, false] rfl rfl (any_of HT_.out (by kernel_rfl)) (fun _ _ _ h => h) (Or.inr ⟨by rfl, rfl⟩) ?_ ?_
      rotate_left
      ·simp only [Act.put, xT, xZ, xS, i64_w, i32_w]
       rfl
      refine pure_ (i := 17) (N := some 57) (v := undef) (a' := ?_) #[true, true, true, true, true, true, true, true, true, true, true, true, true, true, true, true, true, true, false, false] rfl rfl (any_of HT_.out (by kernel_rfl)) (fun _ _ _ h => h) (Or.inr ⟨by rfl, rfl⟩) ?_ ?_
      rotate_left
      ·simp only [Act.put, xT, xZ, xS, i64_w, i32_w]
       rfl
      refine pure_ (i := 18) (N := some 58) (v := undef) (a' := ?_) #[true, true, true, true, true, true, true, true, true, true, true, true, true, true, true, true, true, true, true, false] rfl rfl (any_of HT_.out (by kernel_rfl)) (fun _ _ _ h => h) (Or.inr ⟨by rfl, rfl⟩) ?_ ?_
      rotate_left
      ·simp only [Act.put, xT, xZ, xS, i64_w, i32_w]
       rfl
      refine pure_ (i := 19) (N := some 59) (v := ?_) (a' := ?_) #[true, true, true, true, true, true, true, true, true, true, true, true, true, true, true, true, true, true, true, true] rfl rfl (any_of HT_.out (by kernel_rfl)) (fun _ _ _ h => h) (Or.inl ⟨by rfl, ?_⟩) ?_ ?_
      rotate_left
      ·intro w'
       go_simp
       with_reducible rfl
      rotate_left
      ·simp only [Act.put, xT, xZ, xS, i64_w, i32_w]
       rfl
      refine done_ (done_of HT_.out (by kernel_rfl)) ?_
      try go_wp2
      go_meet
      case rel => exact ⟨_, (false), (by first | rfl | (simp; done) | (simp [*]; done)), H', ⟨by have := HJ4.out; first | omega | exact Nat.le_refl _⟩, ⟨by exact Kd.R_mono HO440.out (fun _ hk => ⟨hk.1.1.2, hk.2⟩)⟩, ⟨by exact Kd.R_mono HO446.out (fun _ hk => ⟨hk.1.1.1.2, hk.2⟩)⟩, ⟨by exact Kd.R_mono HO452.out (fun _ hk => ⟨hk.1.1.1.2, hk.1.2⟩)⟩, ⟨by exact BK419.out⟩, ⟨by exact BK420.out⟩, ⟨by exact BK428.out⟩, ⟨by exact BK434.out⟩, ⟨by repeat (first | (with_reducible first | exact HB.out | apply yA | apply yN | apply yD | refine below_set ?_ GE419.out | refine below_set ?_ GE420.out | refine below_set ?_ GE428.out | refine below_set ?_ GE434.out) | exact HB.out)⟩⟩
    case rest =>
     clear HC41
     obtain ⟨kq, x59_40, rfl, HA, HJ40, HO_8, HO_9, HO_10, BK419, BK420, BK428, BK434, HB⟩ := hcut
     cases kq with
     | zero => exact absurd HA.out (by simp [impl_Bounds.j1])
     | succ kj40 =>
      have H := HA.out
      clear HA
      simp only [impl_Bounds.j1] at H
      have HC66 := zM H
      clear H
      go_upto_if 59 with (fail)
      go_cut [10] (fun v10 wc => ∃ (kq : Nat) (x10_65 : List Int), Aside0 (impl_Bounds.j2 kq t444 x10_65 t429 t430 t431 t432 t433 = some (r1, r2, r3, r4, r5)) ∧ Aside0 (kq ≤ kj40) ∧ Aside0 (Kd.R (Kd.int .u64) 22 wc w.heap.size (fun k_ => some k_ ≠ (v10 : Value).ownBlock) v445 t444) ∧ Aside0 (Kd.R (Kd.int .u64) 22 wc w.heap.size (fun k_ => some k_ ≠ (v445 : Value).ownBlock) v10 x10_65) ∧ Aside0 (wc.heap[gb419]? = some (.cells #[.int .u64 a1_0, .int .u64 a1_1] 25 (0, 0))) ∧ Aside0 (wc.heap[gb420]? = some (.cells #[(.slice none 0 0), (.slice none 0 0), (.slice none 0 0), .bool false, .bool false] 43 (0, 0))) ∧ Aside0 (wc.heap[gb428]? = some (.cells #[.int .i64 t421, .int .i64 t422, .int .i64 t423, .int .i64 t424, .int .i64 t425, .bool t426] 91 (0, 0))) ∧ Aside0 (wc.heap[gb434]? = some (.cells #[.int .i64 t429, .bool t430, .int .u64 t431, .int .u64 t432, .int .i64 t433] 27 (0, 0))) ∧ Aside0 (Below w.heap.size w wc))
      case first =>
       have H := HC66.out
       clear HC66
       by_cases c67 : x59_40 = true
       ·subst c67
        have H1 : ((impl_word.f 1).bind fun t456 => ((impl_nat_sub.f kj40 t438 t456).bind fun t459 => (impl_Bounds.j2 kj40 t444 t459 t429 t430 t431 t432 t433))) = some (r1, r2, r3, r4, r5) := by rw [if_pos rfl] at H; exact H
        clear H
        have H := H1
        clear H1
        replace H := Option.bind_eq_some_iff.mp H
        obtain ⟨t456, A680, H⟩ := H
        replace H : ((impl_nat_sub.f kj40 t438 t456).bind fun t459 => (impl_Bounds.j2 kj40 t444 t459 t429 t430 t431 t432 t433)) = some (r1, r2, r3, r4, r5) := H
        have A68 := zM A680
        clear A680
        replace H := Option.bind_eq_some_iff.mp H
        obtain ⟨t459, A690, H⟩ := H
        replace H : (impl_Bounds.j2 kj40 t444 t459 t429 t430 t431 t432 t433) = some (r1, r2, r3, r4, r5) := H
        have A69 := zM A690
        clear A690
        have H' := zM H
        clear H
        go_wp2_with (first | ((with_reducible refine gate_callee (f := 85) rfl ?_); refine goesL_ (some 61) rfl rfl Tryd.func85 (by kernel_rfl) rfl #[.int .u64 1] rfl (by first | rfl | (simp only [List.map_toArray, List.map_cons, List.map_nil, List.length_drop, List.length_take]; rfl)) ?_; (with_reducible refine (impl_word.calls 1 t456 _ A68.out).mono ?_); rintro e w70 ⟨v457, rfl, ho0, hb⟩; refine ⟨_, rfl, ?_⟩; have n0_ := zM (Kd.R_elder' (by exact HO_8.out) (Kd.R_base ho0) hb); have n1_ := zM (Kd.R_elder' (by exact HO_9.out) (Kd.R_base ho0) hb); have n2_ := zM (Kd.R_elder' (by exact HO_10.out) (Kd.R_base ho0) hb); have n3_ := zM (Kd.R_lower (Kd.R_new' (Kd.R_new' (Kd.R_new' ho0 (Kd.R_lt (by exact HO_8.out))) (Kd.R_lt (by exact HO_9.out))) (Kd.R_lt (by exact HO_10.out))) (below_size HB.out)); have n4_ := zM (blk_below BK419.out hb); have n5_ := zM (blk_below BK420.out hb); have n6_ := zM (blk_below BK428.out hb); have n7_ := zM (blk_below BK434.out hb); have n8_ := zM (below_step HB.out hb); clear HO_8; clear HO_9; clear HO_10; clear BK419; clear BK420; clear BK428; clear BK434; clear HB; have HO_8 := n0_; have HO_9 := n1_; have HO_10 := n2_; have HO458 := n3_; have BK419 := n4_; have BK420 := n5_; have BK428 := n6_; have BK434 := n7_; have HB := n8_; clear n0_ n1_ n2_ n3_ n4_ n5_ n6_ n7_ n8_; (try clear hb); (try clear hb2); (try clear hk); (try clear hi); (try clear ho0); obtain ⟨Ao71, co71, eo71⟩ := Kd.R_slice HO458.out; subst eo71) | ((with_reducible refine gate_callee (f := 86) rfl ?_); refine goesL_ (some 62) rfl rfl Tryd.func86 (by kernel_rfl) rfl #[.slice Ao50 t438.length co50, .slice Ao71 t456.length co71] rfl (by first | rfl | (simp only [List.map_toArray, List.map_cons, List.map_nil, List.length_drop, List.length_take]; rfl)) ?_; (with_reducible refine (impl_nat_sub.calls kj40 _ _ t438 _ _ t456 t459 _ ?side1 ?side2 ?side3 ?side4 A69.out).mono ?_); (case side1 => repeat (first | exact (Kd.R_reads' HO_8.out).2.2 | (with_reducible refine Kd.C_alloc ?_ _) | (with_reducible refine Kd.C_drewN ?_ _) | (with_reducible refine Kd.C_drew ?_))); (case side2 => exact (Kd.R_reads' HO_8.out).2.1); (case side3 => repeat (first | exact (Kd.R_reads' HO458.out).2.2 | (with_reducible refine Kd.C_alloc ?_ _) | (with_reducible refine Kd.C_drewN ?_ _) | (with_reducible refine Kd.C_drew ?_))); (case side4 => exact (Kd.R_reads' HO458.out).2.1); rintro e w72 ⟨v460, rfl, ho0, hb⟩; refine ⟨_, rfl, ?_⟩; have n0_ := zM (Kd.R_elder' (by exact HO_8.out) (Kd.R_base ho0) hb); have n1_ := zM (Kd.R_elder' (by exact HO_9.out) (Kd.R_base ho0) hb); have n2_ := zM (Kd.R_elder' (by exact HO_10.out) (Kd.R_base ho0) hb); have n3_ := zM (Kd.R_elder' (by exact HO458.out) (Kd.R_base ho0) hb); have n4_ := zM (Kd.R_lower (Kd.R_new' (Kd.R_new' (Kd.R_new' (Kd.R_new' ho0 (Kd.R_lt (by exact HO_8.out))) (Kd.R_lt (by exact HO_9.out))) (Kd.R_lt (by exact HO_10.out))) (Kd.R_lt (by exact HO458.out))) (below_size HB.out)); have n5_ := zM (blk_below BK419.out hb); have n6_ := zM (blk_below BK420.out hb); have n7_ := zM (blk_below BK428.out hb); have n8_ := zM (blk_below BK434.out hb); have n9_ := zM (below_step HB.out hb); clear HO_8; clear HO_9; clear HO_10; clear HO458; clear BK419; clear BK420; clear BK428; clear BK434; clear HB; have HO_8 := n0_; have HO_9 := n1_; have HO_10 := n2_; have HO458 := n3_; have HO461 := n4_; have BK419 := n5_; have BK420 := n6_; have BK428 := n7_; have BK434 := n8_; have HB := n9_; clear n0_ n1_ n2_ n3_ n4_ n5_ n6_ n7_ n8_ n9_; (try clear hb); (try clear hb2); (try clear hk); (try clear hi); (try clear ho0)))
        go_meet
        case rel => exact ⟨_, (t459), H', ⟨by have := HJ4.out; have := HJ40.out; first | omega | exact Nat.le_refl _⟩, ⟨by exact Kd.R_mono HO_9.out (fun _ hk => hk.2)⟩, ⟨by exact Kd.R_mono HO461.out (fun _ hk => hk.1.1.2)⟩, ⟨by exact BK419.out⟩, ⟨by exact BK420.out⟩, ⟨by exact BK428.out⟩, ⟨by exact BK434.out⟩, ⟨by repeat (first | (with_reducible first | exact HB.out | apply yA | apply yN | apply yD | refine below_set ?_ GE419.out | refine below_set ?_ GE420.out | refine below_set ?_ GE428.out | refine below_set ?_ GE434.out) | exact HB.out)⟩⟩
       ·replace c67 := Bool.eq_false_iff.mpr c67
        subst c67
        have H1 : (impl_Bounds.j2 kj40 t444 t450 t429 t430 t431 t432 t433) = some (r1, r2, r3, r4, r5) := by rw [if_neg (show ¬ (false = true) by decide)] at H; exact H
        clear H
        have H := H1
        clear H1
        have H' := zM H
        clear H
        go_wp2
        go_meet
        case rel => exact ⟨_, (t450), H', ⟨by have := HJ4.out; have := HJ40.out; first | omega | exact Nat.le_refl _⟩, ⟨by exact Kd.R_mono HO_9.out (fun _ hk => hk.2)⟩, ⟨by exact Kd.R_mono HO_10.out (fun _ hk => hk.2)⟩, ⟨by exact BK419.out⟩, ⟨by exact BK420.out⟩, ⟨by exact BK428.out⟩, ⟨by exact BK434.out⟩, ⟨by repeat (first | (with_reducible first | exact HB.out | apply yA | apply yN | apply yD | refine below_set ?_ GE419.out | refine below_set ?_ GE420.out | refine below_set ?_ GE428.out | refine below_set ?_ GE434.out) | exact HB.out)⟩⟩
      case rest =>
       clear HC66
       obtain ⟨kq, x10_65, HA, HJ65, HO_9, HO_10, BK419, BK420, BK428, BK434, HB⟩ := hcut
       cases kq with
       | zero => exact absurd HA.out (by simp [impl_Bounds.j2])
       | succ kj65 =>
        have H := HA.out
        clear HA
        simp only [impl_Bounds.j2] at H
        by_cases c73 : (wrap64 (t433 - 2)) ≥ 0
        ·rw [if_pos c73] at H
         have c73b0 : decide (0 ≤ (wrap64 (t433 - 2))) = true := decide_eq_true c73
         clear c73
         replace H := Option.bind_eq_some_iff.mp H
         obtain ⟨t463, A740, H⟩ := H
         replace H : ((impl_nat_left.f kj65 t444 (wrap64 (t433 - 2))).bind fun t466 => ((impl_word.f 1).bind fun t469 => (some (t463, t466, t469, ((Go.bits .and .u64 t432 1) == 0), true)))) = some (r1, r2, r3, r4, r5) := H
         have A74 := zM A740
         clear A740
         replace H := Option.bind_eq_some_iff.mp H
         obtain ⟨t466, A750, H⟩ := H
         replace H : ((impl_word.f 1).bind fun t469 => (some (t463, t466, t469, ((Go.bits .and .u64 t432 1) == 0), true))) = some (r1, r2, r3, r4, r5) := H
         have A75 := zM A750
         clear A750
         replace H := Option.bind_eq_some_iff.mp H
         obtain ⟨t469, A760, H⟩ := H
         replace H : (some (t463, t466, t469, ((Go.bits .and .u64 t432 1) == 0), true)) = some (r1, r2, r3, r4, r5) := H
         have A76 := zM A760
         clear A760
         simp only [Option.some.injEq, Prod.mk.injEq] at H
         obtain ⟨rfl, rfl, rfl, rfl, rfl⟩ := H
         have hnb77 := NB434_419.out
         have hnc77 := NB419_434.out
         have hnb78 := NB434_420.out
         have hnc78 := NB420_434.out
         have hnb79 := NB434_428.out
         have hnc79 := NB428_434.out
         have hcz80_0 : wc.cell? ⟨gb434, 0, none⟩ = some (.int .i64 t429) := (blk_cell BK434.out 0).trans rfl
         have hcz80_1 : wc.cell? ⟨gb434, 1, none⟩ = some (.bool t430) := (blk_cell BK434.out 1).trans rfl
         have hcz80_2 : wc.cell? ⟨gb434, 2, none⟩ = some (.int .u64 t431) := (blk_cell BK434.out 2).trans rfl
         have hcz80_3 : wc.cell? ⟨gb434, 3, none⟩ = some (.int .u64 t432) := (blk_cell BK434.out 3).trans rfl
         have hcz80_4 : wc.cell? ⟨gb434, 4, none⟩ = some (.int .i64 t433) := (blk_cell BK434.out 4).trans rfl
         have hfz80_0 := blk_frozen BK434.out 0
         have hfz80_1 := blk_frozen BK434.out 1
         have hfz80_2 := blk_frozen BK434.out 2
         have hfz80_3 := blk_frozen BK434.out 3
         have hfz80_4 := blk_frozen BK434.out 4
         go_wp2_with (first | ((with_reducible refine gate_dst (N := 12) rfl ?_); refine box_event ?hg (N := 12) ?hd (cs := #[.slice none 0 0, .slice none 0 0, .slice none 0 0, .bool false, .bool false]) (t := 43) ?hr ?_; (case hd => rfl); (case hg => rfl); (case hr => first | (go_simp; done) | (go_simp; rfl)); intro gb462 hg w81 hbox hb; have n0_ := zM (Kd.R_below (by exact HO_9.out) hb); have n1_ := zM (Kd.R_below (by exact HO_10.out) hb); have n2_ := zM (blk_below BK419.out hb); have n3_ := zM (blk_below BK420.out hb); have n4_ := zM (blk_below BK428.out hb); have n5_ := zM (blk_below BK434.out hb); have n6_ := zM (below_step HB.out hb); have n7_ := zM (hbox); have n8_ := zM ((by rw [hg]; exact (below_size HB.out) : w.heap.size ≤ gb462)); have n9_ := zM ((by rw [hg]; exact (below_size HB.out) : w.heap.size ≤ gb462)); have n10_ := zM ((by rw [hg]; exact Nat.ne_of_lt (blk_lt BK419.out) : gb419 ≠ gb462)); have n11_ := zM ((by rw [hg]; exact Nat.ne_of_gt (blk_lt BK419.out) : gb462 ≠ gb419)); have n12_ := zM ((by rw [hg]; exact Nat.ne_of_lt (blk_lt BK420.out) : gb420 ≠ gb462)); have n13_ := zM ((by rw [hg]; exact Nat.ne_of_gt (blk_lt BK420.out) : gb462 ≠ gb420)); have n14_ := zM ((by rw [hg]; exact Nat.ne_of_lt (blk_lt BK428.out) : gb428 ≠ gb462)); have n15_ := zM ((by rw [hg]; exact Nat.ne_of_gt (blk_lt BK428.out) : gb462 ≠ gb428)); have n16_ := zM ((by rw [hg]; exact Nat.ne_of_lt (blk_lt BK434.out) : gb434 ≠ gb462)); have n17_ := zM ((by rw [hg]; exact Nat.ne_of_gt (blk_lt BK434.out) : gb462 ≠ gb434)); clear HO_9; clear HO_10; clear BK419; clear BK420; clear BK428; clear BK434; clear HB; have HO_9 := n0_; have HO_10 := n1_; have BK419 := n2_; have BK420 := n3_; have BK428 := n4_; have BK434 := n5_; have HB := n6_; have BK462 := n7_; have GW462 := n8_; have GE462 := n9_; have NB419_462 := n10_; have NB462_419 := n11_; have NB420_462 := n12_; have NB462_420 := n13_; have NB428_462 := n14_; have NB462_428 := n15_; have NB434_462 := n16_; have NB462_434 := n17_; clear n0_ n1_ n2_ n3_ n4_ n5_ n6_ n7_ n8_ n9_ n10_ n11_ n12_ n13_ n14_ n15_ n16_ n17_; clear hb hbox hg; have hnb82 := NB462_419.out; have hnc82 := NB419_462.out; have hnb83 := NB462_420.out; have hnc83 := NB420_462.out; have hnb84 := NB462_428.out; have hnc84 := NB428_462.out; have hnb85 := NB462_434.out; have hnc85 := NB434_462.out; have hcz86_0 : w81.cell? ⟨gb462, 0, none⟩ = some (.slice none 0 0) := (blk_cell BK462.out 0).trans rfl; have hcz86_1 : w81.cell? ⟨gb462, 1, none⟩ = some (.slice none 0 0) := (blk_cell BK462.out 1).trans rfl; have hcz86_2 : w81.cell? ⟨gb462, 2, none⟩ = some (.slice none 0 0) := (blk_cell BK462.out 2).trans rfl; have hcz86_3 : w81.cell? ⟨gb462, 3, none⟩ = some (.bool false) := (blk_cell BK462.out 3).trans rfl; have hcz86_4 : w81.cell? ⟨gb462, 4, none⟩ = some (.bool false) := (blk_cell BK462.out 4).trans rfl; have hfz86_0 := blk_frozen BK462.out 0; have hfz86_1 := blk_frozen BK462.out 1; have hfz86_2 := blk_frozen BK462.out 2; have hfz86_3 := blk_frozen BK462.out 3; have hfz86_4 := blk_frozen BK462.out 4; obtain ⟨Ao87, co87, eo87⟩ := Kd.R_slice HO_10.out; subst eo87) | ((with_reducible refine gate_callee (f := 83) rfl ?_); refine goesL_ (some 76) rfl rfl Tryd.func83 (by kernel_rfl) rfl #[.slice Ao87 x10_65.length co87, .int .i64 (wrap64 (t433 - 2))] rfl (by first | rfl | (simp only [List.map_toArray, List.map_cons, List.map_nil, List.length_drop, List.length_take]; rfl)) ?_; (with_reducible refine (impl_nat_left.calls kj65 _ _ x10_65 (wrap64 (t433 - 2)) t463 _ ?side1 ?side2 A74.out).mono ?_); (case side1 => refine (Kd.R_reads' (e := 22) (base := w.heap.size) (ok := fun k_ => some k_ ≠ (v445 : Value).ownBlock) (n := x10_65.length) (c := co87) ?_).2.2; exact (by exact (Kd.R_mono (Kd.R_far (p := ⟨gb462, 4, none⟩) (Kd.R_far (p := ⟨gb462, 3, none⟩) (Kd.R_far (p := ⟨gb462, 2, none⟩) (Kd.R_far (p := ⟨gb462, 1, none⟩) (Kd.R_far (p := ⟨gb462, 0, none⟩) (Kd.R_types HO_10.out BK462.out (by decide)) (fun _ hk => hk.2) (.slice none 0 0)) (fun _ hk => hk.2) (.slice none 0 0)) (fun _ hk => hk.2) (.slice none 0 0)) (fun _ hk => hk.2) (.bool ((Go.bits .and .u64 t432 1) == 0))) (fun _ hk => hk.2) (.bool true)) (fun _ h_ => h_.1)))); (case side2 => exact (Kd.R_reads' HO_10.out).2.1); rintro e w88 ⟨v464, rfl, ho0, hb⟩; refine ⟨_, rfl, ?_⟩; have n0_ := zM (Kd.R_elder' (by exact (Kd.R_mono (Kd.R_far (p := ⟨gb462, 4, none⟩) (Kd.R_far (p := ⟨gb462, 3, none⟩) (Kd.R_far (p := ⟨gb462, 2, none⟩) (Kd.R_far (p := ⟨gb462, 1, none⟩) (Kd.R_far (p := ⟨gb462, 0, none⟩) (Kd.R_types HO_9.out BK462.out (by decide)) (fun _ hk => hk.2) (.slice none 0 0)) (fun _ hk => hk.2) (.slice none 0 0)) (fun _ hk => hk.2) (.slice none 0 0)) (fun _ hk => hk.2) (.bool ((Go.bits .and .u64 t432 1) == 0))) (fun _ hk => hk.2) (.bool true)) (fun _ h_ => h_.1))) (Kd.R_base ho0) hb); have n1_ := zM (Kd.R_elder' (by exact (Kd.R_mono (Kd.R_far (p := ⟨gb462, 4, none⟩) (Kd.R_far (p := ⟨gb462, 3, none⟩) (Kd.R_far (p := ⟨gb462, 2, none⟩) (Kd.R_far (p := ⟨gb462, 1, none⟩) (Kd.R_far (p := ⟨gb462, 0, none⟩) (Kd.R_types HO_10.out BK462.out (by decide)) (fun _ hk => hk.2) (.slice none 0 0)) (fun _ hk => hk.2) (.slice none 0 0)) (fun _ hk => hk.2) (.slice none 0 0)) (fun _ hk => hk.2) (.bool ((Go.bits .and .u64 t432 1) == 0))) (fun _ hk => hk.2) (.bool true)) (fun _ h_ => h_.1))) (Kd.R_base ho0) hb); have n2_ := zM (Kd.R_lower (Kd.R_new' (Kd.R_new' ho0 (Kd.R_lt (by exact (Kd.R_mono (Kd.R_far (p := ⟨gb462, 4, none⟩) (Kd.R_far (p := ⟨gb462, 3, none⟩) (Kd.R_far (p := ⟨gb462, 2, none⟩) (Kd.R_far (p := ⟨gb462, 1, none⟩) (Kd.R_far (p := ⟨gb462, 0, none⟩) (Kd.R_types HO_9.out BK462.out (by decide)) (fun _ hk => hk.2) (.slice none 0 0)) (fun _ hk => hk.2) (.slice none 0 0)) (fun _ hk => hk.2) (.slice none 0 0)) (fun _ hk => hk.2) (.bool ((Go.bits .and .u64 t432 1) == 0))) (fun _ hk => hk.2) (.bool true)) (fun _ h_ => h_.1))))) (Kd.R_lt (by exact (Kd.R_mono (Kd.R_far (p := ⟨gb462, 4, none⟩) (Kd.R_far (p := ⟨gb462, 3, none⟩) (Kd.R_far (p := ⟨gb462, 2, none⟩) (Kd.R_far (p := ⟨gb462, 1, none⟩) (Kd.R_far (p := ⟨gb462, 0, none⟩) (Kd.R_types HO_10.out BK462.out (by decide)) (fun _ hk => hk.2) (.slice none 0 0)) (fun _ hk => hk.2) (.slice none 0 0)) (fun _ hk => hk.2) (.slice none 0 0)) (fun _ hk => hk.2) (.bool ((Go.bits .and .u64 t432 1) == 0))) (fun _ hk => hk.2) (.bool true)) (fun _ h_ => h_.1))))) (below_size (by repeat (first | (with_reducible first | exact HB.out | apply yA | apply yN | apply yD | refine below_set ?_ GE419.out | refine below_set ?_ GE420.out | refine below_set ?_ GE428.out | refine below_set ?_ GE434.out | refine below_set ?_ GE462.out) | exact HB.out)))); have n3_ := zM (blk_below (g := gb419) (o := .cells #[.int .u64 a1_0, .int .u64 a1_1] 25 (0, 0)) (by refine blk_far ?_ NB419_462.out _; refine blk_far ?_ NB419_462.out _; refine blk_far ?_ NB419_462.out _; refine blk_far ?_ NB419_462.out _; refine blk_far ?_ NB419_462.out _; exact BK419.out) hb); have n4_ := zM (blk_below (g := gb420) (o := .cells #[.slice none 0 0, .slice none 0 0, .slice none 0 0, .bool false, .bool false] 43 (0, 0)) (by refine blk_far ?_ NB420_462.out _; refine blk_far ?_ NB420_462.out _; refine blk_far ?_ NB420_462.out _; refine blk_far ?_ NB420_462.out _; refine blk_far ?_ NB420_462.out _; exact BK420.out) hb); have n5_ := zM (blk_below (g := gb428) (o := .cells #[.int .i64 t421, .int .i64 t422, .int .i64 t423, .int .i64 t424, .int .i64 t425, .bool t426] 91 (0, 0)) (by refine blk_far ?_ NB428_462.out _; refine blk_far ?_ NB428_462.out _; refine blk_far ?_ NB428_462.out _; refine blk_far ?_ NB428_462.out _; refine blk_far ?_ NB428_462.out _; exact BK428.out) hb); have n6_ := zM (blk_below (g := gb434) (o := .cells #[.int .i64 t429, .bool t430, .int .u64 t431, .int .u64 t432, .int .i64 t433] 27 (0, 0)) (by refine blk_far ?_ NB434_462.out _; refine blk_far ?_ NB434_462.out _; refine blk_far ?_ NB434_462.out _; refine blk_far ?_ NB434_462.out _; refine blk_far ?_ NB434_462.out _; exact BK434.out) hb); have n7_ := zM (blk_below (g := gb462) (o := .cells #[.slice none 0 0, .slice none 0 0, .slice none 0 0, .bool ((Go.bits .and .u64 t432 1) == 0), .bool true] 43 (0, 0)) (by refine blk_put (cs := #[.slice none 0 0, .slice none 0 0, .slice none 0 0, .bool ((Go.bits .and .u64 t432 1) == 0), .bool false]) ?_ 4 _ rfl; refine blk_put (cs := #[.slice none 0 0, .slice none 0 0, .slice none 0 0, .bool false, .bool false]) ?_ 3 _ rfl; refine blk_put (cs := #[.slice none 0 0, .slice none 0 0, .slice none 0 0, .bool false, .bool false]) ?_ 2 _ rfl; refine blk_put (cs := #[.slice none 0 0, .slice none 0 0, .slice none 0 0, .bool false, .bool false]) ?_ 1 _ rfl; refine blk_put (cs := #[.slice none 0 0, .slice none 0 0, .slice none 0 0, .bool false, .bool false]) ?_ 0 _ rfl; exact BK462.out) hb); have n8_ := zM (below_step (by repeat (first | (with_reducible first | exact HB.out | apply yA | apply yN | apply yD | refine below_set ?_ GE419.out | refine below_set ?_ GE420.out | refine below_set ?_ GE428.out | refine below_set ?_ GE434.out | refine below_set ?_ GE462.out) | exact HB.out)) hb); clear HO_9; clear HO_10; clear BK419; clear BK420; clear BK428; clear BK434; clear BK462; clear HB; have HO_9 := n0_; have HO_10 := n1_; have HO465 := n2_; have BK419 := n3_; have BK420 := n4_; have BK428 := n5_; have BK434 := n6_; have BK462 := n7_; have HB := n8_; clear n0_ n1_ n2_ n3_ n4_ n5_ n6_ n7_ n8_; (try clear hb); (try clear hb2); (try clear hk); (try clear hi); (try clear ho0); obtain ⟨Ao89, co89, eo89⟩ := Kd.R_slice HO_9.out; subst eo89) | ((with_reducible refine gate_callee (f := 83) rfl ?_); refine goesL_ (some 79) rfl rfl Tryd.func83 (by kernel_rfl) rfl #[.slice Ao89 t444.length co89, .int .i64 (wrap64 (t433 - 2))] rfl (by first | rfl | (simp only [List.map_toArray, List.map_cons, List.map_nil, List.length_drop, List.length_take]; rfl)) ?_; (with_reducible refine (impl_nat_left.calls kj65 _ _ t444 (wrap64 (t433 - 2)) t466 _ ?side1 ?side2 A75.out).mono ?_); (case side1 => repeat (first | exact (Kd.R_reads' HO_9.out).2.2 | (with_reducible refine Kd.C_alloc ?_ _) | (with_reducible refine Kd.C_drewN ?_ _) | (with_reducible refine Kd.C_drew ?_))); (case side2 => exact (Kd.R_reads' HO_9.out).2.1); rintro e w90 ⟨v467, rfl, ho0, hb⟩; refine ⟨_, rfl, ?_⟩; have n0_ := zM (Kd.R_elder' (by exact HO_9.out) (Kd.R_base ho0) hb); have n1_ := zM (Kd.R_elder' (by exact HO_10.out) (Kd.R_base ho0) hb); have n2_ := zM (Kd.R_elder' (by exact HO465.out) (Kd.R_base ho0) hb); have n3_ := zM (Kd.R_lower (Kd.R_new' (Kd.R_new' (Kd.R_new' ho0 (Kd.R_lt (by exact HO_9.out))) (Kd.R_lt (by exact HO_10.out))) (Kd.R_lt (by exact HO465.out))) (below_size HB.out)); have n4_ := zM (blk_below BK419.out hb); have n5_ := zM (blk_below BK420.out hb); have n6_ := zM (blk_below BK428.out hb); have n7_ := zM (blk_below BK434.out hb); have n8_ := zM (blk_below BK462.out hb); have n9_ := zM (below_step HB.out hb); clear HO_9; clear HO_10; clear HO465; clear BK419; clear BK420; clear BK428; clear BK434; clear BK462; clear HB; have HO_9 := n0_; have HO_10 := n1_; have HO465 := n2_; have HO468 := n3_; have BK419 := n4_; have BK420 := n5_; have BK428 := n6_; have BK434 := n7_; have BK462 := n8_; have HB := n9_; clear n0_ n1_ n2_ n3_ n4_ n5_ n6_ n7_ n8_ n9_; (try clear hb); (try clear hb2); (try clear hk); (try clear hi); (try clear ho0)) | ((with_reducible refine gate_callee (f := 85) rfl ?_); refine goesL_ (some 80) rfl rfl Tryd.func85 (by kernel_rfl) rfl #[.int .u64 1] rfl (by first | rfl | (simp only [List.map_toArray, List.map_cons, List.map_nil, List.length_drop, List.length_take]; rfl)) ?_; (with_reducible refine (impl_word.calls 1 t469 _ A76.out).mono ?_); rintro e w91 ⟨v470, rfl, ho0, hb⟩; refine ⟨_, rfl, ?_⟩; have n0_ := zM (Kd.R_elder' (by exact HO_9.out) (Kd.R_base ho0) hb); have n1_ := zM (Kd.R_elder' (by exact HO_10.out) (Kd.R_base ho0) hb); have n2_ := zM (Kd.R_elder' (by exact HO465.out) (Kd.R_base ho0) hb); have n3_ := zM (Kd.R_elder' (by exact HO468.out) (Kd.R_base ho0) hb); have n4_ := zM (Kd.R_lower (Kd.R_new' (Kd.R_new' (Kd.R_new' (Kd.R_new' ho0 (Kd.R_lt (by exact HO_9.out))) (Kd.R_lt (by exact HO_10.out))) (Kd.R_lt (by exact HO465.out))) (Kd.R_lt (by exact HO468.out))) (below_size HB.out)); have n5_ := zM (blk_below BK419.out hb); have n6_ := zM (blk_below BK420.out hb); have n7_ := zM (blk_below BK428.out hb); have n8_ := zM (blk_below BK434.out hb); have n9_ := zM (blk_below BK462.out hb); have n10_ := zM (below_step HB.out hb); clear HO_9; clear HO_10; clear HO465; clear HO468; clear BK419; clear BK420; clear BK428; clear BK434; clear BK462; clear HB; have HO_9 := n0_; have HO_10 := n1_; have HO465 := n2_; have HO468 := n3_; have HO471 := n4_; have BK419 := n5_; have BK420 := n6_; have BK428 := n7_; have BK434 := n8_; have BK462 := n9_; have HB := n10_; clear n0_ n1_ n2_ n3_ n4_ n5_ n6_ n7_ n8_ n9_ n10_; (try clear hb); (try clear hb2); (try clear hk); (try clear hi); (try clear ho0); obtain ⟨Ao92, co92, eo92⟩ := Kd.R_slice HO465.out; subst eo92; have hcz93_0 : w91.cell? ⟨gb462, 0, none⟩ = some (.slice none 0 0) := (blk_cell BK462.out 0).trans rfl; have hcz93_1 : w91.cell? ⟨gb462, 1, none⟩ = some (.slice none 0 0) := (blk_cell BK462.out 1).trans rfl; have hcz93_2 : w91.cell? ⟨gb462, 2, none⟩ = some (.slice none 0 0) := (blk_cell BK462.out 2).trans rfl; have hcz93_3 : w91.cell? ⟨gb462, 3, none⟩ = some (.bool ((Go.bits .and .u64 t432 1) == 0)) := (blk_cell BK462.out 3).trans rfl; have hcz93_4 : w91.cell? ⟨gb462, 4, none⟩ = some (.bool true) := (blk_cell BK462.out 4).trans rfl; have hfz93_0 := blk_frozen BK462.out 0; have hfz93_1 := blk_frozen BK462.out 1; have hfz93_2 := blk_frozen BK462.out 2; have hfz93_3 := blk_frozen BK462.out 3; have hfz93_4 := blk_frozen BK462.out 4; obtain ⟨Ao94, co94, eo94⟩ := Kd.R_slice HO468.out; subst eo94; obtain ⟨Ao95, co95, eo95⟩ := Kd.R_slice HO471.out; subst eo95; have hnb96 := NB420_419.out; have hnc96 := NB419_420.out; have hnb97 := NB420_428.out; have hnc97 := NB428_420.out; have hcz98_0 : w91.cell? ⟨gb420, 0, none⟩ = some (.slice none 0 0) := (blk_cell BK420.out 0).trans rfl; have hcz98_1 : w91.cell? ⟨gb420, 1, none⟩ = some (.slice none 0 0) := (blk_cell BK420.out 1).trans rfl; have hcz98_2 : w91.cell? ⟨gb420, 2, none⟩ = some (.slice none 0 0) := (blk_cell BK420.out 2).trans rfl; have hcz98_3 : w91.cell? ⟨gb420, 3, none⟩ = some (.bool false) := (blk_cell BK420.out 3).trans rfl; have hcz98_4 : w91.cell? ⟨gb420, 4, none⟩ = some (.bool false) := (blk_cell BK420.out 4).trans rfl; have hfz98_0 := blk_frozen BK420.out 0; have hfz98_1 := blk_frozen BK420.out 1; have hfz98_2 := blk_frozen BK420.out 2; have hfz98_3 := blk_frozen BK420.out 3; have hfz98_4 := blk_frozen BK420.out 4))
         refine bodyPost_ret (results_cell_row rfl _ _ gb420 43 #[.slice Ao92 t463.length co92, .slice Ao94 t466.length co94, .slice Ao95 t469.length co95, .bool ((Go.bits .and .u64 t432 1) == 0), .bool true] (0, 0) _ rfl (by refine blk_put (cs := #[.slice Ao92 t463.length co92, .slice Ao94 t466.length co94, .slice Ao95 t469.length co95, .bool ((Go.bits .and .u64 t432 1) == 0), .bool false]) ?_ 4 _ rfl; refine blk_put (cs := #[.slice Ao92 t463.length co92, .slice Ao94 t466.length co94, .slice Ao95 t469.length co95, .bool false, .bool false]) ?_ 3 _ rfl; refine blk_put (cs := #[.slice Ao92 t463.length co92, .slice Ao94 t466.length co94, .slice none 0 0, .bool false, .bool false]) ?_ 2 _ rfl; refine blk_put (cs := #[.slice Ao92 t463.length co92, .slice none 0 0, .slice none 0 0, .bool false, .bool false]) ?_ 1 _ rfl; refine blk_put (cs := #[.slice none 0 0, .slice none 0 0, .slice none 0 0, .bool false, .bool false]) ?_ 0 _ rfl; refine blk_far ?_ NB420_462.out _; refine blk_far ?_ NB420_462.out _; refine blk_far ?_ NB420_462.out _; exact BK420.out) Tryd.underlying43 rfl (by kernel_rfl)) rfl ?_
         exact ⟨_, _, _, by first | rfl | (simp [errW_none, errW_some] <;> rfl) | (simp [*, errW_none, errW_some] <;> rfl), by exact Kd.R_mono (Kd.R_far (p := ⟨gb420, 4, none⟩) (Kd.R_far (p := ⟨gb420, 3, none⟩) (Kd.R_far (p := ⟨gb420, 2, none⟩) (Kd.R_far (p := ⟨gb420, 1, none⟩) (Kd.R_far (p := ⟨gb420, 0, none⟩) (Kd.R_far (p := ⟨gb462, 2, none⟩) (Kd.R_far (p := ⟨gb462, 1, none⟩) (Kd.R_far (p := ⟨gb462, 0, none⟩) (Kd.R_types (Kd.R_types HO465.out BK462.out (by decide)) BK420.out (by decide)) (fun _ hk => hk.1.2) (.slice Ao92 t463.length co92)) (fun _ hk => hk.1.2) (.slice Ao94 t466.length co94)) (fun _ hk => hk.1.2) (.slice Ao95 t469.length co95)) (fun _ hk => hk.2) (.slice Ao92 t463.length co92)) (fun _ hk => hk.2) (.slice Ao94 t466.length co94)) (fun _ hk => hk.2) (.slice Ao95 t469.length co95)) (fun _ hk => hk.2) (.bool ((Go.bits .and .u64 t432 1) == 0))) (fun _ hk => hk.2) (.bool true)) (fun _ hk => ⟨hk.1.1.1.2, hk.1.1.2⟩), by exact Kd.R_mono (Kd.R_far (p := ⟨gb420, 4, none⟩) (Kd.R_far (p := ⟨gb420, 3, none⟩) (Kd.R_far (p := ⟨gb420, 2, none⟩) (Kd.R_far (p := ⟨gb420, 1, none⟩) (Kd.R_far (p := ⟨gb420, 0, none⟩) (Kd.R_far (p := ⟨gb462, 2, none⟩) (Kd.R_far (p := ⟨gb462, 1, none⟩) (Kd.R_far (p := ⟨gb462, 0, none⟩) (Kd.R_types (Kd.R_types HO468.out BK462.out (by decide)) BK420.out (by decide)) (fun _ hk => hk.1.2) (.slice Ao92 t463.length co92)) (fun _ hk => hk.1.2) (.slice Ao94 t466.length co94)) (fun _ hk => hk.1.2) (.slice Ao95 t469.length co95)) (fun _ hk => hk.2) (.slice Ao92 t463.length co92)) (fun _ hk => hk.2) (.slice Ao94 t466.length co94)) (fun _ hk => hk.2) (.slice Ao95 t469.length co95)) (fun _ hk => hk.2) (.bool ((Go.bits .and .u64 t432 1) == 0))) (fun _ hk => hk.2) (.bool true)) (fun _ hk => ⟨hk.1.1.1.2, hk.1.1.2⟩), by exact Kd.R_mono (Kd.R_far (p := ⟨gb420, 4, none⟩) (Kd.R_far (p := ⟨gb420, 3, none⟩) (Kd.R_far (p := ⟨gb420, 2, none⟩) (Kd.R_far (p := ⟨gb420, 1, none⟩) (Kd.R_far (p := ⟨gb420, 0, none⟩) (Kd.R_far (p := ⟨gb462, 2, none⟩) (Kd.R_far (p := ⟨gb462, 1, none⟩) (Kd.R_far (p := ⟨gb462, 0, none⟩) (Kd.R_types (Kd.R_types HO471.out BK462.out (by decide)) BK420.out (by decide)) (fun _ hk => hk.1.2) (.slice Ao92 t463.length co92)) (fun _ hk => hk.1.2) (.slice Ao94 t466.length co94)) (fun _ hk => hk.1.2) (.slice Ao95 t469.length co95)) (fun _ hk => hk.2) (.slice Ao92 t463.length co92)) (fun _ hk => hk.2) (.slice Ao94 t466.length co94)) (fun _ hk => hk.2) (.slice Ao95 t469.length co95)) (fun _ hk => hk.2) (.bool ((Go.bits .and .u64 t432 1) == 0))) (fun _ hk => hk.2) (.bool true)) (fun _ hk => ⟨hk.1.1.1.2, hk.1.1.2⟩), by repeat (first | (with_reducible first | exact HB.out | apply yA | apply yN | apply yD | refine below_set ?_ GE419.out | refine below_set ?_ GE420.out | refine below_set ?_ GE428.out | refine below_set ?_ GE434.out | refine below_set ?_ GE462.out) | exact HB.out)⟩
        ·rw [if_neg c73] at H
         have c73b0 : decide (0 ≤ (wrap64 (t433 - 2))) = false := decide_eq_false c73
         clear c73
         replace H := Option.bind_eq_some_iff.mp H
         obtain ⟨t472, A990, H⟩ := H
         replace H : ((impl_nat_left.f kj65 t472 (wrap64 (-(wrap64 (t433 - 2))))).bind fun t475 => (some (x10_65, t444, t475, ((Go.bits .and .u64 t432 1) == 0), true))) = some (r1, r2, r3, r4, r5) := H
         have A99 := zM A990
         clear A990
         replace H := Option.bind_eq_some_iff.mp H
         obtain ⟨t475, A1000, H⟩ := H
         replace H : (some (x10_65, t444, t475, ((Go.bits .and .u64 t432 1) == 0), true)) = some (r1, r2, r3, r4, r5) := H
         have A100 := zM A1000
         clear A1000
         simp only [Option.some.injEq, Prod.mk.injEq] at H
         obtain ⟨rfl, rfl, rfl, rfl, rfl⟩ := H
         have hnb101 := NB434_419.out
         have hnc101 := NB419_434.out
         have hnb102 := NB434_420.out
         have hnc102 := NB420_434.out
         have hnb103 := NB434_428.out
         have hnc103 := NB428_434.out
         have hcz104_0 : wc.cell? ⟨gb434, 0, none⟩ = some (.int .i64 t429) := (blk_cell BK434.out 0).trans rfl
         have hcz104_1 : wc.cell? ⟨gb434, 1, none⟩ = some (.bool t430) := (blk_cell BK434.out 1).trans rfl
         have hcz104_2 : wc.cell? ⟨gb434, 2, none⟩ = some (.int .u64 t431) := (blk_cell BK434.out 2).trans rfl
         have hcz104_3 : wc.cell? ⟨gb434, 3, none⟩ = some (.int .u64 t432) := (blk_cell BK434.out 3).trans rfl
         have hcz104_4 : wc.cell? ⟨gb434, 4, none⟩ = some (.int .i64 t433) := (blk_cell BK434.out 4).trans rfl
         have hfz104_0 := blk_frozen BK434.out 0
         have hfz104_1 := blk_frozen BK434.out 1
         have hfz104_2 := blk_frozen BK434.out 2
         have hfz104_3 := blk_frozen BK434.out 3
         have hfz104_4 := blk_frozen BK434.out 4
         go_wp2_with (first | ((with_reducible refine gate_dst (N := 12) rfl ?_); refine box_event ?hg (N := 12) ?hd (cs := #[.slice none 0 0, .slice none 0 0, .slice none 0 0, .bool false, .bool false]) (t := 43) ?hr ?_; (case hd => rfl); (case hg => rfl); (case hr => first | (go_simp; done) | (go_simp; rfl)); intro gb462 hg w105 hbox hb; have n0_ := zM (Kd.R_below (by exact HO_9.out) hb); have n1_ := zM (Kd.R_below (by exact HO_10.out) hb); have n2_ := zM (blk_below BK419.out hb); have n3_ := zM (blk_below BK420.out hb); have n4_ := zM (blk_below BK428.out hb); have n5_ := zM (blk_below BK434.out hb); have n6_ := zM (below_step HB.out hb); have n7_ := zM (hbox); have n8_ := zM ((by rw [hg]; exact (below_size HB.out) : w.heap.size ≤ gb462)); have n9_ := zM ((by rw [hg]; exact (below_size HB.out) : w.heap.size ≤ gb462)); have n10_ := zM ((by rw [hg]; exact Nat.ne_of_lt (blk_lt BK419.out) : gb419 ≠ gb462)); have n11_ := zM ((by rw [hg]; exact Nat.ne_of_gt (blk_lt BK419.out) : gb462 ≠ gb419)); have n12_ := zM ((by rw [hg]; exact Nat.ne_of_lt (blk_lt BK420.out) : gb420 ≠ gb462)); have n13_ := zM ((by rw [hg]; exact Nat.ne_of_gt (blk_lt BK420.out) : gb462 ≠ gb420)); have n14_ := zM ((by rw [hg]; exact Nat.ne_of_lt (blk_lt BK428.out) : gb428 ≠ gb462)); have n15_ := zM ((by rw [hg]; exact Nat.ne_of_gt (blk_lt BK428.out) : gb462 ≠ gb428)); have n16_ := zM ((by rw [hg]; exact Nat.ne_of_lt (blk_lt BK434.out) : gb434 ≠ gb462)); have n17_ := zM ((by rw [hg]; exact Nat.ne_of_gt (blk_lt BK434.out) : gb462 ≠ gb434)); clear HO_9; clear HO_10; clear BK419; clear BK420; clear BK428; clear BK434; clear HB; have HO_9 := n0_; have HO_10 := n1_; have BK419 := n2_; have BK420 := n3_; have BK428 := n4_; have BK434 := n5_; have HB := n6_; have BK462 := n7_; have GW462 := n8_; have GE462 := n9_; have NB419_462 := n10_; have NB462_419 := n11_; have NB420_462 := n12_; have NB462_420 := n13_; have NB428_462 := n14_; have NB462_428 := n15_; have NB434_462 := n16_; have NB462_434 := n17_; clear n0_ n1_ n2_ n3_ n4_ n5_ n6_ n7_ n8_ n9_ n10_ n11_ n12_ n13_ n14_ n15_ n16_ n17_; clear hb hbox hg; have hnb106 := NB462_419.out; have hnc106 := NB419_462.out; have hnb107 := NB462_420.out; have hnc107 := NB420_462.out; have hnb108 := NB462_428.out; have hnc108 := NB428_462.out; have hnb109 := NB462_434.out; have hnc109 := NB434_462.out; have hcz110_0 : w105.cell? ⟨gb462, 0, none⟩ = some (.slice none 0 0) := (blk_cell BK462.out 0).trans rfl; have hcz110_1 : w105.cell? ⟨gb462, 1, none⟩ = some (.slice none 0 0) := (blk_cell BK462.out 1).trans rfl; have hcz110_2 : w105.cell? ⟨gb462, 2, none⟩ = some (.slice none 0 0) := (blk_cell BK462.out 2).trans rfl; have hcz110_3 : w105.cell? ⟨gb462, 3, none⟩ = some (.bool false) := (blk_cell BK462.out 3).trans rfl; have hcz110_4 : w105.cell? ⟨gb462, 4, none⟩ = some (.bool false) := (blk_cell BK462.out 4).trans rfl; have hfz110_0 := blk_frozen BK462.out 0; have hfz110_1 := blk_frozen BK462.out 1; have hfz110_2 := blk_frozen BK462.out 2; have hfz110_3 := blk_frozen BK462.out 3; have hfz110_4 := blk_frozen BK462.out 4) | ((with_reducible refine gate_callee (f := 85) rfl ?_); refine goesL_ (some 86) rfl rfl Tryd.func85 (by kernel_rfl) rfl #[.int .u64 1] rfl (by first | rfl | (simp only [List.map_toArray, List.map_cons, List.map_nil, List.length_drop, List.length_take]; rfl)) ?_; (with_reducible refine (impl_word.calls 1 t472 _ A99.out).mono ?_); rintro e w111 ⟨v473, rfl, ho0, hb⟩; refine ⟨_, rfl, ?_⟩; have n0_ := zM (Kd.R_elder' (by exact (Kd.R_mono (Kd.R_far (p := ⟨gb462, 4, none⟩) (Kd.R_far (p := ⟨gb462, 3, none⟩) (Kd.R_far (p := ⟨gb462, 2, none⟩) (Kd.R_far (p := ⟨gb462, 1, none⟩) (Kd.R_far (p := ⟨gb462, 0, none⟩) (Kd.R_types HO_9.out BK462.out (by decide)) (fun _ hk => hk.2) (.slice none 0 0)) (fun _ hk => hk.2) (.slice none 0 0)) (fun _ hk => hk.2) (.slice none 0 0)) (fun _ hk => hk.2) (.bool ((Go.bits .and .u64 t432 1) == 0))) (fun _ hk => hk.2) (.bool true)) (fun _ h_ => h_.1))) (Kd.R_base ho0) hb); have n1_ := zM (Kd.R_elder' (by exact (Kd.R_mono (Kd.R_far (p := ⟨gb462, 4, none⟩) (Kd.R_far (p := ⟨gb462, 3, none⟩) (Kd.R_far (p := ⟨gb462, 2, none⟩) (Kd.R_far (p := ⟨gb462, 1, none⟩) (Kd.R_far (p := ⟨gb462, 0, none⟩) (Kd.R_types HO_10.out BK462.out (by decide)) (fun _ hk => hk.2) (.slice none 0 0)) (fun _ hk => hk.2) (.slice none 0 0)) (fun _ hk => hk.2) (.slice none 0 0)) (fun _ hk => hk.2) (.bool ((Go.bits .and .u64 t432 1) == 0))) (fun _ hk => hk.2) (.bool true)) (fun _ h_ => h_.1))) (Kd.R_base ho0) hb); have n2_ := zM (Kd.R_lower (Kd.R_new' (Kd.R_new' ho0 (Kd.R_lt (by exact (Kd.R_mono (Kd.R_far (p := ⟨gb462, 4, none⟩) (Kd.R_far (p := ⟨gb462, 3, none⟩) (Kd.R_far (p := ⟨gb462, 2, none⟩) (Kd.R_far (p := ⟨gb462, 1, none⟩) (Kd.R_far (p := ⟨gb462, 0, none⟩) (Kd.R_types HO_9.out BK462.out (by decide)) (fun _ hk => hk.2) (.slice none 0 0)) (fun _ hk => hk.2) (.slice none 0 0)) (fun _ hk => hk.2) (.slice none 0 0)) (fun _ hk => hk.2) (.bool ((Go.bits .and .u64 t432 1) == 0))) (fun _ hk => hk.2) (.bool true)) (fun _ h_ => h_.1))))) (Kd.R_lt (by exact (Kd.R_mono (Kd.R_far (p := ⟨gb462, 4, none⟩) (Kd.R_far (p := ⟨gb462, 3, none⟩) (Kd.R_far (p := ⟨gb462, 2, none⟩) (Kd.R_far (p := ⟨gb462, 1, none⟩) (Kd.R_far (p := ⟨gb462, 0, none⟩) (Kd.R_types HO_10.out BK462.out (by decide)) (fun _ hk => hk.2) (.slice none 0 0)) (fun _ hk => hk.2) (.slice none 0 0)) (fun _ hk => hk.2) (.slice none 0 0)) (fun _ hk => hk.2) (.bool ((Go.bits .and .u64 t432 1) == 0))) (fun _ hk => hk.2) (.bool true)) (fun _ h_ => h_.1))))) (below_size (by repeat (first | (with_reducible first | exact HB.out | apply yA | apply yN | apply yD | refine below_set ?_ GE419.out | refine below_set ?_ GE420.out | refine below_set ?_ GE428.out | refine below_set ?_ GE434.out | refine below_set ?_ GE462.out) | exact HB.out)))); have n3_ := zM (blk_below (g := gb419) (o := .cells #[.int .u64 a1_0, .int .u64 a1_1] 25 (0, 0)) (by refine blk_far ?_ NB419_462.out _; refine blk_far ?_ NB419_462.out _; refine blk_far ?_ NB419_462.out _; refine blk_far ?_ NB419_462.out _; refine blk_far ?_ NB419_462.out _; exact BK419.out) hb); have n4_ := zM (blk_below (g := gb420) (o := .cells #[.slice none 0 0, .slice none 0 0, .slice none 0 0, .bool false, .bool false] 43 (0, 0)) (by refine blk_far ?_ NB420_462.out _; refine blk_far ?_ NB420_462.out _; refine blk_far ?_ NB420_462.out _; refine blk_far ?_ NB420_462.out _; refine blk_far ?_ NB420_462.out _; exact BK420.out) hb); have n5_ := zM (blk_below (g := gb428) (o := .cells #[.int .i64 t421, .int .i64 t422, .int .i64 t423, .int .i64 t424, .int .i64 t425, .bool t426] 91 (0, 0)) (by refine blk_far ?_ NB428_462.out _; refine blk_far ?_ NB428_462.out _; refine blk_far ?_ NB428_462.out _; refine blk_far ?_ NB428_462.out _; refine blk_far ?_ NB428_462.out _; exact BK428.out) hb); have n6_ := zM (blk_below (g := gb434) (o := .cells #[.int .i64 t429, .bool t430, .int .u64 t431, .int .u64 t432, .int .i64 t433] 27 (0, 0)) (by refine blk_far ?_ NB434_462.out _; refine blk_far ?_ NB434_462.out _; refine blk_far ?_ NB434_462.out _; refine blk_far ?_ NB434_462.out _; refine blk_far ?_ NB434_462.out _; exact BK434.out) hb); have n7_ := zM (blk_below (g := gb462) (o := .cells #[.slice none 0 0, .slice none 0 0, .slice none 0 0, .bool ((Go.bits .and .u64 t432 1) == 0), .bool true] 43 (0, 0)) (by refine blk_put (cs := #[.slice none 0 0, .slice none 0 0, .slice none 0 0, .bool ((Go.bits .and .u64 t432 1) == 0), .bool false]) ?_ 4 _ rfl; refine blk_put (cs := #[.slice none 0 0, .slice none 0 0, .slice none 0 0, .bool false, .bool false]) ?_ 3 _ rfl; refine blk_put (cs := #[.slice none 0 0, .slice none 0 0, .slice none 0 0, .bool false, .bool false]) ?_ 2 _ rfl; refine blk_put (cs := #[.slice none 0 0, .slice none 0 0, .slice none 0 0, .bool false, .bool false]) ?_ 1 _ rfl; refine blk_put (cs := #[.slice none 0 0, .slice none 0 0, .slice none 0 0, .bool false, .bool false]) ?_ 0 _ rfl; exact BK462.out) hb); have n8_ := zM (below_step (by repeat (first | (with_reducible first | exact HB.out | apply yA | apply yN | apply yD | refine below_set ?_ GE419.out | refine below_set ?_ GE420.out | refine below_set ?_ GE428.out | refine below_set ?_ GE434.out | refine below_set ?_ GE462.out) | exact HB.out)) hb); clear HO_9; clear HO_10; clear BK419; clear BK420; clear BK428; clear BK434; clear BK462; clear HB; have HO_9 := n0_; have HO_10 := n1_; have HO474 := n2_; have BK419 := n3_; have BK420 := n4_; have BK428 := n5_; have BK434 := n6_; have BK462 := n7_; have HB := n8_; clear n0_ n1_ n2_ n3_ n4_ n5_ n6_ n7_ n8_; (try clear hb); (try clear hb2); (try clear hk); (try clear hi); (try clear ho0); obtain ⟨Ao112, co112, eo112⟩ := Kd.R_slice HO474.out; subst eo112) | ((with_reducible refine gate_callee (f := 83) rfl ?_); refine goesL_ (some 89) rfl rfl Tryd.func83 (by kernel_rfl) rfl #[.slice Ao112 t472.length co112, .int .i64 (wrap64 (-(wrap64 (t433 - 2))))] rfl (by first | rfl | (simp only [List.map_toArray, List.map_cons, List.map_nil, List.length_drop, List.length_take]; rfl)) ?_; (with_reducible refine (impl_nat_left.calls kj65 _ _ t472 (wrap64 (-(wrap64 (t433 - 2)))) t475 _ ?side1 ?side2 A100.out).mono ?_); (case side1 => repeat (first | exact (Kd.R_reads' HO474.out).2.2 | (with_reducible refine Kd.C_alloc ?_ _) | (with_reducible refine Kd.C_drewN ?_ _) | (with_reducible refine Kd.C_drew ?_))); (case side2 => exact (Kd.R_reads' HO474.out).2.1); rintro e w113 ⟨v476, rfl, ho0, hb⟩; refine ⟨_, rfl, ?_⟩; have n0_ := zM (Kd.R_elder' (by exact HO_9.out) (Kd.R_base ho0) hb); have n1_ := zM (Kd.R_elder' (by exact HO_10.out) (Kd.R_base ho0) hb); have n2_ := zM (Kd.R_elder' (by exact HO474.out) (Kd.R_base ho0) hb); have n3_ := zM (Kd.R_lower (Kd.R_new' (Kd.R_new' (Kd.R_new' ho0 (Kd.R_lt (by exact HO_9.out))) (Kd.R_lt (by exact HO_10.out))) (Kd.R_lt (by exact HO474.out))) (below_size HB.out)); have n4_ := zM (blk_below BK419.out hb); have n5_ := zM (blk_below BK420.out hb); have n6_ := zM (blk_below BK428.out hb); have n7_ := zM (blk_below BK434.out hb); have n8_ := zM (blk_below BK462.out hb); have n9_ := zM (below_step HB.out hb); clear HO_9; clear HO_10; clear HO474; clear BK419; clear BK420; clear BK428; clear BK434; clear BK462; clear HB; have HO_9 := n0_; have HO_10 := n1_; have HO474 := n2_; have HO477 := n3_; have BK419 := n4_; have BK420 := n5_; have BK428 := n6_; have BK434 := n7_; have BK462 := n8_; have HB := n9_; clear n0_ n1_ n2_ n3_ n4_ n5_ n6_ n7_ n8_ n9_; (try clear hb); (try clear hb2); (try clear hk); (try clear hi); (try clear ho0); obtain ⟨Ao114, co114, eo114⟩ := Kd.R_slice HO_10.out; subst eo114; have hcz115_0 : w113.cell? ⟨gb462, 0, none⟩ = some (.slice none 0 0) := (blk_cell BK462.out 0).trans rfl; have hcz115_1 : w113.cell? ⟨gb462, 1, none⟩ = some (.slice none 0 0) := (blk_cell BK462.out 1).trans rfl; have hcz115_2 : w113.cell? ⟨gb462, 2, none⟩ = some (.slice none 0 0) := (blk_cell BK462.out 2).trans rfl; have hcz115_3 : w113.cell? ⟨gb462, 3, none⟩ = some (.bool ((Go.bits .and .u64 t432 1) == 0)) := (blk_cell BK462.out 3).trans rfl; have hcz115_4 : w113.cell? ⟨gb462, 4, none⟩ = some (.bool true) := (blk_cell BK462.out 4).trans rfl; have hfz115_0 := blk_frozen BK462.out 0; have hfz115_1 := blk_frozen BK462.out 1; have hfz115_2 := blk_frozen BK462.out 2; have hfz115_3 := blk_frozen BK462.out 3; have hfz115_4 := blk_frozen BK462.out 4; obtain ⟨Ao116, co116, eo116⟩ := Kd.R_slice HO_9.out; subst eo116; obtain ⟨Ao117, co117, eo117⟩ := Kd.R_slice HO477.out; subst eo117; have hnb118 := NB420_419.out; have hnc118 := NB419_420.out; have hnb119 := NB420_428.out; have hnc119 := NB428_420.out; have hcz120_0 : w113.cell? ⟨gb420, 0, none⟩ = some (.slice none 0 0) := (blk_cell BK420.out 0).trans rfl; have hcz120_1 : w113.cell? ⟨gb420, 1, none⟩ = some (.slice none 0 0) := (blk_cell BK420.out 1).trans rfl; have hcz120_2 : w113.cell? ⟨gb420, 2, none⟩ = some (.slice none 0 0) := (blk_cell BK420.out 2).trans rfl; have hcz120_3 : w113.cell? ⟨gb420, 3, none⟩ = some (.bool false) := (blk_cell BK420.out 3).trans rfl; have hcz120_4 : w113.cell? ⟨gb420, 4, none⟩ = some (.bool false) := (blk_cell BK420.out 4).trans rfl; have hfz120_0 := blk_frozen BK420.out 0; have hfz120_1 := blk_frozen BK420.out 1; have hfz120_2 := blk_frozen BK420.out 2; have hfz120_3 := blk_frozen BK420.out 3; have hfz120_4 := blk_frozen BK420.out 4))
         refine bodyPost_ret (results_cell_row rfl _ _ gb420 43 #[.slice Ao114 x10_65.length co114, .slice Ao116 t444.length co116, .slice Ao117 t475.length co117, .bool ((Go.bits .and .u64 t432 1) == 0), .bool true] (0, 0) _ rfl (by refine blk_put (cs := #[.slice Ao114 x10_65.length co114, .slice Ao116 t444.length co116, .slice Ao117 t475.length co117, .bool ((Go.bits .and .u64 t432 1) == 0), .bool false]) ?_ 4 _ rfl; refine blk_put (cs := #[.slice Ao114 x10_65.length co114, .slice Ao116 t444.length co116, .slice Ao117 t475.length co117, .bool false, .bool false]) ?_ 3 _ rfl; refine blk_put (cs := #[.slice Ao114 x10_65.length co114, .slice Ao116 t444.length co116, .slice none 0 0, .bool false, .bool false]) ?_ 2 _ rfl; refine blk_put (cs := #[.slice Ao114 x10_65.length co114, .slice none 0 0, .slice none 0 0, .bool false, .bool false]) ?_ 1 _ rfl; refine blk_put (cs := #[.slice none 0 0, .slice none 0 0, .slice none 0 0, .bool false, .bool false]) ?_ 0 _ rfl; refine blk_far ?_ NB420_462.out _; refine blk_far ?_ NB420_462.out _; refine blk_far ?_ NB420_462.out _; exact BK420.out) Tryd.underlying43 rfl (by kernel_rfl)) rfl ?_
         exact ⟨_, _, _, by first | rfl | (simp [errW_none, errW_some] <;> rfl) | (simp [*, errW_none, errW_some] <;> rfl), by exact Kd.R_mono (Kd.R_far (p := ⟨gb420, 4, none⟩) (Kd.R_far (p := ⟨gb420, 3, none⟩) (Kd.R_far (p := ⟨gb420, 2, none⟩) (Kd.R_far (p := ⟨gb420, 1, none⟩) (Kd.R_far (p := ⟨gb420, 0, none⟩) (Kd.R_far (p := ⟨gb462, 2, none⟩) (Kd.R_far (p := ⟨gb462, 1, none⟩) (Kd.R_far (p := ⟨gb462, 0, none⟩) (Kd.R_types (Kd.R_types HO_10.out BK462.out (by decide)) BK420.out (by decide)) (fun _ hk => hk.1.2) (.slice Ao114 x10_65.length co114)) (fun _ hk => hk.1.2) (.slice Ao116 t444.length co116)) (fun _ hk => hk.1.2) (.slice Ao117 t475.length co117)) (fun _ hk => hk.2) (.slice Ao114 x10_65.length co114)) (fun _ hk => hk.2) (.slice Ao116 t444.length co116)) (fun _ hk => hk.2) (.slice Ao117 t475.length co117)) (fun _ hk => hk.2) (.bool ((Go.bits .and .u64 t432 1) == 0))) (fun _ hk => hk.2) (.bool true)) (fun _ hk => ⟨hk.1.1.1.1, hk.1.1.2⟩), by exact Kd.R_mono (Kd.R_far (p := ⟨gb420, 4, none⟩) (Kd.R_far (p := ⟨gb420, 3, none⟩) (Kd.R_far (p := ⟨gb420, 2, none⟩) (Kd.R_far (p := ⟨gb420, 1, none⟩) (Kd.R_far (p := ⟨gb420, 0, none⟩) (Kd.R_far (p := ⟨gb462, 2, none⟩) (Kd.R_far (p := ⟨gb462, 1, none⟩) (Kd.R_far (p := ⟨gb462, 0, none⟩) (Kd.R_types (Kd.R_types HO_9.out BK462.out (by decide)) BK420.out (by decide)) (fun _ hk => hk.1.2) (.slice Ao114 x10_65.length co114)) (fun _ hk => hk.1.2) (.slice Ao116 t444.length co116)) (fun _ hk => hk.1.2) (.slice Ao117 t475.length co117)) (fun _ hk => hk.2) (.slice Ao114 x10_65.length co114)) (fun _ hk => hk.2) (.slice Ao116 t444.length co116)) (fun _ hk => hk.2) (.slice Ao117 t475.length co117)) (fun _ hk => hk.2) (.bool ((Go.bits .and .u64 t432 1) == 0))) (fun _ hk => hk.2) (.bool true)) (fun _ hk => ⟨hk.1.1.1.1, hk.1.1.2⟩), by exact Kd.R_mono (Kd.R_far (p := ⟨gb420, 4, none⟩) (Kd.R_far (p := ⟨gb420, 3, none⟩) (Kd.R_far (p := ⟨gb420, 2, none⟩) (Kd.R_far (p := ⟨gb420, 1, none⟩) (Kd.R_far (p := ⟨gb420, 0, none⟩) (Kd.R_far (p := ⟨gb462, 2, none⟩) (Kd.R_far (p := ⟨gb462, 1, none⟩) (Kd.R_far (p := ⟨gb462, 0, none⟩) (Kd.R_types (Kd.R_types HO477.out BK462.out (by decide)) BK420.out (by decide)) (fun _ hk => hk.1.2) (.slice Ao114 x10_65.length co114)) (fun _ hk => hk.1.2) (.slice Ao116 t444.length co116)) (fun _ hk => hk.1.2) (.slice Ao117 t475.length co117)) (fun _ hk => hk.2) (.slice Ao114 x10_65.length co114)) (fun _ hk => hk.2) (.slice Ao116 t444.length co116)) (fun _ hk => hk.2) (.slice Ao117 t475.length co117)) (fun _ hk => hk.2) (.bool ((Go.bits .and .u64 t432 1) == 0))) (fun _ hk => hk.2) (.bool true)) (fun _ hk => ⟨hk.1.1.1.2, hk.1.1.1.1.2⟩), by repeat (first | (with_reducible first | exact HB.out | apply yA | apply yN | apply yD | refine below_set ?_ GE419.out | refine below_set ?_ GE420.out | refine below_set ?_ GE428.out | refine below_set ?_ GE434.out | refine below_set ?_ GE462.out) | exact HB.out)⟩
end Go.Proofs.YtdbnmdchecacdaaDoor.PB
end
section
namespace Go.Proofs.YtdbnmdchecacdaaDoor.M
open Go.RowKit Go.Proofs.YtdbnmdchecacdaaDoor.G Go.Proofs.YtdbnmdchecacdaaDoorV.PrintWords Go.Proofs.YtdbnmdchecacdaaDoorV.PrintLast Go.Proofs.YtdbnmdchecacdaaDoorV.PrintMore Go.Proofs.YtdbnmdchecacdaaDoor.PB
set_option linter.unusedVariables false
set_option linter.unusedSimpArgs false
theorem nat_wordB (L : Nat) (hL : L < B128) : ∃ r, impl_Word_nat.f (hiI L) (loI L) = some r ∧ IsNat r L ∧ r.length ≤ 2 := by
  have h1 := hi_lt hL
  have h2 := lo_lt L
  refine ⟨trimL [loI L, hiI L], rfl, ⟨(Dig.cons ?_ (Dig.cons ?_ (Dig.nil _))).trim, norm_trim _, ?_⟩, trimL_length _⟩
  · unfold loI B64; omega
  · unfold hiI B64; omega
  · rw [val_trim, val_cons, val_one]
    unfold hiI loI B64
    rw [Int.toNat_natCast, Int.toNat_natCast]
    omega
theorem word_eq_iff (S T : Nat) : (hiI S == hiI T && (loI S == loI T)) = decide (S = T) := by
  by_cases h : S = T
  · subst h
    rw [decide_eq_true rfl]
    simp
  · rw [decide_eq_false h]
    by_cases h1 : hiI S = hiI T
    · have h2 : (loI S == loI T) = false := by
        rw [beq_eq_false_iff_ne]
        unfold hiI loI at *
        omega
      rw [h2, Bool.and_false]
    · have h2 : (hiI S == hiI T) = false := by rw [beq_eq_false_iff_ne]; exact h1
      rw [h2, Bool.false_and]
abbrev Itv : Type := List Int × List Int × List Int × Bool × Bool
theorem ib_j2 (x9 x10 : List Int) (lo hi : Nat) (h9 : IsNat x9 hi) (h10 : IsNat x10 lo) (l9 : x9.length ≤ 100) (l10 : x10.length ≤ 100) (c : Int) (neg : Bool) (a b : Int) (q : Int) (q0 : -30000 ≤ q) (q1 : q ≤ 60000) :
    ∃ r : Spn, Ev (fun k => impl_Bounds.j2 k x9 x10 c neg a b q) ((r.1, r.2.1, r.2.2, (Go.bits .and .u64 b 1 == 0), true) : Itv) ∧ (if q - 2 ≥ 0 then IsNat r.1 (lo * 2 ^ (q - 2).toNat) ∧ IsNat r.2.1 (hi * 2 ^ (q - 2).toNat) ∧ IsNat r.2.2 1 else IsNat r.1 lo ∧ IsNat r.2.1 hi ∧ IsNat r.2.2 (2 ^ (2 - q).toNat)) := by
  have hw := word_nat 1 (by decide)
  rw [show ((1 : Nat) : Int) = 1 from rfl] at hw
  obtain ⟨o1, ol⟩ := hw
  have oe : impl_word.f 1 = some (trimL [1]) := word_eq 1
  by_cases ht : q - 2 ≥ 0
  · obtain ⟨n, hn⟩ : ∃ n : Nat, q - 2 = (n : Int) := ⟨(q - 2).toNat, by omega⟩
    have hn2 : n ≤ 1000000 := by omega
    obtain ⟨r1, e1, d1, n1, v1⟩ := ileft_ev x10 h10.1 (by omega) n hn2
    obtain ⟨r2, e2, d2, n2, v2⟩ := ileft_ev x9 h9.1 (by omega) n hn2
    have ww : wrap64 (q - 2) = (n : Int) := by rw [wsm _ (by clear v1 v2; omega)]; exact hn
    refine ⟨(r1, r2, trimL [1]), ?_, ?_⟩
    · refine Ev.step (f := fun k => (impl_nat_left.f k x10 (n : Int)).bind fun t463 => ((impl_nat_left.f k x9 (n : Int)).bind fun t466 => ((impl_word.f 1).bind fun t469 => (some (t463, t466, t469, ((Go.bits .and .u64 b 1) == 0), true))))) (fun k => ?_) (Ev.bind e1 (Ev.bind e2 (ev_bindc oe (Ev.now _))))
      simp only [impl_Bounds.j2]
      rw [ww, if_pos (Int.natCast_nonneg _)]
    · rw [if_pos ht, hn, Int.toNat_natCast]
      exact ⟨⟨d1, n1, by rw [v1, h10.2.2]⟩, ⟨d2, n2, by rw [v2, h9.2.2]⟩, o1⟩
  · obtain ⟨n, hn⟩ : ∃ n : Nat, 2 - q = (n : Int) := ⟨(2 - q).toNat, by omega⟩
    have hn2 : n ≤ 1000000 := by omega
    obtain ⟨r1, e1, d1, n1, v1⟩ := ileft_ev (trimL [1]) o1.1 (by omega) n hn2
    have w0 : wrap64 (q - 2) = q - 2 := wsm _ (by clear v1; omega)
    have ww : wrap64 (-(q - 2)) = (n : Int) := by clear w0; rw [wsm _ (by clear v1; omega)]; clear v1; omega
    refine ⟨(x10, x9, r1), ?_, ?_⟩
    · refine Ev.step (f := fun k => (impl_word.f 1).bind fun t472 => ((impl_nat_left.f k t472 (n : Int)).bind fun t475 => (some (x10, x9, t475, ((Go.bits .and .u64 b 1) == 0), true)))) (fun k => ?_) (ev_bindc oe (Ev.bind e1 (Ev.now _)))
      simp only [impl_Bounds.j2]
      rw [w0, if_neg ht, ww]
    · rw [if_neg ht, hn, Int.toNat_natCast]
      exact ⟨h10, h9, ⟨d1, n1, by rw [v1, o1.2.2, Nat.one_mul]⟩⟩
theorem ib_j0 {P : Nat} {emin emax : Int} {W E : Nat} {ex : Bool} (h : Fmt P emin emax W E ex) (c : Int) (neg : Bool) (S : Nat) (q : Int) (s0 : 0 < S) (s1 : S < 2 ^ P) (q0 : -30000 ≤ q) (q1 : q ≤ 60000) :
    ∃ r : Spn, Ev (fun k => impl_Bounds.j0 k false (P : Int) emin emax (W : Int) (E : Int) ex c neg (hiI S) (loI S) q) ((r.1, r.2.1, r.2.2, (Go.bits .and .u64 (loI S) 1 == 0), true) : Itv) ∧ IsNat r.1 (spanV (nearB P emin c S q) S q).1 ∧ IsNat r.2.1 (spanV (nearB P emin c S q) S q).2.1 ∧ IsNat r.2.2 (spanV (nearB P emin c S q) S q).2.2 := by
  have p0 := h.p0
  have p1 := h.p1
  have m0 := h.m0
  have hB : S < B128 := Nat.lt_of_lt_of_le s1 (show 2 ^ P ≤ 2 ^ 128 from Nat.pow_le_pow_right (by decide) (by omega))
  obtain ⟨A, hA, NA, lA⟩ := nat_wordB S hB
  obtain ⟨F0, hF0, dF0, nF0, vF0⟩ := ileft_ev A NA.1 (by omega) 2 (by decide)
  rw [NA.2.2, show 2 ^ 2 = 4 from rfl] at vF0
  have lF : F0.length ≤ 10 := by
    rcases Nat.lt_or_ge 10 F0.length with h1 | h1
    · have h2 := val_ge dF0 nF0 (by omega)
      have h3 : B64 ^ 3 ≤ B64 ^ (F0.length - 1) := Nat.pow_le_pow_right B64_pos (by omega)
      have h4 : B64 ^ 3 = 2 ^ 192 := by decide
      rw [vF0] at h2
      have h5 : (2 : Nat) ^ 128 * 4 < 2 ^ 192 := by decide
      have h6 : B128 = 2 ^ 128 := by decide
      exfalso
      have h7 : S * 4 < 2 ^ 192 := by omega
      omega
    · exact h1
  have hw1 := word_nat 1 (by decide)
  rw [show ((1 : Nat) : Int) = 1 from rfl] at hw1
  obtain ⟨N1, l1⟩ := hw1
  have e1 : impl_word.f 1 = some (trimL [1]) := word_eq 1
  have hw2 := word_nat 2 (by decide)
  rw [show ((2 : Nat) : Int) = 2 from rfl] at hw2
  obtain ⟨N2, l2⟩ := hw2
  have e2 : impl_word.f 2 = some (trimL [2]) := word_eq 2
  obtain ⟨hi, hhi, dhi, nhi, vhi, lhi⟩ := iadd_ev F0 (trimL [2]) dF0 N2.1 (by omega) (by omega)
  obtain ⟨lo, hlo, dlo, nlo, vlo, llo⟩ := isub_ev F0 (trimL [2]) dF0 N2.1 (by omega) (by rw [N2.2.2, vF0]; omega)
  obtain ⟨z, hz, dz, nz, vz, lz⟩ := isub_ev F0 (trimL [1]) dF0 N1.1 (by omega) (by rw [N1.2.2, vF0]; omega)
  rw [vF0, N2.2.2] at vhi vlo
  rw [vF0, N1.2.2] at vz
  have Dhi : IsNat hi (S * 4 + 2) := ⟨dhi, nhi, vhi⟩
  have Dlo : IsNat lo (S * 4 - 2) := ⟨dlo, nlo, vlo⟩
  have Dz : IsNat z (S * 4 - 1) := ⟨dz, nz, vz⟩
  have khi : hi.length ≤ 100 := by clear vhi vlo vz vF0; omega
  have klo : lo.length ≤ 100 := by clear vhi vlo vz vF0; omega
  have kz : z.length ≤ 100 := by clear vhi vlo vz vF0; omega
  clear vhi vlo vz vF0 dhi dlo dz nhi nlo nz lhi llo lz dF0 nF0
  have hone := one_eq (P - 1) (by omega)
  have hwe := word_eq_iff S (2 ^ (P - 1))
  have j1 : ∀ near : Bool, ∃ r : Spn, Ev (fun k => impl_Bounds.j1 k F0 hi lo near c neg (hiI S) (loI S) q) ((r.1, r.2.1, r.2.2, (Go.bits .and .u64 (loI S) 1 == 0), true) : Itv) ∧ IsNat r.1 (spanV near S q).1 ∧ IsNat r.2.1 (spanV near S q).2.1 ∧ IsNat r.2.2 (spanV near S q).2.2 := by
    intro near
    unfold spanV
    cases near with
    | true =>
      obtain ⟨r, hr, hv⟩ := ib_j2 hi z (S * 4 - 1) (S * 4 + 2) Dhi Dz khi kz c neg (hiI S) (loI S) q q0 q1
      refine ⟨r, Ev.step (f := fun k => (impl_word.f 1).bind fun t456 => ((impl_nat_sub.f k F0 t456).bind fun t459 => (impl_Bounds.j2 k hi t459 c neg (hiI S) (loI S) q))) (fun k => ?_) (ev_bindc e1 (Ev.bind hz hr)), ?_⟩
      · simp only [impl_Bounds.j1]
        rw [if_pos trivial]
      · simp only [if_true]
        by_cases ht : q - 2 ≥ 0
        · rw [if_pos ht] at hv ⊢; exact hv
        · rw [if_neg ht] at hv ⊢; exact hv
    | false =>
      obtain ⟨r, hr, hv⟩ := ib_j2 hi lo (S * 4 - 2) (S * 4 + 2) Dhi Dlo khi klo c neg (hiI S) (loI S) q q0 q1
      refine ⟨r, Ev.step (fun k => ?_) hr, ?_⟩
      · simp only [impl_Bounds.j1]
        rw [if_neg (by decide)]
      · simp only [Bool.false_eq_true, if_false]
        by_cases ht : q - 2 ≥ 0
        · rw [if_pos ht] at hv ⊢; exact hv
        · rw [if_neg ht] at hv ⊢; exact hv
  obtain ⟨r, hr, hv⟩ := j1 (nearB P emin c S q)
  refine ⟨r, ?_, hv⟩
  have hqm := qmin_eq h
  have wP : wrap64 ((P : Int) - 1) = ((P - 1 : Nat) : Int) := by rw [wsm _ (by omega)]; omega
  refine Ev.step (f := fun k => ((impl_Word_nat.f (hiI S) (loI S)).bind fun t435 => ((impl_nat_left.f k t435 ((2 : Nat) : Int)).bind fun t438 => ((impl_word.f 2).bind fun t441 => ((impl_nat_add.f k t438 t441).bind fun t444 => ((impl_word.f 2).bind fun t447 => ((impl_nat_sub.f k t438 t447).bind fun t450 => (if c = 3 then (if decide (S = 2 ^ (P - 1)) = true then (impl_Bounds.j1 k t438 t444 t450 (decide (q > emin - (P : Int) + 1)) c neg (hiI S) (loI S) q) else (impl_Bounds.j1 k t438 t444 t450 false c neg (hiI S) (loI S) q)) else (impl_Bounds.j1 k t438 t444 t450 false c neg (hiI S) (loI S) q))))))))) (fun k => ?_) (ev_bindc hA (Ev.bind hF0 (ev_bindc e2 (Ev.bind hhi (ev_bindc e2 (Ev.bind hlo ?_))))))
  · simp only [impl_Bounds.j0]
    rw [if_neg (by decide), wP, hone, hqm]
    simp only [Option.bind_some]
    rw [hwe]
    rfl
  · by_cases hc : c = 3
    · simp only [if_pos hc]
      by_cases hS : S = 2 ^ (P - 1)
      · simp only [if_pos (decide_eq_true hS)]
        have hnb : nearB P emin c S q = decide (q > emin - (P : Int) + 1) := by
          unfold nearB
          rw [decide_eq_decide]
          exact ⟨fun a => a.2.2, fun a => ⟨hc, hS, a⟩⟩
        rw [← hnb]
        exact hr
      · have hd : ¬ decide (S = 2 ^ (P - 1)) = true := by rw [decide_eq_false hS]; decide
        simp only [if_neg hd]
        have hnb : nearB P emin c S q = false := decide_eq_false (fun a => hS a.2.1)
        rw [hnb] at hr
        exact hr
    · simp only [if_neg hc]
      have hnb : nearB P emin c S q = false := decide_eq_false (fun a => hc a.1)
      rw [hnb] at hr
      exact hr
end Go.Proofs.YtdbnmdchecacdaaDoor.M
end
section
namespace Go.Proofs.YtdbnmdchecacdaaDoor.PB
open Go.RowKit Go.Proofs.YtdbnmdchecacdaaDoor.G Go.Proofs.YtdbnmdchecacdaaDoorV.PrintWords Go.Proofs.YtdbnmdchecacdaaDoorV.PrintLast Go.Proofs.YtdbnmdchecacdaaDoorV.PrintMore
attribute [local go_sem] max2_int min2_int max_two min_two max_three min_three max_four min_four run_Add64 run_Sub64 fld25_1
set_option linter.unusedVariables false
set_option linter.unusedSimpArgs false
mutual
def laws_FnExactBounds.j0 : Nat → Int → Bool → Int → Int → List Int → List Int → List Int → Bool → Bool → List Int → List Int → List Int → Bool → Bool → Option (Bool)
 | 0, _, _, _, _, _, _, _, _, _, _, _, _, _, _ => none
 | k + 1, x0, x21, x499000, x499001, x513000, x513001, x513002, x513003, x513004, x527000, x527001, x527002, x527003, x527004 => if x21 = true then (some false) else ((laws_markInterval.f k x527000 x527001 x527002 x527003 x527004 1).bind fun bt528 => (laws_FnExactBounds.j1 k x0 bt528.1 x499000 x499001 x513000 x513001 x513002 x513003 x513004 bt528.2.1 bt528.2.2.1 bt528.2.2.2 x527003 x527004))
def laws_FnExactBounds.j1 : Nat → Int → Int → Int → Int → List Int → List Int → List Int → Bool → Bool → List Int → List Int → List Int → Bool → Bool → Option (Bool)
 | 0, _, _, _, _, _, _, _, _, _, _, _, _, _, _ => none
 | k + 1, x0, x7, x499000, x499001, x513000, x513001, x513002, x513003, x513004, x527000, x527001, x527002, x527003, x527004 => (laws_heldInterval.f k x527000 x527001 x527002 x527003 x527004 1).bind fun t532 => (laws_FnExactBounds.j2 k x0 x7 t532 x499000 x499001 x513000 x513001 x513002 x513003 x513004 x527000 x527001 x527002 x527003 x527004)
def laws_FnExactBounds.j2 : Nat → Int → Int → Int → Int → Int → List Int → List Int → List Int → Bool → Bool → List Int → List Int → List Int → Bool → Bool → Option (Bool)
 | 0, _, _, _, _, _, _, _, _, _, _, _, _, _, _, _ => none
 | k + 1, x0, x7, x8, x499000, x499001, x513000, x513001, x513002, x513003, x513004, x527000, x527001, x527002, x527003, x527004 => if x8 < 0 then (some false) else (if x8 = x7 then ((laws_toWord.f x499000 x499001).bind fun bt533 => ((impl_Bounds.f k x0 bt533.1 bt533.2).bind fun bt535 => ((laws_eqInterval.f k bt535.1 bt535.2.1 bt535.2.2.1 bt535.2.2.2.1 bt535.2.2.2.2 x513000 x513001 x513002 x513003 x513004).bind fun t547 => (laws_FnExactBounds.j3 k x7 (!t547) x527000 x527001 x527002 x527003 x527004)))) else (some false))
def laws_FnExactBounds.j3 : Nat → Int → Bool → List Int → List Int → List Int → Bool → Bool → Option (Bool)
 | 0, _, _, _, _, _, _, _ => none
 | k + 1, x7, x40, x527000, x527001, x527002, x527003, x527004 => if x40 = true then (some false) else ((laws_heldInterval.f k x527000 x527001 x527002 x527003 x527004 1).bind fun t548 => (if t548 < 0 then (some false) else (if t548 = x7 then (some true) else (some false))))
end
def laws_FnExactBounds.f (k : Nat) (a0 : Int) (a1_0 : Int) (a1_1 : Int) : Option (Bool) := (laws_toWord.f a1_0 a1_1).bind fun bt499 => ((spec_Bounds.f k a0 bt499.1 bt499.2).bind fun bt501 => ((laws_toWord.f a1_0 a1_1).bind fun bt513 => ((impl_Bounds.f k a0 bt513.1 bt513.2).bind fun bt515 => ((laws_eqInterval.f k bt515.1 bt515.2.1 bt515.2.2.1 bt515.2.2.2.1 bt515.2.2.2.2 bt501.1 bt501.2.1 bt501.2.2.1 bt501.2.2.2.1 bt501.2.2.2.2).bind fun t527 => (laws_FnExactBounds.j0 k a0 (!t527) a1_0 a1_1 bt501.1 bt501.2.1 bt501.2.2.1 bt501.2.2.2.1 bt501.2.2.2.2 bt515.1 bt515.2.1 bt515.2.2.1 bt515.2.2.2.1 bt515.2.2.2.2)))))
set_option maxHeartbeats 8000000 in
set_option maxRecDepth 100000 in
theorem laws_FnExactBounds.calls (k : Nat) (a0 : Int) (a1_0 : Int) (a1_1 : Int) (r : Bool) (w : World) (hT : Tabled w) (h : laws_FnExactBounds.f k a0 a1_0 a1_1 = some r) :
  Calls Tryd.prog 6 #[.int .i64 a0, .agg #[.int .u64 a1_0, .int .u64 a1_1]] w fun e w' => e = .returned (.bool r) ∧ Below w.heap.size w w' := by
 have hu24 := Tryd.underlying24
 have hu43 := Tryd.underlying43
 have HTb_ := zM hT
 clear hT
 have HB := zM (Below.refl w.heap.size w)
 have H : ((laws_toWord.f a1_0 a1_1).bind fun bt499 => ((spec_Bounds.f k a0 bt499.1 bt499.2).bind fun bt501 => ((laws_toWord.f a1_0 a1_1).bind fun bt513 => ((impl_Bounds.f k a0 bt513.1 bt513.2).bind fun bt515 => ((laws_eqInterval.f k bt515.1 bt515.2.1 bt515.2.2.1 bt515.2.2.2.1 bt515.2.2.2.2 bt501.1 bt501.2.1 bt501.2.2.1 bt501.2.2.2.1 bt501.2.2.2.2).bind fun t527 => (laws_FnExactBounds.j0 k a0 (!t527) a1_0 a1_1 bt501.1 bt501.2.1 bt501.2.2.1 bt501.2.2.2.1 bt501.2.2.2.2 bt515.1 bt515.2.1 bt515.2.2.1 bt515.2.2.2.1 bt515.2.2.2.2)))))) = some r := h
 clear h
 replace H := Option.bind_eq_some_iff.mp H
 obtain ⟨⟨t499, t500⟩, A30, H⟩ := H
 replace H : ((spec_Bounds.f k a0 t499 t500).bind fun bt501 => ((laws_toWord.f a1_0 a1_1).bind fun bt513 => ((impl_Bounds.f k a0 bt513.1 bt513.2).bind fun bt515 => ((laws_eqInterval.f k bt515.1 bt515.2.1 bt515.2.2.1 bt515.2.2.2.1 bt515.2.2.2.2 bt501.1 bt501.2.1 bt501.2.2.1 bt501.2.2.2.1 bt501.2.2.2.2).bind fun t527 => (laws_FnExactBounds.j0 k a0 (!t527) a1_0 a1_1 bt501.1 bt501.2.1 bt501.2.2.1 bt501.2.2.2.1 bt501.2.2.2.2 bt515.1 bt515.2.1 bt515.2.2.1 bt515.2.2.2.1 bt515.2.2.2.2))))) = some r := H
 have A3 := zM A30
 clear A30
 replace H := Option.bind_eq_some_iff.mp H
 obtain ⟨⟨t501, t504, t507, t510, t511⟩, A40, H⟩ := H
 replace H : ((laws_toWord.f a1_0 a1_1).bind fun bt513 => ((impl_Bounds.f k a0 bt513.1 bt513.2).bind fun bt515 => ((laws_eqInterval.f k bt515.1 bt515.2.1 bt515.2.2.1 bt515.2.2.2.1 bt515.2.2.2.2 t501 t504 t507 t510 t511).bind fun t527 => (laws_FnExactBounds.j0 k a0 (!t527) a1_0 a1_1 t501 t504 t507 t510 t511 bt515.1 bt515.2.1 bt515.2.2.1 bt515.2.2.2.1 bt515.2.2.2.2)))) = some r := H
 have A4 := zM A40
 clear A40
 replace H := Option.bind_eq_some_iff.mp H
 obtain ⟨⟨t513, t514⟩, A50, H⟩ := H
 replace H : ((impl_Bounds.f k a0 t513 t514).bind fun bt515 => ((laws_eqInterval.f k bt515.1 bt515.2.1 bt515.2.2.1 bt515.2.2.2.1 bt515.2.2.2.2 t501 t504 t507 t510 t511).bind fun t527 => (laws_FnExactBounds.j0 k a0 (!t527) a1_0 a1_1 t501 t504 t507 t510 t511 bt515.1 bt515.2.1 bt515.2.2.1 bt515.2.2.2.1 bt515.2.2.2.2))) = some r := H
 have A5 := zM A50
 clear A50
 replace H := Option.bind_eq_some_iff.mp H
 obtain ⟨⟨t515, t518, t521, t524, t525⟩, A60, H⟩ := H
 replace H : ((laws_eqInterval.f k t515 t518 t521 t524 t525 t501 t504 t507 t510 t511).bind fun t527 => (laws_FnExactBounds.j0 k a0 (!t527) a1_0 a1_1 t501 t504 t507 t510 t511 t515 t518 t521 t524 t525)) = some r := H
 have A6 := zM A60
 clear A60
 have HC7 := zM H
 clear H
 go_enter Tryd.func6, Tryd.ntmps6
 go_upto_region 3 with (first | ((with_reducible refine gate_dst (N := 3) rfl ?_); refine box_event ?hg (N := 3) ?hd (cs := #[.int .u64 a1_0, .int .u64 a1_1]) (t := 24) ?hr ?_; (case hd => rfl); (case hg => rfl); (case hr => first | (go_simp; done) | (go_simp; rfl)); intro gb498 hg w8 hbox hb; have n0_ := zM (below_step HB.out hb); have n1_ := zM (hbox); have n2_ := zM ((by rw [hg]; exact (below_size HB.out) : w.heap.size ≤ gb498)); have n3_ := zM ((by rw [hg]; exact (below_size HB.out) : w.heap.size ≤ gb498)); clear HB; have HB := n0_; have BK498 := n1_; have GW498 := n2_; have GE498 := n3_; clear n0_ n1_ n2_ n3_; clear hb hbox hg; have hcz9_0 : w8.cell? ⟨gb498, 0, none⟩ = some (.int .u64 a1_0) := (blk_cell BK498.out 0).trans rfl; have hcz9_1 : w8.cell? ⟨gb498, 1, none⟩ = some (.int .u64 a1_1) := (blk_cell BK498.out 1).trans rfl; have hfz9_0 := blk_frozen BK498.out 0; have hfz9_1 := blk_frozen BK498.out 1) | ((with_reducible refine gate_callee (f := 16) rfl ?_); refine goesL_ (some 12) rfl rfl Tryd.func16 (by kernel_rfl) rfl #[.agg #[.int .u64 a1_0, .int .u64 a1_1]] rfl (by first | rfl | (simp only [List.map_toArray, List.map_cons, List.map_nil, List.length_drop, List.length_take]; rfl)) ?_; (with_reducible refine (laws_toWord.calls a1_0 a1_1 t499 t500 _ A3.out).mono ?_); rintro e w10 ⟨rfl, hb⟩; refine ⟨_, rfl, ?_⟩; have n0_ := zM (blk_below BK498.out hb); have n1_ := zM (below_step HB.out hb); clear BK498; clear HB; have BK498 := n0_; have HB := n1_; clear n0_ n1_; (try clear hb); (try clear hb2); (try clear hk); (try clear hi)) | ((with_reducible refine gate_callee (f := 25) rfl ?_); refine goesL_ (some 13) rfl rfl Tryd.func25 (by kernel_rfl) rfl #[.int .i64 a0, .agg #[.int .u64 t499, .int .u64 t500]] rfl (by first | rfl | (simp only [List.map_toArray, List.map_cons, List.map_nil, List.length_drop, List.length_take]; rfl)) ?_; (with_reducible refine (spec_Bounds.calls k a0 t499 t500 t501 t504 t507 t510 t511 _ A4.out).mono ?_); rintro e w11 ⟨v502, v505, v508, rfl, ho0, ho1, ho2, hb⟩; refine ⟨_, rfl, ?_⟩; have n0_ := zM (Kd.R_lower ho0 (below_size HB.out)); have n1_ := zM (Kd.R_lower ho1 (below_size HB.out)); have n2_ := zM (Kd.R_lower ho2 (below_size HB.out)); have n3_ := zM (blk_below BK498.out hb); have n4_ := zM (below_step HB.out hb); clear BK498; clear HB; have HO503 := n0_; have HO506 := n1_; have HO509 := n2_; have BK498 := n3_; have HB := n4_; clear n0_ n1_ n2_ n3_ n4_; (try clear hb); (try clear hb2); (try clear hk); (try clear hi); (try clear ho0); (try clear ho1); (try clear ho2)) | ((with_reducible refine gate_dst (N := 5) rfl ?_); refine box_event ?hg (N := 5) ?hd (cs := #[.slice none 0 0, .slice none 0 0, .slice none 0 0, .bool false, .bool false]) (t := 43) ?hr ?_; (case hd => rfl); (case hg => rfl); (case hr => first | (go_simp; done) | (go_simp; rfl)); intro gb512 hg w12 hbox hb; have n0_ := zM (Kd.R_below (by exact HO503.out) hb); have n1_ := zM (Kd.R_below (by exact HO506.out) hb); have n2_ := zM (Kd.R_below (by exact HO509.out) hb); have n3_ := zM (blk_below BK498.out hb); have n4_ := zM (below_step HB.out hb); have n5_ := zM (hbox); have n6_ := zM ((by rw [hg]; exact (below_size HB.out) : w.heap.size ≤ gb512)); have n7_ := zM ((by rw [hg]; exact (below_size HB.out) : w.heap.size ≤ gb512)); have n8_ := zM ((by rw [hg]; exact Nat.ne_of_lt (blk_lt BK498.out) : gb498 ≠ gb512)); have n9_ := zM ((by rw [hg]; exact Nat.ne_of_gt (blk_lt BK498.out) : gb512 ≠ gb498)); clear HO503; clear HO506; clear HO509; clear BK498; clear HB; have HO503 := n0_; have HO506 := n1_; have HO509 := n2_; have BK498 := n3_; have HB := n4_; have BK512 := n5_; have GW512 := n6_; have GE512 := n7_; have NB498_512 := n8_; have NB512_498 := n9_; clear n0_ n1_ n2_ n3_ n4_ n5_ n6_ n7_ n8_ n9_; clear hb hbox hg; obtain ⟨Ao13, co13, eo13⟩ := Kd.R_slice HO503.out; subst eo13; have hnb14 := NB512_498.out; have hnc14 := NB498_512.out; have hcz15_0 : w12.cell? ⟨gb512, 0, none⟩ = some (.slice none 0 0) := (blk_cell BK512.out 0).trans rfl; have hcz15_1 : w12.cell? ⟨gb512, 1, none⟩ = some (.slice none 0 0) := (blk_cell BK512.out 1).trans rfl; have hcz15_2 : w12.cell? ⟨gb512, 2, none⟩ = some (.slice none 0 0) := (blk_cell BK512.out 2).trans rfl; have hcz15_3 : w12.cell? ⟨gb512, 3, none⟩ = some (.bool false) := (blk_cell BK512.out 3).trans rfl; have hcz15_4 : w12.cell? ⟨gb512, 4, none⟩ = some (.bool false) := (blk_cell BK512.out 4).trans rfl; have hfz15_0 := blk_frozen BK512.out 0; have hfz15_1 := blk_frozen BK512.out 1; have hfz15_2 := blk_frozen BK512.out 2; have hfz15_3 := blk_frozen BK512.out 3; have hfz15_4 := blk_frozen BK512.out 4; obtain ⟨Ao16, co16, eo16⟩ := Kd.R_slice HO506.out; subst eo16; obtain ⟨Ao17, co17, eo17⟩ := Kd.R_slice HO509.out; subst eo17; have hcz18_0 : w12.cell? ⟨gb498, 0, none⟩ = some (.int .u64 a1_0) := (blk_cell BK498.out 0).trans rfl; have hcz18_1 : w12.cell? ⟨gb498, 1, none⟩ = some (.int .u64 a1_1) := (blk_cell BK498.out 1).trans rfl; have hfz18_0 := blk_frozen BK498.out 0; have hfz18_1 := blk_frozen BK498.out 1) | ((with_reducible refine gate_callee (f := 16) rfl ?_); refine goesL_ (some 16) rfl rfl Tryd.func16 (by kernel_rfl) rfl #[.agg #[.int .u64 a1_0, .int .u64 a1_1]] rfl (by first | rfl | (simp only [List.map_toArray, List.map_cons, List.map_nil, List.length_drop, List.length_take]; rfl)) ?_; (with_reducible refine (laws_toWord.calls a1_0 a1_1 t513 t514 _ A5.out).mono ?_); rintro e w19 ⟨rfl, hb⟩; refine ⟨_, rfl, ?_⟩; have n0_ := zM (Kd.R_below (by exact (Kd.R_mono (Kd.R_far (p := ⟨gb512, 4, none⟩) (Kd.R_far (p := ⟨gb512, 3, none⟩) (Kd.R_far (p := ⟨gb512, 2, none⟩) (Kd.R_far (p := ⟨gb512, 1, none⟩) (Kd.R_far (p := ⟨gb512, 0, none⟩) (Kd.R_types HO503.out BK512.out (by decide)) (fun _ hk => hk.2) (.slice Ao13 t501.length co13)) (fun _ hk => hk.2) (.slice Ao16 t504.length co16)) (fun _ hk => hk.2) (.slice Ao17 t507.length co17)) (fun _ hk => hk.2) (.bool t510)) (fun _ hk => hk.2) (.bool t511)) (fun _ h_ => h_.1))) hb); have n1_ := zM (Kd.R_below (by exact (Kd.R_mono (Kd.R_far (p := ⟨gb512, 4, none⟩) (Kd.R_far (p := ⟨gb512, 3, none⟩) (Kd.R_far (p := ⟨gb512, 2, none⟩) (Kd.R_far (p := ⟨gb512, 1, none⟩) (Kd.R_far (p := ⟨gb512, 0, none⟩) (Kd.R_types HO506.out BK512.out (by decide)) (fun _ hk => hk.2) (.slice Ao13 t501.length co13)) (fun _ hk => hk.2) (.slice Ao16 t504.length co16)) (fun _ hk => hk.2) (.slice Ao17 t507.length co17)) (fun _ hk => hk.2) (.bool t510)) (fun _ hk => hk.2) (.bool t511)) (fun _ h_ => h_.1))) hb); have n2_ := zM (Kd.R_below (by exact (Kd.R_mono (Kd.R_far (p := ⟨gb512, 4, none⟩) (Kd.R_far (p := ⟨gb512, 3, none⟩) (Kd.R_far (p := ⟨gb512, 2, none⟩) (Kd.R_far (p := ⟨gb512, 1, none⟩) (Kd.R_far (p := ⟨gb512, 0, none⟩) (Kd.R_types HO509.out BK512.out (by decide)) (fun _ hk => hk.2) (.slice Ao13 t501.length co13)) (fun _ hk => hk.2) (.slice Ao16 t504.length co16)) (fun _ hk => hk.2) (.slice Ao17 t507.length co17)) (fun _ hk => hk.2) (.bool t510)) (fun _ hk => hk.2) (.bool t511)) (fun _ h_ => h_.1))) hb); have n3_ := zM (blk_below (g := gb498) (o := .cells #[.int .u64 a1_0, .int .u64 a1_1] 24 (0, 0)) (by refine blk_far ?_ NB498_512.out _; refine blk_far ?_ NB498_512.out _; refine blk_far ?_ NB498_512.out _; refine blk_far ?_ NB498_512.out _; refine blk_far ?_ NB498_512.out _; exact BK498.out) hb); have n4_ := zM (blk_below (g := gb512) (o := .cells #[.slice Ao13 t501.length co13, .slice Ao16 t504.length co16, .slice Ao17 t507.length co17, .bool t510, .bool t511] 43 (0, 0)) (by refine blk_put (cs := #[.slice Ao13 t501.length co13, .slice Ao16 t504.length co16, .slice Ao17 t507.length co17, .bool t510, .bool false]) ?_ 4 _ rfl; refine blk_put (cs := #[.slice Ao13 t501.length co13, .slice Ao16 t504.length co16, .slice Ao17 t507.length co17, .bool false, .bool false]) ?_ 3 _ rfl; refine blk_put (cs := #[.slice Ao13 t501.length co13, .slice Ao16 t504.length co16, .slice none 0 0, .bool false, .bool false]) ?_ 2 _ rfl; refine blk_put (cs := #[.slice Ao13 t501.length co13, .slice none 0 0, .slice none 0 0, .bool false, .bool false]) ?_ 1 _ rfl; refine blk_put (cs := #[.slice none 0 0, .slice none 0 0, .slice none 0 0, .bool false, .bool false]) ?_ 0 _ rfl; exact BK512.out) hb); have n5_ := zM (below_step (by repeat (first | (with_reducible first | exact HB.out | apply yA | apply yN | apply yD | refine below_set ?_ GE498.out | refine below_set ?_ GE512.out) | exact HB.out)) hb); clear HO503; clear HO506; clear HO509; clear BK498; clear BK512; clear HB; have HO503 := n0_; have HO506 := n1_; have HO509 := n2_; have BK498 := n3_; have BK512 := n4_; have HB := n5_; clear n0_ n1_ n2_ n3_ n4_ n5_; (try clear hb); (try clear hb2); (try clear hk); (try clear hi)) | ((with_reducible refine gate_callee (f := 26) rfl ?_); refine goesL_ (some 17) rfl rfl Tryd.func26 (by kernel_rfl) rfl #[.int .i64 a0, .agg #[.int .u64 t513, .int .u64 t514]] rfl (by first | rfl | (simp only [List.map_toArray, List.map_cons, List.map_nil, List.length_drop, List.length_take]; rfl)) ?_; (with_reducible refine (impl_Bounds.calls k a0 t513 t514 t515 t518 t521 t524 t525 _ ?side1 A6.out).mono ?_); (case side1 => exact tabled_below HTb_.out HB.out); rintro e w20 ⟨v516, v519, v522, rfl, ho0, ho1, ho2, hb⟩; refine ⟨_, rfl, ?_⟩; have n0_ := zM (Kd.R_mono (Kd.R_told (Kd.R_told (Kd.R_told (Kd.R_old (by exact HO503.out) hb) (Kd.R_base ho0)) (Kd.R_base ho1)) (Kd.R_base ho2)) (fun _ h_ => h_.1)); have n1_ := zM (Kd.R_mono (Kd.R_told (Kd.R_told (Kd.R_told (Kd.R_old (by exact HO506.out) hb) (Kd.R_base ho0)) (Kd.R_base ho1)) (Kd.R_base ho2)) (fun _ h_ => h_.1)); have n2_ := zM (Kd.R_mono (Kd.R_told (Kd.R_told (Kd.R_told (Kd.R_old (by exact HO509.out) hb) (Kd.R_base ho0)) (Kd.R_base ho1)) (Kd.R_base ho2)) (fun _ h_ => h_.1)); have n3_ := zM (Kd.R_lower (Kd.R_new' (Kd.R_new' (Kd.R_new' ho0 (Kd.R_lt (by exact HO503.out))) (Kd.R_lt (by exact HO506.out))) (Kd.R_lt (by exact HO509.out))) (below_size HB.out)); have n4_ := zM (Kd.R_lower (Kd.R_new' (Kd.R_new' (Kd.R_new' ho1 (Kd.R_lt (by exact HO503.out))) (Kd.R_lt (by exact HO506.out))) (Kd.R_lt (by exact HO509.out))) (below_size HB.out)); have n5_ := zM (Kd.R_lower (Kd.R_new' (Kd.R_new' (Kd.R_new' ho2 (Kd.R_lt (by exact HO503.out))) (Kd.R_lt (by exact HO506.out))) (Kd.R_lt (by exact HO509.out))) (below_size HB.out)); have n6_ := zM (blk_below BK498.out hb); have n7_ := zM (blk_below BK512.out hb); have n8_ := zM (below_step HB.out hb); clear HO503; clear HO506; clear HO509; clear BK498; clear BK512; clear HB; have HO503 := n0_; have HO506 := n1_; have HO509 := n2_; have HO517 := n3_; have HO520 := n4_; have HO523 := n5_; have BK498 := n6_; have BK512 := n7_; have HB := n8_; clear n0_ n1_ n2_ n3_ n4_ n5_ n6_ n7_ n8_; (try clear hb); (try clear hb2); (try clear hk); (try clear hi); (try clear ho0); (try clear ho1); (try clear ho2)) | ((with_reducible refine gate_dst (N := 6) rfl ?_); refine box_event ?hg (N := 6) ?hd (cs := #[.slice none 0 0, .slice none 0 0, .slice none 0 0, .bool false, .bool false]) (t := 43) ?hr ?_; (case hd => rfl); (case hg => rfl); (case hr => first | (go_simp; done) | (go_simp; rfl)); intro gb526 hg w21 hbox hb; have n0_ := zM (Kd.R_below (by exact HO503.out) hb); have n1_ := zM (Kd.R_below (by exact HO506.out) hb); have n2_ := zM (Kd.R_below (by exact HO509.out) hb); have n3_ := zM (Kd.R_below (by exact HO517.out) hb); have n4_ := zM (Kd.R_below (by exact HO520.out) hb); have n5_ := zM (Kd.R_below (by exact HO523.out) hb); have n6_ := zM (blk_below BK498.out hb); have n7_ := zM (blk_below BK512.out hb); have n8_ := zM (below_step HB.out hb); have n9_ := zM (hbox); have n10_ := zM ((by rw [hg]; exact (below_size HB.out) : w.heap.size ≤ gb526)); have n11_ := zM ((by rw [hg]; exact (below_size HB.out) : w.heap.size ≤ gb526)); have n12_ := zM ((by rw [hg]; exact Nat.ne_of_lt (blk_lt BK498.out) : gb498 ≠ gb526)); have n13_ := zM ((by rw [hg]; exact Nat.ne_of_gt (blk_lt BK498.out) : gb526 ≠ gb498)); have n14_ := zM ((by rw [hg]; exact Nat.ne_of_lt (blk_lt BK512.out) : gb512 ≠ gb526)); have n15_ := zM ((by rw [hg]; exact Nat.ne_of_gt (blk_lt BK512.out) : gb526 ≠ gb512)); clear HO503; clear HO506; clear HO509; clear HO517; clear HO520; clear HO523; clear BK498; clear BK512; clear HB; have HO503 := n0_; have HO506 := n1_; have HO509 := n2_; have HO517 := n3_; have HO520 := n4_; have HO523 := n5_; have BK498 := n6_; have BK512 := n7_; have HB := n8_; have BK526 := n9_; have GW526 := n10_; have GE526 := n11_; have NB498_526 := n12_; have NB526_498 := n13_; have NB512_526 := n14_; have NB526_512 := n15_; clear n0_ n1_ n2_ n3_ n4_ n5_ n6_ n7_ n8_ n9_ n10_ n11_ n12_ n13_ n14_ n15_; clear hb hbox hg; obtain ⟨Ao22, co22, eo22⟩ := Kd.R_slice HO517.out; subst eo22; have hnb23 := NB526_498.out; have hnc23 := NB498_526.out; have hnb24 := NB526_512.out; have hnc24 := NB512_526.out; have hcz25_0 : w21.cell? ⟨gb526, 0, none⟩ = some (.slice none 0 0) := (blk_cell BK526.out 0).trans rfl; have hcz25_1 : w21.cell? ⟨gb526, 1, none⟩ = some (.slice none 0 0) := (blk_cell BK526.out 1).trans rfl; have hcz25_2 : w21.cell? ⟨gb526, 2, none⟩ = some (.slice none 0 0) := (blk_cell BK526.out 2).trans rfl; have hcz25_3 : w21.cell? ⟨gb526, 3, none⟩ = some (.bool false) := (blk_cell BK526.out 3).trans rfl; have hcz25_4 : w21.cell? ⟨gb526, 4, none⟩ = some (.bool false) := (blk_cell BK526.out 4).trans rfl; have hfz25_0 := blk_frozen BK526.out 0; have hfz25_1 := blk_frozen BK526.out 1; have hfz25_2 := blk_frozen BK526.out 2; have hfz25_3 := blk_frozen BK526.out 3; have hfz25_4 := blk_frozen BK526.out 4; obtain ⟨Ao26, co26, eo26⟩ := Kd.R_slice HO520.out; subst eo26; obtain ⟨Ao27, co27, eo27⟩ := Kd.R_slice HO523.out; subst eo27))
 (try simp only [Act.put, xT, xZ, xS])
 go_cut [21] (fun v21 wc => ∃ (kq : Nat) (x21_6 : Bool), v21 = .bool x21_6 ∧ Aside0 (laws_FnExactBounds.j0 kq a0 x21_6 a1_0 a1_1 t501 t504 t507 t510 t511 t515 t518 t521 t524 t525 = some r) ∧ Aside0 (kq ≤ k) ∧ Aside0 (Kd.R (Kd.int .u64) 22 wc w.heap.size (fun k_ => some k_ ≠ ((.slice Ao16 t504.length co16) : Value).ownBlock ∧ some k_ ≠ ((.slice Ao17 t507.length co17) : Value).ownBlock ∧ some k_ ≠ ((.slice Ao22 t515.length co22) : Value).ownBlock ∧ some k_ ≠ ((.slice Ao26 t518.length co26) : Value).ownBlock ∧ some k_ ≠ ((.slice Ao27 t521.length co27) : Value).ownBlock) (.slice Ao13 t501.length co13) t501) ∧ Aside0 (Kd.R (Kd.int .u64) 22 wc w.heap.size (fun k_ => some k_ ≠ ((.slice Ao13 t501.length co13) : Value).ownBlock ∧ some k_ ≠ ((.slice Ao17 t507.length co17) : Value).ownBlock ∧ some k_ ≠ ((.slice Ao22 t515.length co22) : Value).ownBlock ∧ some k_ ≠ ((.slice Ao26 t518.length co26) : Value).ownBlock ∧ some k_ ≠ ((.slice Ao27 t521.length co27) : Value).ownBlock) (.slice Ao16 t504.length co16) t504) ∧ Aside0 (Kd.R (Kd.int .u64) 22 wc w.heap.size (fun k_ => some k_ ≠ ((.slice Ao13 t501.length co13) : Value).ownBlock ∧ some k_ ≠ ((.slice Ao16 t504.length co16) : Value).ownBlock ∧ some k_ ≠ ((.slice Ao22 t515.length co22) : Value).ownBlock ∧ some k_ ≠ ((.slice Ao26 t518.length co26) : Value).ownBlock ∧ some k_ ≠ ((.slice Ao27 t521.length co27) : Value).ownBlock) (.slice Ao17 t507.length co17) t507) ∧ Aside0 (Kd.R (Kd.int .u64) 22 wc w.heap.size (fun k_ => some k_ ≠ ((.slice Ao13 t501.length co13) : Value).ownBlock ∧ some k_ ≠ ((.slice Ao16 t504.length co16) : Value).ownBlock ∧ some k_ ≠ ((.slice Ao17 t507.length co17) : Value).ownBlock ∧ some k_ ≠ ((.slice Ao26 t518.length co26) : Value).ownBlock ∧ some k_ ≠ ((.slice Ao27 t521.length co27) : Value).ownBlock) (.slice Ao22 t515.length co22) t515) ∧ Aside0 (Kd.R (Kd.int .u64) 22 wc w.heap.size (fun k_ => some k_ ≠ ((.slice Ao13 t501.length co13) : Value).ownBlock ∧ some k_ ≠ ((.slice Ao16 t504.length co16) : Value).ownBlock ∧ some k_ ≠ ((.slice Ao17 t507.length co17) : Value).ownBlock ∧ some k_ ≠ ((.slice Ao22 t515.length co22) : Value).ownBlock ∧ some k_ ≠ ((.slice Ao27 t521.length co27) : Value).ownBlock) (.slice Ao26 t518.length co26) t518) ∧ Aside0 (Kd.R (Kd.int .u64) 22 wc w.heap.size (fun k_ => some k_ ≠ ((.slice Ao13 t501.length co13) : Value).ownBlock ∧ some k_ ≠ ((.slice Ao16 t504.length co16) : Value).ownBlock ∧ some k_ ≠ ((.slice Ao17 t507.length co17) : Value).ownBlock ∧ some k_ ≠ ((.slice Ao22 t515.length co22) : Value).ownBlock ∧ some k_ ≠ ((.slice Ao26 t518.length co26) : Value).ownBlock) (.slice Ao27 t521.length co27) t521) ∧ Aside0 (wc.heap[gb498]? = some (.cells #[.int .u64 a1_0, .int .u64 a1_1] 24 (0, 0))) ∧ Aside0 (wc.heap[gb512]? = some (.cells #[(.slice Ao13 t501.length co13), (.slice Ao16 t504.length co16), (.slice Ao17 t507.length co17), .bool t510, .bool t511] 43 (0, 0))) ∧ Aside0 (wc.heap[gb526]? = some (.cells #[(.slice Ao22 t515.length co22), (.slice Ao26 t518.length co26), (.slice Ao27 t521.length co27), .bool t524, .bool t525] 43 (0, 0))) ∧ Aside0 (Below w.heap.size w wc))
 case first =>
  have H := HC7.out
  clear HC7
  replace H := Option.bind_eq_some_iff.mp H
  obtain ⟨t527, A280, H⟩ := H
  replace H : (laws_FnExactBounds.j0 k a0 (!t527) a1_0 a1_1 t501 t504 t507 t510 t511 t515 t518 t521 t524 t525) = some r := H
  have A28 := zM A280
  clear A280
  have H' := zM H
  clear H
  have hnb29 := NB526_498.out
  have hnc29 := NB498_526.out
  have hnb30 := NB526_512.out
  have hnc30 := NB512_526.out
  have hcz31_0 : w21.cell? ⟨gb526, 0, none⟩ = some (.slice none 0 0) := (blk_cell BK526.out 0).trans rfl
  have hcz31_1 : w21.cell? ⟨gb526, 1, none⟩ = some (.slice none 0 0) := (blk_cell BK526.out 1).trans rfl
  have hcz31_2 : w21.cell? ⟨gb526, 2, none⟩ = some (.slice none 0 0) := (blk_cell BK526.out 2).trans rfl
  have hcz31_3 : w21.cell? ⟨gb526, 3, none⟩ = some (.bool false) := (blk_cell BK526.out 3).trans rfl
  have hcz31_4 : w21.cell? ⟨gb526, 4, none⟩ = some (.bool false) := (blk_cell BK526.out 4).trans rfl
  have hfz31_0 := blk_frozen BK526.out 0
  have hfz31_1 := blk_frozen BK526.out 1
  have hfz31_2 := blk_frozen BK526.out 2
  have hfz31_3 := blk_frozen BK526.out 3
  have hfz31_4 := blk_frozen BK526.out 4
  have hnb32 := NB512_498.out
  have hnc32 := NB498_512.out
  have hcz33_0 : w21.cell? ⟨gb512, 0, none⟩ = some (.slice Ao13 t501.length co13) := (blk_cell BK512.out 0).trans rfl
  have hcz33_1 : w21.cell? ⟨gb512, 1, none⟩ = some (.slice Ao16 t504.length co16) := (blk_cell BK512.out 1).trans rfl
  have hcz33_2 : w21.cell? ⟨gb512, 2, none⟩ = some (.slice Ao17 t507.length co17) := (blk_cell BK512.out 2).trans rfl
  have hcz33_3 : w21.cell? ⟨gb512, 3, none⟩ = some (.bool t510) := (blk_cell BK512.out 3).trans rfl
  have hcz33_4 : w21.cell? ⟨gb512, 4, none⟩ = some (.bool t511) := (blk_cell BK512.out 4).trans rfl
  have hfz33_0 := blk_frozen BK512.out 0
  have hfz33_1 := blk_frozen BK512.out 1
  have hfz33_2 := blk_frozen BK512.out 2
  have hfz33_3 := blk_frozen BK512.out 3
  have hfz33_4 := blk_frozen BK512.out 4
  go_wp2_with (first | ((with_reducible refine gate_callee (f := 27) rfl ?_); refine goesL_ (some 20) rfl rfl Tryd.func27 (by kernel_rfl) rfl #[.agg #[.slice Ao22 t515.length co22, .slice Ao26 t518.length co26, .slice Ao27 t521.length co27, .bool t524, .bool t525], .agg #[.slice Ao13 t501.length co13, .slice Ao16 t504.length co16, .slice Ao17 t507.length co17, .bool t510, .bool t511]] rfl (by first | rfl | (simp only [List.map_toArray, List.map_cons, List.map_nil, List.length_drop, List.length_take]; rfl)) ?_; (with_reducible refine (laws_eqInterval.calls k _ _ t515 _ _ t518 _ _ t521 t524 t525 _ _ t501 _ _ t504 _ _ t507 t510 t511 t527 _ ?side1 ?side2 ?side3 ?side4 ?side5 ?side6 ?side7 ?side8 ?side9 ?side10 ?side11 ?side12 A28.out).mono ?_); (case side1 => refine (Kd.R_reads' (e := 22) (base := w.heap.size) (ok := fun k_ => ((((some k_ ≠ (.slice Ao26 t518.length co26 : Value).ownBlock ∧ some k_ ≠ (.slice Ao27 t521.length co27 : Value).ownBlock) ∧ some k_ ≠ (.slice Ao13 t501.length co13 : Value).ownBlock) ∧ some k_ ≠ (.slice Ao16 t504.length co16 : Value).ownBlock) ∧ some k_ ≠ (.slice Ao17 t507.length co17 : Value).ownBlock)) (n := t515.length) (c := co22) ?_).2.2; exact (by exact (Kd.R_mono (Kd.R_far (p := ⟨gb526, 4, none⟩) (Kd.R_far (p := ⟨gb526, 3, none⟩) (Kd.R_far (p := ⟨gb526, 2, none⟩) (Kd.R_far (p := ⟨gb526, 1, none⟩) (Kd.R_far (p := ⟨gb526, 0, none⟩) (Kd.R_types HO517.out BK526.out (by decide)) (fun _ hk => hk.2) (.slice Ao22 t515.length co22)) (fun _ hk => hk.2) (.slice Ao26 t518.length co26)) (fun _ hk => hk.2) (.slice Ao27 t521.length co27)) (fun _ hk => hk.2) (.bool t524)) (fun _ hk => hk.2) (.bool t525)) (fun _ h_ => h_.1)))); (case side2 => exact (Kd.R_reads' HO517.out).2.1); (case side3 => refine (Kd.R_reads' (e := 22) (base := w.heap.size) (ok := fun k_ => ((((some k_ ≠ (.slice Ao22 t515.length co22 : Value).ownBlock ∧ some k_ ≠ (.slice Ao27 t521.length co27 : Value).ownBlock) ∧ some k_ ≠ (.slice Ao13 t501.length co13 : Value).ownBlock) ∧ some k_ ≠ (.slice Ao16 t504.length co16 : Value).ownBlock) ∧ some k_ ≠ (.slice Ao17 t507.length co17 : Value).ownBlock)) (n := t518.length) (c := co26) ?_).2.2; exact (by exact (Kd.R_mono (Kd.R_far (p := ⟨gb526, 4, none⟩) (Kd.R_far (p := ⟨gb526, 3, none⟩) (Kd.R_far (p := ⟨gb526, 2, none⟩) (Kd.R_far (p := ⟨gb526, 1, none⟩) (Kd.R_far (p := ⟨gb526, 0, none⟩) (Kd.R_types HO520.out BK526.out (by decide)) (fun _ hk => hk.2) (.slice Ao22 t515.length co22)) (fun _ hk => hk.2) (.slice Ao26 t518.length co26)) (fun _ hk => hk.2) (.slice Ao27 t521.length co27)) (fun _ hk => hk.2) (.bool t524)) (fun _ hk => hk.2) (.bool t525)) (fun _ h_ => h_.1)))); (case side4 => exact (Kd.R_reads' HO520.out).2.1); (case side5 => refine (Kd.R_reads' (e := 22) (base := w.heap.size) (ok := fun k_ => ((((some k_ ≠ (.slice Ao22 t515.length co22 : Value).ownBlock ∧ some k_ ≠ (.slice Ao26 t518.length co26 : Value).ownBlock) ∧ some k_ ≠ (.slice Ao13 t501.length co13 : Value).ownBlock) ∧ some k_ ≠ (.slice Ao16 t504.length co16 : Value).ownBlock) ∧ some k_ ≠ (.slice Ao17 t507.length co17 : Value).ownBlock)) (n := t521.length) (c := co27) ?_).2.2; exact (by exact (Kd.R_mono (Kd.R_far (p := ⟨gb526, 4, none⟩) (Kd.R_far (p := ⟨gb526, 3, none⟩) (Kd.R_far (p := ⟨gb526, 2, none⟩) (Kd.R_far (p := ⟨gb526, 1, none⟩) (Kd.R_far (p := ⟨gb526, 0, none⟩) (Kd.R_types HO523.out BK526.out (by decide)) (fun _ hk => hk.2) (.slice Ao22 t515.length co22)) (fun _ hk => hk.2) (.slice Ao26 t518.length co26)) (fun _ hk => hk.2) (.slice Ao27 t521.length co27)) (fun _ hk => hk.2) (.bool t524)) (fun _ hk => hk.2) (.bool t525)) (fun _ h_ => h_.1)))); (case side6 => exact (Kd.R_reads' HO523.out).2.1); (case side7 => refine (Kd.R_reads' (e := 22) (base := w.heap.size) (ok := fun k_ => ((((some k_ ≠ (.slice Ao16 t504.length co16 : Value).ownBlock ∧ some k_ ≠ (.slice Ao17 t507.length co17 : Value).ownBlock) ∧ some k_ ≠ (.slice Ao22 t515.length co22 : Value).ownBlock) ∧ some k_ ≠ (.slice Ao26 t518.length co26 : Value).ownBlock) ∧ some k_ ≠ (.slice Ao27 t521.length co27 : Value).ownBlock)) (n := t501.length) (c := co13) ?_).2.2; exact (by exact (Kd.R_mono (Kd.R_far (p := ⟨gb526, 4, none⟩) (Kd.R_far (p := ⟨gb526, 3, none⟩) (Kd.R_far (p := ⟨gb526, 2, none⟩) (Kd.R_far (p := ⟨gb526, 1, none⟩) (Kd.R_far (p := ⟨gb526, 0, none⟩) (Kd.R_types HO503.out BK526.out (by decide)) (fun _ hk => hk.2) (.slice Ao22 t515.length co22)) (fun _ hk => hk.2) (.slice Ao26 t518.length co26)) (fun _ hk => hk.2) (.slice Ao27 t521.length co27)) (fun _ hk => hk.2) (.bool t524)) (fun _ hk => hk.2) (.bool t525)) (fun _ h_ => h_.1)))); (case side8 => exact (Kd.R_reads' HO503.out).2.1); (case side9 => refine (Kd.R_reads' (e := 22) (base := w.heap.size) (ok := fun k_ => ((((some k_ ≠ (.slice Ao13 t501.length co13 : Value).ownBlock ∧ some k_ ≠ (.slice Ao17 t507.length co17 : Value).ownBlock) ∧ some k_ ≠ (.slice Ao22 t515.length co22 : Value).ownBlock) ∧ some k_ ≠ (.slice Ao26 t518.length co26 : Value).ownBlock) ∧ some k_ ≠ (.slice Ao27 t521.length co27 : Value).ownBlock)) (n := t504.length) (c := co16) ?_).2.2; exact (by exact (Kd.R_mono (Kd.R_far (p := ⟨gb526, 4, none⟩) (Kd.R_far (p := ⟨gb526, 3, none⟩) (Kd.R_far (p := ⟨gb526, 2, none⟩) (Kd.R_far (p := ⟨gb526, 1, none⟩) (Kd.R_far (p := ⟨gb526, 0, none⟩) (Kd.R_types HO506.out BK526.out (by decide)) (fun _ hk => hk.2) (.slice Ao22 t515.length co22)) (fun _ hk => hk.2) (.slice Ao26 t518.length co26)) (fun _ hk => hk.2) (.slice Ao27 t521.length co27)) (fun _ hk => hk.2) (.bool t524)) (fun _ hk => hk.2) (.bool t525)) (fun _ h_ => h_.1)))); (case side10 => exact (Kd.R_reads' HO506.out).2.1); (case side11 => refine (Kd.R_reads' (e := 22) (base := w.heap.size) (ok := fun k_ => ((((some k_ ≠ (.slice Ao13 t501.length co13 : Value).ownBlock ∧ some k_ ≠ (.slice Ao16 t504.length co16 : Value).ownBlock) ∧ some k_ ≠ (.slice Ao22 t515.length co22 : Value).ownBlock) ∧ some k_ ≠ (.slice Ao26 t518.length co26 : Value).ownBlock) ∧ some k_ ≠ (.slice Ao27 t521.length co27 : Value).ownBlock)) (n := t507.length) (c := co17) ?_).2.2; exact (by exact (Kd.R_mono (Kd.R_far (p := ⟨gb526, 4, none⟩) (Kd.R_far (p := ⟨gb526, 3, none⟩) (Kd.R_far (p := ⟨gb526, 2, none⟩) (Kd.R_far (p := ⟨gb526, 1, none⟩) (Kd.R_far (p := ⟨gb526, 0, none⟩) (Kd.R_types HO509.out BK526.out (by decide)) (fun _ hk => hk.2) (.slice Ao22 t515.length co22)) (fun _ hk => hk.2) (.slice Ao26 t518.length co26)) (fun _ hk => hk.2) (.slice Ao27 t521.length co27)) (fun _ hk => hk.2) (.bool t524)) (fun _ hk => hk.2) (.bool t525)) (fun _ h_ => h_.1)))); (case side12 => exact (Kd.R_reads' HO509.out).2.1); rintro e w34 ⟨rfl, hb⟩; refine ⟨_, rfl, ?_⟩; have n0_ := zM (Kd.R_below (by exact (Kd.R_mono (Kd.R_far (p := ⟨gb526, 4, none⟩) (Kd.R_far (p := ⟨gb526, 3, none⟩) (Kd.R_far (p := ⟨gb526, 2, none⟩) (Kd.R_far (p := ⟨gb526, 1, none⟩) (Kd.R_far (p := ⟨gb526, 0, none⟩) (Kd.R_types HO503.out BK526.out (by decide)) (fun _ hk => hk.2) (.slice Ao22 t515.length co22)) (fun _ hk => hk.2) (.slice Ao26 t518.length co26)) (fun _ hk => hk.2) (.slice Ao27 t521.length co27)) (fun _ hk => hk.2) (.bool t524)) (fun _ hk => hk.2) (.bool t525)) (fun _ h_ => h_.1))) hb); have n1_ := zM (Kd.R_below (by exact (Kd.R_mono (Kd.R_far (p := ⟨gb526, 4, none⟩) (Kd.R_far (p := ⟨gb526, 3, none⟩) (Kd.R_far (p := ⟨gb526, 2, none⟩) (Kd.R_far (p := ⟨gb526, 1, none⟩) (Kd.R_far (p := ⟨gb526, 0, none⟩) (Kd.R_types HO506.out BK526.out (by decide)) (fun _ hk => hk.2) (.slice Ao22 t515.length co22)) (fun _ hk => hk.2) (.slice Ao26 t518.length co26)) (fun _ hk => hk.2) (.slice Ao27 t521.length co27)) (fun _ hk => hk.2) (.bool t524)) (fun _ hk => hk.2) (.bool t525)) (fun _ h_ => h_.1))) hb); have n2_ := zM (Kd.R_below (by exact (Kd.R_mono (Kd.R_far (p := ⟨gb526, 4, none⟩) (Kd.R_far (p := ⟨gb526, 3, none⟩) (Kd.R_far (p := ⟨gb526, 2, none⟩) (Kd.R_far (p := ⟨gb526, 1, none⟩) (Kd.R_far (p := ⟨gb526, 0, none⟩) (Kd.R_types HO509.out BK526.out (by decide)) (fun _ hk => hk.2) (.slice Ao22 t515.length co22)) (fun _ hk => hk.2) (.slice Ao26 t518.length co26)) (fun _ hk => hk.2) (.slice Ao27 t521.length co27)) (fun _ hk => hk.2) (.bool t524)) (fun _ hk => hk.2) (.bool t525)) (fun _ h_ => h_.1))) hb); have n3_ := zM (Kd.R_below (by exact (Kd.R_mono (Kd.R_far (p := ⟨gb526, 4, none⟩) (Kd.R_far (p := ⟨gb526, 3, none⟩) (Kd.R_far (p := ⟨gb526, 2, none⟩) (Kd.R_far (p := ⟨gb526, 1, none⟩) (Kd.R_far (p := ⟨gb526, 0, none⟩) (Kd.R_types HO517.out BK526.out (by decide)) (fun _ hk => hk.2) (.slice Ao22 t515.length co22)) (fun _ hk => hk.2) (.slice Ao26 t518.length co26)) (fun _ hk => hk.2) (.slice Ao27 t521.length co27)) (fun _ hk => hk.2) (.bool t524)) (fun _ hk => hk.2) (.bool t525)) (fun _ h_ => h_.1))) hb); have n4_ := zM (Kd.R_below (by exact (Kd.R_mono (Kd.R_far (p := ⟨gb526, 4, none⟩) (Kd.R_far (p := ⟨gb526, 3, none⟩) (Kd.R_far (p := ⟨gb526, 2, none⟩) (Kd.R_far (p := ⟨gb526, 1, none⟩) (Kd.R_far (p := ⟨gb526, 0, none⟩) (Kd.R_types HO520.out BK526.out (by decide)) (fun _ hk => hk.2) (.slice Ao22 t515.length co22)) (fun _ hk => hk.2) (.slice Ao26 t518.length co26)) (fun _ hk => hk.2) (.slice Ao27 t521.length co27)) (fun _ hk => hk.2) (.bool t524)) (fun _ hk => hk.2) (.bool t525)) (fun _ h_ => h_.1))) hb); have n5_ := zM (Kd.R_below (by exact (Kd.R_mono (Kd.R_far (p := ⟨gb526, 4, none⟩) (Kd.R_far (p := ⟨gb526, 3, none⟩) (Kd.R_far (p := ⟨gb526, 2, none⟩) (Kd.R_far (p := ⟨gb526, 1, none⟩) (Kd.R_far (p := ⟨gb526, 0, none⟩) (Kd.R_types HO523.out BK526.out (by decide)) (fun _ hk => hk.2) (.slice Ao22 t515.length co22)) (fun _ hk => hk.2) (.slice Ao26 t518.length co26)) (fun _ hk => hk.2) (.slice Ao27 t521.length co27)) (fun _ hk => hk.2) (.bool t524)) (fun _ hk => hk.2) (.bool t525)) (fun _ h_ => h_.1))) hb); have n6_ := zM (blk_below (g := gb498) (o := .cells #[.int .u64 a1_0, .int .u64 a1_1] 24 (0, 0)) (by refine blk_far ?_ NB498_526.out _; refine blk_far ?_ NB498_526.out _; refine blk_far ?_ NB498_526.out _; refine blk_far ?_ NB498_526.out _; refine blk_far ?_ NB498_526.out _; exact BK498.out) hb); have n7_ := zM (blk_below (g := gb512) (o := .cells #[.slice Ao13 t501.length co13, .slice Ao16 t504.length co16, .slice Ao17 t507.length co17, .bool t510, .bool t511] 43 (0, 0)) (by refine blk_far ?_ NB512_526.out _; refine blk_far ?_ NB512_526.out _; refine blk_far ?_ NB512_526.out _; refine blk_far ?_ NB512_526.out _; refine blk_far ?_ NB512_526.out _; exact BK512.out) hb); have n8_ := zM (blk_below (g := gb526) (o := .cells #[.slice Ao22 t515.length co22, .slice Ao26 t518.length co26, .slice Ao27 t521.length co27, .bool t524, .bool t525] 43 (0, 0)) (by refine blk_put (cs := #[.slice Ao22 t515.length co22, .slice Ao26 t518.length co26, .slice Ao27 t521.length co27, .bool t524, .bool false]) ?_ 4 _ rfl; refine blk_put (cs := #[.slice Ao22 t515.length co22, .slice Ao26 t518.length co26, .slice Ao27 t521.length co27, .bool false, .bool false]) ?_ 3 _ rfl; refine blk_put (cs := #[.slice Ao22 t515.length co22, .slice Ao26 t518.length co26, .slice none 0 0, .bool false, .bool false]) ?_ 2 _ rfl; refine blk_put (cs := #[.slice Ao22 t515.length co22, .slice none 0 0, .slice none 0 0, .bool false, .bool false]) ?_ 1 _ rfl; refine blk_put (cs := #[.slice none 0 0, .slice none 0 0, .slice none 0 0, .bool false, .bool false]) ?_ 0 _ rfl; exact BK526.out) hb); have n9_ := zM (below_step (by repeat (first | (with_reducible first | exact HB.out | apply yA | apply yN | apply yD | refine below_set ?_ GE498.out | refine below_set ?_ GE512.out | refine below_set ?_ GE526.out) | exact HB.out)) hb); clear HO503; clear HO506; clear HO509; clear HO517; clear HO520; clear HO523; clear BK498; clear BK512; clear BK526; clear HB; have HO503 := n0_; have HO506 := n1_; have HO509 := n2_; have HO517 := n3_; have HO520 := n4_; have HO523 := n5_; have BK498 := n6_; have BK512 := n7_; have BK526 := n8_; have HB := n9_; clear n0_ n1_ n2_ n3_ n4_ n5_ n6_ n7_ n8_ n9_; (try clear hb); (try clear hb2); (try clear hk); (try clear hi)))
  go_meet
  case rel => exact ⟨_, (!t527), (by first | rfl | (simp; done) | (simp [*]; done)), H', ⟨by first | omega | exact Nat.le_refl _⟩, ⟨by exact Kd.R_mono HO503.out (fun _ hk => ⟨hk.1.1.1.1, ⟨hk.1.1.1.2, ⟨hk.1.1.2, ⟨hk.1.2, hk.2⟩⟩⟩⟩)⟩, ⟨by exact Kd.R_mono HO506.out (fun _ hk => ⟨hk.1.1.1.1, ⟨hk.1.1.1.2, ⟨hk.1.1.2, ⟨hk.1.2, hk.2⟩⟩⟩⟩)⟩, ⟨by exact Kd.R_mono HO509.out (fun _ hk => ⟨hk.1.1.1.1, ⟨hk.1.1.1.2, ⟨hk.1.1.2, ⟨hk.1.2, hk.2⟩⟩⟩⟩)⟩, ⟨by exact Kd.R_mono HO517.out (fun _ hk => ⟨hk.1.1.2, ⟨hk.1.2, ⟨hk.2, ⟨hk.1.1.1.1, hk.1.1.1.2⟩⟩⟩⟩)⟩, ⟨by exact Kd.R_mono HO520.out (fun _ hk => ⟨hk.1.1.2, ⟨hk.1.2, ⟨hk.2, ⟨hk.1.1.1.1, hk.1.1.1.2⟩⟩⟩⟩)⟩, ⟨by exact Kd.R_mono HO523.out (fun _ hk => ⟨hk.1.1.2, ⟨hk.1.2, ⟨hk.2, ⟨hk.1.1.1.1, hk.1.1.1.2⟩⟩⟩⟩)⟩, ⟨by exact BK498.out⟩, ⟨by exact BK512.out⟩, ⟨by exact BK526.out⟩, ⟨by repeat (first | (with_reducible first | exact HB.out | apply yA | apply yN | apply yD | refine below_set ?_ GE498.out | refine below_set ?_ GE512.out | refine below_set ?_ GE526.out) | exact HB.out)⟩⟩
 case rest =>
  clear HC7
  obtain ⟨kq, x21_6, rfl, HA, HJ6, HO_513000, HO_513001, HO_513002, HO_527000, HO_527001, HO_527002, BK498, BK512, BK526, HB⟩ := hcut
  cases kq with
  | zero => exact absurd HA.out (by simp [laws_FnExactBounds.j0])
  | succ kj6 =>
   have H := HA.out
   clear HA
   simp only [laws_FnExactBounds.j0] at H
   by_cases c35 : x21_6 = true
   ·subst c35
    have H1 : (some false) = some r := by rw [if_pos rfl] at H; exact H
    clear H
    have H := H1
    clear H1
    obtain rfl := Option.some.inj H
    go_wp2
    go_ret
    exact ⟨by first | rfl | (simp [errW_none, errW_some] <;> rfl) | (simp [*, errW_none, errW_some] <;> rfl), by repeat (first | (with_reducible first | exact HB.out | apply yA | apply yN | apply yD | refine below_set ?_ GE498.out | refine below_set ?_ GE512.out | refine below_set ?_ GE526.out) | exact HB.out)⟩
   ·replace c35 := Bool.eq_false_iff.mpr c35
    subst c35
    have H1 : ((laws_markInterval.f kj6 t515 t518 t521 t524 t525 1).bind fun bt528 => (laws_FnExactBounds.j1 kj6 a0 bt528.1 a1_0 a1_1 t501 t504 t507 t510 t511 bt528.2.1 bt528.2.2.1 bt528.2.2.2 t524 t525)) = some r := by rw [if_neg (show ¬ (false = true) by decide)] at H; exact H
    clear H
    have H := H1
    clear H1
    have HC36 := zM H
    clear H
    go_upto_region 6 with (fail)
    go_cut [7] (fun v7 wc => ∃ (kq : Nat) (x7_35 : Int) (x513000_35 : List Int) (x513001_35 : List Int) (x513002_35 : List Int) (x527000_35 : List Int) (x527001_35 : List Int) (x527002_35 : List Int) (u513000 : Value) (u513001 : Value) (u513002 : Value) (u527000 : Value) (u527001 : Value) (u527002 : Value), v7 = .int .i64 x7_35 ∧ Aside0 (laws_FnExactBounds.j1 kq a0 x7_35 a1_0 a1_1 x513000_35 x513001_35 x513002_35 t510 t511 x527000_35 x527001_35 x527002_35 t524 t525 = some r) ∧ Aside0 (kq ≤ kj6) ∧ Aside0 (Kd.R (Kd.int .u64) 22 wc w.heap.size (fun k_ => some k_ ≠ (u513001 : Value).ownBlock ∧ some k_ ≠ (u513002 : Value).ownBlock ∧ some k_ ≠ (u527000 : Value).ownBlock ∧ some k_ ≠ (u527001 : Value).ownBlock ∧ some k_ ≠ (u527002 : Value).ownBlock) u513000 x513000_35) ∧ Aside0 (Kd.R (Kd.int .u64) 22 wc w.heap.size (fun k_ => some k_ ≠ (u513000 : Value).ownBlock ∧ some k_ ≠ (u513002 : Value).ownBlock ∧ some k_ ≠ (u527000 : Value).ownBlock ∧ some k_ ≠ (u527001 : Value).ownBlock ∧ some k_ ≠ (u527002 : Value).ownBlock) u513001 x513001_35) ∧ Aside0 (Kd.R (Kd.int .u64) 22 wc w.heap.size (fun k_ => some k_ ≠ (u513000 : Value).ownBlock ∧ some k_ ≠ (u513001 : Value).ownBlock ∧ some k_ ≠ (u527000 : Value).ownBlock ∧ some k_ ≠ (u527001 : Value).ownBlock ∧ some k_ ≠ (u527002 : Value).ownBlock) u513002 x513002_35) ∧ Aside0 (Kd.R (Kd.int .u64) 22 wc w.heap.size (fun k_ => some k_ ≠ (u513000 : Value).ownBlock ∧ some k_ ≠ (u513001 : Value).ownBlock ∧ some k_ ≠ (u513002 : Value).ownBlock ∧ some k_ ≠ (u527001 : Value).ownBlock ∧ some k_ ≠ (u527002 : Value).ownBlock) u527000 x527000_35) ∧ Aside0 (Kd.R (Kd.int .u64) 22 wc w.heap.size (fun k_ => some k_ ≠ (u513000 : Value).ownBlock ∧ some k_ ≠ (u513001 : Value).ownBlock ∧ some k_ ≠ (u513002 : Value).ownBlock ∧ some k_ ≠ (u527000 : Value).ownBlock ∧ some k_ ≠ (u527002 : Value).ownBlock) u527001 x527001_35) ∧ Aside0 (Kd.R (Kd.int .u64) 22 wc w.heap.size (fun k_ => some k_ ≠ (u513000 : Value).ownBlock ∧ some k_ ≠ (u513001 : Value).ownBlock ∧ some k_ ≠ (u513002 : Value).ownBlock ∧ some k_ ≠ (u527000 : Value).ownBlock ∧ some k_ ≠ (u527001 : Value).ownBlock) u527002 x527002_35) ∧ Aside0 (wc.heap[gb498]? = some (.cells #[.int .u64 a1_0, .int .u64 a1_1] 24 (0, 0))) ∧ Aside0 (wc.heap[gb512]? = some (.cells #[u513000, u513001, u513002, .bool t510, .bool t511] 43 (0, 0))) ∧ Aside0 (wc.heap[gb526]? = some (.cells #[u527000, u527001, u527002, .bool t524, .bool t525] 43 (0, 0))) ∧ Aside0 (Below w.heap.size w wc))
    case first =>
     have H := HC36.out
     clear HC36
     replace H := Option.bind_eq_some_iff.mp H
     obtain ⟨⟨t528, t529, t530, t531⟩, A370, H⟩ := H
     replace H : (laws_FnExactBounds.j1 kj6 a0 t528 a1_0 a1_1 t501 t504 t507 t510 t511 t529 t530 t531 t524 t525) = some r := H
     have A37 := zM A370
     clear A370
     have H' := zM H
     clear H
     have hnb38 := NB526_498.out
     have hnc38 := NB498_526.out
     have hnb39 := NB526_512.out
     have hnc39 := NB512_526.out
     have hcz40_0 : wc.cell? ⟨gb526, 0, none⟩ = some (.slice Ao22 t515.length co22) := (blk_cell BK526.out 0).trans rfl
     have hcz40_1 : wc.cell? ⟨gb526, 1, none⟩ = some (.slice Ao26 t518.length co26) := (blk_cell BK526.out 1).trans rfl
     have hcz40_2 : wc.cell? ⟨gb526, 2, none⟩ = some (.slice Ao27 t521.length co27) := (blk_cell BK526.out 2).trans rfl
     have hcz40_3 : wc.cell? ⟨gb526, 3, none⟩ = some (.bool t524) := (blk_cell BK526.out 3).trans rfl
     have hcz40_4 : wc.cell? ⟨gb526, 4, none⟩ = some (.bool t525) := (blk_cell BK526.out 4).trans rfl
     have hfz40_0 := blk_frozen BK526.out 0
     have hfz40_1 := blk_frozen BK526.out 1
     have hfz40_2 := blk_frozen BK526.out 2
     have hfz40_3 := blk_frozen BK526.out 3
     have hfz40_4 := blk_frozen BK526.out 4
     go_wp2_with (first | ((with_reducible refine gate_callee (f := 28) rfl ?_); refine goesL_ (some 24) rfl rfl Tryd.func28 (by kernel_rfl) rfl #[.agg #[.slice Ao22 t515.length co22, .slice Ao26 t518.length co26, .slice Ao27 t521.length co27, .bool t524, .bool t525], .int .i64 1] rfl (by first | rfl | (simp only [List.map_toArray, List.map_cons, List.map_nil, List.length_drop, List.length_take]; rfl)) ?_; (with_reducible refine (laws_markInterval.calls kj6 (fun k_ => some k_ = (.slice Ao22 t515.length co22 : Value).ownBlock) (.slice Ao22 t515.length co22) t515 (fun k_ => some k_ = (.slice Ao26 t518.length co26 : Value).ownBlock) (.slice Ao26 t518.length co26) t518 (fun k_ => some k_ = (.slice Ao27 t521.length co27 : Value).ownBlock) (.slice Ao27 t521.length co27) t521 t524 t525 1 t528 t529 t530 t531 w _ ?side1 ?side2 ?side3 ?side4 ?side5 ?side6 ?side7 ?side8 ?side9 ?side10 A37.out).mono ?_); (case side1 => repeat (first | (with_reducible first | exact HB.out | apply yA | apply yN | apply yD | refine below_set ?_ GE498.out | refine below_set ?_ GE512.out | refine below_set ?_ GE526.out) | exact HB.out)); (case side2 => exact Kd.R_tight rfl HO_527000.out); (case side3 => exact fun k_ e_ => (HO_527000.out.1 k_ e_.symm).2.2.2.1); (case side4 => exact fun k_ e_ => (HO_527000.out.1 k_ e_.symm).2.2.2.2); (case side5 => exact Kd.R_tight rfl HO_527001.out); (case side6 => exact fun k_ e_ => (HO_527001.out.1 k_ e_.symm).2.2.2.1); (case side7 => exact fun k_ e_ => (HO_527001.out.1 k_ e_.symm).2.2.2.2); (case side8 => exact Kd.R_tight rfl HO_527002.out); (case side9 => exact fun k_ e_ => (HO_527002.out.1 k_ e_.symm).2.2.2.1); (case side10 => exact fun k_ e_ => (HO_527002.out.1 k_ e_.symm).2.2.2.2); rintro e w41 ⟨rfl, hy0, hy1, hy2, hb, hkp⟩; refine ⟨_, rfl, ?_⟩; have n0_ := zM (Kd.R_mono (ok' := fun k_ => some k_ ≠ (.slice Ao16 t504.length co16 : Value).ownBlock ∧ some k_ ≠ (.slice Ao17 t507.length co17 : Value).ownBlock ∧ some k_ ≠ (.slice Ao22 t515.length co22 : Value).ownBlock ∧ some k_ ≠ (.slice Ao26 t518.length co26 : Value).ownBlock ∧ some k_ ≠ (.slice Ao27 t521.length co27 : Value).ownBlock) (Kd.R_keptB (HO_513000.out) hkp (fun k_ hk_ hs_ => Or.elim hs_ (fun e_ => (hk_.2.2.1) e_) (fun e_ => Or.elim e_ (fun e_ => (hk_.2.2.2.1) e_) (fun e_ => (hk_.2.2.2.2) e_)))) (fun k_ hk_ => ⟨hk_.1.1, hk_.1.2.1, hk_.1.2.2.1, hk_.1.2.2.2.1, hk_.1.2.2.2.2⟩)); have n1_ := zM (Kd.R_mono (ok' := fun k_ => some k_ ≠ (.slice Ao13 t501.length co13 : Value).ownBlock ∧ some k_ ≠ (.slice Ao17 t507.length co17 : Value).ownBlock ∧ some k_ ≠ (.slice Ao22 t515.length co22 : Value).ownBlock ∧ some k_ ≠ (.slice Ao26 t518.length co26 : Value).ownBlock ∧ some k_ ≠ (.slice Ao27 t521.length co27 : Value).ownBlock) (Kd.R_keptB (HO_513001.out) hkp (fun k_ hk_ hs_ => Or.elim hs_ (fun e_ => (hk_.2.2.1) e_) (fun e_ => Or.elim e_ (fun e_ => (hk_.2.2.2.1) e_) (fun e_ => (hk_.2.2.2.2) e_)))) (fun k_ hk_ => ⟨hk_.1.1, hk_.1.2.1, hk_.1.2.2.1, hk_.1.2.2.2.1, hk_.1.2.2.2.2⟩)); have n2_ := zM (Kd.R_mono (ok' := fun k_ => some k_ ≠ (.slice Ao13 t501.length co13 : Value).ownBlock ∧ some k_ ≠ (.slice Ao16 t504.length co16 : Value).ownBlock ∧ some k_ ≠ (.slice Ao22 t515.length co22 : Value).ownBlock ∧ some k_ ≠ (.slice Ao26 t518.length co26 : Value).ownBlock ∧ some k_ ≠ (.slice Ao27 t521.length co27 : Value).ownBlock) (Kd.R_keptB (HO_513002.out) hkp (fun k_ hk_ hs_ => Or.elim hs_ (fun e_ => (hk_.2.2.1) e_) (fun e_ => Or.elim e_ (fun e_ => (hk_.2.2.2.1) e_) (fun e_ => (hk_.2.2.2.2) e_)))) (fun k_ hk_ => ⟨hk_.1.1, hk_.1.2.1, hk_.1.2.2.1, hk_.1.2.2.2.1, hk_.1.2.2.2.2⟩)); have n3_ := zM (Kd.R_reok rfl hy0 (fun k_ e_ => HO_527000.out.1 k_ e_)); have n4_ := zM (Kd.R_reok rfl hy1 (fun k_ e_ => HO_527001.out.1 k_ e_)); have n5_ := zM (Kd.R_reok rfl hy2 (fun k_ e_ => HO_527002.out.1 k_ e_)); have n6_ := zM (blk_kept BK498.out hkp (fun hs_ => Or.elim hs_ (fun e_ => (fun e_ => (Kd.R_ne HO_527000.out BK498.out (by decide)) e_) e_) (fun e_ => Or.elim e_ (fun e_ => (fun e_ => (Kd.R_ne HO_527001.out BK498.out (by decide)) e_) e_) (fun e_ => (fun e_ => (Kd.R_ne HO_527002.out BK498.out (by decide)) e_) e_)))); have n7_ := zM (blk_kept BK512.out hkp (fun hs_ => Or.elim hs_ (fun e_ => (fun e_ => (Kd.R_ne HO_527000.out BK512.out (by decide)) e_) e_) (fun e_ => Or.elim e_ (fun e_ => (fun e_ => (Kd.R_ne HO_527001.out BK512.out (by decide)) e_) e_) (fun e_ => (fun e_ => (Kd.R_ne HO_527002.out BK512.out (by decide)) e_) e_)))); have n8_ := zM (blk_kept BK526.out hkp (fun hs_ => Or.elim hs_ (fun e_ => (fun e_ => (Kd.R_ne HO_527000.out BK526.out (by decide)) e_) e_) (fun e_ => Or.elim e_ (fun e_ => (fun e_ => (Kd.R_ne HO_527001.out BK526.out (by decide)) e_) e_) (fun e_ => (fun e_ => (Kd.R_ne HO_527002.out BK526.out (by decide)) e_) e_)))); have n9_ := zM (hb); clear HO_513000; clear HO_513001; clear HO_513002; clear HO_527000; clear HO_527001; clear HO_527002; clear BK498; clear BK512; clear BK526; clear HB; have HO_513000 := n0_; have HO_513001 := n1_; have HO_513002 := n2_; have HO_527000 := n3_; have HO_527001 := n4_; have HO_527002 := n5_; have BK498 := n6_; have BK512 := n7_; have BK526 := n8_; have HB := n9_; clear n0_ n1_ n2_ n3_ n4_ n5_ n6_ n7_ n8_ n9_; (try clear hb); (try clear hkp); (try clear hy0); (try clear hy1); (try clear hy2)))
     go_meet
     case rel => exact ⟨_, (t528), (t501), (t504), (t507), (t529), (t530), (t531), (.slice Ao13 t501.length co13), (.slice Ao16 t504.length co16), (.slice Ao17 t507.length co17), (.slice Ao22 t515.length co22), (.slice Ao26 t518.length co26), (.slice Ao27 t521.length co27), (by first | rfl | (simp; done) | (simp [*]; done)), H', ⟨by have := HJ6.out; first | omega | exact Nat.le_refl _⟩, ⟨by exact HO_513000.out⟩, ⟨by exact HO_513001.out⟩, ⟨by exact HO_513002.out⟩, ⟨by exact HO_527000.out⟩, ⟨by exact HO_527001.out⟩, ⟨by exact HO_527002.out⟩, ⟨by exact BK498.out⟩, ⟨by exact BK512.out⟩, ⟨by exact BK526.out⟩, ⟨by repeat (first | (with_reducible first | exact HB.out | apply yA | apply yN | apply yD | refine below_set ?_ GE498.out | refine below_set ?_ GE512.out | refine below_set ?_ GE526.out) | exact HB.out)⟩⟩
    case rest =>
     clear HC36
     obtain ⟨kq, x7_35, x513000_35, x513001_35, x513002_35, x527000_35, x527001_35, x527002_35, u513000, u513001, u513002, u527000, u527001, u527002, rfl, HA, HJ35, HO_513000, HO_513001, HO_513002, HO_527000, HO_527001, HO_527002, BK498, BK512, BK526, HB⟩ := hcut
     cases kq with
     | zero => exact absurd HA.out (by simp [laws_FnExactBounds.j1])
     | succ kj35 =>
      have H := HA.out
      clear HA
      simp only [laws_FnExactBounds.j1] at H
      have HC42 := zM H
      clear H
      go_upto_region 8 with (fail)
      go_cut [8] (fun v8 wc => ∃ (kq : Nat) (x8_41 : Int), v8 = .int .i64 x8_41 ∧ Aside0 (laws_FnExactBounds.j2 kq a0 x7_35 x8_41 a1_0 a1_1 x513000_35 x513001_35 x513002_35 t510 t511 x527000_35 x527001_35 x527002_35 t524 t525 = some r) ∧ Aside0 (kq ≤ kj35) ∧ Aside0 (Kd.R (Kd.int .u64) 22 wc w.heap.size (fun k_ => some k_ ≠ (u513001 : Value).ownBlock ∧ some k_ ≠ (u513002 : Value).ownBlock ∧ some k_ ≠ (u527000 : Value).ownBlock ∧ some k_ ≠ (u527001 : Value).ownBlock ∧ some k_ ≠ (u527002 : Value).ownBlock) u513000 x513000_35) ∧ Aside0 (Kd.R (Kd.int .u64) 22 wc w.heap.size (fun k_ => some k_ ≠ (u513000 : Value).ownBlock ∧ some k_ ≠ (u513002 : Value).ownBlock ∧ some k_ ≠ (u527000 : Value).ownBlock ∧ some k_ ≠ (u527001 : Value).ownBlock ∧ some k_ ≠ (u527002 : Value).ownBlock) u513001 x513001_35) ∧ Aside0 (Kd.R (Kd.int .u64) 22 wc w.heap.size (fun k_ => some k_ ≠ (u513000 : Value).ownBlock ∧ some k_ ≠ (u513001 : Value).ownBlock ∧ some k_ ≠ (u527000 : Value).ownBlock ∧ some k_ ≠ (u527001 : Value).ownBlock ∧ some k_ ≠ (u527002 : Value).ownBlock) u513002 x513002_35) ∧ Aside0 (Kd.R (Kd.int .u64) 22 wc w.heap.size (fun k_ => some k_ ≠ (u513000 : Value).ownBlock ∧ some k_ ≠ (u513001 : Value).ownBlock ∧ some k_ ≠ (u513002 : Value).ownBlock ∧ some k_ ≠ (u527001 : Value).ownBlock ∧ some k_ ≠ (u527002 : Value).ownBlock) u527000 x527000_35) ∧ Aside0 (Kd.R (Kd.int .u64) 22 wc w.heap.size (fun k_ => some k_ ≠ (u513000 : Value).ownBlock ∧ some k_ ≠ (u513001 : Value).ownBlock ∧ some k_ ≠ (u513002 : Value).ownBlock ∧ some k_ ≠ (u527000 : Value).ownBlock ∧ some k_ ≠ (u527002 : Value).ownBlock) u527001 x527001_35) ∧ Aside0 (Kd.R (Kd.int .u64) 22 wc w.heap.size (fun k_ => some k_ ≠ (u513000 : Value).ownBlock ∧ some k_ ≠ (u513001 : Value).ownBlock ∧ some k_ ≠ (u513002 : Value).ownBlock ∧ some k_ ≠ (u527000 : Value).ownBlock ∧ some k_ ≠ (u527001 : Value).ownBlock) u527002 x527002_35) ∧ Aside0 (wc.heap[gb498]? = some (.cells #[.int .u64 a1_0, .int .u64 a1_1] 24 (0, 0))) ∧ Aside0 (wc.heap[gb512]? = some (.cells #[u513000, u513001, u513002, .bool t510, .bool t511] 43 (0, 0))) ∧ Aside0 (wc.heap[gb526]? = some (.cells #[u527000, u527001, u527002, .bool t524, .bool t525] 43 (0, 0))) ∧ Aside0 (Below w.heap.size w wc))
      case first =>
       have H := HC42.out
       clear HC42
       replace H := Option.bind_eq_some_iff.mp H
       obtain ⟨t532, A430, H⟩ := H
       replace H : (laws_FnExactBounds.j2 kj35 a0 x7_35 t532 a1_0 a1_1 x513000_35 x513001_35 x513002_35 t510 t511 x527000_35 x527001_35 x527002_35 t524 t525) = some r := H
       have A43 := zM A430
       clear A430
       have H' := zM H
       clear H
       have hnb44 := NB526_498.out
       have hnc44 := NB498_526.out
       have hnb45 := NB526_512.out
       have hnc45 := NB512_526.out
       have hcz46_0 : wc.cell? ⟨gb526, 0, none⟩ = some (u527000) := (blk_cell BK526.out 0).trans rfl
       have hcz46_1 : wc.cell? ⟨gb526, 1, none⟩ = some (u527001) := (blk_cell BK526.out 1).trans rfl
       have hcz46_2 : wc.cell? ⟨gb526, 2, none⟩ = some (u527002) := (blk_cell BK526.out 2).trans rfl
       have hcz46_3 : wc.cell? ⟨gb526, 3, none⟩ = some (.bool t524) := (blk_cell BK526.out 3).trans rfl
       have hcz46_4 : wc.cell? ⟨gb526, 4, none⟩ = some (.bool t525) := (blk_cell BK526.out 4).trans rfl
       have hfz46_0 := blk_frozen BK526.out 0
       have hfz46_1 := blk_frozen BK526.out 1
       have hfz46_2 := blk_frozen BK526.out 2
       have hfz46_3 := blk_frozen BK526.out 3
       have hfz46_4 := blk_frozen BK526.out 4
       obtain ⟨Ao47, co47, eo47⟩ := Kd.R_slice HO_527000.out
       subst eo47
       obtain ⟨Ao48, co48, eo48⟩ := Kd.R_slice HO_527001.out
       subst eo48
       obtain ⟨Ao49, co49, eo49⟩ := Kd.R_slice HO_527002.out
       subst eo49
       go_wp2_with (first | ((with_reducible refine gate_callee (f := 29) rfl ?_); refine goesL_ (some 27) rfl rfl Tryd.func29 (by kernel_rfl) rfl #[.agg #[.slice Ao47 x527000_35.length co47, .slice Ao48 x527001_35.length co48, .slice Ao49 x527002_35.length co49, .bool t524, .bool t525], .int .i64 1] rfl (by first | rfl | (simp only [List.map_toArray, List.map_cons, List.map_nil, List.length_drop, List.length_take]; rfl)) ?_; (with_reducible refine (laws_heldInterval.calls kj35 _ _ x527000_35 _ _ x527001_35 _ _ x527002_35 t524 t525 1 t532 _ ?side1 ?side2 ?side3 ?side4 ?side5 ?side6 A43.out).mono ?_); (case side1 => repeat (first | exact (Kd.R_reads' HO_527000.out).2.2 | (with_reducible refine Kd.C_alloc ?_ _) | (with_reducible refine Kd.C_drewN ?_ _) | (with_reducible refine Kd.C_drew ?_))); (case side2 => exact (Kd.R_reads' HO_527000.out).2.1); (case side3 => repeat (first | exact (Kd.R_reads' HO_527001.out).2.2 | (with_reducible refine Kd.C_alloc ?_ _) | (with_reducible refine Kd.C_drewN ?_ _) | (with_reducible refine Kd.C_drew ?_))); (case side4 => exact (Kd.R_reads' HO_527001.out).2.1); (case side5 => repeat (first | exact (Kd.R_reads' HO_527002.out).2.2 | (with_reducible refine Kd.C_alloc ?_ _) | (with_reducible refine Kd.C_drewN ?_ _) | (with_reducible refine Kd.C_drew ?_))); (case side6 => exact (Kd.R_reads' HO_527002.out).2.1); rintro e w50 ⟨rfl, hb⟩; refine ⟨_, rfl, ?_⟩; have n0_ := zM (Kd.R_below (by exact HO_513000.out) hb); have n1_ := zM (Kd.R_below (by exact HO_513001.out) hb); have n2_ := zM (Kd.R_below (by exact HO_513002.out) hb); have n3_ := zM (Kd.R_below (by exact HO_527000.out) hb); have n4_ := zM (Kd.R_below (by exact HO_527001.out) hb); have n5_ := zM (Kd.R_below (by exact HO_527002.out) hb); have n6_ := zM (blk_below BK498.out hb); have n7_ := zM (blk_below BK512.out hb); have n8_ := zM (blk_below BK526.out hb); have n9_ := zM (below_step HB.out hb); clear HO_513000; clear HO_513001; clear HO_513002; clear HO_527000; clear HO_527001; clear HO_527002; clear BK498; clear BK512; clear BK526; clear HB; have HO_513000 := n0_; have HO_513001 := n1_; have HO_513002 := n2_; have HO_527000 := n3_; have HO_527001 := n4_; have HO_527002 := n5_; have BK498 := n6_; have BK512 := n7_; have BK526 := n8_; have HB := n9_; clear n0_ n1_ n2_ n3_ n4_ n5_ n6_ n7_ n8_ n9_; (try clear hb); (try clear hb2); (try clear hk); (try clear hi)))
       go_meet
       case rel => exact ⟨_, (t532), (by first | rfl | (simp; done) | (simp [*]; done)), H', ⟨by have := HJ6.out; have := HJ35.out; first | omega | exact Nat.le_refl _⟩, ⟨by exact HO_513000.out⟩, ⟨by exact HO_513001.out⟩, ⟨by exact HO_513002.out⟩, ⟨by exact HO_527000.out⟩, ⟨by exact HO_527001.out⟩, ⟨by exact HO_527002.out⟩, ⟨by exact BK498.out⟩, ⟨by exact BK512.out⟩, ⟨by exact BK526.out⟩, ⟨by repeat (first | (with_reducible first | exact HB.out | apply yA | apply yN | apply yD | refine below_set ?_ GE498.out | refine below_set ?_ GE512.out | refine below_set ?_ GE526.out) | exact HB.out)⟩⟩
      case rest =>
       clear HC42
       obtain ⟨kq, x8_41, rfl, HA, HJ41, HO_513000, HO_513001, HO_513002, HO_527000, HO_527001, HO_527002, BK498, BK512, BK526, HB⟩ := hcut
       cases kq with
       | zero => exact absurd HA.out (by simp [laws_FnExactBounds.j2])
       | succ kj41 =>
        have H := HA.out
        clear HA
        simp only [laws_FnExactBounds.j2] at H
        by_cases c51 : x8_41 < 0
        ·rw [if_pos c51] at H
         have c51b0 : decide (x8_41 < 0) = true := decide_eq_true c51
         clear c51
         obtain rfl := Option.some.inj H
         go_wp2
         go_ret
         exact ⟨by first | rfl | (simp [errW_none, errW_some] <;> rfl) | (simp [*, errW_none, errW_some] <;> rfl), by repeat (first | (with_reducible first | exact HB.out | apply yA | apply yN | apply yD | refine below_set ?_ GE498.out | refine below_set ?_ GE512.out | refine below_set ?_ GE526.out) | exact HB.out)⟩
        ·rw [if_neg c51] at H
         have c51b0 : decide (x8_41 < 0) = false := decide_eq_false c51
         clear c51
         by_cases c52 : x8_41 = x7_35
         ·rw [if_pos c52] at H
          have c52b0 : (x8_41 == x7_35) = true := beq_iff_eq.mpr c52
          have c52b1 : (x8_41 != x7_35) = false := bne_eq_false_iff_eq.mpr c52
          clear c52
          replace H := Option.bind_eq_some_iff.mp H
          obtain ⟨⟨t533, t534⟩, A530, H⟩ := H
          replace H : ((impl_Bounds.f kj41 a0 t533 t534).bind fun bt535 => ((laws_eqInterval.f kj41 bt535.1 bt535.2.1 bt535.2.2.1 bt535.2.2.2.1 bt535.2.2.2.2 x513000_35 x513001_35 x513002_35 t510 t511).bind fun t547 => (laws_FnExactBounds.j3 kj41 x7_35 (!t547) x527000_35 x527001_35 x527002_35 t524 t525))) = some r := H
          have A53 := zM A530
          clear A530
          replace H := Option.bind_eq_some_iff.mp H
          obtain ⟨⟨t535, t538, t541, t544, t545⟩, A540, H⟩ := H
          replace H : ((laws_eqInterval.f kj41 t535 t538 t541 t544 t545 x513000_35 x513001_35 x513002_35 t510 t511).bind fun t547 => (laws_FnExactBounds.j3 kj41 x7_35 (!t547) x527000_35 x527001_35 x527002_35 t524 t525)) = some r := H
          have A54 := zM A540
          clear A540
          have HC55 := zM H
          clear H
          have hnb56 := NB498_512.out
          have hnc56 := NB512_498.out
          have hnb57 := NB498_526.out
          have hnc57 := NB526_498.out
          have hcz58_0 : wc.cell? ⟨gb498, 0, none⟩ = some (.int .u64 a1_0) := (blk_cell BK498.out 0).trans rfl
          have hcz58_1 : wc.cell? ⟨gb498, 1, none⟩ = some (.int .u64 a1_1) := (blk_cell BK498.out 1).trans rfl
          have hfz58_0 := blk_frozen BK498.out 0
          have hfz58_1 := blk_frozen BK498.out 1
          go_upto_region 14 with (first | ((with_reducible refine gate_callee (f := 16) rfl ?_); refine goesL_ (some 35) rfl rfl Tryd.func16 (by kernel_rfl) rfl #[.agg #[.int .u64 a1_0, .int .u64 a1_1]] rfl (by first | rfl | (simp only [List.map_toArray, List.map_cons, List.map_nil, List.length_drop, List.length_take]; rfl)) ?_; (with_reducible refine (laws_toWord.calls a1_0 a1_1 t533 t534 _ A53.out).mono ?_); rintro e w59 ⟨rfl, hb⟩; refine ⟨_, rfl, ?_⟩; have n0_ := zM (Kd.R_below (by exact HO_513000.out) hb); have n1_ := zM (Kd.R_below (by exact HO_513001.out) hb); have n2_ := zM (Kd.R_below (by exact HO_513002.out) hb); have n3_ := zM (Kd.R_below (by exact HO_527000.out) hb); have n4_ := zM (Kd.R_below (by exact HO_527001.out) hb); have n5_ := zM (Kd.R_below (by exact HO_527002.out) hb); have n6_ := zM (blk_below BK498.out hb); have n7_ := zM (blk_below BK512.out hb); have n8_ := zM (blk_below BK526.out hb); have n9_ := zM (below_step HB.out hb); clear HO_513000; clear HO_513001; clear HO_513002; clear HO_527000; clear HO_527001; clear HO_527002; clear BK498; clear BK512; clear BK526; clear HB; have HO_513000 := n0_; have HO_513001 := n1_; have HO_513002 := n2_; have HO_527000 := n3_; have HO_527001 := n4_; have HO_527002 := n5_; have BK498 := n6_; have BK512 := n7_; have BK526 := n8_; have HB := n9_; clear n0_ n1_ n2_ n3_ n4_ n5_ n6_ n7_ n8_ n9_; (try clear hb); (try clear hb2); (try clear hk); (try clear hi)) | ((with_reducible refine gate_callee (f := 26) rfl ?_); refine goesL_ (some 36) rfl rfl Tryd.func26 (by kernel_rfl) rfl #[.int .i64 a0, .agg #[.int .u64 t533, .int .u64 t534]] rfl (by first | rfl | (simp only [List.map_toArray, List.map_cons, List.map_nil, List.length_drop, List.length_take]; rfl)) ?_; (with_reducible refine (impl_Bounds.calls kj41 a0 t533 t534 t535 t538 t541 t544 t545 _ ?side1 A54.out).mono ?_); (case side1 => exact tabled_below HTb_.out HB.out); rintro e w60 ⟨v536, v539, v542, rfl, ho0, ho1, ho2, hb⟩; refine ⟨_, rfl, ?_⟩; have n0_ := zM (Kd.R_mono (Kd.R_told (Kd.R_told (Kd.R_told (Kd.R_old (by exact HO_513000.out) hb) (Kd.R_base ho0)) (Kd.R_base ho1)) (Kd.R_base ho2)) (fun _ h_ => h_.1)); have n1_ := zM (Kd.R_mono (Kd.R_told (Kd.R_told (Kd.R_told (Kd.R_old (by exact HO_513001.out) hb) (Kd.R_base ho0)) (Kd.R_base ho1)) (Kd.R_base ho2)) (fun _ h_ => h_.1)); have n2_ := zM (Kd.R_mono (Kd.R_told (Kd.R_told (Kd.R_told (Kd.R_old (by exact HO_513002.out) hb) (Kd.R_base ho0)) (Kd.R_base ho1)) (Kd.R_base ho2)) (fun _ h_ => h_.1)); have n3_ := zM (Kd.R_mono (Kd.R_told (Kd.R_told (Kd.R_told (Kd.R_old (by exact HO_527000.out) hb) (Kd.R_base ho0)) (Kd.R_base ho1)) (Kd.R_base ho2)) (fun _ h_ => h_.1)); have n4_ := zM (Kd.R_mono (Kd.R_told (Kd.R_told (Kd.R_told (Kd.R_old (by exact HO_527001.out) hb) (Kd.R_base ho0)) (Kd.R_base ho1)) (Kd.R_base ho2)) (fun _ h_ => h_.1)); have n5_ := zM (Kd.R_mono (Kd.R_told (Kd.R_told (Kd.R_told (Kd.R_old (by exact HO_527002.out) hb) (Kd.R_base ho0)) (Kd.R_base ho1)) (Kd.R_base ho2)) (fun _ h_ => h_.1)); have n6_ := zM (Kd.R_lower (Kd.R_new' (Kd.R_new' (Kd.R_new' (Kd.R_new' (Kd.R_new' (Kd.R_new' ho0 (Kd.R_lt (by exact HO_513000.out))) (Kd.R_lt (by exact HO_513001.out))) (Kd.R_lt (by exact HO_513002.out))) (Kd.R_lt (by exact HO_527000.out))) (Kd.R_lt (by exact HO_527001.out))) (Kd.R_lt (by exact HO_527002.out))) (below_size HB.out)); have n7_ := zM (Kd.R_lower (Kd.R_new' (Kd.R_new' (Kd.R_new' (Kd.R_new' (Kd.R_new' (Kd.R_new' ho1 (Kd.R_lt (by exact HO_513000.out))) (Kd.R_lt (by exact HO_513001.out))) (Kd.R_lt (by exact HO_513002.out))) (Kd.R_lt (by exact HO_527000.out))) (Kd.R_lt (by exact HO_527001.out))) (Kd.R_lt (by exact HO_527002.out))) (below_size HB.out)); have n8_ := zM (Kd.R_lower (Kd.R_new' (Kd.R_new' (Kd.R_new' (Kd.R_new' (Kd.R_new' (Kd.R_new' ho2 (Kd.R_lt (by exact HO_513000.out))) (Kd.R_lt (by exact HO_513001.out))) (Kd.R_lt (by exact HO_513002.out))) (Kd.R_lt (by exact HO_527000.out))) (Kd.R_lt (by exact HO_527001.out))) (Kd.R_lt (by exact HO_527002.out))) (below_size HB.out)); have n9_ := zM (blk_below BK498.out hb); have n10_ := zM (blk_below BK512.out hb); have n11_ := zM (blk_below BK526.out hb); have n12_ := zM (below_step HB.out hb); clear HO_513000; clear HO_513001; clear HO_513002; clear HO_527000; clear HO_527001; clear HO_527002; clear BK498; clear BK512; clear BK526; clear HB; have HO_513000 := n0_; have HO_513001 := n1_; have HO_513002 := n2_; have HO_527000 := n3_; have HO_527001 := n4_; have HO_527002 := n5_; have HO537 := n6_; have HO540 := n7_; have HO543 := n8_; have BK498 := n9_; have BK512 := n10_; have BK526 := n11_; have HB := n12_; clear n0_ n1_ n2_ n3_ n4_ n5_ n6_ n7_ n8_ n9_ n10_ n11_ n12_; (try clear hb); (try clear hb2); (try clear hk); (try clear hi); (try clear ho0); (try clear ho1); (try clear ho2)) | ((with_reducible refine gate_dst (N := 9) rfl ?_); refine box_event ?hg (N := 9) ?hd (cs := #[.slice none 0 0, .slice none 0 0, .slice none 0 0, .bool false, .bool false]) (t := 43) ?hr ?_; (case hd => rfl); (case hg => rfl); (case hr => first | (go_simp; done) | (go_simp; rfl)); intro gb546 hg w61 hbox hb; have n0_ := zM (Kd.R_below (by exact HO_513000.out) hb); have n1_ := zM (Kd.R_below (by exact HO_513001.out) hb); have n2_ := zM (Kd.R_below (by exact HO_513002.out) hb); have n3_ := zM (Kd.R_below (by exact HO_527000.out) hb); have n4_ := zM (Kd.R_below (by exact HO_527001.out) hb); have n5_ := zM (Kd.R_below (by exact HO_527002.out) hb); have n6_ := zM (Kd.R_below (by exact HO537.out) hb); have n7_ := zM (Kd.R_below (by exact HO540.out) hb); have n8_ := zM (Kd.R_below (by exact HO543.out) hb); have n9_ := zM (blk_below BK498.out hb); have n10_ := zM (blk_below BK512.out hb); have n11_ := zM (blk_below BK526.out hb); have n12_ := zM (below_step HB.out hb); have n13_ := zM (hbox); have n14_ := zM ((by rw [hg]; exact (below_size HB.out) : w.heap.size ≤ gb546)); have n15_ := zM ((by rw [hg]; exact (below_size HB.out) : w.heap.size ≤ gb546)); have n16_ := zM ((by rw [hg]; exact Nat.ne_of_lt (blk_lt BK498.out) : gb498 ≠ gb546)); have n17_ := zM ((by rw [hg]; exact Nat.ne_of_gt (blk_lt BK498.out) : gb546 ≠ gb498)); have n18_ := zM ((by rw [hg]; exact Nat.ne_of_lt (blk_lt BK512.out) : gb512 ≠ gb546)); have n19_ := zM ((by rw [hg]; exact Nat.ne_of_gt (blk_lt BK512.out) : gb546 ≠ gb512)); have n20_ := zM ((by rw [hg]; exact Nat.ne_of_lt (blk_lt BK526.out) : gb526 ≠ gb546)); have n21_ := zM ((by rw [hg]; exact Nat.ne_of_gt (blk_lt BK526.out) : gb546 ≠ gb526)); clear HO_513000; clear HO_513001; clear HO_513002; clear HO_527000; clear HO_527001; clear HO_527002; clear HO537; clear HO540; clear HO543; clear BK498; clear BK512; clear BK526; clear HB; have HO_513000 := n0_; have HO_513001 := n1_; have HO_513002 := n2_; have HO_527000 := n3_; have HO_527001 := n4_; have HO_527002 := n5_; have HO537 := n6_; have HO540 := n7_; have HO543 := n8_; have BK498 := n9_; have BK512 := n10_; have BK526 := n11_; have HB := n12_; have BK546 := n13_; have GW546 := n14_; have GE546 := n15_; have NB498_546 := n16_; have NB546_498 := n17_; have NB512_546 := n18_; have NB546_512 := n19_; have NB526_546 := n20_; have NB546_526 := n21_; clear n0_ n1_ n2_ n3_ n4_ n5_ n6_ n7_ n8_ n9_ n10_ n11_ n12_ n13_ n14_ n15_ n16_ n17_ n18_ n19_ n20_ n21_; clear hb hbox hg; obtain ⟨Ao62, co62, eo62⟩ := Kd.R_slice HO537.out; subst eo62; have hnb63 := NB546_498.out; have hnc63 := NB498_546.out; have hnb64 := NB546_512.out; have hnc64 := NB512_546.out; have hnb65 := NB546_526.out; have hnc65 := NB526_546.out; have hcz66_0 : w61.cell? ⟨gb546, 0, none⟩ = some (.slice none 0 0) := (blk_cell BK546.out 0).trans rfl; have hcz66_1 : w61.cell? ⟨gb546, 1, none⟩ = some (.slice none 0 0) := (blk_cell BK546.out 1).trans rfl; have hcz66_2 : w61.cell? ⟨gb546, 2, none⟩ = some (.slice none 0 0) := (blk_cell BK546.out 2).trans rfl; have hcz66_3 : w61.cell? ⟨gb546, 3, none⟩ = some (.bool false) := (blk_cell BK546.out 3).trans rfl; have hcz66_4 : w61.cell? ⟨gb546, 4, none⟩ = some (.bool false) := (blk_cell BK546.out 4).trans rfl; have hfz66_0 := blk_frozen BK546.out 0; have hfz66_1 := blk_frozen BK546.out 1; have hfz66_2 := blk_frozen BK546.out 2; have hfz66_3 := blk_frozen BK546.out 3; have hfz66_4 := blk_frozen BK546.out 4; obtain ⟨Ao67, co67, eo67⟩ := Kd.R_slice HO540.out; subst eo67; obtain ⟨Ao68, co68, eo68⟩ := Kd.R_slice HO543.out; subst eo68))
          (try simp only [Act.put, xT, xZ, xS])
          go_cut [40] (fun v40 wc => ∃ (kq : Nat) (x40_54 : Bool), v40 = .bool x40_54 ∧ Aside0 (laws_FnExactBounds.j3 kq x7_35 x40_54 x527000_35 x527001_35 x527002_35 t524 t525 = some r) ∧ Aside0 (kq ≤ kj41) ∧ Aside0 (Kd.R (Kd.int .u64) 22 wc w.heap.size (fun k_ => some k_ ≠ (u513001 : Value).ownBlock ∧ some k_ ≠ (u513002 : Value).ownBlock ∧ some k_ ≠ (u527000 : Value).ownBlock ∧ some k_ ≠ (u527001 : Value).ownBlock ∧ some k_ ≠ (u527002 : Value).ownBlock ∧ some k_ ≠ ((.slice Ao62 t535.length co62) : Value).ownBlock ∧ some k_ ≠ ((.slice Ao67 t538.length co67) : Value).ownBlock ∧ some k_ ≠ ((.slice Ao68 t541.length co68) : Value).ownBlock) u513000 x513000_35) ∧ Aside0 (Kd.R (Kd.int .u64) 22 wc w.heap.size (fun k_ => some k_ ≠ (u513000 : Value).ownBlock ∧ some k_ ≠ (u513002 : Value).ownBlock ∧ some k_ ≠ (u527000 : Value).ownBlock ∧ some k_ ≠ (u527001 : Value).ownBlock ∧ some k_ ≠ (u527002 : Value).ownBlock ∧ some k_ ≠ ((.slice Ao62 t535.length co62) : Value).ownBlock ∧ some k_ ≠ ((.slice Ao67 t538.length co67) : Value).ownBlock ∧ some k_ ≠ ((.slice Ao68 t541.length co68) : Value).ownBlock) u513001 x513001_35) ∧ Aside0 (Kd.R (Kd.int .u64) 22 wc w.heap.size (fun k_ => some k_ ≠ (u513000 : Value).ownBlock ∧ some k_ ≠ (u513001 : Value).ownBlock ∧ some k_ ≠ (u527000 : Value).ownBlock ∧ some k_ ≠ (u527001 : Value).ownBlock ∧ some k_ ≠ (u527002 : Value).ownBlock ∧ some k_ ≠ ((.slice Ao62 t535.length co62) : Value).ownBlock ∧ some k_ ≠ ((.slice Ao67 t538.length co67) : Value).ownBlock ∧ some k_ ≠ ((.slice Ao68 t541.length co68) : Value).ownBlock) u513002 x513002_35) ∧ Aside0 (Kd.R (Kd.int .u64) 22 wc w.heap.size (fun k_ => some k_ ≠ (u513000 : Value).ownBlock ∧ some k_ ≠ (u513001 : Value).ownBlock ∧ some k_ ≠ (u513002 : Value).ownBlock ∧ some k_ ≠ (u527001 : Value).ownBlock ∧ some k_ ≠ (u527002 : Value).ownBlock ∧ some k_ ≠ ((.slice Ao62 t535.length co62) : Value).ownBlock ∧ some k_ ≠ ((.slice Ao67 t538.length co67) : Value).ownBlock ∧ some k_ ≠ ((.slice Ao68 t541.length co68) : Value).ownBlock) u527000 x527000_35) ∧ Aside0 (Kd.R (Kd.int .u64) 22 wc w.heap.size (fun k_ => some k_ ≠ (u513000 : Value).ownBlock ∧ some k_ ≠ (u513001 : Value).ownBlock ∧ some k_ ≠ (u513002 : Value).ownBlock ∧ some k_ ≠ (u527000 : Value).ownBlock ∧ some k_ ≠ (u527002 : Value).ownBlock ∧ some k_ ≠ ((.slice Ao62 t535.length co62) : Value).ownBlock ∧ some k_ ≠ ((.slice Ao67 t538.length co67) : Value).ownBlock ∧ some k_ ≠ ((.slice Ao68 t541.length co68) : Value).ownBlock) u527001 x527001_35) ∧ Aside0 (Kd.R (Kd.int .u64) 22 wc w.heap.size (fun k_ => some k_ ≠ (u513000 : Value).ownBlock ∧ some k_ ≠ (u513001 : Value).ownBlock ∧ some k_ ≠ (u513002 : Value).ownBlock ∧ some k_ ≠ (u527000 : Value).ownBlock ∧ some k_ ≠ (u527001 : Value).ownBlock ∧ some k_ ≠ ((.slice Ao62 t535.length co62) : Value).ownBlock ∧ some k_ ≠ ((.slice Ao67 t538.length co67) : Value).ownBlock ∧ some k_ ≠ ((.slice Ao68 t541.length co68) : Value).ownBlock) u527002 x527002_35) ∧ Aside0 (Kd.R (Kd.int .u64) 22 wc w.heap.size (fun k_ => some k_ ≠ (u513000 : Value).ownBlock ∧ some k_ ≠ (u513001 : Value).ownBlock ∧ some k_ ≠ (u513002 : Value).ownBlock ∧ some k_ ≠ (u527000 : Value).ownBlock ∧ some k_ ≠ (u527001 : Value).ownBlock ∧ some k_ ≠ (u527002 : Value).ownBlock ∧ some k_ ≠ ((.slice Ao67 t538.length co67) : Value).ownBlock ∧ some k_ ≠ ((.slice Ao68 t541.length co68) : Value).ownBlock) (.slice Ao62 t535.length co62) t535) ∧ Aside0 (Kd.R (Kd.int .u64) 22 wc w.heap.size (fun k_ => some k_ ≠ (u513000 : Value).ownBlock ∧ some k_ ≠ (u513001 : Value).ownBlock ∧ some k_ ≠ (u513002 : Value).ownBlock ∧ some k_ ≠ (u527000 : Value).ownBlock ∧ some k_ ≠ (u527001 : Value).ownBlock ∧ some k_ ≠ (u527002 : Value).ownBlock ∧ some k_ ≠ ((.slice Ao62 t535.length co62) : Value).ownBlock ∧ some k_ ≠ ((.slice Ao68 t541.length co68) : Value).ownBlock) (.slice Ao67 t538.length co67) t538) ∧ Aside0 (Kd.R (Kd.int .u64) 22 wc w.heap.size (fun k_ => some k_ ≠ (u513000 : Value).ownBlock ∧ some k_ ≠ (u513001 : Value).ownBlock ∧ some k_ ≠ (u513002 : Value).ownBlock ∧ some k_ ≠ (u527000 : Value).ownBlock ∧ some k_ ≠ (u527001 : Value).ownBlock ∧ some k_ ≠ (u527002 : Value).ownBlock ∧ some k_ ≠ ((.slice Ao62 t535.length co62) : Value).ownBlock ∧ some k_ ≠ ((.slice Ao67 t538.length co67) : Value).ownBlock) (.slice Ao68 t541.length co68) t541) ∧ Aside0 (wc.heap[gb498]? = some (.cells #[.int .u64 a1_0, .int .u64 a1_1] 24 (0, 0))) ∧ Aside0 (wc.heap[gb512]? = some (.cells #[u513000, u513001, u513002, .bool t510, .bool t511] 43 (0, 0))) ∧ Aside0 (wc.heap[gb526]? = some (.cells #[u527000, u527001, u527002, .bool t524, .bool t525] 43 (0, 0))) ∧ Aside0 (wc.heap[gb546]? = some (.cells #[(.slice Ao62 t535.length co62), (.slice Ao67 t538.length co67), (.slice Ao68 t541.length co68), .bool t544, .bool t545] 43 (0, 0))) ∧ Aside0 (Below w.heap.size w wc))
          case first =>
           have H := HC55.out
           clear HC55
           replace H := Option.bind_eq_some_iff.mp H
           obtain ⟨t547, A690, H⟩ := H
           replace H : (laws_FnExactBounds.j3 kj41 x7_35 (!t547) x527000_35 x527001_35 x527002_35 t524 t525) = some r := H
           have A69 := zM A690
           clear A690
           have H' := zM H
           clear H
           have hnb70 := NB546_498.out
           have hnc70 := NB498_546.out
           have hnb71 := NB546_512.out
           have hnc71 := NB512_546.out
           have hnb72 := NB546_526.out
           have hnc72 := NB526_546.out
           have hcz73_0 : w61.cell? ⟨gb546, 0, none⟩ = some (.slice none 0 0) := (blk_cell BK546.out 0).trans rfl
           have hcz73_1 : w61.cell? ⟨gb546, 1, none⟩ = some (.slice none 0 0) := (blk_cell BK546.out 1).trans rfl
           have hcz73_2 : w61.cell? ⟨gb546, 2, none⟩ = some (.slice none 0 0) := (blk_cell BK546.out 2).trans rfl
           have hcz73_3 : w61.cell? ⟨gb546, 3, none⟩ = some (.bool false) := (blk_cell BK546.out 3).trans rfl
           have hcz73_4 : w61.cell? ⟨gb546, 4, none⟩ = some (.bool false) := (blk_cell BK546.out 4).trans rfl
           have hfz73_0 := blk_frozen BK546.out 0
           have hfz73_1 := blk_frozen BK546.out 1
           have hfz73_2 := blk_frozen BK546.out 2
           have hfz73_3 := blk_frozen BK546.out 3
           have hfz73_4 := blk_frozen BK546.out 4
           have hnb74 := NB512_498.out
           have hnc74 := NB498_512.out
           have hnb75 := NB512_526.out
           have hnc75 := NB526_512.out
           have hcz76_0 : w61.cell? ⟨gb512, 0, none⟩ = some (u513000) := (blk_cell BK512.out 0).trans rfl
           have hcz76_1 : w61.cell? ⟨gb512, 1, none⟩ = some (u513001) := (blk_cell BK512.out 1).trans rfl
           have hcz76_2 : w61.cell? ⟨gb512, 2, none⟩ = some (u513002) := (blk_cell BK512.out 2).trans rfl
           have hcz76_3 : w61.cell? ⟨gb512, 3, none⟩ = some (.bool t510) := (blk_cell BK512.out 3).trans rfl
           have hcz76_4 : w61.cell? ⟨gb512, 4, none⟩ = some (.bool t511) := (blk_cell BK512.out 4).trans rfl
           have hfz76_0 := blk_frozen BK512.out 0
           have hfz76_1 := blk_frozen BK512.out 1
           have hfz76_2 := blk_frozen BK512.out 2
           have hfz76_3 := blk_frozen BK512.out 3
           have hfz76_4 := blk_frozen BK512.out 4
           obtain ⟨Ao77, co77, eo77⟩ := Kd.R_slice HO_513000.out
           subst eo77
           obtain ⟨Ao78, co78, eo78⟩ := Kd.R_slice HO_513001.out
           subst eo78
           obtain ⟨Ao79, co79, eo79⟩ := Kd.R_slice HO_513002.out
           subst eo79
           go_wp2_with (first | ((with_reducible refine gate_callee (f := 27) rfl ?_); refine goesL_ (some 39) rfl rfl Tryd.func27 (by kernel_rfl) rfl #[.agg #[.slice Ao62 t535.length co62, .slice Ao67 t538.length co67, .slice Ao68 t541.length co68, .bool t544, .bool t545], .agg #[.slice Ao77 x513000_35.length co77, .slice Ao78 x513001_35.length co78, .slice Ao79 x513002_35.length co79, .bool t510, .bool t511]] rfl (by first | rfl | (simp only [List.map_toArray, List.map_cons, List.map_nil, List.length_drop, List.length_take]; rfl)) ?_; (with_reducible refine (laws_eqInterval.calls kj41 _ _ t535 _ _ t538 _ _ t541 t544 t545 _ _ x513000_35 _ _ x513001_35 _ _ x513002_35 t510 t511 t547 _ ?side1 ?side2 ?side3 ?side4 ?side5 ?side6 ?side7 ?side8 ?side9 ?side10 ?side11 ?side12 A69.out).mono ?_); (case side1 => refine (Kd.R_reads' (e := 22) (base := w.heap.size) (ok := fun k_ => (((((((some k_ ≠ (.slice Ao67 t538.length co67 : Value).ownBlock ∧ some k_ ≠ (.slice Ao68 t541.length co68 : Value).ownBlock) ∧ some k_ ≠ (.slice Ao77 x513000_35.length co77 : Value).ownBlock) ∧ some k_ ≠ (.slice Ao78 x513001_35.length co78 : Value).ownBlock) ∧ some k_ ≠ (.slice Ao79 x513002_35.length co79 : Value).ownBlock) ∧ some k_ ≠ (u527000 : Value).ownBlock) ∧ some k_ ≠ (u527001 : Value).ownBlock) ∧ some k_ ≠ (u527002 : Value).ownBlock)) (n := t535.length) (c := co62) ?_).2.2; exact (by exact (Kd.R_mono (Kd.R_far (p := ⟨gb546, 4, none⟩) (Kd.R_far (p := ⟨gb546, 3, none⟩) (Kd.R_far (p := ⟨gb546, 2, none⟩) (Kd.R_far (p := ⟨gb546, 1, none⟩) (Kd.R_far (p := ⟨gb546, 0, none⟩) (Kd.R_types HO537.out BK546.out (by decide)) (fun _ hk => hk.2) (.slice Ao62 t535.length co62)) (fun _ hk => hk.2) (.slice Ao67 t538.length co67)) (fun _ hk => hk.2) (.slice Ao68 t541.length co68)) (fun _ hk => hk.2) (.bool t544)) (fun _ hk => hk.2) (.bool t545)) (fun _ h_ => h_.1)))); (case side2 => exact (Kd.R_reads' HO537.out).2.1); (case side3 => refine (Kd.R_reads' (e := 22) (base := w.heap.size) (ok := fun k_ => (((((((some k_ ≠ (.slice Ao62 t535.length co62 : Value).ownBlock ∧ some k_ ≠ (.slice Ao68 t541.length co68 : Value).ownBlock) ∧ some k_ ≠ (.slice Ao77 x513000_35.length co77 : Value).ownBlock) ∧ some k_ ≠ (.slice Ao78 x513001_35.length co78 : Value).ownBlock) ∧ some k_ ≠ (.slice Ao79 x513002_35.length co79 : Value).ownBlock) ∧ some k_ ≠ (u527000 : Value).ownBlock) ∧ some k_ ≠ (u527001 : Value).ownBlock) ∧ some k_ ≠ (u527002 : Value).ownBlock)) (n := t538.length) (c := co67) ?_).2.2; exact (by exact (Kd.R_mono (Kd.R_far (p := ⟨gb546, 4, none⟩) (Kd.R_far (p := ⟨gb546, 3, none⟩) (Kd.R_far (p := ⟨gb546, 2, none⟩) (Kd.R_far (p := ⟨gb546, 1, none⟩) (Kd.R_far (p := ⟨gb546, 0, none⟩) (Kd.R_types HO540.out BK546.out (by decide)) (fun _ hk => hk.2) (.slice Ao62 t535.length co62)) (fun _ hk => hk.2) (.slice Ao67 t538.length co67)) (fun _ hk => hk.2) (.slice Ao68 t541.length co68)) (fun _ hk => hk.2) (.bool t544)) (fun _ hk => hk.2) (.bool t545)) (fun _ h_ => h_.1)))); (case side4 => exact (Kd.R_reads' HO540.out).2.1); (case side5 => refine (Kd.R_reads' (e := 22) (base := w.heap.size) (ok := fun k_ => (((((((some k_ ≠ (.slice Ao62 t535.length co62 : Value).ownBlock ∧ some k_ ≠ (.slice Ao67 t538.length co67 : Value).ownBlock) ∧ some k_ ≠ (.slice Ao77 x513000_35.length co77 : Value).ownBlock) ∧ some k_ ≠ (.slice Ao78 x513001_35.length co78 : Value).ownBlock) ∧ some k_ ≠ (.slice Ao79 x513002_35.length co79 : Value).ownBlock) ∧ some k_ ≠ (u527000 : Value).ownBlock) ∧ some k_ ≠ (u527001 : Value).ownBlock) ∧ some k_ ≠ (u527002 : Value).ownBlock)) (n := t541.length) (c := co68) ?_).2.2; exact (by exact (Kd.R_mono (Kd.R_far (p := ⟨gb546, 4, none⟩) (Kd.R_far (p := ⟨gb546, 3, none⟩) (Kd.R_far (p := ⟨gb546, 2, none⟩) (Kd.R_far (p := ⟨gb546, 1, none⟩) (Kd.R_far (p := ⟨gb546, 0, none⟩) (Kd.R_types HO543.out BK546.out (by decide)) (fun _ hk => hk.2) (.slice Ao62 t535.length co62)) (fun _ hk => hk.2) (.slice Ao67 t538.length co67)) (fun _ hk => hk.2) (.slice Ao68 t541.length co68)) (fun _ hk => hk.2) (.bool t544)) (fun _ hk => hk.2) (.bool t545)) (fun _ h_ => h_.1)))); (case side6 => exact (Kd.R_reads' HO543.out).2.1); (case side7 => refine (Kd.R_reads' (e := 22) (base := w.heap.size) (ok := fun k_ => ((((some k_ ≠ (.slice Ao78 x513001_35.length co78 : Value).ownBlock ∧ (some k_ ≠ (.slice Ao79 x513002_35.length co79 : Value).ownBlock ∧ (some k_ ≠ (u527000 : Value).ownBlock ∧ (some k_ ≠ (u527001 : Value).ownBlock ∧ some k_ ≠ (u527002 : Value).ownBlock)))) ∧ some k_ ≠ (.slice Ao62 t535.length co62 : Value).ownBlock) ∧ some k_ ≠ (.slice Ao67 t538.length co67 : Value).ownBlock) ∧ some k_ ≠ (.slice Ao68 t541.length co68 : Value).ownBlock)) (n := x513000_35.length) (c := co77) ?_).2.2; exact (by exact (Kd.R_mono (Kd.R_far (p := ⟨gb546, 4, none⟩) (Kd.R_far (p := ⟨gb546, 3, none⟩) (Kd.R_far (p := ⟨gb546, 2, none⟩) (Kd.R_far (p := ⟨gb546, 1, none⟩) (Kd.R_far (p := ⟨gb546, 0, none⟩) (Kd.R_types HO_513000.out BK546.out (by decide)) (fun _ hk => hk.2) (.slice Ao62 t535.length co62)) (fun _ hk => hk.2) (.slice Ao67 t538.length co67)) (fun _ hk => hk.2) (.slice Ao68 t541.length co68)) (fun _ hk => hk.2) (.bool t544)) (fun _ hk => hk.2) (.bool t545)) (fun _ h_ => h_.1)))); (case side8 => exact (Kd.R_reads' HO_513000.out).2.1); (case side9 => refine (Kd.R_reads' (e := 22) (base := w.heap.size) (ok := fun k_ => ((((some k_ ≠ (.slice Ao77 x513000_35.length co77 : Value).ownBlock ∧ (some k_ ≠ (.slice Ao79 x513002_35.length co79 : Value).ownBlock ∧ (some k_ ≠ (u527000 : Value).ownBlock ∧ (some k_ ≠ (u527001 : Value).ownBlock ∧ some k_ ≠ (u527002 : Value).ownBlock)))) ∧ some k_ ≠ (.slice Ao62 t535.length co62 : Value).ownBlock) ∧ some k_ ≠ (.slice Ao67 t538.length co67 : Value).ownBlock) ∧ some k_ ≠ (.slice Ao68 t541.length co68 : Value).ownBlock)) (n := x513001_35.length) (c := co78) ?_).2.2; exact (by exact (Kd.R_mono (Kd.R_far (p := ⟨gb546, 4, none⟩) (Kd.R_far (p := ⟨gb546, 3, none⟩) (Kd.R_far (p := ⟨gb546, 2, none⟩) (Kd.R_far (p := ⟨gb546, 1, none⟩) (Kd.R_far (p := ⟨gb546, 0, none⟩) (Kd.R_types HO_513001.out BK546.out (by decide)) (fun _ hk => hk.2) (.slice Ao62 t535.length co62)) (fun _ hk => hk.2) (.slice Ao67 t538.length co67)) (fun _ hk => hk.2) (.slice Ao68 t541.length co68)) (fun _ hk => hk.2) (.bool t544)) (fun _ hk => hk.2) (.bool t545)) (fun _ h_ => h_.1)))); (case side10 => exact (Kd.R_reads' HO_513001.out).2.1); (case side11 => refine (Kd.R_reads' (e := 22) (base := w.heap.size) (ok := fun k_ => ((((some k_ ≠ (.slice Ao77 x513000_35.length co77 : Value).ownBlock ∧ (some k_ ≠ (.slice Ao78 x513001_35.length co78 : Value).ownBlock ∧ (some k_ ≠ (u527000 : Value).ownBlock ∧ (some k_ ≠ (u527001 : Value).ownBlock ∧ some k_ ≠ (u527002 : Value).ownBlock)))) ∧ some k_ ≠ (.slice Ao62 t535.length co62 : Value).ownBlock) ∧ some k_ ≠ (.slice Ao67 t538.length co67 : Value).ownBlock) ∧ some k_ ≠ (.slice Ao68 t541.length co68 : Value).ownBlock)) (n := x513002_35.length) (c := co79) ?_).2.2; exact (by exact (Kd.R_mono (Kd.R_far (p := ⟨gb546, 4, none⟩) (Kd.R_far (p := ⟨gb546, 3, none⟩) (Kd.R_far (p := ⟨gb546, 2, none⟩) (Kd.R_far (p := ⟨gb546, 1, none⟩) (Kd.R_far (p := ⟨gb546, 0, none⟩) (Kd.R_types HO_513002.out BK546.out (by decide)) (fun _ hk => hk.2) (.slice Ao62 t535.length co62)) (fun _ hk => hk.2) (.slice Ao67 t538.length co67)) (fun _ hk => hk.2) (.slice Ao68 t541.length co68)) (fun _ hk => hk.2) (.bool t544)) (fun _ hk => hk.2) (.bool t545)) (fun _ h_ => h_.1)))); (case side12 => exact (Kd.R_reads' HO_513002.out).2.1); rintro e w80 ⟨rfl, hb⟩; refine ⟨_, rfl, ?_⟩; have n0_ := zM (Kd.R_below (by exact (Kd.R_mono (Kd.R_far (p := ⟨gb546, 4, none⟩) (Kd.R_far (p := ⟨gb546, 3, none⟩) (Kd.R_far (p := ⟨gb546, 2, none⟩) (Kd.R_far (p := ⟨gb546, 1, none⟩) (Kd.R_far (p := ⟨gb546, 0, none⟩) (Kd.R_types HO_513000.out BK546.out (by decide)) (fun _ hk => hk.2) (.slice Ao62 t535.length co62)) (fun _ hk => hk.2) (.slice Ao67 t538.length co67)) (fun _ hk => hk.2) (.slice Ao68 t541.length co68)) (fun _ hk => hk.2) (.bool t544)) (fun _ hk => hk.2) (.bool t545)) (fun _ h_ => h_.1))) hb); have n1_ := zM (Kd.R_below (by exact (Kd.R_mono (Kd.R_far (p := ⟨gb546, 4, none⟩) (Kd.R_far (p := ⟨gb546, 3, none⟩) (Kd.R_far (p := ⟨gb546, 2, none⟩) (Kd.R_far (p := ⟨gb546, 1, none⟩) (Kd.R_far (p := ⟨gb546, 0, none⟩) (Kd.R_types HO_513001.out BK546.out (by decide)) (fun _ hk => hk.2) (.slice Ao62 t535.length co62)) (fun _ hk => hk.2) (.slice Ao67 t538.length co67)) (fun _ hk => hk.2) (.slice Ao68 t541.length co68)) (fun _ hk => hk.2) (.bool t544)) (fun _ hk => hk.2) (.bool t545)) (fun _ h_ => h_.1))) hb); have n2_ := zM (Kd.R_below (by exact (Kd.R_mono (Kd.R_far (p := ⟨gb546, 4, none⟩) (Kd.R_far (p := ⟨gb546, 3, none⟩) (Kd.R_far (p := ⟨gb546, 2, none⟩) (Kd.R_far (p := ⟨gb546, 1, none⟩) (Kd.R_far (p := ⟨gb546, 0, none⟩) (Kd.R_types HO_513002.out BK546.out (by decide)) (fun _ hk => hk.2) (.slice Ao62 t535.length co62)) (fun _ hk => hk.2) (.slice Ao67 t538.length co67)) (fun _ hk => hk.2) (.slice Ao68 t541.length co68)) (fun _ hk => hk.2) (.bool t544)) (fun _ hk => hk.2) (.bool t545)) (fun _ h_ => h_.1))) hb); have n3_ := zM (Kd.R_below (by exact (Kd.R_mono (Kd.R_far (p := ⟨gb546, 4, none⟩) (Kd.R_far (p := ⟨gb546, 3, none⟩) (Kd.R_far (p := ⟨gb546, 2, none⟩) (Kd.R_far (p := ⟨gb546, 1, none⟩) (Kd.R_far (p := ⟨gb546, 0, none⟩) (Kd.R_types HO_527000.out BK546.out (by decide)) (fun _ hk => hk.2) (.slice Ao62 t535.length co62)) (fun _ hk => hk.2) (.slice Ao67 t538.length co67)) (fun _ hk => hk.2) (.slice Ao68 t541.length co68)) (fun _ hk => hk.2) (.bool t544)) (fun _ hk => hk.2) (.bool t545)) (fun _ h_ => h_.1))) hb); have n4_ := zM (Kd.R_below (by exact (Kd.R_mono (Kd.R_far (p := ⟨gb546, 4, none⟩) (Kd.R_far (p := ⟨gb546, 3, none⟩) (Kd.R_far (p := ⟨gb546, 2, none⟩) (Kd.R_far (p := ⟨gb546, 1, none⟩) (Kd.R_far (p := ⟨gb546, 0, none⟩) (Kd.R_types HO_527001.out BK546.out (by decide)) (fun _ hk => hk.2) (.slice Ao62 t535.length co62)) (fun _ hk => hk.2) (.slice Ao67 t538.length co67)) (fun _ hk => hk.2) (.slice Ao68 t541.length co68)) (fun _ hk => hk.2) (.bool t544)) (fun _ hk => hk.2) (.bool t545)) (fun _ h_ => h_.1))) hb); have n5_ := zM (Kd.R_below (by exact (Kd.R_mono (Kd.R_far (p := ⟨gb546, 4, none⟩) (Kd.R_far (p := ⟨gb546, 3, none⟩) (Kd.R_far (p := ⟨gb546, 2, none⟩) (Kd.R_far (p := ⟨gb546, 1, none⟩) (Kd.R_far (p := ⟨gb546, 0, none⟩) (Kd.R_types HO_527002.out BK546.out (by decide)) (fun _ hk => hk.2) (.slice Ao62 t535.length co62)) (fun _ hk => hk.2) (.slice Ao67 t538.length co67)) (fun _ hk => hk.2) (.slice Ao68 t541.length co68)) (fun _ hk => hk.2) (.bool t544)) (fun _ hk => hk.2) (.bool t545)) (fun _ h_ => h_.1))) hb); have n6_ := zM (Kd.R_below (by exact (Kd.R_mono (Kd.R_far (p := ⟨gb546, 4, none⟩) (Kd.R_far (p := ⟨gb546, 3, none⟩) (Kd.R_far (p := ⟨gb546, 2, none⟩) (Kd.R_far (p := ⟨gb546, 1, none⟩) (Kd.R_far (p := ⟨gb546, 0, none⟩) (Kd.R_types HO537.out BK546.out (by decide)) (fun _ hk => hk.2) (.slice Ao62 t535.length co62)) (fun _ hk => hk.2) (.slice Ao67 t538.length co67)) (fun _ hk => hk.2) (.slice Ao68 t541.length co68)) (fun _ hk => hk.2) (.bool t544)) (fun _ hk => hk.2) (.bool t545)) (fun _ h_ => h_.1))) hb); have n7_ := zM (Kd.R_below (by exact (Kd.R_mono (Kd.R_far (p := ⟨gb546, 4, none⟩) (Kd.R_far (p := ⟨gb546, 3, none⟩) (Kd.R_far (p := ⟨gb546, 2, none⟩) (Kd.R_far (p := ⟨gb546, 1, none⟩) (Kd.R_far (p := ⟨gb546, 0, none⟩) (Kd.R_types HO540.out BK546.out (by decide)) (fun _ hk => hk.2) (.slice Ao62 t535.length co62)) (fun _ hk => hk.2) (.slice Ao67 t538.length co67)) (fun _ hk => hk.2) (.slice Ao68 t541.length co68)) (fun _ hk => hk.2) (.bool t544)) (fun _ hk => hk.2) (.bool t545)) (fun _ h_ => h_.1))) hb); have n8_ := zM (Kd.R_below (by exact (Kd.R_mono (Kd.R_far (p := ⟨gb546, 4, none⟩) (Kd.R_far (p := ⟨gb546, 3, none⟩) (Kd.R_far (p := ⟨gb546, 2, none⟩) (Kd.R_far (p := ⟨gb546, 1, none⟩) (Kd.R_far (p := ⟨gb546, 0, none⟩) (Kd.R_types HO543.out BK546.out (by decide)) (fun _ hk => hk.2) (.slice Ao62 t535.length co62)) (fun _ hk => hk.2) (.slice Ao67 t538.length co67)) (fun _ hk => hk.2) (.slice Ao68 t541.length co68)) (fun _ hk => hk.2) (.bool t544)) (fun _ hk => hk.2) (.bool t545)) (fun _ h_ => h_.1))) hb); have n9_ := zM (blk_below (g := gb498) (o := .cells #[.int .u64 a1_0, .int .u64 a1_1] 24 (0, 0)) (by refine blk_far ?_ NB498_546.out _; refine blk_far ?_ NB498_546.out _; refine blk_far ?_ NB498_546.out _; refine blk_far ?_ NB498_546.out _; refine blk_far ?_ NB498_546.out _; exact BK498.out) hb); have n10_ := zM (blk_below (g := gb512) (o := .cells #[.slice Ao77 x513000_35.length co77, .slice Ao78 x513001_35.length co78, .slice Ao79 x513002_35.length co79, .bool t510, .bool t511] 43 (0, 0)) (by refine blk_far ?_ NB512_546.out _; refine blk_far ?_ NB512_546.out _; refine blk_far ?_ NB512_546.out _; refine blk_far ?_ NB512_546.out _; refine blk_far ?_ NB512_546.out _; exact BK512.out) hb); have n11_ := zM (blk_below (g := gb526) (o := .cells #[u527000, u527001, u527002, .bool t524, .bool t525] 43 (0, 0)) (by refine blk_far ?_ NB526_546.out _; refine blk_far ?_ NB526_546.out _; refine blk_far ?_ NB526_546.out _; refine blk_far ?_ NB526_546.out _; refine blk_far ?_ NB526_546.out _; exact BK526.out) hb); have n12_ := zM (blk_below (g := gb546) (o := .cells #[.slice Ao62 t535.length co62, .slice Ao67 t538.length co67, .slice Ao68 t541.length co68, .bool t544, .bool t545] 43 (0, 0)) (by refine blk_put (cs := #[.slice Ao62 t535.length co62, .slice Ao67 t538.length co67, .slice Ao68 t541.length co68, .bool t544, .bool false]) ?_ 4 _ rfl; refine blk_put (cs := #[.slice Ao62 t535.length co62, .slice Ao67 t538.length co67, .slice Ao68 t541.length co68, .bool false, .bool false]) ?_ 3 _ rfl; refine blk_put (cs := #[.slice Ao62 t535.length co62, .slice Ao67 t538.length co67, .slice none 0 0, .bool false, .bool false]) ?_ 2 _ rfl; refine blk_put (cs := #[.slice Ao62 t535.length co62, .slice none 0 0, .slice none 0 0, .bool false, .bool false]) ?_ 1 _ rfl; refine blk_put (cs := #[.slice none 0 0, .slice none 0 0, .slice none 0 0, .bool false, .bool false]) ?_ 0 _ rfl; exact BK546.out) hb); have n13_ := zM (below_step (by repeat (first | (with_reducible first | exact HB.out | apply yA | apply yN | apply yD | refine below_set ?_ GE498.out | refine below_set ?_ GE512.out | refine below_set ?_ GE526.out | refine below_set ?_ GE546.out) | exact HB.out)) hb); clear HO_513000; clear HO_513001; clear HO_513002; clear HO_527000; clear HO_527001; clear HO_527002; clear HO537; clear HO540; clear HO543; clear BK498; clear BK512; clear BK526; clear BK546; clear HB; have HO_513000 := n0_; have HO_513001 := n1_; have HO_513002 := n2_; have HO_527000 := n3_; have HO_527001 := n4_; have HO_527002 := n5_; have HO537 := n6_; have HO540 := n7_; have HO543 := n8_; have BK498 := n9_; have BK512 := n10_; have BK526 := n11_; have BK546 := n12_; have HB := n13_; clear n0_ n1_ n2_ n3_ n4_ n5_ n6_ n7_ n8_ n9_ n10_ n11_ n12_ n13_; (try clear hb); (try clear hb2); (try clear hk); (try clear hi)))
           go_meet
           case rel => exact ⟨_, (!t547), (by first | rfl | (simp; done) | (simp [*]; done)), H', ⟨by have := HJ6.out; have := HJ35.out; have := HJ41.out; first | omega | exact Nat.le_refl _⟩, ⟨by exact Kd.R_mono HO_513000.out (fun _ hk => ⟨hk.1.1.1.1, ⟨hk.1.1.1.2.1, ⟨hk.1.1.1.2.2.1, ⟨hk.1.1.1.2.2.2.1, ⟨hk.1.1.1.2.2.2.2, ⟨hk.1.1.2, ⟨hk.1.2, hk.2⟩⟩⟩⟩⟩⟩⟩)⟩, ⟨by exact Kd.R_mono HO_513001.out (fun _ hk => ⟨hk.1.1.1.1, ⟨hk.1.1.1.2.1, ⟨hk.1.1.1.2.2.1, ⟨hk.1.1.1.2.2.2.1, ⟨hk.1.1.1.2.2.2.2, ⟨hk.1.1.2, ⟨hk.1.2, hk.2⟩⟩⟩⟩⟩⟩⟩)⟩, ⟨by exact Kd.R_mono HO_513002.out (fun _ hk => ⟨hk.1.1.1.1, ⟨hk.1.1.1.2.1, ⟨hk.1.1.1.2.2.1, ⟨hk.1.1.1.2.2.2.1, ⟨hk.1.1.1.2.2.2.2, ⟨hk.1.1.2, ⟨hk.1.2, hk.2⟩⟩⟩⟩⟩⟩⟩)⟩, ⟨by exact Kd.R_mono HO_527000.out (fun _ hk => ⟨hk.1.1.1.1, ⟨hk.1.1.1.2.1, ⟨hk.1.1.1.2.2.1, ⟨hk.1.1.1.2.2.2.1, ⟨hk.1.1.1.2.2.2.2, ⟨hk.1.1.2, ⟨hk.1.2, hk.2⟩⟩⟩⟩⟩⟩⟩)⟩, ⟨by exact Kd.R_mono HO_527001.out (fun _ hk => ⟨hk.1.1.1.1, ⟨hk.1.1.1.2.1, ⟨hk.1.1.1.2.2.1, ⟨hk.1.1.1.2.2.2.1, ⟨hk.1.1.1.2.2.2.2, ⟨hk.1.1.2, ⟨hk.1.2, hk.2⟩⟩⟩⟩⟩⟩⟩)⟩, ⟨by exact Kd.R_mono HO_527002.out (fun _ hk => ⟨hk.1.1.1.1, ⟨hk.1.1.1.2.1, ⟨hk.1.1.1.2.2.1, ⟨hk.1.1.1.2.2.2.1, ⟨hk.1.1.1.2.2.2.2, ⟨hk.1.1.2, ⟨hk.1.2, hk.2⟩⟩⟩⟩⟩⟩⟩)⟩, ⟨by exact Kd.R_mono HO537.out (fun _ hk => ⟨hk.1.1.1.1.1.2, ⟨hk.1.1.1.1.2, ⟨hk.1.1.1.2, ⟨hk.1.1.2, ⟨hk.1.2, ⟨hk.2, ⟨hk.1.1.1.1.1.1.1, hk.1.1.1.1.1.1.2⟩⟩⟩⟩⟩⟩⟩)⟩, ⟨by exact Kd.R_mono HO540.out (fun _ hk => ⟨hk.1.1.1.1.1.2, ⟨hk.1.1.1.1.2, ⟨hk.1.1.1.2, ⟨hk.1.1.2, ⟨hk.1.2, ⟨hk.2, ⟨hk.1.1.1.1.1.1.1, hk.1.1.1.1.1.1.2⟩⟩⟩⟩⟩⟩⟩)⟩, ⟨by exact Kd.R_mono HO543.out (fun _ hk => ⟨hk.1.1.1.1.1.2, ⟨hk.1.1.1.1.2, ⟨hk.1.1.1.2, ⟨hk.1.1.2, ⟨hk.1.2, ⟨hk.2, ⟨hk.1.1.1.1.1.1.1, hk.1.1.1.1.1.1.2⟩⟩⟩⟩⟩⟩⟩)⟩, ⟨by exact BK498.out⟩, ⟨by exact BK512.out⟩, ⟨by exact BK526.out⟩, ⟨by exact BK546.out⟩, ⟨by repeat (first | (with_reducible first | exact HB.out | apply yA | apply yN | apply yD | refine below_set ?_ GE498.out | refine below_set ?_ GE512.out | refine below_set ?_ GE526.out | refine below_set ?_ GE546.out) | exact HB.out)⟩⟩
          case rest =>
           clear HC55
           obtain ⟨kq, x40_54, rfl, HA, HJ54, HO_513000, HO_513001, HO_513002, HO_527000, HO_527001, HO_527002, HO_547000, HO_547001, HO_547002, BK498, BK512, BK526, BK546, HB⟩ := hcut
           cases kq with
           | zero => exact absurd HA.out (by simp [laws_FnExactBounds.j3])
           | succ kj54 =>
            have H := HA.out
            clear HA
            simp only [laws_FnExactBounds.j3] at H
            by_cases c81 : x40_54 = true
            ·subst c81
             have H1 : (some false) = some r := by rw [if_pos rfl] at H; exact H
             clear H
             have H := H1
             clear H1
             obtain rfl := Option.some.inj H
             go_wp2
             go_ret
             exact ⟨by first | rfl | (simp [errW_none, errW_some] <;> rfl) | (simp [*, errW_none, errW_some] <;> rfl), by repeat (first | (with_reducible first | exact HB.out | apply yA | apply yN | apply yD | refine below_set ?_ GE498.out | refine below_set ?_ GE512.out | refine below_set ?_ GE526.out | refine below_set ?_ GE546.out) | exact HB.out)⟩
            ·replace c81 := Bool.eq_false_iff.mpr c81
             subst c81
             have H1 : ((laws_heldInterval.f kj54 x527000_35 x527001_35 x527002_35 t524 t525 1).bind fun t548 => (if t548 < 0 then (some false) else (if t548 = x7_35 then (some true) else (some false)))) = some r := by rw [if_neg (show ¬ (false = true) by decide)] at H; exact H
             clear H
             have H := H1
             clear H1
             replace H := Option.bind_eq_some_iff.mp H
             obtain ⟨t548, A820, H⟩ := H
             replace H : (if t548 < 0 then (some false) else (if t548 = x7_35 then (some true) else (some false))) = some r := H
             have A82 := zM A820
             clear A820
             by_cases c83 : t548 < 0
             ·rw [if_pos c83] at H
              have c83b0 : decide (t548 < 0) = true := decide_eq_true c83
              clear c83
              obtain rfl := Option.some.inj H
              have hnb84 := NB526_498.out
              have hnc84 := NB498_526.out
              have hnb85 := NB526_512.out
              have hnc85 := NB512_526.out
              have hnb86 := NB526_546.out
              have hnc86 := NB546_526.out
              have hcz87_0 : wc.cell? ⟨gb526, 0, none⟩ = some (u527000) := (blk_cell BK526.out 0).trans rfl
              have hcz87_1 : wc.cell? ⟨gb526, 1, none⟩ = some (u527001) := (blk_cell BK526.out 1).trans rfl
              have hcz87_2 : wc.cell? ⟨gb526, 2, none⟩ = some (u527002) := (blk_cell BK526.out 2).trans rfl
              have hcz87_3 : wc.cell? ⟨gb526, 3, none⟩ = some (.bool t524) := (blk_cell BK526.out 3).trans rfl
              have hcz87_4 : wc.cell? ⟨gb526, 4, none⟩ = some (.bool t525) := (blk_cell BK526.out 4).trans rfl
              have hfz87_0 := blk_frozen BK526.out 0
              have hfz87_1 := blk_frozen BK526.out 1
              have hfz87_2 := blk_frozen BK526.out 2
              have hfz87_3 := blk_frozen BK526.out 3
              have hfz87_4 := blk_frozen BK526.out 4
              obtain ⟨Ao88, co88, eo88⟩ := Kd.R_slice HO_527000.out
              subst eo88
              obtain ⟨Ao89, co89, eo89⟩ := Kd.R_slice HO_527001.out
              subst eo89
              obtain ⟨Ao90, co90, eo90⟩ := Kd.R_slice HO_527002.out
              subst eo90
              go_wp2_with (first | ((with_reducible refine gate_callee (f := 29) rfl ?_); refine goesL_ (some 43) rfl rfl Tryd.func29 (by kernel_rfl) rfl #[.agg #[.slice Ao88 x527000_35.length co88, .slice Ao89 x527001_35.length co89, .slice Ao90 x527002_35.length co90, .bool t524, .bool t525], .int .i64 1] rfl (by first | rfl | (simp only [List.map_toArray, List.map_cons, List.map_nil, List.length_drop, List.length_take]; rfl)) ?_; (with_reducible refine (laws_heldInterval.calls kj54 _ _ x527000_35 _ _ x527001_35 _ _ x527002_35 t524 t525 1 t548 _ ?side1 ?side2 ?side3 ?side4 ?side5 ?side6 A82.out).mono ?_); (case side1 => repeat (first | exact (Kd.R_reads' HO_527000.out).2.2 | (with_reducible refine Kd.C_alloc ?_ _) | (with_reducible refine Kd.C_drewN ?_ _) | (with_reducible refine Kd.C_drew ?_))); (case side2 => exact (Kd.R_reads' HO_527000.out).2.1); (case side3 => repeat (first | exact (Kd.R_reads' HO_527001.out).2.2 | (with_reducible refine Kd.C_alloc ?_ _) | (with_reducible refine Kd.C_drewN ?_ _) | (with_reducible refine Kd.C_drew ?_))); (case side4 => exact (Kd.R_reads' HO_527001.out).2.1); (case side5 => repeat (first | exact (Kd.R_reads' HO_527002.out).2.2 | (with_reducible refine Kd.C_alloc ?_ _) | (with_reducible refine Kd.C_drewN ?_ _) | (with_reducible refine Kd.C_drew ?_))); (case side6 => exact (Kd.R_reads' HO_527002.out).2.1); rintro e w91 ⟨rfl, hb⟩; refine ⟨_, rfl, ?_⟩; have n0_ := zM (Kd.R_below (by exact HO_513000.out) hb); have n1_ := zM (Kd.R_below (by exact HO_513001.out) hb); have n2_ := zM (Kd.R_below (by exact HO_513002.out) hb); have n3_ := zM (Kd.R_below (by exact HO_527000.out) hb); have n4_ := zM (Kd.R_below (by exact HO_527001.out) hb); have n5_ := zM (Kd.R_below (by exact HO_527002.out) hb); have n6_ := zM (Kd.R_below (by exact HO_547000.out) hb); have n7_ := zM (Kd.R_below (by exact HO_547001.out) hb); have n8_ := zM (Kd.R_below (by exact HO_547002.out) hb); have n9_ := zM (blk_below BK498.out hb); have n10_ := zM (blk_below BK512.out hb); have n11_ := zM (blk_below BK526.out hb); have n12_ := zM (blk_below BK546.out hb); have n13_ := zM (below_step HB.out hb); clear HO_513000; clear HO_513001; clear HO_513002; clear HO_527000; clear HO_527001; clear HO_527002; clear HO_547000; clear HO_547001; clear HO_547002; clear BK498; clear BK512; clear BK526; clear BK546; clear HB; have HO_513000 := n0_; have HO_513001 := n1_; have HO_513002 := n2_; have HO_527000 := n3_; have HO_527001 := n4_; have HO_527002 := n5_; have HO_547000 := n6_; have HO_547001 := n7_; have HO_547002 := n8_; have BK498 := n9_; have BK512 := n10_; have BK526 := n11_; have BK546 := n12_; have HB := n13_; clear n0_ n1_ n2_ n3_ n4_ n5_ n6_ n7_ n8_ n9_ n10_ n11_ n12_ n13_; (try clear hb); (try clear hb2); (try clear hk); (try clear hi)))
              go_ret
              exact ⟨by first | rfl | (simp [errW_none, errW_some] <;> rfl) | (simp [*, errW_none, errW_some] <;> rfl), by repeat (first | (with_reducible first | exact HB.out | apply yA | apply yN | apply yD | refine below_set ?_ GE498.out | refine below_set ?_ GE512.out | refine below_set ?_ GE526.out | refine below_set ?_ GE546.out) | exact HB.out)⟩
             ·rw [if_neg c83] at H
              have c83b0 : decide (t548 < 0) = false := decide_eq_false c83
              clear c83
              by_cases c92 : t548 = x7_35
              ·rw [if_pos c92] at H
               have c92b0 : (t548 == x7_35) = true := beq_iff_eq.mpr c92
               have c92b1 : (t548 != x7_35) = false := bne_eq_false_iff_eq.mpr c92
               clear c92
               obtain rfl := Option.some.inj H
               have hnb93 := NB526_498.out
               have hnc93 := NB498_526.out
               have hnb94 := NB526_512.out
               have hnc94 := NB512_526.out
               have hnb95 := NB526_546.out
               have hnc95 := NB546_526.out
               have hcz96_0 : wc.cell? ⟨gb526, 0, none⟩ = some (u527000) := (blk_cell BK526.out 0).trans rfl
               have hcz96_1 : wc.cell? ⟨gb526, 1, none⟩ = some (u527001) := (blk_cell BK526.out 1).trans rfl
               have hcz96_2 : wc.cell? ⟨gb526, 2, none⟩ = some (u527002) := (blk_cell BK526.out 2).trans rfl
               have hcz96_3 : wc.cell? ⟨gb526, 3, none⟩ = some (.bool t524) := (blk_cell BK526.out 3).trans rfl
               have hcz96_4 : wc.cell? ⟨gb526, 4, none⟩ = some (.bool t525) := (blk_cell BK526.out 4).trans rfl
               have hfz96_0 := blk_frozen BK526.out 0
               have hfz96_1 := blk_frozen BK526.out 1
               have hfz96_2 := blk_frozen BK526.out 2
               have hfz96_3 := blk_frozen BK526.out 3
               have hfz96_4 := blk_frozen BK526.out 4
               obtain ⟨Ao97, co97, eo97⟩ := Kd.R_slice HO_527000.out
               subst eo97
               obtain ⟨Ao98, co98, eo98⟩ := Kd.R_slice HO_527001.out
               subst eo98
               obtain ⟨Ao99, co99, eo99⟩ := Kd.R_slice HO_527002.out
               subst eo99
               go_wp2_with (first | ((with_reducible refine gate_callee (f := 29) rfl ?_); refine goesL_ (some 43) rfl rfl Tryd.func29 (by kernel_rfl) rfl #[.agg #[.slice Ao97 x527000_35.length co97, .slice Ao98 x527001_35.length co98, .slice Ao99 x527002_35.length co99, .bool t524, .bool t525], .int .i64 1] rfl (by first | rfl | (simp only [List.map_toArray, List.map_cons, List.map_nil, List.length_drop, List.length_take]; rfl)) ?_; (with_reducible refine (laws_heldInterval.calls kj54 _ _ x527000_35 _ _ x527001_35 _ _ x527002_35 t524 t525 1 t548 _ ?side1 ?side2 ?side3 ?side4 ?side5 ?side6 A82.out).mono ?_); (case side1 => repeat (first | exact (Kd.R_reads' HO_527000.out).2.2 | (with_reducible refine Kd.C_alloc ?_ _) | (with_reducible refine Kd.C_drewN ?_ _) | (with_reducible refine Kd.C_drew ?_))); (case side2 => exact (Kd.R_reads' HO_527000.out).2.1); (case side3 => repeat (first | exact (Kd.R_reads' HO_527001.out).2.2 | (with_reducible refine Kd.C_alloc ?_ _) | (with_reducible refine Kd.C_drewN ?_ _) | (with_reducible refine Kd.C_drew ?_))); (case side4 => exact (Kd.R_reads' HO_527001.out).2.1); (case side5 => repeat (first | exact (Kd.R_reads' HO_527002.out).2.2 | (with_reducible refine Kd.C_alloc ?_ _) | (with_reducible refine Kd.C_drewN ?_ _) | (with_reducible refine Kd.C_drew ?_))); (case side6 => exact (Kd.R_reads' HO_527002.out).2.1); rintro e w100 ⟨rfl, hb⟩; refine ⟨_, rfl, ?_⟩; have n0_ := zM (Kd.R_below (by exact HO_513000.out) hb); have n1_ := zM (Kd.R_below (by exact HO_513001.out) hb); have n2_ := zM (Kd.R_below (by exact HO_513002.out) hb); have n3_ := zM (Kd.R_below (by exact HO_527000.out) hb); have n4_ := zM (Kd.R_below (by exact HO_527001.out) hb); have n5_ := zM (Kd.R_below (by exact HO_527002.out) hb); have n6_ := zM (Kd.R_below (by exact HO_547000.out) hb); have n7_ := zM (Kd.R_below (by exact HO_547001.out) hb); have n8_ := zM (Kd.R_below (by exact HO_547002.out) hb); have n9_ := zM (blk_below BK498.out hb); have n10_ := zM (blk_below BK512.out hb); have n11_ := zM (blk_below BK526.out hb); have n12_ := zM (blk_below BK546.out hb); have n13_ := zM (below_step HB.out hb); clear HO_513000; clear HO_513001; clear HO_513002; clear HO_527000; clear HO_527001; clear HO_527002; clear HO_547000; clear HO_547001; clear HO_547002; clear BK498; clear BK512; clear BK526; clear BK546; clear HB; have HO_513000 := n0_; have HO_513001 := n1_; have HO_513002 := n2_; have HO_527000 := n3_; have HO_527001 := n4_; have HO_527002 := n5_; have HO_547000 := n6_; have HO_547001 := n7_; have HO_547002 := n8_; have BK498 := n9_; have BK512 := n10_; have BK526 := n11_; have BK546 := n12_; have HB := n13_; clear n0_ n1_ n2_ n3_ n4_ n5_ n6_ n7_ n8_ n9_ n10_ n11_ n12_ n13_; (try clear hb); (try clear hb2); (try clear hk); (try clear hi)))
               go_ret
               exact ⟨by first | rfl | (simp [errW_none, errW_some] <;> rfl) | (simp [*, errW_none, errW_some] <;> rfl), by repeat (first | (with_reducible first | exact HB.out | apply yA | apply yN | apply yD | refine below_set ?_ GE498.out | refine below_set ?_ GE512.out | refine below_set ?_ GE526.out | refine below_set ?_ GE546.out) | exact HB.out)⟩
              ·rw [if_neg c92] at H
               have c92b0 : (t548 == x7_35) = false := beq_eq_false_iff_ne.mpr c92
               have c92b1 : (t548 != x7_35) = true := bne_iff_ne.mpr c92
               obtain rfl := Option.some.inj H
               have hnb101 := NB526_498.out
               have hnc101 := NB498_526.out
               have hnb102 := NB526_512.out
               have hnc102 := NB512_526.out
               have hnb103 := NB526_546.out
               have hnc103 := NB546_526.out
               have hcz104_0 : wc.cell? ⟨gb526, 0, none⟩ = some (u527000) := (blk_cell BK526.out 0).trans rfl
               have hcz104_1 : wc.cell? ⟨gb526, 1, none⟩ = some (u527001) := (blk_cell BK526.out 1).trans rfl
               have hcz104_2 : wc.cell? ⟨gb526, 2, none⟩ = some (u527002) := (blk_cell BK526.out 2).trans rfl
               have hcz104_3 : wc.cell? ⟨gb526, 3, none⟩ = some (.bool t524) := (blk_cell BK526.out 3).trans rfl
               have hcz104_4 : wc.cell? ⟨gb526, 4, none⟩ = some (.bool t525) := (blk_cell BK526.out 4).trans rfl
               have hfz104_0 := blk_frozen BK526.out 0
               have hfz104_1 := blk_frozen BK526.out 1
               have hfz104_2 := blk_frozen BK526.out 2
               have hfz104_3 := blk_frozen BK526.out 3
               have hfz104_4 := blk_frozen BK526.out 4
               obtain ⟨Ao105, co105, eo105⟩ := Kd.R_slice HO_527000.out
               subst eo105
               obtain ⟨Ao106, co106, eo106⟩ := Kd.R_slice HO_527001.out
               subst eo106
               obtain ⟨Ao107, co107, eo107⟩ := Kd.R_slice HO_527002.out
               subst eo107
               go_wp2_with (first | ((with_reducible refine gate_callee (f := 29) rfl ?_); refine goesL_ (some 43) rfl rfl Tryd.func29 (by kernel_rfl) rfl #[.agg #[.slice Ao105 x527000_35.length co105, .slice Ao106 x527001_35.length co106, .slice Ao107 x527002_35.length co107, .bool t524, .bool t525], .int .i64 1] rfl (by first | rfl | (simp only [List.map_toArray, List.map_cons, List.map_nil, List.length_drop, List.length_take]; rfl)) ?_; (with_reducible refine (laws_heldInterval.calls kj54 _ _ x527000_35 _ _ x527001_35 _ _ x527002_35 t524 t525 1 t548 _ ?side1 ?side2 ?side3 ?side4 ?side5 ?side6 A82.out).mono ?_); (case side1 => repeat (first | exact (Kd.R_reads' HO_527000.out).2.2 | (with_reducible refine Kd.C_alloc ?_ _) | (with_reducible refine Kd.C_drewN ?_ _) | (with_reducible refine Kd.C_drew ?_))); (case side2 => exact (Kd.R_reads' HO_527000.out).2.1); (case side3 => repeat (first | exact (Kd.R_reads' HO_527001.out).2.2 | (with_reducible refine Kd.C_alloc ?_ _) | (with_reducible refine Kd.C_drewN ?_ _) | (with_reducible refine Kd.C_drew ?_))); (case side4 => exact (Kd.R_reads' HO_527001.out).2.1); (case side5 => repeat (first | exact (Kd.R_reads' HO_527002.out).2.2 | (with_reducible refine Kd.C_alloc ?_ _) | (with_reducible refine Kd.C_drewN ?_ _) | (with_reducible refine Kd.C_drew ?_))); (case side6 => exact (Kd.R_reads' HO_527002.out).2.1); rintro e w108 ⟨rfl, hb⟩; refine ⟨_, rfl, ?_⟩; have n0_ := zM (Kd.R_below (by exact HO_513000.out) hb); have n1_ := zM (Kd.R_below (by exact HO_513001.out) hb); have n2_ := zM (Kd.R_below (by exact HO_513002.out) hb); have n3_ := zM (Kd.R_below (by exact HO_527000.out) hb); have n4_ := zM (Kd.R_below (by exact HO_527001.out) hb); have n5_ := zM (Kd.R_below (by exact HO_527002.out) hb); have n6_ := zM (Kd.R_below (by exact HO_547000.out) hb); have n7_ := zM (Kd.R_below (by exact HO_547001.out) hb); have n8_ := zM (Kd.R_below (by exact HO_547002.out) hb); have n9_ := zM (blk_below BK498.out hb); have n10_ := zM (blk_below BK512.out hb); have n11_ := zM (blk_below BK526.out hb); have n12_ := zM (blk_below BK546.out hb); have n13_ := zM (below_step HB.out hb); clear HO_513000; clear HO_513001; clear HO_513002; clear HO_527000; clear HO_527001; clear HO_527002; clear HO_547000; clear HO_547001; clear HO_547002; clear BK498; clear BK512; clear BK526; clear BK546; clear HB; have HO_513000 := n0_; have HO_513001 := n1_; have HO_513002 := n2_; have HO_527000 := n3_; have HO_527001 := n4_; have HO_527002 := n5_; have HO_547000 := n6_; have HO_547001 := n7_; have HO_547002 := n8_; have BK498 := n9_; have BK512 := n10_; have BK526 := n11_; have BK546 := n12_; have HB := n13_; clear n0_ n1_ n2_ n3_ n4_ n5_ n6_ n7_ n8_ n9_ n10_ n11_ n12_ n13_; (try clear hb); (try clear hb2); (try clear hk); (try clear hi)))
               go_ret
               exact ⟨by first | rfl | (simp [errW_none, errW_some] <;> rfl) | (simp [*, errW_none, errW_some] <;> rfl), by repeat (first | (with_reducible first | exact HB.out | apply yA | apply yN | apply yD | refine below_set ?_ GE498.out | refine below_set ?_ GE512.out | refine below_set ?_ GE526.out | refine below_set ?_ GE546.out) | exact HB.out)⟩
         ·rw [if_neg c52] at H
          have c52b0 : (x8_41 == x7_35) = false := beq_eq_false_iff_ne.mpr c52
          have c52b1 : (x8_41 != x7_35) = true := bne_iff_ne.mpr c52
          obtain rfl := Option.some.inj H
          go_wp2
          go_ret
          exact ⟨by first | rfl | (simp [errW_none, errW_some] <;> rfl) | (simp [*, errW_none, errW_some] <;> rfl), by repeat (first | (with_reducible first | exact HB.out | apply yA | apply yN | apply yD | refine below_set ?_ GE498.out | refine below_set ?_ GE512.out | refine below_set ?_ GE526.out) | exact HB.out)⟩
end Go.Proofs.YtdbnmdchecacdaaDoor.PB
end
