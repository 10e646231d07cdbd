import Derived.Test.YtdbnmdchecacdaaDoorQFnExactBoundsi
section
namespace Go.Proofs.YtdbnmdchecacdaaDoor.PB
open Go.RowKit Go.Proofs.YtdbnmdchecacdaaDoor.G Go.Proofs.YtdbnmdchecacdaaDoorV.PrintWords Go.Proofs.YtdbnmdchecacdaaDoorV.PrintLast Go.Proofs.YtdbnmdchecacdaaDoorV.PrintMore
attribute [local go_sem] max2_int min2_int max_two min_two max_three min_three max_four min_four run_Add64 run_Sub64 fld25_1
set_option linter.unusedVariables false
set_option linter.unusedSimpArgs false
mutual
def spec_l2Span.j0 : Nat → List Int → List Int → List Int → Bool → Int → Bool → Int → Int → Int → Option (List Int × List Int × List Int)
 | 0, _, _, _, _, _, _, _, _, _ => none
 | k + 1, x8, x9, x10, x48, x238000, x238001, x238002, x238003, x238004 => if x48 = true then ((spec_l1Of.f 1).bind fun t270 => ((spec_l1Sub.f k x8 t270).bind fun t273 => (spec_l2Span.j1 k x9 t273 x238000 x238001 x238002 x238003 x238004))) else (spec_l2Span.j1 k x9 x10 x238000 x238001 x238002 x238003 x238004)
def spec_l2Span.j1 : Nat → List Int → List Int → Int → Bool → Int → Int → Int → Option (List Int × List Int × List Int)
 | 0, _, _, _, _, _, _, _ => none
 | k + 1, x9, x10, x238000, x238001, x238002, x238003, x238004 => if (wrap64 (x238004 - 2)) ≥ 0 then ((spec_l1Left.f k x10 (wrap64 (x238004 - 2))).bind fun t276 => ((spec_l1Left.f k x9 (wrap64 (x238004 - 2))).bind fun t279 => ((spec_l1Of.f 1).bind fun t282 => (some (t276, t279, t282))))) else ((spec_l2Two.f k (wrap64 (-(wrap64 (x238004 - 2))))).bind fun t285 => (some (x10, x9, t285)))
end
def spec_l2Span.f (k : Nat) (a0 : Int) (a1_0 : Int) (a1_1 : Bool) (a1_2 : Int) (a1_3 : Int) (a1_4 : Int) : Option (List Int × List Int × List Int) := (spec_Describe.f a0).bind fun bt238 => ((spec_l2Of.f k a1_2 a1_3).bind fun t245 => ((spec_l1Left.f k t245 2).bind fun t248 => ((spec_l1Of.f 2).bind fun t251 => ((spec_l1Add.f k t248 t251).bind fun t254 => ((spec_l1Of.f 2).bind fun t257 => ((spec_l1Sub.f k t248 t257).bind fun t260 => (if a1_0 = 3 then ((spec_l2Of.f k a1_2 a1_3).bind fun t263 => ((spec_l2Two.f k (wrap64 (bt238.1 - 1))).bind fun t266 => ((spec_l1Cmp.f k t263 t266).bind fun t269 => (if t269 = 0 then (spec_l2Span.j0 k t248 t254 t260 (decide (a1_4 > (wrap64 ((wrap64 (bt238.2.1 - bt238.1)) + 1)))) a1_0 a1_1 a1_2 a1_3 a1_4) else (spec_l2Span.j0 k t248 t254 t260 false a1_0 a1_1 a1_2 a1_3 a1_4))))) else (spec_l2Span.j0 k t248 t254 t260 false a1_0 a1_1 a1_2 a1_3 a1_4))))))))
def spec_l2Span.T5 : Bool × List (List Nat × List Nat) := (true, [([], []), ([0], [0]), ([1], [1]), ([2], [2]), ([3], [3]), ([4, 3], [3, 4]), ([5, 3, 3], [3, 5]), ([3], [3]), ([7, 3], [3, 7]), ([8, 3], [3, 8]), ([9, 6, 3], [3, 9]), ([6, 10, 10, 3], [3, 6, 10]), ([11, 3], [3, 11]), ([3, 12], [3, 12]), ([13, 11], [13]), ([14], [14]), ([15, 14], [14, 15]), ([14], [14]), ([17, 14], [14, 17]), ([14], [14]), ([19, 14], [14, 19]), ([18, 20, 14], [14, 18, 20]), ([21, 14], [14, 21]), ([16, 22, 14], [14, 16, 22]), ([14, 23], [14, 23])])
def spec_l2Span.B5 : List Nat := [0, 1, 3, 7, 15, 31, 63, 15, 143, 399, 1023, 2047, 4095, 8191, 16383, 32767, 65535, 32767, 163839, 32767, 557055, 1998847, 4095999, 8388607, 16777215]
theorem spec_l2Span.tab5 : rtab .any (opsOf Tryd.f81 5) = spec_l2Span.T5 := by kernel_rfl
theorem spec_l2Span.bits5 : waitsOk spec_l2Span.T5.2 spec_l2Span.B5 = true := by kernel_rfl
set_option maxHeartbeats 8000000 in
set_option maxRecDepth 100000 in
theorem spec_l2Span.calls (k : Nat) (a0 : Int) (a1_0 : Int) (a1_1 : Bool) (a1_2 : Int) (a1_3 : Int) (a1_4 : Int) (r1 : List Int) (r2 : List Int) (r3 : List Int) (w : World) (h : spec_l2Span.f k a0 a1_0 a1_1 a1_2 a1_3 a1_4 = some (r1, r2, r3)) :
  Calls Tryd.prog 81 #[.int .i64 a0, .agg #[.int .i64 a1_0, .bool a1_1, .int .u64 a1_2, .int .u64 a1_3, .int .i64 a1_4]] w fun e w' => ∃ v0_ v1_ v2_ : Value, e = .returned (.tuple #[v0_, v1_, v2_]) ∧ Kd.R (Kd.int .u64) 22 w' w.heap.size (fun k_ => some k_ ≠ (v1_ : Value).ownBlock ∧ some k_ ≠ (v2_ : Value).ownBlock) v0_ r1 ∧ Kd.R (Kd.int .u64) 22 w' w.heap.size (fun k_ => some k_ ≠ (v0_ : Value).ownBlock ∧ some k_ ≠ (v2_ : Value).ownBlock) v1_ r2 ∧ Kd.R (Kd.int .u64) 22 w' w.heap.size (fun k_ => some k_ ≠ (v0_ : Value).ownBlock ∧ some k_ ≠ (v1_ : Value).ownBlock) v2_ r3 ∧ Below w.heap.size w w' := by
 have hu27 := Tryd.underlying27
 have hu83 := Tryd.underlying83
 have hu25 := Tryd.underlying25
 have HB := zM (Below.refl w.heap.size w)
 have H : ((spec_Describe.f a0).bind fun bt238 => ((spec_l2Of.f k a1_2 a1_3).bind fun t245 => ((spec_l1Left.f k t245 2).bind fun t248 => ((spec_l1Of.f 2).bind fun t251 => ((spec_l1Add.f k t248 t251).bind fun t254 => ((spec_l1Of.f 2).bind fun t257 => ((spec_l1Sub.f k t248 t257).bind fun t260 => (if a1_0 = 3 then ((spec_l2Of.f k a1_2 a1_3).bind fun t263 => ((spec_l2Two.f k (wrap64 (bt238.1 - 1))).bind fun t266 => ((spec_l1Cmp.f k t263 t266).bind fun t269 => (if t269 = 0 then (spec_l2Span.j0 k t248 t254 t260 (decide (a1_4 > (wrap64 ((wrap64 (bt238.2.1 - bt238.1)) + 1)))) a1_0 a1_1 a1_2 a1_3 a1_4) else (spec_l2Span.j0 k t248 t254 t260 false a1_0 a1_1 a1_2 a1_3 a1_4))))) else (spec_l2Span.j0 k t248 t254 t260 false a1_0 a1_1 a1_2 a1_3 a1_4))))))))) = some (r1, r2, r3) := h
 clear h
 replace H := Option.bind_eq_some_iff.mp H
 obtain ⟨⟨t238, t239, t240, t241, t242, t243⟩, A30, H⟩ := H
 replace H : ((spec_l2Of.f k a1_2 a1_3).bind fun t245 => ((spec_l1Left.f k t245 2).bind fun t248 => ((spec_l1Of.f 2).bind fun t251 => ((spec_l1Add.f k t248 t251).bind fun t254 => ((spec_l1Of.f 2).bind fun t257 => ((spec_l1Sub.f k t248 t257).bind fun t260 => (if a1_0 = 3 then ((spec_l2Of.f k a1_2 a1_3).bind fun t263 => ((spec_l2Two.f k (wrap64 (t238 - 1))).bind fun t266 => ((spec_l1Cmp.f k t263 t266).bind fun t269 => (if t269 = 0 then (spec_l2Span.j0 k t248 t254 t260 (decide (a1_4 > (wrap64 ((wrap64 (t239 - t238)) + 1)))) a1_0 a1_1 a1_2 a1_3 a1_4) else (spec_l2Span.j0 k t248 t254 t260 false a1_0 a1_1 a1_2 a1_3 a1_4))))) else (spec_l2Span.j0 k t248 t254 t260 false a1_0 a1_1 a1_2 a1_3 a1_4)))))))) = some (r1, r2, r3) := H
 have A3 := zM A30
 clear A30
 replace H := Option.bind_eq_some_iff.mp H
 obtain ⟨t245, A40, H⟩ := H
 replace H : ((spec_l1Left.f k t245 2).bind fun t248 => ((spec_l1Of.f 2).bind fun t251 => ((spec_l1Add.f k t248 t251).bind fun t254 => ((spec_l1Of.f 2).bind fun t257 => ((spec_l1Sub.f k t248 t257).bind fun t260 => (if a1_0 = 3 then ((spec_l2Of.f k a1_2 a1_3).bind fun t263 => ((spec_l2Two.f k (wrap64 (t238 - 1))).bind fun t266 => ((spec_l1Cmp.f k t263 t266).bind fun t269 => (if t269 = 0 then (spec_l2Span.j0 k t248 t254 t260 (decide (a1_4 > (wrap64 ((wrap64 (t239 - t238)) + 1)))) a1_0 a1_1 a1_2 a1_3 a1_4) else (spec_l2Span.j0 k t248 t254 t260 false a1_0 a1_1 a1_2 a1_3 a1_4))))) else (spec_l2Span.j0 k t248 t254 t260 false a1_0 a1_1 a1_2 a1_3 a1_4))))))) = some (r1, r2, r3) := H
 have A4 := zM A40
 clear A40
 replace H := Option.bind_eq_some_iff.mp H
 obtain ⟨t248, A50, H⟩ := H
 replace H : ((spec_l1Of.f 2).bind fun t251 => ((spec_l1Add.f k t248 t251).bind fun t254 => ((spec_l1Of.f 2).bind fun t257 => ((spec_l1Sub.f k t248 t257).bind fun t260 => (if a1_0 = 3 then ((spec_l2Of.f k a1_2 a1_3).bind fun t263 => ((spec_l2Two.f k (wrap64 (t238 - 1))).bind fun t266 => ((spec_l1Cmp.f k t263 t266).bind fun t269 => (if t269 = 0 then (spec_l2Span.j0 k t248 t254 t260 (decide (a1_4 > (wrap64 ((wrap64 (t239 - t238)) + 1)))) a1_0 a1_1 a1_2 a1_3 a1_4) else (spec_l2Span.j0 k t248 t254 t260 false a1_0 a1_1 a1_2 a1_3 a1_4))))) else (spec_l2Span.j0 k t248 t254 t260 false a1_0 a1_1 a1_2 a1_3 a1_4)))))) = some (r1, r2, r3) := H
 have A5 := zM A50
 clear A50
 replace H := Option.bind_eq_some_iff.mp H
 obtain ⟨t251, A60, H⟩ := H
 replace H : ((spec_l1Add.f k t248 t251).bind fun t254 => ((spec_l1Of.f 2).bind fun t257 => ((spec_l1Sub.f k t248 t257).bind fun t260 => (if a1_0 = 3 then ((spec_l2Of.f k a1_2 a1_3).bind fun t263 => ((spec_l2Two.f k (wrap64 (t238 - 1))).bind fun t266 => ((spec_l1Cmp.f k t263 t266).bind fun t269 => (if t269 = 0 then (spec_l2Span.j0 k t248 t254 t260 (decide (a1_4 > (wrap64 ((wrap64 (t239 - t238)) + 1)))) a1_0 a1_1 a1_2 a1_3 a1_4) else (spec_l2Span.j0 k t248 t254 t260 false a1_0 a1_1 a1_2 a1_3 a1_4))))) else (spec_l2Span.j0 k t248 t254 t260 false a1_0 a1_1 a1_2 a1_3 a1_4))))) = some (r1, r2, r3) := H
 have A6 := zM A60
 clear A60
 replace H := Option.bind_eq_some_iff.mp H
 obtain ⟨t254, A70, H⟩ := H
 replace H : ((spec_l1Of.f 2).bind fun t257 => ((spec_l1Sub.f k t248 t257).bind fun t260 => (if a1_0 = 3 then ((spec_l2Of.f k a1_2 a1_3).bind fun t263 => ((spec_l2Two.f k (wrap64 (t238 - 1))).bind fun t266 => ((spec_l1Cmp.f k t263 t266).bind fun t269 => (if t269 = 0 then (spec_l2Span.j0 k t248 t254 t260 (decide (a1_4 > (wrap64 ((wrap64 (t239 - t238)) + 1)))) a1_0 a1_1 a1_2 a1_3 a1_4) else (spec_l2Span.j0 k t248 t254 t260 false a1_0 a1_1 a1_2 a1_3 a1_4))))) else (spec_l2Span.j0 k t248 t254 t260 false a1_0 a1_1 a1_2 a1_3 a1_4)))) = some (r1, r2, r3) := H
 have A7 := zM A70
 clear A70
 replace H := Option.bind_eq_some_iff.mp H
 obtain ⟨t257, A80, H⟩ := H
 replace H : ((spec_l1Sub.f k t248 t257).bind fun t260 => (if a1_0 = 3 then ((spec_l2Of.f k a1_2 a1_3).bind fun t263 => ((spec_l2Two.f k (wrap64 (t238 - 1))).bind fun t266 => ((spec_l1Cmp.f k t263 t266).bind fun t269 => (if t269 = 0 then (spec_l2Span.j0 k t248 t254 t260 (decide (a1_4 > (wrap64 ((wrap64 (t239 - t238)) + 1)))) a1_0 a1_1 a1_2 a1_3 a1_4) else (spec_l2Span.j0 k t248 t254 t260 false a1_0 a1_1 a1_2 a1_3 a1_4))))) else (spec_l2Span.j0 k t248 t254 t260 false a1_0 a1_1 a1_2 a1_3 a1_4))) = some (r1, r2, r3) := H
 have A8 := zM A80
 clear A80
 replace H := Option.bind_eq_some_iff.mp H
 obtain ⟨t260, A90, H⟩ := H
 replace H : (if a1_0 = 3 then ((spec_l2Of.f k a1_2 a1_3).bind fun t263 => ((spec_l2Two.f k (wrap64 (t238 - 1))).bind fun t266 => ((spec_l1Cmp.f k t263 t266).bind fun t269 => (if t269 = 0 then (spec_l2Span.j0 k t248 t254 t260 (decide (a1_4 > (wrap64 ((wrap64 (t239 - t238)) + 1)))) a1_0 a1_1 a1_2 a1_3 a1_4) else (spec_l2Span.j0 k t248 t254 t260 false a1_0 a1_1 a1_2 a1_3 a1_4))))) else (spec_l2Span.j0 k t248 t254 t260 false a1_0 a1_1 a1_2 a1_3 a1_4)) = some (r1, r2, r3) := H
 have A9 := zM A90
 clear A90
 have HC10 := zM H
 clear H
 go_enter Tryd.func81, Tryd.ntmps81
 go_upto_region 5 with (first | ((with_reducible refine gate_dst (N := 3) rfl ?_); refine box_event ?hg (N := 3) ?hd (cs := #[.int .i64 a1_0, .bool a1_1, .int .u64 a1_2, .int .u64 a1_3, .int .i64 a1_4]) (t := 27) ?hr ?_; (case hd => rfl); (case hg => rfl); (case hr => first | (go_simp; done) | (go_simp; rfl)); intro gb237 hg w11 hbox hb; have n0_ := zM (below_step HB.out hb); have n1_ := zM (hbox); have n2_ := zM ((by rw [hg]; exact (below_size HB.out) : w.heap.size ≤ gb237)); have n3_ := zM ((by rw [hg]; exact (below_size HB.out) : w.heap.size ≤ gb237)); clear HB; have HB := n0_; have BK237 := n1_; have GW237 := n2_; have GE237 := n3_; clear n0_ n1_ n2_ n3_; clear hb hbox hg) | ((with_reducible refine gate_callee (f := 57) rfl ?_); refine goesL_ (some 13) rfl rfl Tryd.func57 (by kernel_rfl) rfl #[.int .i64 a0] rfl (by first | rfl | (simp only [List.map_toArray, List.map_cons, List.map_nil, List.length_drop, List.length_take]; rfl)) ?_; (with_reducible refine (spec_Describe.calls a0 t238 t239 t240 t241 t242 t243 _ A3.out).mono ?_); rintro e w12 ⟨rfl, hb⟩; refine ⟨_, rfl, ?_⟩; have n0_ := zM (blk_below BK237.out hb); have n1_ := zM (below_step HB.out hb); clear BK237; clear HB; have BK237 := n0_; have HB := n1_; clear n0_ n1_; (try clear hb); (try clear hb2); (try clear hk); (try clear hi)) | ((with_reducible refine gate_dst (N := 7) rfl ?_); refine box_event ?hg (N := 7) ?hd (cs := #[.int .i64 0, .int .i64 0, .int .i64 0, .int .i64 0, .int .i64 0, .bool false]) (t := 83) ?hr ?_; (case hd => rfl); (case hg => rfl); (case hr => first | (go_simp; done) | (go_simp; rfl)); intro gb244 hg w13 hbox hb; have n0_ := zM (blk_below BK237.out hb); have n1_ := zM (below_step HB.out hb); have n2_ := zM (hbox); have n3_ := zM ((by rw [hg]; exact (below_size HB.out) : w.heap.size ≤ gb244)); have n4_ := zM ((by rw [hg]; exact (below_size HB.out) : w.heap.size ≤ gb244)); have n5_ := zM ((by rw [hg]; exact Nat.ne_of_lt (blk_lt BK237.out) : gb237 ≠ gb244)); have n6_ := zM ((by rw [hg]; exact Nat.ne_of_gt (blk_lt BK237.out) : gb244 ≠ gb237)); clear BK237; clear HB; have BK237 := n0_; have HB := n1_; have BK244 := n2_; have GW244 := n3_; have GE244 := n4_; have NB237_244 := n5_; have NB244_237 := n6_; clear n0_ n1_ n2_ n3_ n4_ n5_ n6_; clear hb hbox hg; have hnb14 := NB244_237.out; have hnc14 := NB237_244.out; have hcz15_0 : w13.cell? ⟨gb244, 0, none⟩ = some (.int .i64 0) := (blk_cell BK244.out 0).trans rfl; have hcz15_1 : w13.cell? ⟨gb244, 1, none⟩ = some (.int .i64 0) := (blk_cell BK244.out 1).trans rfl; have hcz15_2 : w13.cell? ⟨gb244, 2, none⟩ = some (.int .i64 0) := (blk_cell BK244.out 2).trans rfl; have hcz15_3 : w13.cell? ⟨gb244, 3, none⟩ = some (.int .i64 0) := (blk_cell BK244.out 3).trans rfl; have hcz15_4 : w13.cell? ⟨gb244, 4, none⟩ = some (.int .i64 0) := (blk_cell BK244.out 4).trans rfl; have hcz15_5 : w13.cell? ⟨gb244, 5, none⟩ = some (.bool false) := (blk_cell BK244.out 5).trans rfl; have hfz15_0 := blk_frozen BK244.out 0; have hfz15_1 := blk_frozen BK244.out 1; have hfz15_2 := blk_frozen BK244.out 2; have hfz15_3 := blk_frozen BK244.out 3; have hfz15_4 := blk_frozen BK244.out 4; have hfz15_5 := blk_frozen BK244.out 5; have hcz16_0 : w13.cell? ⟨gb237, 0, none⟩ = some (.int .i64 a1_0) := (blk_cell BK237.out 0).trans rfl; have hcz16_1 : w13.cell? ⟨gb237, 1, none⟩ = some (.bool a1_1) := (blk_cell BK237.out 1).trans rfl; have hcz16_2 : w13.cell? ⟨gb237, 2, none⟩ = some (.int .u64 a1_2) := (blk_cell BK237.out 2).trans rfl; have hcz16_3 : w13.cell? ⟨gb237, 3, none⟩ = some (.int .u64 a1_3) := (blk_cell BK237.out 3).trans rfl; have hcz16_4 : w13.cell? ⟨gb237, 4, none⟩ = some (.int .i64 a1_4) := (blk_cell BK237.out 4).trans rfl; have hfz16_0 := blk_frozen BK237.out 0; have hfz16_1 := blk_frozen BK237.out 1; have hfz16_2 := blk_frozen BK237.out 2; have hfz16_3 := blk_frozen BK237.out 3; have hfz16_4 := blk_frozen BK237.out 4) | ((with_reducible refine gate_callee (f := 58) rfl ?_); refine goesL_ (some 16) rfl rfl Tryd.func58 (by kernel_rfl) rfl #[.agg #[.int .u64 a1_2, .int .u64 a1_3]] rfl (by first | rfl | (simp only [List.map_toArray, List.map_cons, List.map_nil, List.length_drop, List.length_take]; rfl)) ?_; (with_reducible refine (spec_l2Of.calls k a1_2 a1_3 t245 _ A4.out).mono ?_); rintro e w17 ⟨v246, rfl, ho0, hb⟩; refine ⟨_, rfl, ?_⟩; have n0_ := zM (Kd.R_lower ho0 (below_size (by repeat (first | (with_reducible first | exact HB.out | apply yA | apply yN | apply yD | refine below_set ?_ GE237.out | refine below_set ?_ GE244.out) | exact HB.out)))); have n1_ := zM (blk_below (g := gb237) (o := .cells #[.int .i64 a1_0, .bool a1_1, .int .u64 a1_2, .int .u64 a1_3, .int .i64 a1_4] 27 (0, 0)) (by refine blk_far ?_ NB237_244.out _; refine blk_far ?_ NB237_244.out _; refine blk_far ?_ NB237_244.out _; refine blk_far ?_ NB237_244.out _; refine blk_far ?_ NB237_244.out _; refine blk_far ?_ NB237_244.out _; exact BK237.out) hb); have n2_ := zM (blk_below (g := gb244) (o := .cells #[.int .i64 t238, .int .i64 t239, .int .i64 t240, .int .i64 t241, .int .i64 t242, .bool t243] 83 (0, 0)) (by refine blk_put (cs := #[.int .i64 t238, .int .i64 t239, .int .i64 t240, .int .i64 t241, .int .i64 t242, .bool false]) ?_ 5 _ rfl; refine blk_put (cs := #[.int .i64 t238, .int .i64 t239, .int .i64 t240, .int .i64 t241, .int .i64 0, .bool false]) ?_ 4 _ rfl; refine blk_put (cs := #[.int .i64 t238, .int .i64 t239, .int .i64 t240, .int .i64 0, .int .i64 0, .bool false]) ?_ 3 _ rfl; refine blk_put (cs := #[.int .i64 t238, .int .i64 t239, .int .i64 0, .int .i64 0, .int .i64 0, .bool false]) ?_ 2 _ rfl; refine blk_put (cs := #[.int .i64 t238, .int .i64 0, .int .i64 0, .int .i64 0, .int .i64 0, .bool false]) ?_ 1 _ rfl; refine blk_put (cs := #[.int .i64 0, .int .i64 0, .int .i64 0, .int .i64 0, .int .i64 0, .bool false]) ?_ 0 _ rfl; exact BK244.out) hb); have n3_ := zM (below_step (by repeat (first | (with_reducible first | exact HB.out | apply yA | apply yN | apply yD | refine below_set ?_ GE237.out | refine below_set ?_ GE244.out) | exact HB.out)) hb); clear BK237; clear BK244; clear HB; have HO247 := n0_; have BK237 := n1_; have BK244 := n2_; have HB := n3_; clear n0_ n1_ n2_ n3_; (try clear hb); (try clear hb2); (try clear hk); (try clear hi); (try clear ho0); obtain ⟨Ao18, co18, eo18⟩ := Kd.R_slice HO247.out; subst eo18) | ((with_reducible refine gate_callee (f := 92) rfl ?_); refine goesL_ (some 17) rfl rfl Tryd.func92 (by kernel_rfl) rfl #[.slice Ao18 t245.length co18, .int .i64 2] rfl (by first | rfl | (simp only [List.map_toArray, List.map_cons, List.map_nil, List.length_drop, List.length_take]; rfl)) ?_; (with_reducible refine (spec_l1Left.calls k _ _ t245 2 t248 _ ?side1 ?side2 A5.out).mono ?_); (case side1 => repeat (first | exact (Kd.R_reads' HO247.out).2.2 | (with_reducible refine Kd.C_alloc ?_ _) | (with_reducible refine Kd.C_drewN ?_ _) | (with_reducible refine Kd.C_drew ?_))); (case side2 => exact (Kd.R_reads' HO247.out).2.1); rintro e w19 ⟨v249, rfl, ho0, hb⟩; refine ⟨_, rfl, ?_⟩; have n0_ := zM (Kd.R_elder' (by exact HO247.out) (Kd.R_base ho0) hb); have n1_ := zM (Kd.R_lower (Kd.R_new' ho0 (Kd.R_lt (by exact HO247.out))) (below_size HB.out)); have n2_ := zM (blk_below BK237.out hb); have n3_ := zM (blk_below BK244.out hb); have n4_ := zM (below_step HB.out hb); clear HO247; clear BK237; clear BK244; clear HB; have HO247 := n0_; have HO250 := n1_; have BK237 := n2_; have BK244 := n3_; have HB := n4_; clear n0_ n1_ n2_ n3_ n4_; (try clear hb); (try clear hb2); (try clear hk); (try clear hi); (try clear ho0)) | ((with_reducible refine gate_callee (f := 90) rfl ?_); refine goesL_ (some 19) rfl rfl Tryd.func90 (by kernel_rfl) rfl #[.int .u64 2] rfl (by first | rfl | (simp only [List.map_toArray, List.map_cons, List.map_nil, List.length_drop, List.length_take]; rfl)) ?_; (with_reducible refine (spec_l1Of.calls 2 t251 _ A6.out).mono ?_); rintro e w20 ⟨v252, rfl, ho0, hb⟩; refine ⟨_, rfl, ?_⟩; have n0_ := zM (Kd.R_elder' (by exact HO247.out) (Kd.R_base ho0) hb); have n1_ := zM (Kd.R_elder' (by exact HO250.out) (Kd.R_base ho0) hb); have n2_ := zM (Kd.R_lower (Kd.R_new' (Kd.R_new' ho0 (Kd.R_lt (by exact HO247.out))) (Kd.R_lt (by exact HO250.out))) (below_size HB.out)); have n3_ := zM (blk_below BK237.out hb); have n4_ := zM (blk_below BK244.out hb); have n5_ := zM (below_step HB.out hb); clear HO247; clear HO250; clear BK237; clear BK244; clear HB; have HO247 := n0_; have HO250 := n1_; have HO253 := n2_; have BK237 := n3_; have BK244 := n4_; have HB := n5_; clear n0_ n1_ n2_ n3_ n4_ n5_; (try clear hb); (try clear hb2); (try clear hk); (try clear hi); (try clear ho0); obtain ⟨Ao21, co21, eo21⟩ := Kd.R_slice HO250.out; subst eo21; obtain ⟨Ao22, co22, eo22⟩ := Kd.R_slice HO253.out; subst eo22) | ((with_reducible refine gate_callee (f := 63) rfl ?_); refine goesL_ (some 20) rfl rfl Tryd.func63 (by kernel_rfl) rfl #[.slice Ao21 t248.length co21, .slice Ao22 t251.length co22] rfl (by first | rfl | (simp only [List.map_toArray, List.map_cons, List.map_nil, List.length_drop, List.length_take]; rfl)) ?_; (with_reducible refine (spec_l1Add.calls k _ _ t248 _ _ t251 t254 _ ?side1 ?side2 ?side3 ?side4 A7.out).mono ?_); (case side1 => repeat (first | exact (Kd.R_reads' HO250.out).2.2 | (with_reducible refine Kd.C_alloc ?_ _) | (with_reducible refine Kd.C_drewN ?_ _) | (with_reducible refine Kd.C_drew ?_))); (case side2 => exact (Kd.R_reads' HO250.out).2.1); (case side3 => repeat (first | exact (Kd.R_reads' HO253.out).2.2 | (with_reducible refine Kd.C_alloc ?_ _) | (with_reducible refine Kd.C_drewN ?_ _) | (with_reducible refine Kd.C_drew ?_))); (case side4 => exact (Kd.R_reads' HO253.out).2.1); rintro e w23 ⟨v255, rfl, ho0, hb⟩; refine ⟨_, rfl, ?_⟩; have n0_ := zM (Kd.R_elder' (by exact HO247.out) (Kd.R_base ho0) hb); have n1_ := zM (Kd.R_elder' (by exact HO250.out) (Kd.R_base ho0) hb); have n2_ := zM (Kd.R_elder' (by exact HO253.out) (Kd.R_base ho0) hb); have n3_ := zM (Kd.R_lower (Kd.R_new' (Kd.R_new' (Kd.R_new' ho0 (Kd.R_lt (by exact HO247.out))) (Kd.R_lt (by exact HO250.out))) (Kd.R_lt (by exact HO253.out))) (below_size HB.out)); have n4_ := zM (blk_below BK237.out hb); have n5_ := zM (blk_below BK244.out hb); have n6_ := zM (below_step HB.out hb); clear HO247; clear HO250; clear HO253; clear BK237; clear BK244; clear HB; have HO247 := n0_; have HO250 := n1_; have HO253 := n2_; have HO256 := n3_; have BK237 := n4_; have BK244 := n5_; have HB := n6_; clear n0_ n1_ n2_ n3_ n4_ n5_ n6_; (try clear hb); (try clear hb2); (try clear hk); (try clear hi); (try clear ho0)) | ((with_reducible refine gate_callee (f := 90) rfl ?_); refine goesL_ (some 22) rfl rfl Tryd.func90 (by kernel_rfl) rfl #[.int .u64 2] rfl (by first | rfl | (simp only [List.map_toArray, List.map_cons, List.map_nil, List.length_drop, List.length_take]; rfl)) ?_; (with_reducible refine (spec_l1Of.calls 2 t257 _ A8.out).mono ?_); rintro e w24 ⟨v258, rfl, ho0, hb⟩; refine ⟨_, rfl, ?_⟩; have n0_ := zM (Kd.R_elder' (by exact HO247.out) (Kd.R_base ho0) hb); have n1_ := zM (Kd.R_elder' (by exact HO250.out) (Kd.R_base ho0) hb); have n2_ := zM (Kd.R_elder' (by exact HO253.out) (Kd.R_base ho0) hb); have n3_ := zM (Kd.R_elder' (by exact HO256.out) (Kd.R_base ho0) hb); have n4_ := zM (Kd.R_lower (Kd.R_new' (Kd.R_new' (Kd.R_new' (Kd.R_new' ho0 (Kd.R_lt (by exact HO247.out))) (Kd.R_lt (by exact HO250.out))) (Kd.R_lt (by exact HO253.out))) (Kd.R_lt (by exact HO256.out))) (below_size HB.out)); have n5_ := zM (blk_below BK237.out hb); have n6_ := zM (blk_below BK244.out hb); have n7_ := zM (below_step HB.out hb); clear HO247; clear HO250; clear HO253; clear HO256; clear BK237; clear BK244; clear HB; have HO247 := n0_; have HO250 := n1_; have HO253 := n2_; have HO256 := n3_; have HO259 := n4_; have BK237 := n5_; have BK244 := n6_; have HB := n7_; clear n0_ n1_ n2_ n3_ n4_ n5_ n6_ n7_; (try clear hb); (try clear hb2); (try clear hk); (try clear hi); (try clear ho0); obtain ⟨Ao25, co25, eo25⟩ := Kd.R_slice HO259.out; subst eo25) | ((with_reducible refine gate_callee (f := 89) rfl ?_); refine goesL_ (some 23) rfl rfl Tryd.func89 (by kernel_rfl) rfl #[.slice Ao21 t248.length co21, .slice Ao25 t257.length co25] rfl (by first | rfl | (simp only [List.map_toArray, List.map_cons, List.map_nil, List.length_drop, List.length_take]; rfl)) ?_; (with_reducible refine (spec_l1Sub.calls k _ _ t248 _ _ t257 t260 _ ?side1 ?side2 ?side3 ?side4 A9.out).mono ?_); (case side1 => repeat (first | exact (Kd.R_reads' HO250.out).2.2 | (with_reducible refine Kd.C_alloc ?_ _) | (with_reducible refine Kd.C_drewN ?_ _) | (with_reducible refine Kd.C_drew ?_))); (case side2 => exact (Kd.R_reads' HO250.out).2.1); (case side3 => repeat (first | exact (Kd.R_reads' HO259.out).2.2 | (with_reducible refine Kd.C_alloc ?_ _) | (with_reducible refine Kd.C_drewN ?_ _) | (with_reducible refine Kd.C_drew ?_))); (case side4 => exact (Kd.R_reads' HO259.out).2.1); rintro e w26 ⟨v261, rfl, ho0, hb⟩; refine ⟨_, rfl, ?_⟩; have n0_ := zM (Kd.R_elder' (by exact HO247.out) (Kd.R_base ho0) hb); have n1_ := zM (Kd.R_elder' (by exact HO250.out) (Kd.R_base ho0) hb); have n2_ := zM (Kd.R_elder' (by exact HO253.out) (Kd.R_base ho0) hb); have n3_ := zM (Kd.R_elder' (by exact HO256.out) (Kd.R_base ho0) hb); have n4_ := zM (Kd.R_elder' (by exact HO259.out) (Kd.R_base ho0) hb); have n5_ := zM (Kd.R_lower (Kd.R_new' (Kd.R_new' (Kd.R_new' (Kd.R_new' (Kd.R_new' ho0 (Kd.R_lt (by exact HO247.out))) (Kd.R_lt (by exact HO250.out))) (Kd.R_lt (by exact HO253.out))) (Kd.R_lt (by exact HO256.out))) (Kd.R_lt (by exact HO259.out))) (below_size HB.out)); have n6_ := zM (blk_below BK237.out hb); have n7_ := zM (blk_below BK244.out hb); have n8_ := zM (below_step HB.out hb); clear HO247; clear HO250; clear HO253; clear HO256; clear HO259; clear BK237; clear BK244; clear HB; have HO247 := n0_; have HO250 := n1_; have HO253 := n2_; have HO256 := n3_; have HO259 := n4_; have HO262 := n5_; have BK237 := n6_; have BK244 := n7_; have HB := n8_; clear n0_ n1_ n2_ n3_ n4_ n5_ n6_ n7_ n8_; (try clear hb); (try clear hb2); (try clear hk); (try clear hi); (try clear ho0)))
 (try simp only [Act.put, xT, xZ, xS])
 go_cut [48] (fun v48 wc => ∃ (kq : Nat) (x48_9 : Bool), v48 = .bool x48_9 ∧ Aside0 (spec_l2Span.j0 kq t248 t254 t260 x48_9 a1_0 a1_1 a1_2 a1_3 a1_4 = some (r1, r2, r3)) ∧ Aside0 (kq ≤ k) ∧ Aside0 (Kd.R (Kd.int .u64) 22 wc w.heap.size (fun k_ => some k_ ≠ (v255 : Value).ownBlock ∧ some k_ ≠ (v261 : Value).ownBlock) (.slice Ao21 t248.length co21) t248) ∧ Aside0 (Kd.R (Kd.int .u64) 22 wc w.heap.size (fun k_ => some k_ ≠ ((.slice Ao21 t248.length co21) : Value).ownBlock ∧ some k_ ≠ (v261 : Value).ownBlock) v255 t254) ∧ Aside0 (Kd.R (Kd.int .u64) 22 wc w.heap.size (fun k_ => some k_ ≠ ((.slice Ao21 t248.length co21) : Value).ownBlock ∧ some k_ ≠ (v255 : Value).ownBlock) v261 t260) ∧ Aside0 (wc.heap[gb237]? = some (.cells #[.int .i64 a1_0, .bool a1_1, .int .u64 a1_2, .int .u64 a1_3, .int .i64 a1_4] 27 (0, 0))) ∧ Aside0 (wc.heap[gb244]? = some (.cells #[.int .i64 t238, .int .i64 t239, .int .i64 t240, .int .i64 t241, .int .i64 t242, .bool t243] 83 (0, 0))) ∧ Aside0 (Below w.heap.size w wc))
 case first =>
  have H := HC10.out
  clear HC10
  by_cases c27 : a1_0 = 3
  ·rw [if_pos c27] at H
   have c27b0 : (a1_0 == 3) = true := beq_iff_eq.mpr c27
   have c27b1 : (a1_0 != 3) = false := bne_eq_false_iff_eq.mpr c27
   clear c27
   (first | rw [c27b0] | (simp only [i64_w, i32_w]; rw [c27b0]) | rw [c27b1] | (simp only [c27b1]) | skip)
   replace H := Option.bind_eq_some_iff.mp H
   obtain ⟨t263, A280, H⟩ := H
   replace H : ((spec_l2Two.f k (wrap64 (t238 - 1))).bind fun t266 => ((spec_l1Cmp.f k t263 t266).bind fun t269 => (if t269 = 0 then (spec_l2Span.j0 k t248 t254 t260 (decide (a1_4 > (wrap64 ((wrap64 (t239 - t238)) + 1)))) a1_0 a1_1 a1_2 a1_3 a1_4) else (spec_l2Span.j0 k t248 t254 t260 false a1_0 a1_1 a1_2 a1_3 a1_4)))) = some (r1, r2, r3) := H
   have A28 := zM A280
   clear A280
   replace H := Option.bind_eq_some_iff.mp H
   obtain ⟨t266, A290, H⟩ := H
   replace H : ((spec_l1Cmp.f k t263 t266).bind fun t269 => (if t269 = 0 then (spec_l2Span.j0 k t248 t254 t260 (decide (a1_4 > (wrap64 ((wrap64 (t239 - t238)) + 1)))) a1_0 a1_1 a1_2 a1_3 a1_4) else (spec_l2Span.j0 k t248 t254 t260 false a1_0 a1_1 a1_2 a1_3 a1_4))) = some (r1, r2, r3) := H
   have A29 := zM A290
   clear A290
   replace H := Option.bind_eq_some_iff.mp H
   obtain ⟨t269, A300, H⟩ := H
   replace H : (if t269 = 0 then (spec_l2Span.j0 k t248 t254 t260 (decide (a1_4 > (wrap64 ((wrap64 (t239 - t238)) + 1)))) a1_0 a1_1 a1_2 a1_3 a1_4) else (spec_l2Span.j0 k t248 t254 t260 false a1_0 a1_1 a1_2 a1_3 a1_4)) = some (r1, r2, r3) := H
   have A30 := zM A300
   clear A300
   by_cases c31 : t269 = 0
   ·rw [if_pos c31] at H
    have c31b0 : (t269 == 0) = true := beq_iff_eq.mpr c31
    have c31b1 : (t269 != 0) = false := bne_eq_false_iff_eq.mpr c31
    clear c31
    have H' := zM H
    clear H
    try go_wp2
    have n0_ := zM (Kd.R_drew HO247.out)
    have n1_ := zM (Kd.R_drew HO250.out)
    have n2_ := zM (Kd.R_drew HO253.out)
    have n3_ := zM (Kd.R_drew HO256.out)
    have n4_ := zM (Kd.R_drew HO259.out)
    have n5_ := zM (Kd.R_drew HO262.out)
    have n6_ := zM (zD BK237.out)
    have n7_ := zM (zD BK244.out)
    have n8_ := zM (yD HB.out)
    clear HO247
    clear HO250
    clear HO253
    clear HO256
    clear HO259
    clear HO262
    clear BK237
    clear BK244
    clear HB
    have HO247 := n0_
    have HO250 := n1_
    have HO253 := n2_
    have HO256 := n3_
    have HO259 := n4_
    have HO262 := n5_
    have BK237 := n6_
    have BK244 := n7_
    have HB := n8_
    clear n0_ n1_ n2_ n3_ n4_ n5_ n6_ n7_ n8_
    refine start_ (n := 25) (S := fun w' => w'.cell? ⟨gb237, 0, none⟩ = some (.int .i64 a1_0) ∧ w'.cell? ⟨gb237, 1, none⟩ = some (.bool a1_1) ∧ w'.cell? ⟨gb237, 2, none⟩ = some (.int .u64 a1_2) ∧ w'.cell? ⟨gb237, 3, none⟩ = some (.int .u64 a1_3) ∧ w'.cell? ⟨gb237, 4, none⟩ = some (.int .i64 a1_4) ∧ w'.cell? ⟨gb244, 0, none⟩ = some (.int .i64 t238) ∧ w'.cell? ⟨gb244, 1, none⟩ = some (.int .i64 t239) ∧ w'.cell? ⟨gb244, 2, none⟩ = some (.int .i64 t240) ∧ w'.cell? ⟨gb244, 3, none⟩ = some (.int .i64 t241) ∧ w'.cell? ⟨gb244, 4, none⟩ = some (.int .i64 t242) ∧ w'.cell? ⟨gb244, 5, none⟩ = some (.bool t243)) (ds := []) #[false, false, false, false, false, false, false, false, false, false, false, false, false, false, false, false, false, false, false, false, false, false, false, false, false] (by kernel_rfl) rfl rfl ⟨(blk_cell BK237.out 0).trans rfl, (blk_cell BK237.out 1).trans rfl, (blk_cell BK237.out 2).trans rfl, (blk_cell BK237.out 3).trans rfl, (blk_cell BK237.out 4).trans rfl, (blk_cell BK244.out 0).trans rfl, (blk_cell BK244.out 1).trans rfl, (blk_cell BK244.out 2).trans rfl, (blk_cell BK244.out 3).trans rfl, (blk_cell BK244.out 4).trans rfl, (blk_cell BK244.out 5).trans rfl⟩ (fun hHeld => ?_); refine with_tabW spec_l2Span.tab5 spec_l2Span.bits5 (fun HT_ HW_ => ?_)
    generalize w26.drew = w32 at HO247 HO250 HO253 HO256 HO259 HO262 BK237 BK244 HB hHeld ⊢
    refine pure_ (i := 0) (N := some 24) (v := ?_) (a' := ?_) #[true, false, false, false, false, false, false, false, false, false, false, false, false, false, false, false, false, false, false, false, false, false, false, false, false] rfl rfl (any_of HT_.out (by kernel_rfl)) (fun _ _ _ h => h) (Or.inl ⟨by rfl, ?_⟩) ?_ ?_
    rotate_left
    ·intro w'
     go_simp
     with_reducible rfl
    rotate_left
    ·simp only [Act.put, xT, xZ, xS, i64_w, i32_w]
     rfl
    refine take_ (i := 1) (N := some 25) (v := ?_) (a' := ?_) #[true, true, false, false, false, false, false, false, false, false, false, false, false, false, false, false, false, false, false, false, false, false, false, false, false] rfl rfl (take_ofW HT_.out HW_.out (by kernel_rfl)) (fun _ _ _ h => h) (Or.inl ⟨by rfl, ?_⟩) hHeld ?_ ?_
    rotate_left
    ·rintro w' ⟨s0, s1, s2, s3, s4, s5, s6, s7, s8, s9, s10⟩
     go_simp
     with_reducible rfl
    rotate_left
    ·simp only [Act.put, xT, xZ, xS, i64_w, i32_w]
     rfl
    refine pure_ (i := 2) (N := some 26) (v := ?_) (a' := ?_) #[true, true, true, false, false, false, false, false, false, false, false, false, false, false, false, false, false, false, false, false, false, false, false, false, false] rfl rfl (any_of HT_.out (by kernel_rfl)) (fun _ _ _ h => h) (Or.inl ⟨by rfl, ?_⟩) ?_ ?_
    rotate_left
    ·intro w'
     go_simp
     with_reducible rfl
    rotate_left
    ·simp only [Act.put, xT, xZ, xS, i64_w, i32_w]
     rfl
    refine pure_ (i := 3) (N := some 27) (v := ?_) (a' := ?_) #[true, true, true, true, false, false, false, false, false, false, false, false, false, false, false, false, false, false, false, false, false, false, false, false, false] rfl rfl (any_of HT_.out (by kernel_rfl)) (fun _ _ _ h => h) (Or.inl ⟨by rfl, ?_⟩) ?_ ?_
    rotate_left
    ·intro w'
     go_simp
     with_reducible rfl
    rotate_left
    ·simp only [Act.put, xT, xZ, xS, i64_w, i32_w]
     rfl
    refine pure_ (i := 4) (N := some 28) (v := ?_) (a' := ?_) #[true, true, true, true, true, false, false, false, false, false, false, false, false, false, false, false, false, false, false, false, false, false, false, false, false] rfl rfl (any_of HT_.out (by kernel_rfl)) (fun _ _ _ h => h) (Or.inl ⟨by rfl, ?_⟩) ?_ ?_
    rotate_left
    ·intro w'
     go_simp
     with_reducible rfl
    rotate_left
    ·simp only [Act.put, xT, xZ, xS, i64_w, i32_w]
     rfl
    refine pure_ (i := 7) (N := some 31) (v := ?_) (a' := ?_) #[true, true, true, true, true, false, false, true, false, false, false, false, false, false, false, false, false, false, false, false, false, false, false, false, false] rfl rfl (any_of HT_.out (by kernel_rfl)) (fun _ _ _ h => h) (Or.inl ⟨by rfl, ?_⟩) ?_ ?_
    rotate_left
    ·intro w'
     go_simp
     with_reducible rfl
    rotate_left
    ·simp only [Act.put, xT, xZ, xS, i64_w, i32_w]
     rfl
    refine take_ (i := 5) (N := some 29) (v := ?_) (a' := ?_) #[true, true, true, true, true, true, false, true, false, false, false, false, false, false, false, false, false, false, false, false, false, false, false, false, false] rfl rfl (take_ofW HT_.out HW_.out (by kernel_rfl)) (fun _ _ _ h => h) (Or.inl ⟨by rfl, ?_⟩) hHeld ?_ ?_
    rotate_left
    ·rintro w' ⟨s0, s1, s2, s3, s4, s5, s6, s7, s8, s9, s10⟩
     go_simp
     with_reducible rfl
    rotate_left
    ·simp only [Act.put, xT, xZ, xS, i64_w, i32_w]
     rfl
    refine take_ (i := 8) (N := some 32) (v := ?_) (a' := ?_) #[true, true, true, true, true, true, false, true, true, false, false, false, false, false, false, false, false, false, false, false, false, false, false, false, false] rfl rfl (take_ofW HT_.out HW_.out (by kernel_rfl)) (fun _ _ _ h => h) (Or.inl ⟨by rfl, ?_⟩) hHeld ?_ ?_
    rotate_left
    ·rintro w' ⟨s0, s1, s2, s3, s4, s5, s6, s7, s8, s9, s10⟩
     go_simp
     with_reducible rfl
    rotate_left
    ·simp only [Act.put, xT, xZ, xS, i64_w, i32_w]
     rfl
    refine pure_ (i := 9) (N := some 33) (v := ?_) (a' := ?_) #[true, true, true, true, true, true, false, true, true, true, false, false, false, false, false, false, false, false, false, false, false, false, false, false, false] rfl rfl (any_of HT_.out (by kernel_rfl)) (fun _ _ _ h => h) (Or.inl ⟨by rfl, ?_⟩) ?_ ?_
    rotate_left
    ·intro w'
     go_simp
     with_reducible rfl
    rotate_left
    ·simp only [Act.put, xT, xZ, xS, i64_w, i32_w]
     rfl
    refine one_ (i := 6) (N := some 30) #[true, true, true, true, true, true, true, true, true, true, false, false, false, false, false, false, false, false, false, false, false, false, false, false, false] rfl rfl (one_of HT_.out (by kernel_rfl)) (by decide) (fun K hK => ?_)
    refine goes_ Tryd.func58 (by kernel_rfl) rfl #[.agg #[.int .u64 a1_2, .int .u64 a1_3]] (by rfl) rfl rfl (by first | rfl | (simp only [List.map_toArray, List.map_cons, List.map_nil, List.length_drop, List.length_take]; rfl)) ?_
    with_reducible refine (spec_l2Of.calls k a1_2 a1_3 t263 _ A28.out).mono ?_
    rintro e w33 ⟨v264, rfl, ho0, hb⟩
    refine ⟨_, rfl, ?_⟩
    have n0_ := zM (Kd.R_elder' (by exact HO247.out) (Kd.R_base ho0) hb)
    have n1_ := zM (Kd.R_elder' (by exact HO250.out) (Kd.R_base ho0) hb)
    have n2_ := zM (Kd.R_elder' (by exact HO253.out) (Kd.R_base ho0) hb)
    have n3_ := zM (Kd.R_elder' (by exact HO256.out) (Kd.R_base ho0) hb)
    have n4_ := zM (Kd.R_elder' (by exact HO259.out) (Kd.R_base ho0) hb)
    have n5_ := zM (Kd.R_elder' (by exact HO262.out) (Kd.R_base ho0) hb)
    have n6_ := zM (Kd.R_lower (Kd.R_new' (Kd.R_new' (Kd.R_new' (Kd.R_new' (Kd.R_new' (Kd.R_new' ho0 (Kd.R_lt (by exact HO247.out))) (Kd.R_lt (by exact HO250.out))) (Kd.R_lt (by exact HO253.out))) (Kd.R_lt (by exact HO256.out))) (Kd.R_lt (by exact HO259.out))) (Kd.R_lt (by exact HO262.out))) (below_size HB.out))
    have n7_ := zM (blk_below BK237.out hb)
    have n8_ := zM (blk_below BK244.out hb)
    have n9_ := zM (below_step HB.out hb)
    clear HO247
    clear HO250
    clear HO253
    clear HO256
    clear HO259
    clear HO262
    clear BK237
    clear BK244
    clear HB
    have HO247 := n0_
    have HO250 := n1_
    have HO253 := n2_
    have HO256 := n3_
    have HO259 := n4_
    have HO262 := n5_
    have HO265 := n6_
    have BK237 := n7_
    have BK244 := n8_
    have HB := n9_
    clear n0_ n1_ n2_ n3_ n4_ n5_ n6_ n7_ n8_ n9_
    try clear hb; try clear hb2; try clear hk; try clear hi
    (try clear ho0)
    refine hK.out _ _ ⟨(blk_cell BK237.out 0).trans rfl, (blk_cell BK237.out 1).trans rfl, (blk_cell BK237.out 2).trans rfl, (blk_cell BK237.out 3).trans rfl, (blk_cell BK237.out 4).trans rfl, (blk_cell BK244.out 0).trans rfl, (blk_cell BK244.out 1).trans rfl, (blk_cell BK244.out 2).trans rfl, (blk_cell BK244.out 3).trans rfl, (blk_cell BK244.out 4).trans rfl, (blk_cell BK244.out 5).trans rfl⟩ (fun hHeld => ?_)
    clear hK K
    refine norm_ (a' := ?_) ?_ ?_
    rotate_left
    ·show Act.put _ (some 30) _ = _
     simp only [Act.put, xT, xZ, xS, i64_w, i32_w]
     rfl
    refine one_ (i := 10) (N := some 34) #[true, true, true, true, true, true, true, true, true, true, true, false, false, false, false, false, false, false, false, false, false, false, false, false, false] rfl rfl (one_of HT_.out (by kernel_rfl)) (by decide) (fun K hK => ?_)
    refine goes_ Tryd.func64 (by kernel_rfl) rfl #[.int .i64 (wrap64 (t238 - 1))] (by rfl) rfl rfl (by first | rfl | (simp only [List.map_toArray, List.map_cons, List.map_nil, List.length_drop, List.length_take]; rfl)) ?_
    with_reducible refine (spec_l2Two.calls k (wrap64 (t238 - 1)) t266 _ A29.out).mono ?_
    rintro e w34 ⟨v267, rfl, ho0, hb⟩
    refine ⟨_, rfl, ?_⟩
    have n0_ := zM (Kd.R_elder' (by exact HO247.out) (Kd.R_base ho0) hb)
    have n1_ := zM (Kd.R_elder' (by exact HO250.out) (Kd.R_base ho0) hb)
    have n2_ := zM (Kd.R_elder' (by exact HO253.out) (Kd.R_base ho0) hb)
    have n3_ := zM (Kd.R_elder' (by exact HO256.out) (Kd.R_base ho0) hb)
    have n4_ := zM (Kd.R_elder' (by exact HO259.out) (Kd.R_base ho0) hb)
    have n5_ := zM (Kd.R_elder' (by exact HO262.out) (Kd.R_base ho0) hb)
    have n6_ := zM (Kd.R_elder' (by exact HO265.out) (Kd.R_base ho0) hb)
    have n7_ := zM (Kd.R_lower (Kd.R_new' (Kd.R_new' (Kd.R_new' (Kd.R_new' (Kd.R_new' (Kd.R_new' (Kd.R_new' ho0 (Kd.R_lt (by exact HO247.out))) (Kd.R_lt (by exact HO250.out))) (Kd.R_lt (by exact HO253.out))) (Kd.R_lt (by exact HO256.out))) (Kd.R_lt (by exact HO259.out))) (Kd.R_lt (by exact HO262.out))) (Kd.R_lt (by exact HO265.out))) (below_size HB.out))
    have n8_ := zM (blk_below BK237.out hb)
    have n9_ := zM (blk_below BK244.out hb)
    have n10_ := zM (below_step HB.out hb)
    clear HO247
    clear HO250
    clear HO253
    clear HO256
    clear HO259
    clear HO262
    clear HO265
    clear BK237
    clear BK244
    clear HB
    have HO247 := n0_
    have HO250 := n1_
    have HO253 := n2_
    have HO256 := n3_
    have HO259 := n4_
    have HO262 := n5_
    have HO265 := n6_
    have HO268 := n7_
    have BK237 := n8_
    have BK244 := n9_
    have HB := n10_
    clear n0_ n1_ n2_ n3_ n4_ n5_ n6_ n7_ n8_ n9_ n10_
    try clear hb; try clear hb2; try clear hk; try clear hi
    (try clear ho0)
    obtain ⟨Ao35, co35, eo35⟩ := Kd.R_slice HO265.out
    (first | subst eo35 | (injection eo35 with f1_ f2_ f3_; have f4_ := f1_.symm; have f5_ := f3_.symm; clear f1_ f2_ f3_; subst f4_; subst f5_))
    obtain ⟨Ao36, co36, eo36⟩ := Kd.R_slice HO268.out
    (first | subst eo36 | (injection eo36 with f1_ f2_ f3_; have f4_ := f1_.symm; have f5_ := f3_.symm; clear f1_ f2_ f3_; subst f4_; subst f5_))
    refine hK.out _ _ ⟨(blk_cell BK237.out 0).trans rfl, (blk_cell BK237.out 1).trans rfl, (blk_cell BK237.out 2).trans rfl, (blk_cell BK237.out 3).trans rfl, (blk_cell BK237.out 4).trans rfl, (blk_cell BK244.out 0).trans rfl, (blk_cell BK244.out 1).trans rfl, (blk_cell BK244.out 2).trans rfl, (blk_cell BK244.out 3).trans rfl, (blk_cell BK244.out 4).trans rfl, (blk_cell BK244.out 5).trans rfl⟩ (fun hHeld => ?_)
    clear hK K
    refine norm_ (a' := ?_) ?_ ?_
    rotate_left
    ·show Act.put _ (some 34) _ = _
     simp only [Act.put, xT, xZ, xS, i64_w, i32_w]
     rfl
    refine one_ (i := 11) (N := some 35) #[true, true, true, true, true, true, true, true, true, true, true, true, false, false, false, false, false, false, false, false, false, false, false, false, false] rfl rfl (one_of HT_.out (by kernel_rfl)) (by decide) (fun K hK => ?_)
    refine goes_ Tryd.func74 (by kernel_rfl) rfl #[.slice Ao35 t263.length co35, .slice Ao36 t266.length co36] (by rfl) rfl rfl (by first | rfl | (simp only [List.map_toArray, List.map_cons, List.map_nil, List.length_drop, List.length_take]; rfl)) ?_
    with_reducible refine (spec_l1Cmp.calls k _ _ t263 _ _ t266 t269 _ ?side1 ?side2 ?side3 ?side4 A30.out).mono ?_
    (case side1 => repeat (first | exact (Kd.R_reads' HO265.out).2.2 | (with_reducible refine Kd.C_alloc ?_ _) | (with_reducible refine Kd.C_drewN ?_ _) | (with_reducible refine Kd.C_drew ?_)))
    (case side2 => exact (Kd.R_reads' HO265.out).2.1)
    (case side3 => repeat (first | exact (Kd.R_reads' HO268.out).2.2 | (with_reducible refine Kd.C_alloc ?_ _) | (with_reducible refine Kd.C_drewN ?_ _) | (with_reducible refine Kd.C_drew ?_)))
    (case side4 => exact (Kd.R_reads' HO268.out).2.1)
    rintro e w' ⟨rfl, ⟨nd, rfl⟩⟩
    refine ⟨_, rfl, ?_⟩
    refine hK.out _ _ ⟨(blk_cell BK237.out 0).trans rfl, (blk_cell BK237.out 1).trans rfl, (blk_cell BK237.out 2).trans rfl, (blk_cell BK237.out 3).trans rfl, (blk_cell BK237.out 4).trans rfl, (blk_cell BK244.out 0).trans rfl, (blk_cell BK244.out 1).trans rfl, (blk_cell BK244.out 2).trans rfl, (blk_cell BK244.out 3).trans rfl, (blk_cell BK244.out 4).trans rfl, (blk_cell BK244.out 5).trans rfl⟩ (fun hHeld => ?_)
    clear hK K
    refine norm_ (a' := ?_) ?_ ?_
    rotate_left
    ·show Act.put _ (some 35) _ = _
     simp only [Act.put, xT, xZ, xS, i64_w, i32_w]
     rfl
    refine pure_ (i := 12) (N := some 36) (v := ?_) (a' := ?_) #[true, true, true, true, true, true, true, true, true, true, true, true, true, false, false, false, false, false, false, false, false, false, false, false, false] rfl rfl (any_of HT_.out (by kernel_rfl)) (fun _ _ _ h => h) (Or.inl ⟨by rfl, ?_⟩) ?_ ?_
    rotate_left
    ·intro w'
     go_simp
     with_reducible rfl
    rotate_left
    ·simp only [Act.put, xT, xZ, xS, i64_w, i32_w]
     rfl
    refine pure_ (i := 13) (N := some 37) (v := ?_) (a' := ?_) #[true, true, true, true, true, true, true, true, true, true, true, true, true, true, false, false, false, false, false, false, false, false, false, false, false] rfl rfl (any_of HT_.out (by kernel_rfl)) (fun _ _ _ h => h) (Or.inl ⟨by rfl, ?_⟩) ?_ ?_
    rotate_left
    ·intro w'
     go_simp
     with_reducible rfl
    rotate_left
    ·simp only [Act.put, xT, xZ, xS, i64_w, i32_w]
     rfl
    refine pure_ (i := 14) (N := some 38) (v := ?_) (a' := ?_) #[true, true, true, true, true, true, true, true, true, true, true, true, true, true, true, false, false, false, false, false, false, false, false, false, false] rfl rfl (any_of HT_.out (by kernel_rfl)) (fun _ _ _ h => h) (Or.inl ⟨by rfl, ?_⟩) ?_ ?_
    rotate_left
    ·intro w'
     go_simp
     with_reducible rfl
    rotate_left
    ·simp only [Act.put, xT, xZ, xS, i64_w, i32_w]
     rfl
    refine pure_ (i := 15) (N := some 39) (v := ?_) (a' := ?_) #[true, true, true, true, true, true, true, true, true, true, true, true, true, true, true, true, false, false, false, false, false, false, false, false, false] rfl rfl (any_of HT_.out (by kernel_rfl)) (fun _ _ _ h => h) (Or.inl ⟨by rfl, ?_⟩) ?_ ?_
    rotate_left
    ·intro w'
     go_simp
     with_reducible rfl
    rotate_left
    ·simp only [Act.put, xT, xZ, xS, i64_w, i32_w]
     rfl
    refine pure_ (i := 17) (N := some 41) (v := ?_) (a' := ?_) #[true, true, true, true, true, true, true, true, true, true, true, true, true, true, true, true, false, true, false, false, false, false, false, false, false] rfl rfl (any_of HT_.out (by kernel_rfl)) (fun _ _ _ h => h) (Or.inl ⟨by rfl, ?_⟩) ?_ ?_
    rotate_left
    ·intro w'
     go_simp
     with_reducible rfl
    rotate_left
    ·simp only [Act.put, xT, xZ, xS, i64_w, i32_w]
     rfl
    refine pure_ (i := 19) (N := some 43) (v := ?_) (a' := ?_) #[true, true, true, true, true, true, true, true, true, true, true, true, true, true, true, true, false, true, false, true, false, false, false, false, false] rfl rfl (any_of HT_.out (by kernel_rfl)) (fun _ _ _ h => h) (Or.inl ⟨by rfl, ?_⟩) ?_ ?_
    rotate_left
    ·intro w'
     go_simp
     with_reducible rfl
    rotate_left
    ·simp only [Act.put, xT, xZ, xS, i64_w, i32_w]
     rfl
    refine take_ (i := 16) (N := some 40) (v := ?_) (a' := ?_) #[true, true, true, true, true, true, true, true, true, true, true, true, true, true, true, true, true, true, false, true, false, false, false, false, false] rfl rfl (take_ofW HT_.out HW_.out (by kernel_rfl)) (fun _ _ _ h => h) (Or.inl ⟨by rfl, ?_⟩) hHeld ?_ ?_
    rotate_left
    ·rintro w' ⟨s0, s1, s2, s3, s4, s5, s6, s7, s8, s9, s10⟩
     go_simp
     with_reducible rfl
    rotate_left
    ·simp only [Act.put, xT, xZ, xS, i64_w, i32_w]
     rfl
    refine take_ (i := 18) (N := some 42) (v := ?_) (a' := ?_) #[true, true, true, true, true, true, true, true, true, true, true, true, true, true, true, true, true, true, true, true, false, false, false, false, false] rfl rfl (take_ofW HT_.out HW_.out (by kernel_rfl)) (fun _ _ _ h => h) (Or.inl ⟨by rfl, ?_⟩) hHeld ?_ ?_
    rotate_left
    ·rintro w' ⟨s0, s1, s2, s3, s4, s5, s6, s7, s8, s9, s10⟩
     go_simp
     with_reducible rfl
    rotate_left
    ·simp only [Act.put, xT, xZ, xS, i64_w, i32_w]
     rfl
    refine take_ (i := 20) (N := some 44) (v := ?_) (a' := ?_) #[true, true, true, true, true, true, true, true, true, true, true, true, true, true, true, true, true, true, true, true, true, false, false, false, false] rfl rfl (take_ofW HT_.out HW_.out (by kernel_rfl)) (fun _ _ _ h => h) (Or.inl ⟨by rfl, ?_⟩) hHeld ?_ ?_
    rotate_left
    ·rintro w' ⟨s0, s1, s2, s3, s4, s5, s6, s7, s8, s9, s10⟩
     go_simp
     with_reducible rfl
    rotate_left
    ·simp only [Act.put, xT, xZ, xS, i64_w, i32_w]
     rfl
    refine pure_ (i := 21) (N := some 45) (v := ?_) (a' := ?_) #[true, true, true, true, true, true, true, true, true, true, true, true, true, true, true, true, true, true, true, true, true, true, false, false, false] rfl rfl (any_of HT_.out (by kernel_rfl)) (fun _ _ _ h => h) (Or.inl ⟨by rfl, ?_⟩) ?_ ?_
    rotate_left
    ·intro w'
     go_simp
     with_reducible rfl
    rotate_left
    ·simp only [Act.put, xT, xZ, xS, i64_w, i32_w]
     rfl
    refine pure_ (i := 22) (N := some 46) (v := ?_) (a' := ?_) #[true, true, true, true, true, true, true, true, true, true, true, true, true, true, true, true, true, true, true, true, true, true, true, false, false] rfl rfl (any_of HT_.out (by kernel_rfl)) (fun _ _ _ h => h) (Or.inl ⟨by rfl, ?_⟩) ?_ ?_
    rotate_left
    ·intro w'
     go_simp
     with_reducible rfl
    rotate_left
    ·simp only [Act.put, xT, xZ, xS, i64_w, i32_w]
     rfl
    refine pure_ (i := 23) (N := some 47) (v := ?_) (a' := ?_) #[true, true, true, true, true, true, true, true, true, true, true, true, true, true, true, true, true, true, true, true, true, true, true, true, false] rfl rfl (any_of HT_.out (by kernel_rfl)) (fun _ _ _ h => h) (Or.inl ⟨by rfl, ?_⟩) ?_ ?_
    rotate_left
    ·intro w'
     go_simp
     with_reducible rfl
    rotate_left
    ·simp only [Act.put, xT, xZ, xS, i64_w, i32_w]
     rfl
    refine pure_ (i := 24) (N := some 48) (v := ?_) (a' := ?_) #[true, true, true, true, true, true, true, true, true, true, true, true, true, true, true, true, true, true, true, true, true, true, true, true, true] rfl rfl (any_of HT_.out (by kernel_rfl)) (fun _ _ _ h => h) (Or.inl ⟨by rfl, ?_⟩) ?_ ?_
    rotate_left
    ·intro w'
     go_simp
     with_reducible rfl
    rotate_left
    ·simp only [Act.put, xT, xZ, xS, i64_w, i32_w]
     rfl
    refine done_ (done_of HT_.out (by kernel_rfl)) ?_
    try go_wp2
    go_meet
    case rel => exact ⟨_, (decide (a1_4 > (wrap64 ((wrap64 (t239 - t238)) + 1)))), (by first | rfl | (simp; done) | (simp [*]; done)), H', ⟨by first | omega | exact Nat.le_refl _⟩, ⟨by (with_reducible repeat (first | apply Kd.R_alloc | apply Kd.R_drewN | apply Kd.R_drew)); exact Kd.R_mono HO250.out (fun _ hk => ⟨hk.1.1.1.1.2, hk.1.1.2⟩)⟩, ⟨by (with_reducible repeat (first | apply Kd.R_alloc | apply Kd.R_drewN | apply Kd.R_drew)); exact Kd.R_mono HO256.out (fun _ hk => ⟨hk.1.1.1.1.1.2, hk.1.1.2⟩)⟩, ⟨by (with_reducible repeat (first | apply Kd.R_alloc | apply Kd.R_drewN | apply Kd.R_drew)); exact Kd.R_mono HO262.out (fun _ hk => ⟨hk.1.1.1.1.1.2, hk.1.1.1.2⟩)⟩, ⟨by (with_reducible repeat (first | apply zN | apply zD | apply zA)); exact BK237.out⟩, ⟨by (with_reducible repeat (first | apply zN | apply zD | apply zA)); exact BK244.out⟩, ⟨by repeat (first | (with_reducible first | exact HB.out | apply yA | apply yN | apply yD | refine below_set ?_ GE237.out | refine below_set ?_ GE244.out) | exact HB.out)⟩⟩
   ·rw [if_neg c31] at H
    have c31b0 : (t269 == 0) = false := beq_eq_false_iff_ne.mpr c31
    have c31b1 : (t269 != 0) = true := bne_iff_ne.mpr c31
    have H' := zM H
    clear H
    try go_wp2
    have n0_ := zM (Kd.R_drew HO247.out)
    have n1_ := zM (Kd.R_drew HO250.out)
    have n2_ := zM (Kd.R_drew HO253.out)
    have n3_ := zM (Kd.R_drew HO256.out)
    have n4_ := zM (Kd.R_drew HO259.out)
    have n5_ := zM (Kd.R_drew HO262.out)
    have n6_ := zM (zD BK237.out)
    have n7_ := zM (zD BK244.out)
    have n8_ := zM (yD HB.out)
    clear HO247
    clear HO250
    clear HO253
    clear HO256
    clear HO259
    clear HO262
    clear BK237
    clear BK244
    clear HB
    have HO247 := n0_
    have HO250 := n1_
    have HO253 := n2_
    have HO256 := n3_
    have HO259 := n4_
    have HO262 := n5_
    have BK237 := n6_
    have BK244 := n7_
    have HB := n8_
    clear n0_ n1_ n2_ n3_ n4_ n5_ n6_ n7_ n8_
    refine start_ (n := 25) (S := fun w' => w'.cell? ⟨gb237, 0, none⟩ = some (.int .i64 a1_0) ∧ w'.cell? ⟨gb237, 1, none⟩ = some (.bool a1_1) ∧ w'.cell? ⟨gb237, 2, none⟩ = some (.int .u64 a1_2) ∧ w'.cell? ⟨gb237, 3, none⟩ = some (.int .u64 a1_3) ∧ w'.cell? ⟨gb237, 4, none⟩ = some (.int .i64 a1_4) ∧ w'.cell? ⟨gb244, 0, none⟩ = some (.int .i64 t238) ∧ w'.cell? ⟨gb244, 1, none⟩ = some (.int .i64 t239) ∧ w'.cell? ⟨gb244, 2, none⟩ = some (.int .i64 t240) ∧ w'.cell? ⟨gb244, 3, none⟩ = some (.int .i64 t241) ∧ w'.cell? ⟨gb244, 4, none⟩ = some (.int .i64 t242) ∧ w'.cell? ⟨gb244, 5, none⟩ = some (.bool t243)) (ds := []) #[false, false, false, false, false, false, false, false, false, false, false, false, false, false, false, false, false, false, false, false, false, false, false, false, false] (by kernel_rfl) rfl rfl ⟨(blk_cell BK237.out 0).trans rfl, (blk_cell BK237.out 1).trans rfl, (blk_cell BK237.out 2).trans rfl, (blk_cell BK237.out 3).trans rfl, (blk_cell BK237.out 4).trans rfl, (blk_cell BK244.out 0).trans rfl, (blk_cell BK244.out 1).trans rfl, (blk_cell BK244.out 2).trans rfl, (blk_cell BK244.out 3).trans rfl, (blk_cell BK244.out 4).trans rfl, (blk_cell BK244.out 5).trans rfl⟩ (fun hHeld => ?_); refine with_tabW spec_l2Span.tab5 spec_l2Span.bits5 (fun HT_ HW_ => ?_)
    generalize w26.drew = w37 at HO247 HO250 HO253 HO256 HO259 HO262 BK237 BK244 HB hHeld ⊢
    refine pure_ (i := 0) (N := some 24) (v := ?_) (a' := ?_) #[true, false, false, false, false, false, false, false, false, false, false, false, false, false, false, false, false, false, false, false, false, false, false, false, false] rfl rfl (any_of HT_.out (by kernel_rfl)) (fun _ _ _ h => h) (Or.inl ⟨by rfl, ?_⟩) ?_ ?_
    rotate_left
    ·intro w'
     go_simp
     with_reducible rfl
    rotate_left
    ·simp only [Act.put, xT, xZ, xS, i64_w, i32_w]
     rfl
    refine take_ (i := 1) (N := some 25) (v := ?_) (a' := ?_) #[true, true, false, false, false, false, false, false, false, false, false, false, false, false, false, false, false, false, false, false, false, false, false, false, false] rfl rfl (take_ofW HT_.out HW_.out (by kernel_rfl)) (fun _ _ _ h => h) (Or.inl ⟨by rfl, ?_⟩) hHeld ?_ ?_
    rotate_left
    ·rintro w' ⟨s0, s1, s2, s3, s4, s5, s6, s7, s8, s9, s10⟩
     go_simp
     with_reducible rfl
    rotate_left
    ·simp only [Act.put, xT, xZ, xS, i64_w, i32_w]
     rfl
    refine pure_ (i := 2) (N := some 26) (v := ?_) (a' := ?_) #[true, true, true, false, false, false, false, false, false, false, false, false, false, false, false, false, false, false, false, false, false, false, false, false, false] rfl rfl (any_of HT_.out (by kernel_rfl)) (fun _ _ _ h => h) (Or.inl ⟨by rfl, ?_⟩) ?_ ?_
    rotate_left
    ·intro w'
     go_simp
     with_reducible rfl
    rotate_left
    ·simp only [Act.put, xT, xZ, xS, i64_w, i32_w]
     rfl
    refine pure_ (i := 3) (N := some 27) (v := ?_) (a' := ?_) #[true, true, true, true, false, false, false, false, false, false, false, false, false, false, false, false, false, false, false, false, false, false, false, false, false] rfl rfl (any_of HT_.out (by kernel_rfl)) (fun _ _ _ h => h) (Or.inl ⟨by rfl, ?_⟩) ?_ ?_
    rotate_left
    ·intro w'
     go_simp
     with_reducible rfl
    rotate_left
    ·simp only [Act.put, xT, xZ, xS, i64_w, i32_w]
     rfl
    refine pure_ (i := 4) (N := some 28) (v := ?_) (a' := ?_) #[true, true, true, true, true, false, false, false, false, false, false, false, false, false, false, false, false, false, false, false, false, false, false, false, false] rfl rfl (any_of HT_.out (by kernel_rfl)) (fun _ _ _ h => h) (Or.inl ⟨by rfl, ?_⟩) ?_ ?_
    rotate_left
    ·intro w'
     go_simp
     with_reducible rfl
    rotate_left
    ·simp only [Act.put, xT, xZ, xS, i64_w, i32_w]
     rfl
    refine pure_ (i := 7) (N := some 31) (v := ?_) (a' := ?_) #[true, true, true, true, true, false, false, true, false, false, false, false, false, false, false, false, false, false, false, false, false, false, false, false, false] rfl rfl (any_of HT_.out (by kernel_rfl)) (fun _ _ _ h => h) (Or.inl ⟨by rfl, ?_⟩) ?_ ?_
    rotate_left
    ·intro w'
     go_simp
     with_reducible rfl
    rotate_left
    ·simp only [Act.put, xT, xZ, xS, i64_w, i32_w]
     rfl
    refine take_ (i := 5) (N := some 29) (v := ?_) (a' := ?_) #[true, true, true, true, true, true, false, true, false, false, false, false, false, false, false, false, false, false, false, false, false, false, false, false, false] rfl rfl (take_ofW HT_.out HW_.out (by kernel_rfl)) (fun _ _ _ h => h) (Or.inl ⟨by rfl, ?_⟩) hHeld ?_ ?_
    rotate_left
    ·rintro w' ⟨s0, s1, s2, s3, s4, s5, s6, s7, s8, s9, s10⟩
     go_simp
     with_reducible rfl
    rotate_left
    ·simp only [Act.put, xT, xZ, xS, i64_w, i32_w]
     rfl
    refine take_ (i := 8) (N := some 32) (v := ?_) (a' := ?_) #[true, true, true, true, true, true, false, true, true, false, false, false, false, false, false, false, false, false, false, false, false, false, false, false, false] rfl rfl (take_ofW HT_.out HW_.out (by kernel_rfl)) (fun _ _ _ h => h) (Or.inl ⟨by rfl, ?_⟩) hHeld ?_ ?_
    rotate_left
    ·rintro w' ⟨s0, s1, s2, s3, s4, s5, s6, s7, s8, s9, s10⟩
     go_simp
     with_reducible rfl
    rotate_left
    ·simp only [Act.put, xT, xZ, xS, i64_w, i32_w]
     rfl
    refine pure_ (i := 9) (N := some 33) (v := ?_) (a' := ?_) #[true, true, true, true, true, true, false, true, true, true, false, false, false, false, false, false, false, false, false, false, false, false, false, false, false] rfl rfl (any_of HT_.out (by kernel_rfl)) (fun _ _ _ h => h) (Or.inl ⟨by rfl, ?_⟩) ?_ ?_
    rotate_left
    ·intro w'
     go_simp
     with_reducible rfl
    rotate_left
    ·simp only [Act.put, xT, xZ, xS, i64_w, i32_w]
     rfl
    refine one_ (i := 6) (N := some 30) #[true, true, true, true, true, true, true, true, true, true, false, false, false, false, false, false, false, false, false, false, false, false, false, false, false] rfl rfl (one_of HT_.out (by kernel_rfl)) (by decide) (fun K hK => ?_)
    refine goes_ Tryd.func58 (by kernel_rfl) rfl #[.agg #[.int .u64 a1_2, .int .u64 a1_3]] (by rfl) rfl rfl (by first | rfl | (simp only [List.map_toArray, List.map_cons, List.map_nil, List.length_drop, List.length_take]; rfl)) ?_
    with_reducible refine (spec_l2Of.calls k a1_2 a1_3 t263 _ A28.out).mono ?_
    rintro e w38 ⟨v264, rfl, ho0, hb⟩
    refine ⟨_, rfl, ?_⟩
    have n0_ := zM (Kd.R_elder' (by exact HO247.out) (Kd.R_base ho0) hb)
    have n1_ := zM (Kd.R_elder' (by exact HO250.out) (Kd.R_base ho0) hb)
    have n2_ := zM (Kd.R_elder' (by exact HO253.out) (Kd.R_base ho0) hb)
    have n3_ := zM (Kd.R_elder' (by exact HO256.out) (Kd.R_base ho0) hb)
    have n4_ := zM (Kd.R_elder' (by exact HO259.out) (Kd.R_base ho0) hb)
    have n5_ := zM (Kd.R_elder' (by exact HO262.out) (Kd.R_base ho0) hb)
    have n6_ := zM (Kd.R_lower (Kd.R_new' (Kd.R_new' (Kd.R_new' (Kd.R_new' (Kd.R_new' (Kd.R_new' ho0 (Kd.R_lt (by exact HO247.out))) (Kd.R_lt (by exact HO250.out))) (Kd.R_lt (by exact HO253.out))) (Kd.R_lt (by exact HO256.out))) (Kd.R_lt (by exact HO259.out))) (Kd.R_lt (by exact HO262.out))) (below_size HB.out))
    have n7_ := zM (blk_below BK237.out hb)
    have n8_ := zM (blk_below BK244.out hb)
    have n9_ := zM (below_step HB.out hb)
    clear HO247
    clear HO250
    clear HO253
    clear HO256
    clear HO259
    clear HO262
    clear BK237
    clear BK244
    clear HB
    have HO247 := n0_
    have HO250 := n1_
    have HO253 := n2_
    have HO256 := n3_
    have HO259 := n4_
    have HO262 := n5_
    have HO265 := n6_
    have BK237 := n7_
    have BK244 := n8_
    have HB := n9_
    clear n0_ n1_ n2_ n3_ n4_ n5_ n6_ n7_ n8_ n9_
    try clear hb; try clear hb2; try clear hk; try clear hi
    (try clear ho0)
    refine hK.out _ _ ⟨(blk_cell BK237.out 0).trans rfl, (blk_cell BK237.out 1).trans rfl, (blk_cell BK237.out 2).trans rfl, (blk_cell BK237.out 3).trans rfl, (blk_cell BK237.out 4).trans rfl, (blk_cell BK244.out 0).trans rfl, (blk_cell BK244.out 1).trans rfl, (blk_cell BK244.out 2).trans rfl, (blk_cell BK244.out 3).trans rfl, (blk_cell BK244.out 4).trans rfl, (blk_cell BK244.out 5).trans rfl⟩ (fun hHeld => ?_)
    clear hK K
    refine norm_ (a' := ?_) ?_ ?_
    rotate_left
    ·show Act.put _ (some 30) _ = _
     simp only [Act.put, xT, xZ, xS, i64_w, i32_w]
     rfl
    refine one_ (i := 10) (N := some 34) #[true, true, true, true, true, true, true, true, true, true, true, false, false, false, false, false, false, false, false, false, false, false, false, false, false] rfl rfl (one_of HT_.out (by kernel_rfl)) (by decide) (fun K hK => ?_)
    refine goes_ Tryd.func64 (by kernel_rfl) rfl #[.int .i64 (wrap64 (t238 - 1))] (by rfl) rfl rfl (by first | rfl | (simp only [List.map_toArray, List.map_cons, List.map_nil, List.length_drop, List.length_take]; rfl)) ?_
    with_reducible refine (spec_l2Two.calls k (wrap64 (t238 - 1)) t266 _ A29.out).mono ?_
    rintro e w39 ⟨v267, rfl, ho0, hb⟩
    refine ⟨_, rfl, ?_⟩
    have n0_ := zM (Kd.R_elder' (by exact HO247.out) (Kd.R_base ho0) hb)
    have n1_ := zM (Kd.R_elder' (by exact HO250.out) (Kd.R_base ho0) hb)
    have n2_ := zM (Kd.R_elder' (by exact HO253.out) (Kd.R_base ho0) hb)
    have n3_ := zM (Kd.R_elder' (by exact HO256.out) (Kd.R_base ho0) hb)
    have n4_ := zM (Kd.R_elder' (by exact HO259.out) (Kd.R_base ho0) hb)
    have n5_ := zM (Kd.R_elder' (by exact HO262.out) (Kd.R_base ho0) hb)
    have n6_ := zM (Kd.R_elder' (by exact HO265.out) (Kd.R_base ho0) hb)
    have n7_ := zM (Kd.R_lower (Kd.R_new' (Kd.R_new' (Kd.R_new' (Kd.R_new' (Kd.R_new' (Kd.R_new' (Kd.R_new' ho0 (Kd.R_lt (by exact HO247.out))) (Kd.R_lt (by exact HO250.out))) (Kd.R_lt (by exact HO253.out))) (Kd.R_lt (by exact HO256.out))) (Kd.R_lt (by exact HO259.out))) (Kd.R_lt (by exact HO262.out))) (Kd.R_lt (by exact HO265.out))) (below_size HB.out))
    have n8_ := zM (blk_below BK237.out hb)
    have n9_ := zM (blk_below BK244.out hb)
    have n10_ := zM (below_step HB.out hb)
    clear HO247
    clear HO250
    clear HO253
    clear HO256
    clear HO259
    clear HO262
    clear HO265
    clear BK237
    clear BK244
    clear HB
    have HO247 := n0_
    have HO250 := n1_
    have HO253 := n2_
    have HO256 := n3_
    have HO259 := n4_
    have HO262 := n5_
    have HO265 := n6_
    have HO268 := n7_
    have BK237 := n8_
    have BK244 := n9_
    have HB := n10_
    clear n0_ n1_ n2_ n3_ n4_ n5_ n6_ n7_ n8_ n9_ n10_
    try clear hb; try clear hb2; try clear hk; try clear hi
    (try clear ho0)
    obtain ⟨Ao40, co40, eo40⟩ := Kd.R_slice HO265.out
    (first | subst eo40 | (injection eo40 with f1_ f2_ f3_; have f4_ := f1_.symm; have f5_ := f3_.symm; clear f1_ f2_ f3_; subst f4_; subst f5_))
    obtain ⟨Ao41, co41, eo41⟩ := Kd.R_slice HO268.out
    (first | subst eo41 | (injection eo41 with f1_ f2_ f3_; have f4_ := f1_.symm; have f5_ := f3_.symm; clear f1_ f2_ f3_; subst f4_; subst f5_))
    refine hK.out _ _ ⟨(blk_cell BK237.out 0).trans rfl, (blk_cell BK237.out 1).trans rfl, (blk_cell BK237.out 2).trans rfl, (blk_cell BK237.out 3).trans rfl, (blk_cell BK237.out 4).trans rfl, (blk_cell BK244.out 0).trans rfl, (blk_cell BK244.out 1).trans rfl, (blk_cell BK244.out 2).trans rfl, (blk_cell BK244.out 3).trans rfl, (blk_cell BK244.out 4).trans rfl, (blk_cell BK244.out 5).trans rfl⟩ (fun hHeld => ?_)
    clear hK K
    refine norm_ (a' := ?_) ?_ ?_
    rotate_left
    ·show Act.put _ (some 34) _ = _
     simp only [Act.put, xT, xZ, xS, i64_w, i32_w]
     rfl
    refine one_ (i := 11) (N := some 35) #[true, true, true, true, true, true, true, true, true, true, true, true, false, false, false, false, false, false, false, false, false, false, false, false, false] rfl rfl (one_of HT_.out (by kernel_rfl)) (by decide) (fun K hK => ?_)
    refine goes_ Tryd.func74 (by kernel_rfl) rfl #[.slice Ao40 t263.length co40, .slice Ao41 t266.length co41] (by rfl) rfl rfl (by first | rfl | (simp only [List.map_toArray, List.map_cons, List.map_nil, List.length_drop, List.length_take]; rfl)) ?_
    with_reducible refine (spec_l1Cmp.calls k _ _ t263 _ _ t266 t269 _ ?side1 ?side2 ?side3 ?side4 A30.out).mono ?_
    (case side1 => repeat (first | exact (Kd.R_reads' HO265.out).2.2 | (with_reducible refine Kd.C_alloc ?_ _) | (with_reducible refine Kd.C_drewN ?_ _) | (with_reducible refine Kd.C_drew ?_)))
    (case side2 => exact (Kd.R_reads' HO265.out).2.1)
    (case side3 => repeat (first | exact (Kd.R_reads' HO268.out).2.2 | (with_reducible refine Kd.C_alloc ?_ _) | (with_reducible refine Kd.C_drewN ?_ _) | (with_reducible refine Kd.C_drew ?_)))
    (case side4 => exact (Kd.R_reads' HO268.out).2.1)
    rintro e w' ⟨rfl, ⟨nd, rfl⟩⟩
    refine ⟨_, rfl, ?_⟩
    refine hK.out _ _ ⟨(blk_cell BK237.out 0).trans rfl, (blk_cell BK237.out 1).trans rfl, (blk_cell BK237.out 2).trans rfl, (blk_cell BK237.out 3).trans rfl, (blk_cell BK237.out 4).trans rfl, (blk_cell BK244.out 0).trans rfl, (blk_cell BK244.out 1).trans rfl, (blk_cell BK244.out 2).trans rfl, (blk_cell BK244.out 3).trans rfl, (blk_cell BK244.out 4).trans rfl, (blk_cell BK244.out 5).trans rfl⟩ (fun hHeld => ?_)
    clear hK K
    refine norm_ (a' := ?_) ?_ ?_
    rotate_left
    ·show Act.put _ (some 35) _ = _
     simp only [Act.put, xT, xZ, xS, i64_w, i32_w]
     rfl
    refine pure_ (i := 12) (N := some 36) (v := ?_) (a' := ?_) #[true, true, true, true, true, true, true, true, true, true, true, true, true, false, false, false, false, false, false, false, false, false, false, false, false] rfl rfl (any_of HT_.out (by kernel_rfl)) (fun _ _ _ h => h) (Or.inl ⟨by rfl, ?_⟩) ?_ ?_
    rotate_left
    ·intro w'
     go_simp
     with_reducible rfl
    rotate_left
    ·simp only [Act.put, xT, xZ, xS, i64_w, i32_w]
     rfl
    refine pure_ (i := 13) (N := some 37) (v := ?_) (a' := ?_) #[true, true, true, true, true, true, true, true, true, true, true, true, true, true, false, false, false, false, false, false, false, false, false, false, false] rfl rfl (any_of HT_.out (by kernel_rfl)) (fun _ _ _ h => h) (Or.inl ⟨by rfl, ?_⟩) ?_ ?_
    rotate_left
    ·intro w'
     go_simp
     with_reducible rfl
    rotate_left
    ·simp only [Act.put, xT, xZ, xS, i64_w, i32_w]
     rfl
    refine pure_ (i := 14) (N := some 38) (v := ?_) (a' := ?_) #[true, true, true, true, true, true, true, true, true, true, true, true, true, true, true, false, false, false, false, false, false, false, false, false, false] rfl rfl (any_of HT_.out (by kernel_rfl)) (fun _ _ _ h => h) (Or.inl ⟨by rfl, ?_⟩) ?_ ?_
    rotate_left
    ·intro w'
     go_simp
     with_reducible rfl
    rotate_left
    ·simp only [Act.put, xT, xZ, xS, i64_w, i32_w]
     rfl
    refine pure_ (i := 15) (N := some 39) (v := undef) (a' := ?_) #[true, true, true, true, true, true, true, true, true, true, true, true, true, true, true, true, false, false, false, false, false, false, false, false, false] rfl rfl (any_of HT_.out (by kernel_rfl)) (fun _ _ _ h => h) (Or.inr ⟨by rfl, rfl⟩) ?_ ?_
    rotate_left
    ·simp only [Act.put, xT, xZ, xS, i64_w, i32_w]
     rfl
    refine pure_ (i := 16) (N := some 40) (v := undef) (a' := ?_) #[true, true, true, true, true, true, true, true, true, true, true, true, true, true, true, true, true, false, false, false, false, false, false, false, false] rfl rfl (any_of HT_.out (by kernel_rfl)) (fun _ _ _ h => h) (Or.inr ⟨by rfl, rfl⟩) ?_ ?_
    rotate_left
    ·simp only [Act.put, xT, xZ, xS, i64_w, i32_w]
     rfl
    refine pure_ (i := 17) (N := some 41) (v := undef) (a' := ?_) #[true, true, true, true, true, true, true, true, true, true, true, true, true, true, true, true, true, true, false, false, false, false, false, false, false] rfl rfl (any_of HT_.out (by kernel_rfl)) (fun _ _ _ h => h) (Or.inr ⟨by rfl, rfl⟩) ?_ ?_
    rotate_left
    ·simp only [Act.put, xT, xZ, xS, i64_w, i32_w]
     rfl
    refine pure_ (i := 18) (N := some 42) (v := undef) (a' := ?_) #[true, true, true, true, true, true, true, true, true, true, true, true, true, true, true, true, true, true, true, false, false, false, false, false, false] rfl rfl (any_of HT_.out (by kernel_rfl)) (fun _ _ _ h => h) (Or.inr ⟨by rfl, rfl⟩) ?_ ?_
    rotate_left
    ·simp only [Act.put, xT, xZ, xS, i64_w, i32_w]
     rfl
    refine pure_ (i := 19) (N := some 43) (v := undef) (a' := ?_) #[true, true, true, true, true, true, true, true, true, true, true, true, true, true, true, true, true, true, true, true, false, false, false, false, false] rfl rfl (any_of HT_.out (by kernel_rfl)) (fun _ _ _ h => h) (Or.inr ⟨by rfl, rfl⟩) ?_ ?_
    rotate_left
    ·simp only [Act.put, xT, xZ, xS, i64_w, i32_w]
     rfl
    refine pure_ (i := 20) (N := some 44) (v := undef) (a' := ?_) #[true, true, true, true, true, true, true, true, true, true, true, true, true, true, true, true, true, true, true, true, true, false, false, false, false] rfl rfl (any_of HT_.out (by kernel_rfl)) (fun _ _ _ h => h) (Or.inr ⟨by rfl, rfl⟩) ?_ ?_
    rotate_left
    ·simp only [Act.put, xT, xZ, xS, i64_w, i32_w]
     rfl
    refine pure_ (i := 21) (N := some 45) (v := undef) (a' := ?_) #[true, true, true, true, true, true, true, true, true, true, true, true, true, true, true, true, true, true, true, true, true, true, false, false, false] rfl rfl (any_of HT_.out (by kernel_rfl)) (fun _ _ _ h => h) (Or.inr ⟨by rfl, rfl⟩) ?_ ?_
    rotate_left
    ·simp only [Act.put, xT, xZ, xS, i64_w, i32_w]
     rfl
    refine pure_ (i := 22) (N := some 46) (v := undef) (a' := ?_) #[true, true, true, true, true, true, true, true, true, true, true, true, true, true, true, true, true, true, true, true, true, true, true, false, false] rfl rfl (any_of HT_.out (by kernel_rfl)) (fun _ _ _ h => h) (Or.inr ⟨by rfl, rfl⟩) ?_ ?_
    rotate_left
    ·simp only [Act.put, xT, xZ, xS, i64_w, i32_w]
     rfl
    refine pure_ (i := 23) (N := some 47) (v := undef) (a' := ?_) #[true, true, true, true, true, true, true, true, true, true, true, true, true, true, true, true, true, true, true, true, true, true, true, true, false] rfl rfl (any_of HT_.out (by kernel_rfl)) (fun _ _ _ h => h) (Or.inr ⟨by rfl, rfl⟩) ?_ ?_
    rotate_left
    ·simp only [Act.put, xT, xZ, xS, i64_w, i32_w]
     rfl
    refine pure_ (i := 24) (N := some 48) (v := ?_) (a' := ?_) #[true, true, true, true, true, true, true, true, true, true, true, true, true, true, true, true, true, true, true, true, true, true, true, true, true] rfl rfl (any_of HT_.out (by kernel_rfl)) (fun _ _ _ h => h) (Or.inl ⟨by rfl, ?_⟩) ?_ ?_
    rotate_left
    ·intro w'
     go_simp
     with_reducible rfl
    rotate_left
    ·simp only [Act.put, xT, xZ, xS, i64_w, i32_w]
     rfl
    refine done_ (done_of HT_.out (by kernel_rfl)) ?_
    try go_wp2
    go_meet
    case rel => exact ⟨_, (false), (by first | rfl | (simp; done) | (simp [*]; done)), H', ⟨by first | omega | exact Nat.le_refl _⟩, ⟨by (with_reducible repeat (first | apply Kd.R_alloc | apply Kd.R_drewN | apply Kd.R_drew)); exact Kd.R_mono HO250.out (fun _ hk => ⟨hk.1.1.1.1.2, hk.1.1.2⟩)⟩, ⟨by (with_reducible repeat (first | apply Kd.R_alloc | apply Kd.R_drewN | apply Kd.R_drew)); exact Kd.R_mono HO256.out (fun _ hk => ⟨hk.1.1.1.1.1.2, hk.1.1.2⟩)⟩, ⟨by (with_reducible repeat (first | apply Kd.R_alloc | apply Kd.R_drewN | apply Kd.R_drew)); exact Kd.R_mono HO262.out (fun _ hk => ⟨hk.1.1.1.1.1.2, hk.1.1.1.2⟩)⟩, ⟨by (with_reducible repeat (first | apply zN | apply zD | apply zA)); exact BK237.out⟩, ⟨by (with_reducible repeat (first | apply zN | apply zD | apply zA)); exact BK244.out⟩, ⟨by repeat (first | (with_reducible first | exact HB.out | apply yA | apply yN | apply yD | refine below_set ?_ GE237.out | refine below_set ?_ GE244.out) | exact HB.out)⟩⟩
  ·rw [if_neg c27] at H
   have c27b0 : (a1_0 == 3) = false := beq_eq_false_iff_ne.mpr c27
   have c27b1 : (a1_0 != 3) = true := bne_iff_ne.mpr c27
   (first | rw [c27b0] | (simp only [i64_w, i32_w]; rw [c27b0]) | rw [c27b1] | (simp only [c27b1]) | skip)
   have H' := zM H
   clear H
   try go_wp2
   have n0_ := zM (Kd.R_drew HO247.out)
   have n1_ := zM (Kd.R_drew HO250.out)
   have n2_ := zM (Kd.R_drew HO253.out)
   have n3_ := zM (Kd.R_drew HO256.out)
   have n4_ := zM (Kd.R_drew HO259.out)
   have n5_ := zM (Kd.R_drew HO262.out)
   have n6_ := zM (zD BK237.out)
   have n7_ := zM (zD BK244.out)
   have n8_ := zM (yD HB.out)
   clear HO247
   clear HO250
   clear HO253
   clear HO256
   clear HO259
   clear HO262
   clear BK237
   clear BK244
   clear HB
   have HO247 := n0_
   have HO250 := n1_
   have HO253 := n2_
   have HO256 := n3_
   have HO259 := n4_
   have HO262 := n5_
   have BK237 := n6_
   have BK244 := n7_
   have HB := n8_
   clear n0_ n1_ n2_ n3_ n4_ n5_ n6_ n7_ n8_
   refine start_ (n := 25) (S := fun w' => w'.cell? ⟨gb237, 0, none⟩ = some (.int .i64 a1_0) ∧ w'.cell? ⟨gb237, 1, none⟩ = some (.bool a1_1) ∧ w'.cell? ⟨gb237, 2, none⟩ = some (.int .u64 a1_2) ∧ w'.cell? ⟨gb237, 3, none⟩ = some (.int .u64 a1_3) ∧ w'.cell? ⟨gb237, 4, none⟩ = some (.int .i64 a1_4)) (ds := []) #[false, false, false, false, false, false, false, false, false, false, false, false, false, false, false, false, false, false, false, false, false, false, false, false, false] (by kernel_rfl) rfl rfl ⟨(blk_cell BK237.out 0).trans rfl, (blk_cell BK237.out 1).trans rfl, (blk_cell BK237.out 2).trans rfl, (blk_cell BK237.out 3).trans rfl, (blk_cell BK237.out 4).trans rfl⟩ (fun hHeld => ?_); refine with_tabW spec_l2Span.tab5 spec_l2Span.bits5 (fun HT_ HW_ => ?_)
   generalize w26.drew = w42 at HO247 HO250 HO253 HO256 HO259 HO262 BK237 BK244 HB hHeld ⊢
   refine pure_ (i := 0) (N := some 24) (v := ?_) (a' := ?_) #[true, false, false, false, false, false, false, false, false, false, false, false, false, false, false, false, false, false, false, false, false, false, false, false, false] rfl rfl (any_of HT_.out (by kernel_rfl)) (fun _ _ _ h => h) (Or.inl ⟨by rfl, ?_⟩) ?_ ?_
   rotate_left
   ·intro w'
    go_simp
    with_reducible rfl
   rotate_left
   ·simp only [Act.put, xT, xZ, xS, i64_w, i32_w]
    rfl
   refine take_ (i := 1) (N := some 25) (v := ?_) (a' := ?_) #[true, true, false, false, false, false, false, false, false, false, false, false, false, false, false, false, false, false, false, false, false, false, false, false, false] rfl rfl (take_ofW HT_.out HW_.out (by kernel_rfl)) (fun _ _ _ h => h) (Or.inl ⟨by rfl, ?_⟩) hHeld ?_ ?_
   rotate_left
   ·rintro w' ⟨s0, s1, s2, s3, s4⟩
    go_simp
    with_reducible rfl
   rotate_left
   ·simp only [Act.put, xT, xZ, xS, i64_w, i32_w]
    rfl
   refine pure_ (i := 2) (N := some 26) (v := ?_) (a' := ?_) #[true, true, true, false, false, false, false, false, false, false, false, false, false, false, false, false, false, false, false, false, false, false, false, false, false] rfl rfl (any_of HT_.out (by kernel_rfl)) (fun _ _ _ h => h) (Or.inl ⟨by rfl, ?_⟩) ?_ ?_
   rotate_left
   ·intro w'
    go_simp
    with_reducible rfl
   rotate_left
   ·simp only [Act.put, xT, xZ, xS, i64_w, i32_w]
    rfl
   refine pure_ (i := 3) (N := some 27) (v := ?_) (a' := ?_) #[true, true, true, true, false, false, false, false, false, false, false, false, false, false, false, false, false, false, false, false, false, false, false, false, false] rfl rfl (any_of HT_.out (by kernel_rfl)) (fun _ _ _ h => h) (Or.inl ⟨by rfl, ?_⟩) ?_ ?_
   rotate_left
   ·intro w'
    go_simp
    with_reducible rfl
   rotate_left
   ·simp only [Act.put, xT, xZ, xS, i64_w, i32_w]
    rfl
   refine pure_ (i := 4) (N := some 28) (v := undef) (a' := ?_) #[true, true, true, true, true, false, false, false, false, false, false, false, false, false, false, false, false, false, false, false, false, false, false, false, false] rfl rfl (any_of HT_.out (by kernel_rfl)) (fun _ _ _ h => h) (Or.inr ⟨by rfl, rfl⟩) ?_ ?_
   rotate_left
   ·simp only [Act.put, xT, xZ, xS, i64_w, i32_w]
    rfl
   refine pure_ (i := 5) (N := some 29) (v := undef) (a' := ?_) #[true, true, true, true, true, true, false, false, false, false, false, false, false, false, false, false, false, false, false, false, false, false, false, false, false] rfl rfl (any_of HT_.out (by kernel_rfl)) (fun _ _ _ h => h) (Or.inr ⟨by rfl, rfl⟩) ?_ ?_
   rotate_left
   ·simp only [Act.put, xT, xZ, xS, i64_w, i32_w]
    rfl
   refine pure_ (i := 6) (N := some 30) (v := undef) (a' := ?_) #[true, true, true, true, true, true, true, false, false, false, false, false, false, false, false, false, false, false, false, false, false, false, false, false, false] rfl rfl (any_of HT_.out (by kernel_rfl)) (fun _ _ _ h => h) (Or.inr ⟨by rfl, rfl⟩) ?_ ?_
   rotate_left
   ·simp only [Act.put, xT, xZ, xS, i64_w, i32_w]
    rfl
   refine pure_ (i := 7) (N := some 31) (v := undef) (a' := ?_) #[true, true, true, true, true, true, true, true, false, false, false, false, false, false, false, false, false, false, false, false, false, false, false, false, false] rfl rfl (any_of HT_.out (by kernel_rfl)) (fun _ _ _ h => h) (Or.inr ⟨by rfl, rfl⟩) ?_ ?_
   rotate_left
   ·simp only [Act.put, xT, xZ, xS, i64_w, i32_w]
    rfl
   refine pure_ (i := 8) (N := some 32) (v := undef) (a' := ?_) #[true, true, true, true, true, true, true, true, true, false, false, false, false, false, false, false, false, false, false, false, false, false, false, false, false] rfl rfl (any_of HT_.out (by kernel_rfl)) (fun _ _ _ h => h) (Or.inr ⟨by rfl, rfl⟩) ?_ ?_
   rotate_left
   ·simp only [Act.put, xT, xZ, xS, i64_w, i32_w]
    rfl
   refine pure_ (i := 9) (N := some 33) (v := undef) (a' := ?_) #[true, true, true, true, true, true, true, true, true, true, false, false, false, false, false, false, false, false, false, false, false, false, false, false, false] rfl rfl (any_of HT_.out (by kernel_rfl)) (fun _ _ _ h => h) (Or.inr ⟨by rfl, rfl⟩) ?_ ?_
   rotate_left
   ·simp only [Act.put, xT, xZ, xS, i64_w, i32_w]
    rfl
   refine pure_ (i := 10) (N := some 34) (v := undef) (a' := ?_) #[true, true, true, true, true, true, true, true, true, true, true, false, false, false, false, false, false, false, false, false, false, false, false, false, false] rfl rfl (any_of HT_.out (by kernel_rfl)) (fun _ _ _ h => h) (Or.inr ⟨by rfl, rfl⟩) ?_ ?_
   rotate_left
   ·simp only [Act.put, xT, xZ, xS, i64_w, i32_w]
    rfl
   refine pure_ (i := 11) (N := some 35) (v := undef) (a' := ?_) #[true, true, true, true, true, true, true, true, true, true, true, true, false, false, false, false, false, false, false, false, false, false, false, false, false] rfl rfl (any_of HT_.out (by kernel_rfl)) (fun _ _ _ h => h) (Or.inr ⟨by rfl, rfl⟩) ?_ ?_
   rotate_left
   ·simp only [Act.put, xT, xZ, xS, i64_w, i32_w]
    rfl
   refine pure_ (i := 12) (N := some 36) (v := undef) (a' := ?_) #[true, true, true, true, true, true, true, true, true, true, true, true, true, false, false, false, false, false, false, false, false, false, false, false, false] rfl rfl (any_of HT_.out (by kernel_rfl)) (fun _ _ _ h => h) (Or.inr ⟨by rfl, rfl⟩) ?_ ?_
   rotate_left
   ·simp only [Act.put, xT, xZ, xS, i64_w, i32_w]
    rfl
   refine pure_ (i := 13) (N := some 37) (v := ?_) (a' := ?_) #[true, true, true, true, true, true, true, true, true, true, true, true, true, true, false, false, false, false, false, false, false, false, false, false, false] rfl rfl (any_of HT_.out (by kernel_rfl)) (fun _ _ _ h => h) (Or.inl ⟨by rfl, ?_⟩) ?_ ?_
   rotate_left
   ·intro w'
    go_simp
    with_reducible rfl
   rotate_left
   ·simp only [Act.put, xT, xZ, xS, i64_w, i32_w]
    rfl
   refine pure_ (i := 14) (N := some 38) (v := ?_) (a' := ?_) #[true, true, true, true, true, true, true, true, true, true, true, true, true, true, true, false, false, false, false, false, false, false, false, false, false] rfl rfl (any_of HT_.out (by kernel_rfl)) (fun _ _ _ h => h) (Or.inl ⟨by rfl, ?_⟩) ?_ ?_
   rotate_left
   ·intro w'
    go_simp
    with_reducible rfl
   rotate_left
   ·simp only [Act.put, xT, xZ, xS, i64_w, i32_w]
    rfl
   refine pure_ (i := 15) (N := some 39) (v := undef) (a' := ?_) #[true, true, true, true, true, true, true, true, true, true, true, true, true, true, true, true, false, false, false, false, false, false, false, false, false] rfl rfl (any_of HT_.out (by kernel_rfl)) (fun _ _ _ h => h) (Or.inr ⟨by rfl, rfl⟩) ?_ ?_
   rotate_left
   ·simp only [Act.put, xT, xZ, xS, i64_w, i32_w]
    rfl
   refine pure_ (i := 16) (N := some 40) (v := undef) (a' := ?_) #[true, true, true, true, true, true, true, true, true, true, true, true, true, true, true, true, true, false, false, false, false, false, false, false, false] rfl rfl (any_of HT_.out (by kernel_rfl)) (fun _ _ _ h => h) (Or.inr ⟨by rfl, rfl⟩) ?_ ?_
   rotate_left
   ·simp only [Act.put, xT, xZ, xS, i64_w, i32_w]
    rfl
   refine pure_ (i := 17) (N := some 41) (v := undef) (a' := ?_) #[true, true, true, true, true, true, true, true, true, true, true, true, true, true, true, true, true, true, false, false, false, false, false, false, false] rfl rfl (any_of HT_.out (by kernel_rfl)) (fun _ _ _ h => h) (Or.inr ⟨by rfl, rfl⟩) ?_ ?_
   rotate_left
   ·simp only [Act.put, xT, xZ, xS, i64_w, i32_w]
    rfl
   refine pure_ (i := 18) (N := some 42) (v := undef) (a' := ?_) #[true, true, true, true, true, true, true, true, true, true, true, true, true, true, true, true, true, true, true, false, false, false, false, false, false] rfl rfl (any_of HT_.out (by kernel_rfl)) (fun _ _ _ h => h) (Or.inr ⟨by rfl, rfl⟩) ?_ ?_
   rotate_left
   ·simp only [Act.put, xT, xZ, xS, i64_w, i32_w]
    rfl
   refine pure_ (i := 19) (N := some 43) (v := undef) (a' := ?_) #[true, true, true, true, true, true, true, true, true, true, true, true, true, true, true, true, true, true, true, true, false, false, false, false, false] rfl rfl (any_of HT_.out (by kernel_rfl)) (fun _ _ _ h => h) (Or.inr ⟨by rfl, rfl⟩) ?_ ?_
   rotate_left
   ·simp only [Act.put, xT, xZ, xS, i64_w, i32_w]
    rfl
   refine pure_ (i := 20) (N := some 44) (v := undef) (a' := ?_) #[true, true, true, true, true, true, true, true, true, true, true, true, true, true, true, true, true, true, true, true, true, false, false, false, false] rfl rfl (any_of HT_.out (by kernel_rfl)) (fun _ _ _ h => h) (Or.inr ⟨by rfl, rfl⟩) ?_ ?_
   rotate_left
   ·simp only [Act.put, xT, xZ, xS, i64_w, i32_w]
    rfl
   refine pure_ (i := 21) (N := some 45) (v := undef) (a' := ?_) #[true, true, true, true, true, true, true, true, true, true, true, true, true, true, true, true, true, true, true, true, true, true, false, false, false] rfl rfl (any_of HT_.out (by kernel_rfl)) (fun _ _ _ h => h) (Or.inr ⟨by rfl, rfl⟩) ?_ ?_
   rotate_left
   ·simp only [Act.put, xT, xZ, xS, i64_w, i32_w]
    rfl
   refine pure_ (i := 22) (N := some 46) (v := undef) (a' := ?_) #[true, true, true, true, true, true, true, true, true, true, true, true, true, true, true, true, true, true, true, true, true, true, true, false, false] rfl rfl (any_of HT_.out (by kernel_rfl)) (fun _ _ _ h => h) (Or.inr ⟨by rfl, rfl⟩) ?_ ?_
   rotate_left
   ·simp only [Act.put, xT, xZ, xS, i64_w, i32_w]
    rfl
   refine pure_ (i := 23) (N := some 47) (v := undef) (a' := ?_) #[true, true, true, true, true, true, true, true, true, true, true, true, true, true, true, true, true, true, true, true, true, true, true, true, false] rfl rfl (any_of HT_.out (by kernel_rfl)) (fun _ _ _ h => h) (Or.inr ⟨by rfl, rfl⟩) ?_ ?_
   rotate_left
   ·simp only [Act.put, xT, xZ, xS, i64_w, i32_w]
    rfl
   refine pure_ (i := 24) (N := some 48) (v := ?_) (a' := ?_) #[true, true, true, true, true, true, true, true, true, true, true, true, true, true, true, true, true, true, true, true, true, true, true, true, true] rfl rfl (any_of HT_.out (by kernel_rfl)) (fun _ _ _ h => h) (Or.inl ⟨by rfl, ?_⟩) ?_ ?_
   rotate_left
   ·intro w'
    go_simp
    with_reducible rfl
   rotate_left
   ·simp only [Act.put, xT, xZ, xS, i64_w, i32_w]
    rfl
   refine done_ (done_of HT_.out (by kernel_rfl)) ?_
   try go_wp2
   go_meet
   case rel => exact ⟨_, (false), (by first | rfl | (simp; done) | (simp [*]; done)), H', ⟨by first | omega | exact Nat.le_refl _⟩, ⟨by exact Kd.R_mono HO250.out (fun _ hk => ⟨hk.1.1.2, hk.2⟩)⟩, ⟨by exact Kd.R_mono HO256.out (fun _ hk => ⟨hk.1.1.1.2, hk.2⟩)⟩, ⟨by exact Kd.R_mono HO262.out (fun _ hk => ⟨hk.1.1.1.2, hk.1.2⟩)⟩, ⟨by exact BK237.out⟩, ⟨by exact BK244.out⟩, ⟨by repeat (first | (with_reducible first | exact HB.out | apply yA | apply yN | apply yD | refine below_set ?_ GE237.out | refine below_set ?_ GE244.out) | exact HB.out)⟩⟩
 case rest =>
  clear HC10
  obtain ⟨kq, x48_9, rfl, HA, HJ9, HO_8, HO_9, HO_10, BK237, BK244, HB⟩ := hcut
  cases kq with
  | zero => exact absurd HA.out (by simp [spec_l2Span.j0])
  | succ kj9 =>
   have H := HA.out
   clear HA
   simp only [spec_l2Span.j0] at H
   have HC43 := zM H
   clear H
   go_upto_if 48 with (fail)
   go_cut [10] (fun v10 wc => ∃ (kq : Nat) (x10_42 : List Int), Aside0 (spec_l2Span.j1 kq t254 x10_42 a1_0 a1_1 a1_2 a1_3 a1_4 = some (r1, r2, r3)) ∧ Aside0 (kq ≤ kj9) ∧ Aside0 (Kd.R (Kd.int .u64) 22 wc w.heap.size (fun k_ => some k_ ≠ (v10 : Value).ownBlock) v255 t254) ∧ Aside0 (Kd.R (Kd.int .u64) 22 wc w.heap.size (fun k_ => some k_ ≠ (v255 : Value).ownBlock) v10 x10_42) ∧ Aside0 (wc.heap[gb237]? = some (.cells #[.int .i64 a1_0, .bool a1_1, .int .u64 a1_2, .int .u64 a1_3, .int .i64 a1_4] 27 (0, 0))) ∧ Aside0 (wc.heap[gb244]? = some (.cells #[.int .i64 t238, .int .i64 t239, .int .i64 t240, .int .i64 t241, .int .i64 t242, .bool t243] 83 (0, 0))) ∧ Aside0 (Below w.heap.size w wc))
   case first =>
    have H := HC43.out
    clear HC43
    by_cases c44 : x48_9 = true
    ·subst c44
     have H1 : ((spec_l1Of.f 1).bind fun t270 => ((spec_l1Sub.f kj9 t248 t270).bind fun t273 => (spec_l2Span.j1 kj9 t254 t273 a1_0 a1_1 a1_2 a1_3 a1_4))) = some (r1, r2, r3) := by rw [if_pos rfl] at H; exact H
     clear H
     have H := H1
     clear H1
     replace H := Option.bind_eq_some_iff.mp H
     obtain ⟨t270, A450, H⟩ := H
     replace H : ((spec_l1Sub.f kj9 t248 t270).bind fun t273 => (spec_l2Span.j1 kj9 t254 t273 a1_0 a1_1 a1_2 a1_3 a1_4)) = some (r1, r2, r3) := H
     have A45 := zM A450
     clear A450
     replace H := Option.bind_eq_some_iff.mp H
     obtain ⟨t273, A460, H⟩ := H
     replace H : (spec_l2Span.j1 kj9 t254 t273 a1_0 a1_1 a1_2 a1_3 a1_4) = some (r1, r2, r3) := H
     have A46 := zM A460
     clear A460
     have H' := zM H
     clear H
     go_wp2_with (first | ((with_reducible refine gate_callee (f := 90) rfl ?_); refine goesL_ (some 50) rfl rfl Tryd.func90 (by kernel_rfl) rfl #[.int .u64 1] rfl (by first | rfl | (simp only [List.map_toArray, List.map_cons, List.map_nil, List.length_drop, List.length_take]; rfl)) ?_; (with_reducible refine (spec_l1Of.calls 1 t270 _ A45.out).mono ?_); rintro e w47 ⟨v271, rfl, ho0, hb⟩; refine ⟨_, rfl, ?_⟩; have n0_ := zM (Kd.R_elder' (by exact HO_8.out) (Kd.R_base ho0) hb); have n1_ := zM (Kd.R_elder' (by exact HO_9.out) (Kd.R_base ho0) hb); have n2_ := zM (Kd.R_elder' (by exact HO_10.out) (Kd.R_base ho0) hb); have n3_ := zM (Kd.R_lower (Kd.R_new' (Kd.R_new' (Kd.R_new' ho0 (Kd.R_lt (by exact HO_8.out))) (Kd.R_lt (by exact HO_9.out))) (Kd.R_lt (by exact HO_10.out))) (below_size HB.out)); have n4_ := zM (blk_below BK237.out hb); have n5_ := zM (blk_below BK244.out hb); have n6_ := zM (below_step HB.out hb); clear HO_8; clear HO_9; clear HO_10; clear BK237; clear BK244; clear HB; have HO_8 := n0_; have HO_9 := n1_; have HO_10 := n2_; have HO272 := n3_; have BK237 := n4_; have BK244 := n5_; have HB := n6_; clear n0_ n1_ n2_ n3_ n4_ n5_ n6_; (try clear hb); (try clear hb2); (try clear hk); (try clear hi); (try clear ho0); obtain ⟨Ao48, co48, eo48⟩ := Kd.R_slice HO272.out; subst eo48) | ((with_reducible refine gate_callee (f := 89) rfl ?_); refine goesL_ (some 51) rfl rfl Tryd.func89 (by kernel_rfl) rfl #[.slice Ao21 t248.length co21, .slice Ao48 t270.length co48] rfl (by first | rfl | (simp only [List.map_toArray, List.map_cons, List.map_nil, List.length_drop, List.length_take]; rfl)) ?_; (with_reducible refine (spec_l1Sub.calls kj9 _ _ t248 _ _ t270 t273 _ ?side1 ?side2 ?side3 ?side4 A46.out).mono ?_); (case side1 => repeat (first | exact (Kd.R_reads' HO_8.out).2.2 | (with_reducible refine Kd.C_alloc ?_ _) | (with_reducible refine Kd.C_drewN ?_ _) | (with_reducible refine Kd.C_drew ?_))); (case side2 => exact (Kd.R_reads' HO_8.out).2.1); (case side3 => repeat (first | exact (Kd.R_reads' HO272.out).2.2 | (with_reducible refine Kd.C_alloc ?_ _) | (with_reducible refine Kd.C_drewN ?_ _) | (with_reducible refine Kd.C_drew ?_))); (case side4 => exact (Kd.R_reads' HO272.out).2.1); rintro e w49 ⟨v274, rfl, ho0, hb⟩; refine ⟨_, rfl, ?_⟩; have n0_ := zM (Kd.R_elder' (by exact HO_8.out) (Kd.R_base ho0) hb); have n1_ := zM (Kd.R_elder' (by exact HO_9.out) (Kd.R_base ho0) hb); have n2_ := zM (Kd.R_elder' (by exact HO_10.out) (Kd.R_base ho0) hb); have n3_ := zM (Kd.R_elder' (by exact HO272.out) (Kd.R_base ho0) hb); have n4_ := zM (Kd.R_lower (Kd.R_new' (Kd.R_new' (Kd.R_new' (Kd.R_new' ho0 (Kd.R_lt (by exact HO_8.out))) (Kd.R_lt (by exact HO_9.out))) (Kd.R_lt (by exact HO_10.out))) (Kd.R_lt (by exact HO272.out))) (below_size HB.out)); have n5_ := zM (blk_below BK237.out hb); have n6_ := zM (blk_below BK244.out hb); have n7_ := zM (below_step HB.out hb); clear HO_8; clear HO_9; clear HO_10; clear HO272; clear BK237; clear BK244; clear HB; have HO_8 := n0_; have HO_9 := n1_; have HO_10 := n2_; have HO272 := n3_; have HO275 := n4_; have BK237 := n5_; have BK244 := n6_; have HB := n7_; clear n0_ n1_ n2_ n3_ n4_ n5_ n6_ n7_; (try clear hb); (try clear hb2); (try clear hk); (try clear hi); (try clear ho0)))
     go_meet
     case rel => exact ⟨_, (t273), H', ⟨by have := HJ9.out; first | omega | exact Nat.le_refl _⟩, ⟨by exact Kd.R_mono HO_9.out (fun _ hk => hk.2)⟩, ⟨by exact Kd.R_mono HO275.out (fun _ hk => hk.1.1.2)⟩, ⟨by exact BK237.out⟩, ⟨by exact BK244.out⟩, ⟨by repeat (first | (with_reducible first | exact HB.out | apply yA | apply yN | apply yD | refine below_set ?_ GE237.out | refine below_set ?_ GE244.out) | exact HB.out)⟩⟩
    ·replace c44 := Bool.eq_false_iff.mpr c44
     subst c44
     have H1 : (spec_l2Span.j1 kj9 t254 t260 a1_0 a1_1 a1_2 a1_3 a1_4) = some (r1, r2, r3) := by rw [if_neg (show ¬ (false = true) by decide)] at H; exact H
     clear H
     have H := H1
     clear H1
     have H' := zM H
     clear H
     go_wp2
     go_meet
     case rel => exact ⟨_, (t260), H', ⟨by have := HJ9.out; first | omega | exact Nat.le_refl _⟩, ⟨by exact Kd.R_mono HO_9.out (fun _ hk => hk.2)⟩, ⟨by exact Kd.R_mono HO_10.out (fun _ hk => hk.2)⟩, ⟨by exact BK237.out⟩, ⟨by exact BK244.out⟩, ⟨by repeat (first | (with_reducible first | exact HB.out | apply yA | apply yN | apply yD | refine below_set ?_ GE237.out | refine below_set ?_ GE244.out) | exact HB.out)⟩⟩
   case rest =>
    clear HC43
    obtain ⟨kq, x10_42, HA, HJ42, HO_9, HO_10, BK237, BK244, HB⟩ := hcut
    cases kq with
    | zero => exact absurd HA.out (by simp [spec_l2Span.j1])
    | succ kj42 =>
     have H := HA.out
     clear HA
     simp only [spec_l2Span.j1] at H
     by_cases c50 : (wrap64 (a1_4 - 2)) ≥ 0
     ·rw [if_pos c50] at H
      have c50b0 : decide (0 ≤ (wrap64 (a1_4 - 2))) = true := decide_eq_true c50
      clear c50
      replace H := Option.bind_eq_some_iff.mp H
      obtain ⟨t276, A510, H⟩ := H
      replace H : ((spec_l1Left.f kj42 t254 (wrap64 (a1_4 - 2))).bind fun t279 => ((spec_l1Of.f 1).bind fun t282 => (some (t276, t279, t282)))) = some (r1, r2, r3) := H
      have A51 := zM A510
      clear A510
      replace H := Option.bind_eq_some_iff.mp H
      obtain ⟨t279, A520, H⟩ := H
      replace H : ((spec_l1Of.f 1).bind fun t282 => (some (t276, t279, t282))) = some (r1, r2, r3) := H
      have A52 := zM A520
      clear A520
      replace H := Option.bind_eq_some_iff.mp H
      obtain ⟨t282, A530, H⟩ := H
      replace H : (some (t276, t279, t282)) = some (r1, r2, r3) := H
      have A53 := zM A530
      clear A530
      simp only [Option.some.injEq, Prod.mk.injEq] at H
      obtain ⟨rfl, rfl, rfl⟩ := H
      have hnb54 := NB237_244.out
      have hnc54 := NB244_237.out
      have hcz55_0 : wc.cell? ⟨gb237, 0, none⟩ = some (.int .i64 a1_0) := (blk_cell BK237.out 0).trans rfl
      have hcz55_1 : wc.cell? ⟨gb237, 1, none⟩ = some (.bool a1_1) := (blk_cell BK237.out 1).trans rfl
      have hcz55_2 : wc.cell? ⟨gb237, 2, none⟩ = some (.int .u64 a1_2) := (blk_cell BK237.out 2).trans rfl
      have hcz55_3 : wc.cell? ⟨gb237, 3, none⟩ = some (.int .u64 a1_3) := (blk_cell BK237.out 3).trans rfl
      have hcz55_4 : wc.cell? ⟨gb237, 4, none⟩ = some (.int .i64 a1_4) := (blk_cell BK237.out 4).trans rfl
      have hfz55_0 := blk_frozen BK237.out 0
      have hfz55_1 := blk_frozen BK237.out 1
      have hfz55_2 := blk_frozen BK237.out 2
      have hfz55_3 := blk_frozen BK237.out 3
      have hfz55_4 := blk_frozen BK237.out 4
      obtain ⟨Ao56, co56, eo56⟩ := Kd.R_slice HO_10.out
      subst eo56
      go_wp2_with (first | ((with_reducible refine gate_callee (f := 92) rfl ?_); refine goesL_ (some 59) rfl rfl Tryd.func92 (by kernel_rfl) rfl #[.slice Ao56 x10_42.length co56, .int .i64 (wrap64 (a1_4 - 2))] rfl (by first | rfl | (simp only [List.map_toArray, List.map_cons, List.map_nil, List.length_drop, List.length_take]; rfl)) ?_; (with_reducible refine (spec_l1Left.calls kj42 _ _ x10_42 (wrap64 (a1_4 - 2)) t276 _ ?side1 ?side2 A51.out).mono ?_); (case side1 => repeat (first | exact (Kd.R_reads' HO_10.out).2.2 | (with_reducible refine Kd.C_alloc ?_ _) | (with_reducible refine Kd.C_drewN ?_ _) | (with_reducible refine Kd.C_drew ?_))); (case side2 => exact (Kd.R_reads' HO_10.out).2.1); rintro e w57 ⟨v277, rfl, ho0, hb⟩; refine ⟨_, rfl, ?_⟩; have n0_ := zM (Kd.R_elder' (by exact HO_9.out) (Kd.R_base ho0) hb); have n1_ := zM (Kd.R_elder' (by exact HO_10.out) (Kd.R_base ho0) hb); have n2_ := zM (Kd.R_lower (Kd.R_new' (Kd.R_new' ho0 (Kd.R_lt (by exact HO_9.out))) (Kd.R_lt (by exact HO_10.out))) (below_size HB.out)); have n3_ := zM (blk_below BK237.out hb); have n4_ := zM (blk_below BK244.out hb); have n5_ := zM (below_step HB.out hb); clear HO_9; clear HO_10; clear BK237; clear BK244; clear HB; have HO_9 := n0_; have HO_10 := n1_; have HO278 := n2_; have BK237 := n3_; have BK244 := n4_; have HB := n5_; clear n0_ n1_ n2_ n3_ n4_ n5_; (try clear hb); (try clear hb2); (try clear hk); (try clear hi); (try clear ho0); obtain ⟨Ao58, co58, eo58⟩ := Kd.R_slice HO_9.out; subst eo58) | ((with_reducible refine gate_callee (f := 92) rfl ?_); refine goesL_ (some 62) rfl rfl Tryd.func92 (by kernel_rfl) rfl #[.slice Ao58 t254.length co58, .int .i64 (wrap64 (a1_4 - 2))] rfl (by first | rfl | (simp only [List.map_toArray, List.map_cons, List.map_nil, List.length_drop, List.length_take]; rfl)) ?_; (with_reducible refine (spec_l1Left.calls kj42 _ _ t254 (wrap64 (a1_4 - 2)) t279 _ ?side1 ?side2 A52.out).mono ?_); (case side1 => repeat (first | exact (Kd.R_reads' HO_9.out).2.2 | (with_reducible refine Kd.C_alloc ?_ _) | (with_reducible refine Kd.C_drewN ?_ _) | (with_reducible refine Kd.C_drew ?_))); (case side2 => exact (Kd.R_reads' HO_9.out).2.1); rintro e w59 ⟨v280, rfl, ho0, hb⟩; refine ⟨_, rfl, ?_⟩; have n0_ := zM (Kd.R_elder' (by exact HO_9.out) (Kd.R_base ho0) hb); have n1_ := zM (Kd.R_elder' (by exact HO_10.out) (Kd.R_base ho0) hb); have n2_ := zM (Kd.R_elder' (by exact HO278.out) (Kd.R_base ho0) hb); have n3_ := zM (Kd.R_lower (Kd.R_new' (Kd.R_new' (Kd.R_new' ho0 (Kd.R_lt (by exact HO_9.out))) (Kd.R_lt (by exact HO_10.out))) (Kd.R_lt (by exact HO278.out))) (below_size HB.out)); have n4_ := zM (blk_below BK237.out hb); have n5_ := zM (blk_below BK244.out hb); have n6_ := zM (below_step HB.out hb); clear HO_9; clear HO_10; clear HO278; clear BK237; clear BK244; clear HB; have HO_9 := n0_; have HO_10 := n1_; have HO278 := n2_; have HO281 := n3_; have BK237 := n4_; have BK244 := n5_; have HB := n6_; clear n0_ n1_ n2_ n3_ n4_ n5_ n6_; (try clear hb); (try clear hb2); (try clear hk); (try clear hi); (try clear ho0)) | ((with_reducible refine gate_callee (f := 90) rfl ?_); refine goesL_ (some 63) rfl rfl Tryd.func90 (by kernel_rfl) rfl #[.int .u64 1] rfl (by first | rfl | (simp only [List.map_toArray, List.map_cons, List.map_nil, List.length_drop, List.length_take]; rfl)) ?_; (with_reducible refine (spec_l1Of.calls 1 t282 _ A53.out).mono ?_); rintro e w60 ⟨v283, rfl, ho0, hb⟩; refine ⟨_, rfl, ?_⟩; have n0_ := zM (Kd.R_elder' (by exact HO_9.out) (Kd.R_base ho0) hb); have n1_ := zM (Kd.R_elder' (by exact HO_10.out) (Kd.R_base ho0) hb); have n2_ := zM (Kd.R_elder' (by exact HO278.out) (Kd.R_base ho0) hb); have n3_ := zM (Kd.R_elder' (by exact HO281.out) (Kd.R_base ho0) hb); have n4_ := zM (Kd.R_lower (Kd.R_new' (Kd.R_new' (Kd.R_new' (Kd.R_new' ho0 (Kd.R_lt (by exact HO_9.out))) (Kd.R_lt (by exact HO_10.out))) (Kd.R_lt (by exact HO278.out))) (Kd.R_lt (by exact HO281.out))) (below_size HB.out)); have n5_ := zM (blk_below BK237.out hb); have n6_ := zM (blk_below BK244.out hb); have n7_ := zM (below_step HB.out hb); clear HO_9; clear HO_10; clear HO278; clear HO281; clear BK237; clear BK244; clear HB; have HO_9 := n0_; have HO_10 := n1_; have HO278 := n2_; have HO281 := n3_; have HO284 := n4_; have BK237 := n5_; have BK244 := n6_; have HB := n7_; clear n0_ n1_ n2_ n3_ n4_ n5_ n6_ n7_; (try clear hb); (try clear hb2); (try clear hk); (try clear hi); (try clear ho0)))
      go_ret3
      exact ⟨_, _, _, by first | rfl | (simp [errW_none, errW_some] <;> rfl) | (simp [*, errW_none, errW_some] <;> rfl), by exact Kd.R_mono HO278.out (fun _ hk => ⟨hk.1.2, hk.2⟩), by exact Kd.R_mono HO281.out (fun _ hk => ⟨hk.1.2, hk.2⟩), by exact Kd.R_mono HO284.out (fun _ hk => ⟨hk.1.2, hk.2⟩), by repeat (first | (with_reducible first | exact HB.out | apply yA | apply yN | apply yD | refine below_set ?_ GE237.out | refine below_set ?_ GE244.out) | exact HB.out)⟩
     ·rw [if_neg c50] at H
      have c50b0 : decide (0 ≤ (wrap64 (a1_4 - 2))) = false := decide_eq_false c50
      clear c50
      replace H := Option.bind_eq_some_iff.mp H
      obtain ⟨t285, A610, H⟩ := H
      replace H : (some (x10_42, t254, t285)) = some (r1, r2, r3) := H
      have A61 := zM A610
      clear A610
      simp only [Option.some.injEq, Prod.mk.injEq] at H
      obtain ⟨rfl, rfl, rfl⟩ := H
      have hnb62 := NB237_244.out
      have hnc62 := NB244_237.out
      have hcz63_0 : wc.cell? ⟨gb237, 0, none⟩ = some (.int .i64 a1_0) := (blk_cell BK237.out 0).trans rfl
      have hcz63_1 : wc.cell? ⟨gb237, 1, none⟩ = some (.bool a1_1) := (blk_cell BK237.out 1).trans rfl
      have hcz63_2 : wc.cell? ⟨gb237, 2, none⟩ = some (.int .u64 a1_2) := (blk_cell BK237.out 2).trans rfl
      have hcz63_3 : wc.cell? ⟨gb237, 3, none⟩ = some (.int .u64 a1_3) := (blk_cell BK237.out 3).trans rfl
      have hcz63_4 : wc.cell? ⟨gb237, 4, none⟩ = some (.int .i64 a1_4) := (blk_cell BK237.out 4).trans rfl
      have hfz63_0 := blk_frozen BK237.out 0
      have hfz63_1 := blk_frozen BK237.out 1
      have hfz63_2 := blk_frozen BK237.out 2
      have hfz63_3 := blk_frozen BK237.out 3
      have hfz63_4 := blk_frozen BK237.out 4
      go_wp2_with (first | ((with_reducible refine gate_callee (f := 64) rfl ?_); refine goesL_ (some 68) rfl rfl Tryd.func64 (by kernel_rfl) rfl #[.int .i64 (wrap64 (-(wrap64 (a1_4 - 2))))] rfl (by first | rfl | (simp only [List.map_toArray, List.map_cons, List.map_nil, List.length_drop, List.length_take]; rfl)) ?_; (with_reducible refine (spec_l2Two.calls kj42 (wrap64 (-(wrap64 (a1_4 - 2)))) t285 _ A61.out).mono ?_); rintro e w64 ⟨v286, rfl, ho0, hb⟩; refine ⟨_, rfl, ?_⟩; have n0_ := zM (Kd.R_elder' (by exact HO_9.out) (Kd.R_base ho0) hb); have n1_ := zM (Kd.R_elder' (by exact HO_10.out) (Kd.R_base ho0) hb); have n2_ := zM (Kd.R_lower (Kd.R_new' (Kd.R_new' ho0 (Kd.R_lt (by exact HO_9.out))) (Kd.R_lt (by exact HO_10.out))) (below_size HB.out)); have n3_ := zM (blk_below BK237.out hb); have n4_ := zM (blk_below BK244.out hb); have n5_ := zM (below_step HB.out hb); clear HO_9; clear HO_10; clear BK237; clear BK244; clear HB; have HO_9 := n0_; have HO_10 := n1_; have HO287 := n2_; have BK237 := n3_; have BK244 := n4_; have HB := n5_; clear n0_ n1_ n2_ n3_ n4_ n5_; (try clear hb); (try clear hb2); (try clear hk); (try clear hi); (try clear ho0)))
      go_ret3
      exact ⟨_, _, _, by first | rfl | (simp [errW_none, errW_some] <;> rfl) | (simp [*, errW_none, errW_some] <;> rfl), by exact HO_10.out, by exact HO_9.out, by exact Kd.R_mono HO287.out (fun _ hk => ⟨hk.2, hk.1.2⟩), by repeat (first | (with_reducible first | exact HB.out | apply yA | apply yN | apply yD | refine below_set ?_ GE237.out | refine below_set ?_ GE244.out) | exact HB.out)⟩
end Go.Proofs.YtdbnmdchecacdaaDoor.PB
end
section
namespace Go.Proofs.YtdbnmdchecacdaaDoor.PB
open Go.RowKit Go.Proofs.YtdbnmdchecacdaaDoor.G Go.Proofs.YtdbnmdchecacdaaDoorV.PrintWords Go.Proofs.YtdbnmdchecacdaaDoorV.PrintLast Go.Proofs.YtdbnmdchecacdaaDoorV.PrintMore
attribute [local go_sem] max2_int min2_int max_two min_two max_three min_three max_four min_four run_Add64 run_Sub64 fld25_1
set_option linter.unusedVariables false
set_option linter.unusedSimpArgs false
def spec_Bounds.j0 : Nat → Int → Bool → Int → Bool → Int → Int → Int → Option (List Int × List Int × List Int × Bool × Bool)
 | 0, _, _, _, _, _, _, _ => none
 | k + 1, x0, x19, x296000, x296001, x296002, x296003, x296004 => if x19 = true then (some (([] : List Int), ([] : List Int), ([] : List Int), false, false)) else ((spec_l2Span.f k x0 x296000 x296001 x296002 x296003 x296004).bind fun bt296 => ((spec_l1Out.f k bt296.1).bind fun t305 => ((spec_l1Out.f k bt296.2.1).bind fun t308 => ((spec_l1Out.f k bt296.2.2).bind fun t311 => (some (t305, t308, t311, ((Int.tmod x296003 2) == 0), true))))))
def spec_Bounds.f (k : Nat) (a0 : Int) (a1_0 : Int) (a1_1 : Int) : Option (List Int × List Int × List Int × Bool × Bool) := (spec_Unpack.f k a0 a1_0 a1_1).bind fun bt290 => (if bt290.1 = 2 then (spec_Bounds.j0 k a0 false bt290.1 bt290.2.1 bt290.2.2.1 bt290.2.2.2.1 bt290.2.2.2.2) else (spec_Bounds.j0 k a0 (bt290.1 != 3) bt290.1 bt290.2.1 bt290.2.2.1 bt290.2.2.2.1 bt290.2.2.2.2))
def spec_Bounds.T5 : Bool × List (List Nat × List Nat) := (true, [([], []), ([0], [0]), ([], []), ([2, 1], [2]), ([], []), ([4, 3], [4]), ([], []), ([6], [6]), ([7], [7]), ([8], [8]), ([9], [9]), ([1, 3, 5, 10], [1, 3, 5, 10]), ([11, 5, 0, 1, 2, 3, 4, 5, 6, 7, 8, 9, 10, 11], [11])])
def spec_Bounds.B5 : List Nat := [0, 1, 0, 7, 0, 31, 0, 64, 192, 448, 960, 2047, 4095]
theorem spec_Bounds.tab5 : rtab .any (opsOf Tryd.f25 5) = spec_Bounds.T5 := by kernel_rfl
theorem spec_Bounds.bits5 : waitsOk spec_Bounds.T5.2 spec_Bounds.B5 = true := by kernel_rfl
set_option maxHeartbeats 8000000 in
set_option maxRecDepth 100000 in
theorem spec_Bounds.calls (k : Nat) (a0 : Int) (a1_0 : Int) (a1_1 : Int) (r1 : List Int) (r2 : List Int) (r3 : List Int) (r4 : Bool) (r5 : Bool) (w : World) (h : spec_Bounds.f k a0 a1_0 a1_1 = some (r1, r2, r3, r4, r5)) :
  Calls Tryd.prog 25 #[.int .i64 a0, .agg #[.int .u64 a1_0, .int .u64 a1_1]] w fun e w' => ∃ v0_ v1_ v2_ : Value, e = .returned (.agg #[v0_, v1_, v2_, .bool r4, .bool r5]) ∧ Kd.R (Kd.int .u64) 22 w' w.heap.size (fun k_ => some k_ ≠ (v1_ : Value).ownBlock ∧ some k_ ≠ (v2_ : Value).ownBlock) v0_ r1 ∧ Kd.R (Kd.int .u64) 22 w' w.heap.size (fun k_ => some k_ ≠ (v0_ : Value).ownBlock ∧ some k_ ≠ (v2_ : Value).ownBlock) v1_ r2 ∧ Kd.R (Kd.int .u64) 22 w' w.heap.size (fun k_ => some k_ ≠ (v0_ : Value).ownBlock ∧ some k_ ≠ (v1_ : Value).ownBlock) v2_ r3 ∧ Below w.heap.size w w' := by
 have hu25 := Tryd.underlying25
 have hu43 := Tryd.underlying43
 have hu27 := Tryd.underlying27
 have HB := zM (Below.refl w.heap.size w)
 have H : ((spec_Unpack.f k a0 a1_0 a1_1).bind fun bt290 => (if bt290.1 = 2 then (spec_Bounds.j0 k a0 false bt290.1 bt290.2.1 bt290.2.2.1 bt290.2.2.2.1 bt290.2.2.2.2) else (spec_Bounds.j0 k a0 (bt290.1 != 3) bt290.1 bt290.2.1 bt290.2.2.1 bt290.2.2.2.1 bt290.2.2.2.2))) = some (r1, r2, r3, r4, r5) := h
 clear h
 replace H := Option.bind_eq_some_iff.mp H
 obtain ⟨⟨t290, t291, t292, t293, t294⟩, A30, H⟩ := H
 replace H : (if t290 = 2 then (spec_Bounds.j0 k a0 false t290 t291 t292 t293 t294) else (spec_Bounds.j0 k a0 (t290 != 3) t290 t291 t292 t293 t294)) = some (r1, r2, r3, r4, r5) := H
 have A3 := zM A30
 clear A30
 have HC4 := zM H
 clear H
 go_enter Tryd.func25, Tryd.ntmps25
 go_upto_region 2 with (first | ((with_reducible refine gate_dst (N := 3) rfl ?_); refine box_event ?hg (N := 3) ?hd (cs := #[.int .u64 a1_0, .int .u64 a1_1]) (t := 25) ?hr ?_; (case hd => rfl); (case hg => rfl); (case hr => first | (go_simp; done) | (go_simp; rfl)); intro gb288 hg w5 hbox hb; have n0_ := zM (below_step HB.out hb); have n1_ := zM (hbox); have n2_ := zM ((by rw [hg]; exact (below_size HB.out) : w.heap.size ≤ gb288)); have n3_ := zM ((by rw [hg]; exact (below_size HB.out) : w.heap.size ≤ gb288)); clear HB; have HB := n0_; have BK288 := n1_; have GW288 := n2_; have GE288 := n3_; clear n0_ n1_ n2_ n3_; clear hb hbox hg) | ((with_reducible refine gate_dst (N := 4) rfl ?_); refine box_event ?hg (N := 4) ?hd (cs := #[.slice none 0 0, .slice none 0 0, .slice none 0 0, .bool false, .bool false]) (t := 43) ?hr ?_; (case hd => rfl); (case hg => rfl); (case hr => first | (go_simp; done) | (go_simp; rfl)); intro gb289 hg w6 hbox hb; have n0_ := zM (blk_below BK288.out hb); have n1_ := zM (below_step HB.out hb); have n2_ := zM (hbox); have n3_ := zM ((by rw [hg]; exact (below_size HB.out) : w.heap.size ≤ gb289)); have n4_ := zM ((by rw [hg]; exact (below_size HB.out) : w.heap.size ≤ gb289)); have n5_ := zM ((by rw [hg]; exact Nat.ne_of_lt (blk_lt BK288.out) : gb288 ≠ gb289)); have n6_ := zM ((by rw [hg]; exact Nat.ne_of_gt (blk_lt BK288.out) : gb289 ≠ gb288)); clear BK288; clear HB; have BK288 := n0_; have HB := n1_; have BK289 := n2_; have GW289 := n3_; have GE289 := n4_; have NB288_289 := n5_; have NB289_288 := n6_; clear n0_ n1_ n2_ n3_ n4_ n5_ n6_; clear hb hbox hg; have hnb7 := NB288_289.out; have hnc7 := NB289_288.out; have hcz8_0 : w6.cell? ⟨gb288, 0, none⟩ = some (.int .u64 a1_0) := (blk_cell BK288.out 0).trans rfl; have hcz8_1 : w6.cell? ⟨gb288, 1, none⟩ = some (.int .u64 a1_1) := (blk_cell BK288.out 1).trans rfl; have hfz8_0 := blk_frozen BK288.out 0; have hfz8_1 := blk_frozen BK288.out 1) | ((with_reducible refine gate_callee (f := 15) rfl ?_); refine goesL_ (some 11) rfl rfl Tryd.func15 (by kernel_rfl) rfl #[.int .i64 a0, .agg #[.int .u64 a1_0, .int .u64 a1_1]] rfl (by first | rfl | (simp only [List.map_toArray, List.map_cons, List.map_nil, List.length_drop, List.length_take]; rfl)) ?_; (with_reducible refine (spec_Unpack.calls k a0 a1_0 a1_1 t290 t291 t292 t293 t294 _ A3.out).mono ?_); rintro e w9 ⟨rfl, hb⟩; refine ⟨_, rfl, ?_⟩; have n0_ := zM (blk_below BK288.out hb); have n1_ := zM (blk_below BK289.out hb); have n2_ := zM (below_step HB.out hb); clear BK288; clear BK289; clear HB; have BK288 := n0_; have BK289 := n1_; have HB := n2_; clear n0_ n1_ n2_; (try clear hb); (try clear hb2); (try clear hk); (try clear hi)) | ((with_reducible refine gate_dst (N := 5) rfl ?_); refine box_event ?hg (N := 5) ?hd (cs := #[.int .i64 0, .bool false, .int .u64 0, .int .u64 0, .int .i64 0]) (t := 27) ?hr ?_; (case hd => rfl); (case hg => rfl); (case hr => first | (go_simp; done) | (go_simp; rfl)); intro gb295 hg w10 hbox hb; have n0_ := zM (blk_below BK288.out hb); have n1_ := zM (blk_below BK289.out hb); have n2_ := zM (below_step HB.out hb); have n3_ := zM (hbox); have n4_ := zM ((by rw [hg]; exact (below_size HB.out) : w.heap.size ≤ gb295)); have n5_ := zM ((by rw [hg]; exact (below_size HB.out) : w.heap.size ≤ gb295)); have n6_ := zM ((by rw [hg]; exact Nat.ne_of_lt (blk_lt BK288.out) : gb288 ≠ gb295)); have n7_ := zM ((by rw [hg]; exact Nat.ne_of_gt (blk_lt BK288.out) : gb295 ≠ gb288)); have n8_ := zM ((by rw [hg]; exact Nat.ne_of_lt (blk_lt BK289.out) : gb289 ≠ gb295)); have n9_ := zM ((by rw [hg]; exact Nat.ne_of_gt (blk_lt BK289.out) : gb295 ≠ gb289)); clear BK288; clear BK289; clear HB; have BK288 := n0_; have BK289 := n1_; have HB := n2_; have BK295 := n3_; have GW295 := n4_; have GE295 := n5_; have NB288_295 := n6_; have NB295_288 := n7_; have NB289_295 := n8_; have NB295_289 := n9_; clear n0_ n1_ n2_ n3_ n4_ n5_ n6_ n7_ n8_ n9_; clear hb hbox hg; have hnb11 := NB295_288.out; have hnc11 := NB288_295.out; have hnb12 := NB295_289.out; have hnc12 := NB289_295.out; have hcz13_0 : w10.cell? ⟨gb295, 0, none⟩ = some (.int .i64 0) := (blk_cell BK295.out 0).trans rfl; have hcz13_1 : w10.cell? ⟨gb295, 1, none⟩ = some (.bool false) := (blk_cell BK295.out 1).trans rfl; have hcz13_2 : w10.cell? ⟨gb295, 2, none⟩ = some (.int .u64 0) := (blk_cell BK295.out 2).trans rfl; have hcz13_3 : w10.cell? ⟨gb295, 3, none⟩ = some (.int .u64 0) := (blk_cell BK295.out 3).trans rfl; have hcz13_4 : w10.cell? ⟨gb295, 4, none⟩ = some (.int .i64 0) := (blk_cell BK295.out 4).trans rfl; have hfz13_0 := blk_frozen BK295.out 0; have hfz13_1 := blk_frozen BK295.out 1; have hfz13_2 := blk_frozen BK295.out 2; have hfz13_3 := blk_frozen BK295.out 3; have hfz13_4 := blk_frozen BK295.out 4))
 (try simp only [Act.put, xT, xZ, xS])
 go_cut [19] (fun v19 wc => ∃ (kq : Nat) (x19_3 : Bool), v19 = .bool x19_3 ∧ Aside0 (spec_Bounds.j0 kq a0 x19_3 t290 t291 t292 t293 t294 = some (r1, r2, r3, r4, r5)) ∧ Aside0 (kq ≤ k) ∧ Aside0 (wc.heap[gb288]? = some (.cells #[.int .u64 a1_0, .int .u64 a1_1] 25 (0, 0))) ∧ Aside0 (wc.heap[gb289]? = some (.cells #[(.slice none 0 0), (.slice none 0 0), (.slice none 0 0), .bool false, .bool false] 43 (0, 0))) ∧ Aside0 (wc.heap[gb295]? = some (.cells #[.int .i64 t290, .bool t291, .int .u64 t292, .int .u64 t293, .int .i64 t294] 27 (0, 0))) ∧ Aside0 (Below w.heap.size w wc))
 case first =>
  have H := HC4.out
  clear HC4
  by_cases c14 : t290 = 2
  ·rw [if_pos c14] at H
   have c14b0 : (t290 == 2) = true := beq_iff_eq.mpr c14
   have c14b1 : (t290 != 2) = false := bne_eq_false_iff_eq.mpr c14
   clear c14
   (first | rw [c14b0] | (simp only [i64_w, i32_w]; rw [c14b0]) | rw [c14b1] | (simp only [c14b1]) | skip)
   have H' := zM H
   clear H
   have hnb15 := NB295_288.out
   have hnc15 := NB288_295.out
   have hnb16 := NB295_289.out
   have hnc16 := NB289_295.out
   have hcz17_0 : w10.cell? ⟨gb295, 0, none⟩ = some (.int .i64 0) := (blk_cell BK295.out 0).trans rfl
   have hcz17_1 : w10.cell? ⟨gb295, 1, none⟩ = some (.bool false) := (blk_cell BK295.out 1).trans rfl
   have hcz17_2 : w10.cell? ⟨gb295, 2, none⟩ = some (.int .u64 0) := (blk_cell BK295.out 2).trans rfl
   have hcz17_3 : w10.cell? ⟨gb295, 3, none⟩ = some (.int .u64 0) := (blk_cell BK295.out 3).trans rfl
   have hcz17_4 : w10.cell? ⟨gb295, 4, none⟩ = some (.int .i64 0) := (blk_cell BK295.out 4).trans rfl
   have hfz17_0 := blk_frozen BK295.out 0
   have hfz17_1 := blk_frozen BK295.out 1
   have hfz17_2 := blk_frozen BK295.out 2
   have hfz17_3 := blk_frozen BK295.out 3
   have hfz17_4 := blk_frozen BK295.out 4
   go_wp2
   go_meet
   case rel => exact ⟨_, (false), (by first | rfl | (simp; done) | (simp [*]; done)), H', ⟨by first | omega | exact Nat.le_refl _⟩, ⟨by refine blk_far ?_ NB288_295.out _; refine blk_far ?_ NB288_295.out _; refine blk_far ?_ NB288_295.out _; refine blk_far ?_ NB288_295.out _; refine blk_far ?_ NB288_295.out _; exact BK288.out⟩, ⟨by refine blk_far ?_ NB289_295.out _; refine blk_far ?_ NB289_295.out _; refine blk_far ?_ NB289_295.out _; refine blk_far ?_ NB289_295.out _; refine blk_far ?_ NB289_295.out _; exact BK289.out⟩, ⟨by refine blk_put (cs := #[.int .i64 t290, .bool t291, .int .u64 t292, .int .u64 t293, .int .i64 0]) ?_ 4 _ rfl; refine blk_put (cs := #[.int .i64 t290, .bool t291, .int .u64 t292, .int .u64 0, .int .i64 0]) ?_ 3 _ rfl; refine blk_put (cs := #[.int .i64 t290, .bool t291, .int .u64 0, .int .u64 0, .int .i64 0]) ?_ 2 _ rfl; refine blk_put (cs := #[.int .i64 t290, .bool false, .int .u64 0, .int .u64 0, .int .i64 0]) ?_ 1 _ rfl; refine blk_put (cs := #[.int .i64 0, .bool false, .int .u64 0, .int .u64 0, .int .i64 0]) ?_ 0 _ rfl; exact BK295.out⟩, ⟨by repeat (first | (with_reducible first | exact HB.out | apply yA | apply yN | apply yD | refine below_set ?_ GE288.out | refine below_set ?_ GE289.out | refine below_set ?_ GE295.out) | exact HB.out)⟩⟩
  ·rw [if_neg c14] at H
   have c14b0 : (t290 == 2) = false := beq_eq_false_iff_ne.mpr c14
   have c14b1 : (t290 != 2) = true := bne_iff_ne.mpr c14
   (first | rw [c14b0] | (simp only [i64_w, i32_w]; rw [c14b0]) | rw [c14b1] | (simp only [c14b1]) | skip)
   have H' := zM H
   clear H
   have hnb18 := NB295_288.out
   have hnc18 := NB288_295.out
   have hnb19 := NB295_289.out
   have hnc19 := NB289_295.out
   have hcz20_0 : w10.cell? ⟨gb295, 0, none⟩ = some (.int .i64 0) := (blk_cell BK295.out 0).trans rfl
   have hcz20_1 : w10.cell? ⟨gb295, 1, none⟩ = some (.bool false) := (blk_cell BK295.out 1).trans rfl
   have hcz20_2 : w10.cell? ⟨gb295, 2, none⟩ = some (.int .u64 0) := (blk_cell BK295.out 2).trans rfl
   have hcz20_3 : w10.cell? ⟨gb295, 3, none⟩ = some (.int .u64 0) := (blk_cell BK295.out 3).trans rfl
   have hcz20_4 : w10.cell? ⟨gb295, 4, none⟩ = some (.int .i64 0) := (blk_cell BK295.out 4).trans rfl
   have hfz20_0 := blk_frozen BK295.out 0
   have hfz20_1 := blk_frozen BK295.out 1
   have hfz20_2 := blk_frozen BK295.out 2
   have hfz20_3 := blk_frozen BK295.out 3
   have hfz20_4 := blk_frozen BK295.out 4
   go_wp2
   go_meet
   case rel => exact ⟨_, ((t290 != 3)), (by first | rfl | (simp; done) | (simp [*]; done)), H', ⟨by first | omega | exact Nat.le_refl _⟩, ⟨by refine blk_far ?_ NB288_295.out _; refine blk_far ?_ NB288_295.out _; refine blk_far ?_ NB288_295.out _; refine blk_far ?_ NB288_295.out _; refine blk_far ?_ NB288_295.out _; exact BK288.out⟩, ⟨by refine blk_far ?_ NB289_295.out _; refine blk_far ?_ NB289_295.out _; refine blk_far ?_ NB289_295.out _; refine blk_far ?_ NB289_295.out _; refine blk_far ?_ NB289_295.out _; exact BK289.out⟩, ⟨by refine blk_put (cs := #[.int .i64 t290, .bool t291, .int .u64 t292, .int .u64 t293, .int .i64 0]) ?_ 4 _ rfl; refine blk_put (cs := #[.int .i64 t290, .bool t291, .int .u64 t292, .int .u64 0, .int .i64 0]) ?_ 3 _ rfl; refine blk_put (cs := #[.int .i64 t290, .bool t291, .int .u64 0, .int .u64 0, .int .i64 0]) ?_ 2 _ rfl; refine blk_put (cs := #[.int .i64 t290, .bool false, .int .u64 0, .int .u64 0, .int .i64 0]) ?_ 1 _ rfl; refine blk_put (cs := #[.int .i64 0, .bool false, .int .u64 0, .int .u64 0, .int .i64 0]) ?_ 0 _ rfl; exact BK295.out⟩, ⟨by repeat (first | (with_reducible first | exact HB.out | apply yA | apply yN | apply yD | refine below_set ?_ GE288.out | refine below_set ?_ GE289.out | refine below_set ?_ GE295.out) | exact HB.out)⟩⟩
 case rest =>
  clear HC4
  obtain ⟨kq, x19_3, rfl, HA, HJ3, BK288, BK289, BK295, HB⟩ := hcut
  cases kq with
  | zero => exact absurd HA.out (by simp [spec_Bounds.j0])
  | succ kj3 =>
   have H := HA.out
   clear HA
   simp only [spec_Bounds.j0] at H
   by_cases c21 : x19_3 = true
   ·subst c21
    have H1 : (some (([] : List Int), ([] : List Int), ([] : List Int), false, false)) = some (r1, r2, r3, r4, r5) := by rw [if_pos rfl] at H; exact H
    clear H
    have H := H1
    clear H1
    simp only [Option.some.injEq, Prod.mk.injEq] at H
    obtain ⟨rfl, rfl, rfl, rfl, rfl⟩ := H
    have hnb22 := NB289_288.out
    have hnc22 := NB288_289.out
    have hnb23 := NB289_295.out
    have hnc23 := NB295_289.out
    have hcz24_0 : wc.cell? ⟨gb289, 0, none⟩ = some (.slice none 0 0) := (blk_cell BK289.out 0).trans rfl
    have hcz24_1 : wc.cell? ⟨gb289, 1, none⟩ = some (.slice none 0 0) := (blk_cell BK289.out 1).trans rfl
    have hcz24_2 : wc.cell? ⟨gb289, 2, none⟩ = some (.slice none 0 0) := (blk_cell BK289.out 2).trans rfl
    have hcz24_3 : wc.cell? ⟨gb289, 3, none⟩ = some (.bool false) := (blk_cell BK289.out 3).trans rfl
    have hcz24_4 : wc.cell? ⟨gb289, 4, none⟩ = some (.bool false) := (blk_cell BK289.out 4).trans rfl
    have hfz24_0 := blk_frozen BK289.out 0
    have hfz24_1 := blk_frozen BK289.out 1
    have hfz24_2 := blk_frozen BK289.out 2
    have hfz24_3 := blk_frozen BK289.out 3
    have hfz24_4 := blk_frozen BK289.out 4
    go_wp2
    refine bodyPost_ret (results_cell_row rfl _ _ gb289 43 #[.slice none 0 0, .slice none 0 0, .slice none 0 0, .bool false, .bool false] (0, 0) _ rfl (by refine blk_put (cs := #[.slice none 0 0, .slice none 0 0, .slice none 0 0, .bool false, .bool false]) ?_ 4 _ rfl; refine blk_put (cs := #[.slice none 0 0, .slice none 0 0, .slice none 0 0, .bool false, .bool false]) ?_ 3 _ rfl; refine blk_put (cs := #[.slice none 0 0, .slice none 0 0, .slice none 0 0, .bool false, .bool false]) ?_ 2 _ rfl; refine blk_put (cs := #[.slice none 0 0, .slice none 0 0, .slice none 0 0, .bool false, .bool false]) ?_ 1 _ rfl; refine blk_put (cs := #[.slice none 0 0, .slice none 0 0, .slice none 0 0, .bool false, .bool false]) ?_ 0 _ rfl; exact BK289.out) Tryd.underlying43 rfl (by kernel_rfl)) rfl ?_
    exact ⟨_, _, _, by first | rfl | (simp [errW_none, errW_some] <;> rfl) | (simp [*, errW_none, errW_some] <;> rfl), by first | exact Kd.R_nil _ _ _ _ _ | exact Kd.N_nil _ _ _ _ _ | exact Kd.V_nil _ _ _ _ _ | exact Kd.Q_nil _ _ _ _ _ | exact Kd.S_nil _ _ _ _ _, by first | exact Kd.R_nil _ _ _ _ _ | exact Kd.N_nil _ _ _ _ _ | exact Kd.V_nil _ _ _ _ _ | exact Kd.Q_nil _ _ _ _ _ | exact Kd.S_nil _ _ _ _ _, by first | exact Kd.R_nil _ _ _ _ _ | exact Kd.N_nil _ _ _ _ _ | exact Kd.V_nil _ _ _ _ _ | exact Kd.Q_nil _ _ _ _ _ | exact Kd.S_nil _ _ _ _ _, by repeat (first | (with_reducible first | exact HB.out | apply yA | apply yN | apply yD | refine below_set ?_ GE288.out | refine below_set ?_ GE289.out | refine below_set ?_ GE295.out) | exact HB.out)⟩
   ·replace c21 := Bool.eq_false_iff.mpr c21
    subst c21
    have H1 : ((spec_l2Span.f kj3 a0 t290 t291 t292 t293 t294).bind fun bt296 => ((spec_l1Out.f kj3 bt296.1).bind fun t305 => ((spec_l1Out.f kj3 bt296.2.1).bind fun t308 => ((spec_l1Out.f kj3 bt296.2.2).bind fun t311 => (some (t305, t308, t311, ((Int.tmod t293 2) == 0), true)))))) = some (r1, r2, r3, r4, r5) := by rw [if_neg (show ¬ (false = true) by decide)] at H; exact H
    clear H
    have H := H1
    clear H1
    replace H := Option.bind_eq_some_iff.mp H
    obtain ⟨⟨t296, t299, t302⟩, A250, H⟩ := H
    replace H : ((spec_l1Out.f kj3 t296).bind fun t305 => ((spec_l1Out.f kj3 t299).bind fun t308 => ((spec_l1Out.f kj3 t302).bind fun t311 => (some (t305, t308, t311, ((Int.tmod t293 2) == 0), true))))) = some (r1, r2, r3, r4, r5) := H
    have A25 := zM A250
    clear A250
    replace H := Option.bind_eq_some_iff.mp H
    obtain ⟨t305, A260, H⟩ := H
    replace H : ((spec_l1Out.f kj3 t299).bind fun t308 => ((spec_l1Out.f kj3 t302).bind fun t311 => (some (t305, t308, t311, ((Int.tmod t293 2) == 0), true)))) = some (r1, r2, r3, r4, r5) := H
    have A26 := zM A260
    clear A260
    replace H := Option.bind_eq_some_iff.mp H
    obtain ⟨t308, A270, H⟩ := H
    replace H : ((spec_l1Out.f kj3 t302).bind fun t311 => (some (t305, t308, t311, ((Int.tmod t293 2) == 0), true))) = some (r1, r2, r3, r4, r5) := H
    have A27 := zM A270
    clear A270
    replace H := Option.bind_eq_some_iff.mp H
    obtain ⟨t311, A280, H⟩ := H
    replace H : (some (t305, t308, t311, ((Int.tmod t293 2) == 0), true)) = some (r1, r2, r3, r4, r5) := H
    have A28 := zM A280
    clear A280
    simp only [Option.some.injEq, Prod.mk.injEq] at H
    obtain ⟨rfl, rfl, rfl, rfl, rfl⟩ := H
    have hnb29 := NB295_288.out
    have hnc29 := NB288_295.out
    have hnb30 := NB295_289.out
    have hnc30 := NB289_295.out
    have hcz31_0 : wc.cell? ⟨gb295, 0, none⟩ = some (.int .i64 t290) := (blk_cell BK295.out 0).trans rfl
    have hcz31_1 : wc.cell? ⟨gb295, 1, none⟩ = some (.bool t291) := (blk_cell BK295.out 1).trans rfl
    have hcz31_2 : wc.cell? ⟨gb295, 2, none⟩ = some (.int .u64 t292) := (blk_cell BK295.out 2).trans rfl
    have hcz31_3 : wc.cell? ⟨gb295, 3, none⟩ = some (.int .u64 t293) := (blk_cell BK295.out 3).trans rfl
    have hcz31_4 : wc.cell? ⟨gb295, 4, none⟩ = some (.int .i64 t294) := (blk_cell BK295.out 4).trans rfl
    have hfz31_0 := blk_frozen BK295.out 0
    have hfz31_1 := blk_frozen BK295.out 1
    have hfz31_2 := blk_frozen BK295.out 2
    have hfz31_3 := blk_frozen BK295.out 3
    have hfz31_4 := blk_frozen BK295.out 4
    try go_wp2_with (first | ((with_reducible refine gate_callee (f := 81) rfl ?_); refine goesL_ (some 24) rfl rfl Tryd.func81 (by kernel_rfl) rfl #[.int .i64 a0, .agg #[.int .i64 t290, .bool t291, .int .u64 t292, .int .u64 t293, .int .i64 t294]] rfl (by first | rfl | (simp only [List.map_toArray, List.map_cons, List.map_nil, List.length_drop, List.length_take]; rfl)) ?_; (with_reducible refine (spec_l2Span.calls kj3 a0 t290 t291 t292 t293 t294 t296 t299 t302 _ A25.out).mono ?_); rintro e w32 ⟨v297, v300, v303, rfl, ho0, ho1, ho2, hb⟩; refine ⟨_, rfl, ?_⟩; have n0_ := zM (Kd.R_lower ho0 (below_size HB.out)); have n1_ := zM (Kd.R_lower ho1 (below_size HB.out)); have n2_ := zM (Kd.R_lower ho2 (below_size HB.out)); have n3_ := zM (blk_below BK288.out hb); have n4_ := zM (blk_below BK289.out hb); have n5_ := zM (blk_below BK295.out hb); have n6_ := zM (below_step HB.out hb); clear BK288; clear BK289; clear BK295; clear HB; have HO298 := n0_; have HO301 := n1_; have HO304 := n2_; have BK288 := n3_; have BK289 := n4_; have BK295 := n5_; have HB := n6_; clear n0_ n1_ n2_ n3_ n4_ n5_ n6_; (try clear hb); (try clear hb2); (try clear hk); (try clear hi); (try clear ho0); (try clear ho1); (try clear ho2)))
    have n0_ := zM (Kd.R_drew HO298.out)
    have n1_ := zM (Kd.R_drew HO301.out)
    have n2_ := zM (Kd.R_drew HO304.out)
    have n3_ := zM (zD BK288.out)
    have n4_ := zM (zD BK289.out)
    have n5_ := zM (zD BK295.out)
    have n6_ := zM (yD HB.out)
    clear HO298
    clear HO301
    clear HO304
    clear BK288
    clear BK289
    clear BK295
    clear HB
    have HO298 := n0_
    have HO301 := n1_
    have HO304 := n2_
    have BK288 := n3_
    have BK289 := n4_
    have BK295 := n5_
    have HB := n6_
    clear n0_ n1_ n2_ n3_ n4_ n5_ n6_
    obtain ⟨Ao34, co34, eo34⟩ := Kd.R_slice HO298.out
    (first | subst eo34 | (injection eo34 with f1_ f2_ f3_; have f4_ := f1_.symm; have f5_ := f3_.symm; clear f1_ f2_ f3_; subst f4_; subst f5_))
    refine start_ (n := 13) (S := fun w' => w'.cell? ⟨gb295, 0, none⟩ = some (.int .i64 t290) ∧ w'.cell? ⟨gb295, 1, none⟩ = some (.bool t291) ∧ w'.cell? ⟨gb295, 2, none⟩ = some (.int .u64 t292) ∧ w'.cell? ⟨gb295, 3, none⟩ = some (.int .u64 t293) ∧ w'.cell? ⟨gb295, 4, none⟩ = some (.int .i64 t294)) (ds := []) #[false, false, false, false, false, false, false, false, false, false, false, false, false] (by kernel_rfl) rfl rfl ⟨(blk_cell BK295.out 0).trans rfl, (blk_cell BK295.out 1).trans rfl, (blk_cell BK295.out 2).trans rfl, (blk_cell BK295.out 3).trans rfl, (blk_cell BK295.out 4).trans rfl⟩ (fun hHeld => ?_); refine with_tabW spec_Bounds.tab5 spec_Bounds.bits5 (fun HT_ HW_ => ?_)
    generalize w32.drew = w33 at HO298 HO301 HO304 BK288 BK289 BK295 HB hHeld ⊢
    refine pure_ (i := 0) (N := some 28) (v := ?_) (a' := ?_) #[true, false, false, false, false, false, false, false, false, false, false, false, false] rfl rfl (any_of HT_.out (by kernel_rfl)) (fun _ _ _ h => h) (Or.inl ⟨by rfl, ?_⟩) ?_ ?_
    rotate_left
    ·intro w'
     go_simp
     with_reducible rfl
    rotate_left
    ·simp only [Act.put, xT, xZ, xS, i64_w, i32_w]
     rfl
    refine pure_ (i := 2) (N := some 30) (v := ?_) (a' := ?_) #[true, false, true, false, false, false, false, false, false, false, false, false, false] rfl rfl (any_of HT_.out (by kernel_rfl)) (fun _ _ _ h => h) (Or.inl ⟨by rfl, ?_⟩) ?_ ?_
    rotate_left
    ·intro w'
     go_simp
     with_reducible rfl
    rotate_left
    ·simp only [Act.put, xT, xZ, xS, i64_w, i32_w]
     rfl
    refine pure_ (i := 4) (N := some 32) (v := ?_) (a' := ?_) #[true, false, true, false, true, false, false, false, false, false, false, false, false] rfl rfl (any_of HT_.out (by kernel_rfl)) (fun _ _ _ h => h) (Or.inl ⟨by rfl, ?_⟩) ?_ ?_
    rotate_left
    ·intro w'
     go_simp
     with_reducible rfl
    rotate_left
    ·simp only [Act.put, xT, xZ, xS, i64_w, i32_w]
     rfl
    refine pure_ (i := 6) (N := some 34) (v := ?_) (a' := ?_) #[true, false, true, false, true, false, true, false, false, false, false, false, false] rfl rfl (any_of HT_.out (by kernel_rfl)) (fun _ _ _ h => h) (Or.inl ⟨by rfl, ?_⟩) ?_ ?_
    rotate_left
    ·intro w'
     go_simp
     with_reducible rfl
    rotate_left
    ·simp only [Act.put, xT, xZ, xS, i64_w, i32_w]
     rfl
    refine pure_ (i := 7) (N := some 35) (v := ?_) (a' := ?_) #[true, false, true, false, true, false, true, true, false, false, false, false, false] rfl rfl (any_of HT_.out (by kernel_rfl)) (fun _ _ _ h => h) (Or.inl ⟨by rfl, ?_⟩) ?_ ?_
    rotate_left
    ·intro w'
     go_simp
     with_reducible rfl
    rotate_left
    ·simp only [Act.put, xT, xZ, xS, i64_w, i32_w]
     rfl
    refine take_ (i := 8) (N := some 36) (v := ?_) (a' := ?_) #[true, false, true, false, true, false, true, true, true, false, false, false, false] rfl rfl (take_ofW HT_.out HW_.out (by kernel_rfl)) (fun _ _ _ h => h) (Or.inl ⟨by rfl, ?_⟩) hHeld ?_ ?_
    rotate_left
    ·rintro w' ⟨s0, s1, s2, s3, s4⟩
     go_simp
     with_reducible rfl
    rotate_left
    ·simp only [Act.put, xT, xZ, xS, i64_w, i32_w]
     rfl
    refine pure_ (i := 9) (N := some 37) (v := ?_) (a' := ?_) #[true, false, true, false, true, false, true, true, true, true, false, false, false] rfl rfl (any_of HT_.out (by kernel_rfl)) (fun _ _ _ h => h) (Or.inl ⟨by rfl, ?_⟩) ?_ ?_
    rotate_left
    ·intro w'
     go_simp
     with_reducible rfl
    rotate_left
    ·simp only [Act.put, xT, xZ, xS, i64_w, i32_w]
     rfl
    refine pure_ (i := 10) (N := some 38) (v := ?_) (a' := ?_) #[true, false, true, false, true, false, true, true, true, true, true, false, false] rfl rfl (any_of HT_.out (by kernel_rfl)) (fun _ _ _ h => h) (Or.inl ⟨by rfl, ?_⟩) ?_ ?_
    rotate_left
    ·intro w'
     go_simp
     with_reducible rfl
    rotate_left
    ·simp only [Act.put, xT, xZ, xS, i64_w, i32_w]
     rfl
    refine one_ (i := 1) (N := some 29) #[true, true, true, false, true, false, true, true, true, true, true, false, false] rfl rfl (one_of HT_.out (by kernel_rfl)) (by decide) (fun K hK => ?_)
    refine goes_ Tryd.func82 (by kernel_rfl) rfl #[.slice Ao34 t296.length co34] (by rfl) rfl rfl (by first | rfl | (simp only [List.map_toArray, List.map_cons, List.map_nil, List.length_drop, List.length_take]; rfl)) ?_
    with_reducible refine (spec_l1Out.calls kj3 _ _ t296 t305 _ ?side1 ?side2 A26.out).mono ?_
    (case side1 => repeat (first | exact (Kd.R_reads' HO298.out).2.2 | (with_reducible refine Kd.C_alloc ?_ _) | (with_reducible refine Kd.C_drewN ?_ _) | (with_reducible refine Kd.C_drew ?_)))
    (case side2 => exact (Kd.R_reads' HO298.out).2.1)
    rintro e w35 ⟨v306, rfl, ho0, hb⟩
    refine ⟨_, rfl, ?_⟩
    have n0_ := zM (Kd.R_elder' (by exact HO298.out) (Kd.R_base ho0) hb)
    have n1_ := zM (Kd.R_elder' (by exact HO301.out) (Kd.R_base ho0) hb)
    have n2_ := zM (Kd.R_elder' (by exact HO304.out) (Kd.R_base ho0) hb)
    have n3_ := zM (Kd.R_lower (Kd.R_new' (Kd.R_new' (Kd.R_new' ho0 (Kd.R_lt (by exact HO298.out))) (Kd.R_lt (by exact HO301.out))) (Kd.R_lt (by exact HO304.out))) (below_size HB.out))
    have n4_ := zM (blk_below BK288.out hb)
    have n5_ := zM (blk_below BK289.out hb)
    have n6_ := zM (blk_below BK295.out hb)
    have n7_ := zM (below_step HB.out hb)
    clear HO298
    clear HO301
    clear HO304
    clear BK288
    clear BK289
    clear BK295
    clear HB
    have HO298 := n0_
    have HO301 := n1_
    have HO304 := n2_
    have HO307 := n3_
    have BK288 := n4_
    have BK289 := n5_
    have BK295 := n6_
    have HB := n7_
    clear n0_ n1_ n2_ n3_ n4_ n5_ n6_ n7_
    try clear hb; try clear hb2; try clear hk; try clear hi
    (try clear ho0)
    obtain ⟨Ao36, co36, eo36⟩ := Kd.R_slice HO301.out
    (first | subst eo36 | (injection eo36 with f1_ f2_ f3_; have f4_ := f1_.symm; have f5_ := f3_.symm; clear f1_ f2_ f3_; subst f4_; subst f5_))
    refine hK.out _ _ ⟨(blk_cell BK295.out 0).trans rfl, (blk_cell BK295.out 1).trans rfl, (blk_cell BK295.out 2).trans rfl, (blk_cell BK295.out 3).trans rfl, (blk_cell BK295.out 4).trans rfl⟩ (fun hHeld => ?_)
    clear hK K
    refine norm_ (a' := ?_) ?_ ?_
    rotate_left
    ·show Act.put _ (some 29) _ = _
     simp only [Act.put, xT, xZ, xS, i64_w, i32_w]
     rfl
    refine one_ (i := 3) (N := some 31) #[true, true, true, true, true, false, true, true, true, true, true, false, false] rfl rfl (one_of HT_.out (by kernel_rfl)) (by decide) (fun K hK => ?_)
    refine goes_ Tryd.func82 (by kernel_rfl) rfl #[.slice Ao36 t299.length co36] (by rfl) rfl rfl (by first | rfl | (simp only [List.map_toArray, List.map_cons, List.map_nil, List.length_drop, List.length_take]; rfl)) ?_
    with_reducible refine (spec_l1Out.calls kj3 _ _ t299 t308 _ ?side1 ?side2 A27.out).mono ?_
    (case side1 => repeat (first | exact (Kd.R_reads' HO301.out).2.2 | (with_reducible refine Kd.C_alloc ?_ _) | (with_reducible refine Kd.C_drewN ?_ _) | (with_reducible refine Kd.C_drew ?_)))
    (case side2 => exact (Kd.R_reads' HO301.out).2.1)
    rintro e w37 ⟨v309, rfl, ho0, hb⟩
    refine ⟨_, rfl, ?_⟩
    have n0_ := zM (Kd.R_elder' (by exact HO298.out) (Kd.R_base ho0) hb)
    have n1_ := zM (Kd.R_elder' (by exact HO301.out) (Kd.R_base ho0) hb)
    have n2_ := zM (Kd.R_elder' (by exact HO304.out) (Kd.R_base ho0) hb)
    have n3_ := zM (Kd.R_elder' (by exact HO307.out) (Kd.R_base ho0) hb)
    have n4_ := zM (Kd.R_lower (Kd.R_new' (Kd.R_new' (Kd.R_new' (Kd.R_new' ho0 (Kd.R_lt (by exact HO298.out))) (Kd.R_lt (by exact HO301.out))) (Kd.R_lt (by exact HO304.out))) (Kd.R_lt (by exact HO307.out))) (below_size HB.out))
    have n5_ := zM (blk_below BK288.out hb)
    have n6_ := zM (blk_below BK289.out hb)
    have n7_ := zM (blk_below BK295.out hb)
    have n8_ := zM (below_step HB.out hb)
    clear HO298
    clear HO301
    clear HO304
    clear HO307
    clear BK288
    clear BK289
    clear BK295
    clear HB
    have HO298 := n0_
    have HO301 := n1_
    have HO304 := n2_
    have HO307 := n3_
    have HO310 := n4_
    have BK288 := n5_
    have BK289 := n6_
    have BK295 := n7_
    have HB := n8_
    clear n0_ n1_ n2_ n3_ n4_ n5_ n6_ n7_ n8_
    try clear hb; try clear hb2; try clear hk; try clear hi
    (try clear ho0)
    obtain ⟨Ao38, co38, eo38⟩ := Kd.R_slice HO304.out
    (first | subst eo38 | (injection eo38 with f1_ f2_ f3_; have f4_ := f1_.symm; have f5_ := f3_.symm; clear f1_ f2_ f3_; subst f4_; subst f5_))
    refine hK.out _ _ ⟨(blk_cell BK295.out 0).trans rfl, (blk_cell BK295.out 1).trans rfl, (blk_cell BK295.out 2).trans rfl, (blk_cell BK295.out 3).trans rfl, (blk_cell BK295.out 4).trans rfl⟩ (fun hHeld => ?_)
    clear hK K
    refine norm_ (a' := ?_) ?_ ?_
    rotate_left
    ·show Act.put _ (some 31) _ = _
     simp only [Act.put, xT, xZ, xS, i64_w, i32_w]
     rfl
    refine one_ (i := 5) (N := some 33) #[true, true, true, true, true, true, true, true, true, true, true, false, false] rfl rfl (one_of HT_.out (by kernel_rfl)) (by decide) (fun K hK => ?_)
    refine goes_ Tryd.func82 (by kernel_rfl) rfl #[.slice Ao38 t302.length co38] (by rfl) rfl rfl (by first | rfl | (simp only [List.map_toArray, List.map_cons, List.map_nil, List.length_drop, List.length_take]; rfl)) ?_
    with_reducible refine (spec_l1Out.calls kj3 _ _ t302 t311 _ ?side1 ?side2 A28.out).mono ?_
    (case side1 => repeat (first | exact (Kd.R_reads' HO304.out).2.2 | (with_reducible refine Kd.C_alloc ?_ _) | (with_reducible refine Kd.C_drewN ?_ _) | (with_reducible refine Kd.C_drew ?_)))
    (case side2 => exact (Kd.R_reads' HO304.out).2.1)
    rintro e w39 ⟨v312, rfl, ho0, hb⟩
    refine ⟨_, rfl, ?_⟩
    have n0_ := zM (Kd.R_elder' (by exact HO298.out) (Kd.R_base ho0) hb)
    have n1_ := zM (Kd.R_elder' (by exact HO301.out) (Kd.R_base ho0) hb)
    have n2_ := zM (Kd.R_elder' (by exact HO304.out) (Kd.R_base ho0) hb)
    have n3_ := zM (Kd.R_elder' (by exact HO307.out) (Kd.R_base ho0) hb)
    have n4_ := zM (Kd.R_elder' (by exact HO310.out) (Kd.R_base ho0) hb)
    have n5_ := zM (Kd.R_lower (Kd.R_new' (Kd.R_new' (Kd.R_new' (Kd.R_new' (Kd.R_new' ho0 (Kd.R_lt (by exact HO298.out))) (Kd.R_lt (by exact HO301.out))) (Kd.R_lt (by exact HO304.out))) (Kd.R_lt (by exact HO307.out))) (Kd.R_lt (by exact HO310.out))) (below_size HB.out))
    have n6_ := zM (blk_below BK288.out hb)
    have n7_ := zM (blk_below BK289.out hb)
    have n8_ := zM (blk_below BK295.out hb)
    have n9_ := zM (below_step HB.out hb)
    clear HO298
    clear HO301
    clear HO304
    clear HO307
    clear HO310
    clear BK288
    clear BK289
    clear BK295
    clear HB
    have HO298 := n0_
    have HO301 := n1_
    have HO304 := n2_
    have HO307 := n3_
    have HO310 := n4_
    have HO313 := n5_
    have BK288 := n6_
    have BK289 := n7_
    have BK295 := n8_
    have HB := n9_
    clear n0_ n1_ n2_ n3_ n4_ n5_ n6_ n7_ n8_ n9_
    try clear hb; try clear hb2; try clear hk; try clear hi
    (try clear ho0)
    obtain ⟨Ao40, co40, eo40⟩ := Kd.R_slice HO313.out
    (first | subst eo40 | (injection eo40 with f1_ f2_ f3_; have f4_ := f1_.symm; have f5_ := f3_.symm; clear f1_ f2_ f3_; subst f4_; subst f5_))
    obtain ⟨Ao41, co41, eo41⟩ := Kd.R_slice HO310.out
    (first | subst eo41 | (injection eo41 with f1_ f2_ f3_; have f4_ := f1_.symm; have f5_ := f3_.symm; clear f1_ f2_ f3_; subst f4_; subst f5_))
    obtain ⟨Ao42, co42, eo42⟩ := Kd.R_slice HO307.out
    (first | subst eo42 | (injection eo42 with f1_ f2_ f3_; have f4_ := f1_.symm; have f5_ := f3_.symm; clear f1_ f2_ f3_; subst f4_; subst f5_))
    refine hK.out _ _ ⟨(blk_cell BK295.out 0).trans rfl, (blk_cell BK295.out 1).trans rfl, (blk_cell BK295.out 2).trans rfl, (blk_cell BK295.out 3).trans rfl, (blk_cell BK295.out 4).trans rfl⟩ (fun hHeld => ?_)
    clear hK K
    refine norm_ (a' := ?_) ?_ ?_
    rotate_left
    ·show Act.put _ (some 33) _ = _
     simp only [Act.put, xT, xZ, xS, i64_w, i32_w]
     rfl
    refine pure_ (i := 11) (N := some 39) (v := ?_) (a' := ?_) #[true, true, true, true, true, true, true, true, true, true, true, true, false] rfl rfl (any_of HT_.out (by kernel_rfl)) (fun _ _ _ h => h) (Or.inl ⟨by rfl, ?_⟩) ?_ ?_
    rotate_left
    ·intro w'
     go_simp
     with_reducible rfl
    rotate_left
    ·simp only [Act.put, xT, xZ, xS, i64_w, i32_w]
     rfl
    refine one_ (i := 12) (N := none) #[true, true, true, true, true, true, true, true, true, true, true, true, true] rfl rfl (one_of HT_.out (by kernel_rfl)) (by decide) (fun K hK => ?_)
    have hs43 : w39.cell? ⟨gb289, 0, none⟩ = some (.slice none 0 0) := (blk_cell BK289.out 0).trans rfl
    have hfs43 := blk_frozen BK289.out 0
    have hns43_0 := NB288_289.out
    have hns43_2 := NB295_289.out
    have hms43_0 := NB289_288.out
    have hms43_2 := NB289_295.out
    have hs44 : w39.cell? ⟨gb289, 1, none⟩ = some (.slice none 0 0) := (blk_cell BK289.out 1).trans rfl
    have hfs44 := blk_frozen BK289.out 1
    have hns44_0 := NB288_289.out
    have hns44_2 := NB295_289.out
    have hms44_0 := NB289_288.out
    have hms44_2 := NB289_295.out
    have hs45 : w39.cell? ⟨gb289, 2, none⟩ = some (.slice none 0 0) := (blk_cell BK289.out 2).trans rfl
    have hfs45 := blk_frozen BK289.out 2
    have hns45_0 := NB288_289.out
    have hns45_2 := NB295_289.out
    have hms45_0 := NB289_288.out
    have hms45_2 := NB289_295.out
    have hs46 : w39.cell? ⟨gb289, 3, none⟩ = some (.bool false) := (blk_cell BK289.out 3).trans rfl
    have hfs46 := blk_frozen BK289.out 3
    have hns46_0 := NB288_289.out
    have hns46_2 := NB295_289.out
    have hms46_0 := NB289_288.out
    have hms46_2 := NB289_295.out
    have hs47 : w39.cell? ⟨gb289, 4, none⟩ = some (.bool false) := (blk_cell BK289.out 4).trans rfl
    have hfs47 := blk_frozen BK289.out 4
    have hns47_0 := NB288_289.out
    have hns47_2 := NB295_289.out
    have hms47_0 := NB289_288.out
    have hms47_2 := NB289_295.out
    refine skip_ (w1 := ?_) (by rfl) rfl ?_ ?_
    rotate_left
    ·go_simp
     rfl
    refine hK.out _ _ ⟨((cell_far (p := ⟨gb289, _, none⟩) NB295_289.out _).trans (((cell_far (p := ⟨gb289, _, none⟩) NB295_289.out _).trans (((cell_far (p := ⟨gb289, _, none⟩) NB295_289.out _).trans (((cell_far (p := ⟨gb289, _, none⟩) NB295_289.out _).trans (((cell_far (p := ⟨gb289, _, none⟩) NB295_289.out _).trans (hHeld.1)))))))))), ((cell_far (p := ⟨gb289, _, none⟩) NB295_289.out _).trans (((cell_far (p := ⟨gb289, _, none⟩) NB295_289.out _).trans (((cell_far (p := ⟨gb289, _, none⟩) NB295_289.out _).trans (((cell_far (p := ⟨gb289, _, none⟩) NB295_289.out _).trans (((cell_far (p := ⟨gb289, _, none⟩) NB295_289.out _).trans (hHeld.2.1)))))))))), ((cell_far (p := ⟨gb289, _, none⟩) NB295_289.out _).trans (((cell_far (p := ⟨gb289, _, none⟩) NB295_289.out _).trans (((cell_far (p := ⟨gb289, _, none⟩) NB295_289.out _).trans (((cell_far (p := ⟨gb289, _, none⟩) NB295_289.out _).trans (((cell_far (p := ⟨gb289, _, none⟩) NB295_289.out _).trans (hHeld.2.2.1)))))))))), ((cell_far (p := ⟨gb289, _, none⟩) NB295_289.out _).trans (((cell_far (p := ⟨gb289, _, none⟩) NB295_289.out _).trans (((cell_far (p := ⟨gb289, _, none⟩) NB295_289.out _).trans (((cell_far (p := ⟨gb289, _, none⟩) NB295_289.out _).trans (((cell_far (p := ⟨gb289, _, none⟩) NB295_289.out _).trans (hHeld.2.2.2.1)))))))))), ((cell_far (p := ⟨gb289, _, none⟩) NB295_289.out _).trans (((cell_far (p := ⟨gb289, _, none⟩) NB295_289.out _).trans (((cell_far (p := ⟨gb289, _, none⟩) NB295_289.out _).trans (((cell_far (p := ⟨gb289, _, none⟩) NB295_289.out _).trans (((cell_far (p := ⟨gb289, _, none⟩) NB295_289.out _).trans (hHeld.2.2.2.2))))))))))⟩ (fun hHeld => ?_)
    clear hK K
    refine done_ (done_of HT_.out (by kernel_rfl)) ?_
    try go_wp2
    refine bodyPost_ret (results_cell_row rfl _ _ gb289 43 #[.slice Ao42 t305.length co42, .slice Ao41 t308.length co41, .slice Ao40 t311.length co40, .bool ((Int.tmod t293 2) == 0), .bool true] (0, 0) _ rfl (by refine blk_put (cs := #[.slice Ao42 t305.length co42, .slice Ao41 t308.length co41, .slice Ao40 t311.length co40, .bool ((Int.tmod t293 2) == 0), .bool false]) ?_ 4 _ rfl; refine blk_put (cs := #[.slice Ao42 t305.length co42, .slice Ao41 t308.length co41, .slice Ao40 t311.length co40, .bool false, .bool false]) ?_ 3 _ rfl; refine blk_put (cs := #[.slice Ao42 t305.length co42, .slice Ao41 t308.length co41, .slice none 0 0, .bool false, .bool false]) ?_ 2 _ rfl; refine blk_put (cs := #[.slice Ao42 t305.length co42, .slice none 0 0, .slice none 0 0, .bool false, .bool false]) ?_ 1 _ rfl; refine blk_put (cs := #[.slice none 0 0, .slice none 0 0, .slice none 0 0, .bool false, .bool false]) ?_ 0 _ rfl; exact BK289.out) Tryd.underlying43 rfl (by kernel_rfl)) rfl ?_
    exact ⟨_, _, _, by first | rfl | (simp [errW_none, errW_some] <;> rfl) | (simp [*, errW_none, errW_some] <;> rfl), by exact Kd.R_mono (Kd.R_far (p := ⟨gb289, 4, none⟩) (Kd.R_far (p := ⟨gb289, 3, none⟩) (Kd.R_far (p := ⟨gb289, 2, none⟩) (Kd.R_far (p := ⟨gb289, 1, none⟩) (Kd.R_far (p := ⟨gb289, 0, none⟩) (Kd.R_types HO307.out BK289.out (by decide)) (fun _ hk => hk.2) (.slice Ao42 t305.length co42)) (fun _ hk => hk.2) (.slice Ao41 t308.length co41)) (fun _ hk => hk.2) (.slice Ao40 t311.length co40)) (fun _ hk => hk.2) (.bool ((Int.tmod t293 2) == 0))) (fun _ hk => hk.2) (.bool true)) (fun _ hk => ⟨hk.1.1.2, hk.1.2⟩), by exact Kd.R_mono (Kd.R_far (p := ⟨gb289, 4, none⟩) (Kd.R_far (p := ⟨gb289, 3, none⟩) (Kd.R_far (p := ⟨gb289, 2, none⟩) (Kd.R_far (p := ⟨gb289, 1, none⟩) (Kd.R_far (p := ⟨gb289, 0, none⟩) (Kd.R_types HO310.out BK289.out (by decide)) (fun _ hk => hk.2) (.slice Ao42 t305.length co42)) (fun _ hk => hk.2) (.slice Ao41 t308.length co41)) (fun _ hk => hk.2) (.slice Ao40 t311.length co40)) (fun _ hk => hk.2) (.bool ((Int.tmod t293 2) == 0))) (fun _ hk => hk.2) (.bool true)) (fun _ hk => ⟨hk.1.1.2, hk.1.2⟩), by exact Kd.R_mono (Kd.R_far (p := ⟨gb289, 4, none⟩) (Kd.R_far (p := ⟨gb289, 3, none⟩) (Kd.R_far (p := ⟨gb289, 2, none⟩) (Kd.R_far (p := ⟨gb289, 1, none⟩) (Kd.R_far (p := ⟨gb289, 0, none⟩) (Kd.R_types HO313.out BK289.out (by decide)) (fun _ hk => hk.2) (.slice Ao42 t305.length co42)) (fun _ hk => hk.2) (.slice Ao41 t308.length co41)) (fun _ hk => hk.2) (.slice Ao40 t311.length co40)) (fun _ hk => hk.2) (.bool ((Int.tmod t293 2) == 0))) (fun _ hk => hk.2) (.bool true)) (fun _ hk => ⟨hk.1.1.2, hk.1.2⟩), by repeat (first | (with_reducible first | exact HB.out | apply yA | apply yN | apply yD | refine below_set ?_ GE288.out | refine below_set ?_ GE289.out | refine below_set ?_ GE295.out) | exact HB.out)⟩
def impl_Word_right.f (a0_0 : Int) (a0_1 : Int) (a1 : Int) : Option (Int × Int) := if a1 = 0 then (some (a0_0, a0_1)) else (if a1 ≥ 128 then (some (0, 0)) else (if a1 ≥ 64 then (if 0 ≤ (wrap64 (a1 - 64)) then (some (0, shr .u64 a0_0 (wrap64 (a1 - 64)))) else (none)) else (if 0 ≤ a1 then (if 0 ≤ (wrap64 (64 - a1)) then (some (shr .u64 a0_0 a1, Go.bits .or .u64 (shr .u64 a0_1 a1) (shl .u64 a0_0 (wrap64 (64 - a1))))) else (none)) else (none))))
def impl_Word_right.T7 : Bool × List (List Nat × List Nat) := (true, [([], []), ([0], [0]), ([], []), ([1, 2], [1, 2]), ([], []), ([4], [4]), ([], []), ([5, 6], [5, 6]), ([], []), ([8], [8]), ([], []), ([10], [10]), ([9, 11], [9, 11]), ([7, 12], [7, 12]), ([3, 13], [3, 13]), ([14, 0, 1, 2, 3, 4, 5, 6, 7, 8, 9, 10, 11, 12, 13, 14], [14])])
def impl_Word_right.B7 : List Nat := [0, 1, 0, 7, 0, 16, 0, 112, 0, 256, 0, 1024, 3840, 8176, 16383, 32767]
theorem impl_Word_right.tab7 : rtab .any (opsOf Tryd.f66 7) = impl_Word_right.T7 := by kernel_rfl
theorem impl_Word_right.bits7 : waitsOk impl_Word_right.T7.2 impl_Word_right.B7 = true := by kernel_rfl
set_option maxHeartbeats 8000000 in
set_option maxRecDepth 100000 in
theorem impl_Word_right.calls (a0_0 : Int) (a0_1 : Int) (a1 : Int) (r1 : Int) (r2 : Int) (w : World) (h : impl_Word_right.f a0_0 a0_1 a1 = some (r1, r2)) :
  Calls Tryd.prog 66 #[.agg #[.int .u64 a0_0, .int .u64 a0_1], .int .i64 a1] w fun e w' => e = .returned (.agg #[.int .u64 r1, .int .u64 r2]) ∧ Below w.heap.size w w' := by
 have hu25 := Tryd.underlying25
 have HB := zM (Below.refl w.heap.size w)
 have H : (if a1 = 0 then (some (a0_0, a0_1)) else (if a1 ≥ 128 then (some (0, 0)) else (if a1 ≥ 64 then (if 0 ≤ (wrap64 (a1 - 64)) then (some (0, shr .u64 a0_0 (wrap64 (a1 - 64)))) else (none)) else (if 0 ≤ a1 then (if 0 ≤ (wrap64 (64 - a1)) then (some (shr .u64 a0_0 a1, Go.bits .or .u64 (shr .u64 a0_1 a1) (shl .u64 a0_0 (wrap64 (64 - a1))))) else (none)) else (none))))) = some (r1, r2) := h
 clear h
 by_cases c3 : a1 = 0
 ·rw [if_pos c3] at H
  have c3b0 : (a1 == 0) = true := beq_iff_eq.mpr c3
  have c3b1 : (a1 != 0) = false := bne_eq_false_iff_eq.mpr c3
  clear c3
  simp only [Option.some.injEq, Prod.mk.injEq] at H
  obtain ⟨rfl, rfl⟩ := H
  go_enter Tryd.func66, Tryd.ntmps66
  go_wp2_with (first | ((with_reducible refine gate_dst (N := 2) rfl ?_); refine box_event ?hg (N := 2) ?hd (cs := #[.int .u64 a0_0, .int .u64 a0_1]) (t := 25) ?hr ?_; (case hd => rfl); (case hg => rfl); (case hr => first | (go_simp; done) | (go_simp; rfl)); intro gb314 hg w4 hbox hb; have n0_ := zM (below_step HB.out hb); have n1_ := zM (hbox); have n2_ := zM ((by rw [hg]; exact (below_size HB.out) : w.heap.size ≤ gb314)); have n3_ := zM ((by rw [hg]; exact (below_size HB.out) : w.heap.size ≤ gb314)); clear HB; have HB := n0_; have BK314 := n1_; have GW314 := n2_; have GE314 := n3_; clear n0_ n1_ n2_ n3_; clear hb hbox hg) | ((with_reducible refine gate_dst (N := 4) rfl ?_); refine box_event ?hg (N := 4) ?hd (cs := #[.int .u64 0, .int .u64 0]) (t := 25) ?hr ?_; (case hd => rfl); (case hg => rfl); (case hr => first | (go_simp; done) | (go_simp; rfl)); intro gb315 hg w5 hbox hb; have n0_ := zM (blk_below BK314.out hb); have n1_ := zM (below_step HB.out hb); have n2_ := zM (hbox); have n3_ := zM ((by rw [hg]; exact (below_size HB.out) : w.heap.size ≤ gb315)); have n4_ := zM ((by rw [hg]; exact (below_size HB.out) : w.heap.size ≤ gb315)); have n5_ := zM ((by rw [hg]; exact Nat.ne_of_lt (blk_lt BK314.out) : gb314 ≠ gb315)); have n6_ := zM ((by rw [hg]; exact Nat.ne_of_gt (blk_lt BK314.out) : gb315 ≠ gb314)); clear BK314; clear HB; have BK314 := n0_; have HB := n1_; have BK315 := n2_; have GW315 := n3_; have GE315 := n4_; have NB314_315 := n5_; have NB315_314 := n6_; clear n0_ n1_ n2_ n3_ n4_ n5_ n6_; clear hb hbox hg; have hnb6 := NB314_315.out; have hnc6 := NB315_314.out; have hcz7_0 : w5.cell? ⟨gb314, 0, none⟩ = some (.int .u64 a0_0) := (blk_cell BK314.out 0).trans rfl; have hcz7_1 : w5.cell? ⟨gb314, 1, none⟩ = some (.int .u64 a0_1) := (blk_cell BK314.out 1).trans rfl; have hfz7_0 := blk_frozen BK314.out 0; have hfz7_1 := blk_frozen BK314.out 1; have hcz8_0 : w5.cell? ⟨gb315, 0, none⟩ = some (.int .u64 0) := (blk_cell BK315.out 0).trans rfl; have hcz8_1 : w5.cell? ⟨gb315, 1, none⟩ = some (.int .u64 0) := (blk_cell BK315.out 1).trans rfl; have hfz8_0 := blk_frozen BK315.out 0; have hfz8_1 := blk_frozen BK315.out 1))
  refine bodyPost_ret (results_cell_row rfl _ _ gb315 25 #[.int .u64 a0_0, .int .u64 a0_1] (0, 0) _ rfl (by refine blk_put (cs := #[.int .u64 a0_0, .int .u64 0]) ?_ 1 _ rfl; refine blk_put (cs := #[.int .u64 0, .int .u64 0]) ?_ 0 _ rfl; exact BK315.out) Tryd.underlying25 rfl (by kernel_rfl)) rfl ?_
  exact ⟨by first | rfl | (simp [errW_none, errW_some] <;> rfl) | (simp [*, errW_none, errW_some] <;> rfl), by repeat (first | (with_reducible first | exact HB.out | apply yA | apply yN | apply yD | refine below_set ?_ GE314.out | refine below_set ?_ GE315.out) | exact HB.out)⟩
 ·rw [if_neg c3] at H
  have c3b0 : (a1 == 0) = false := beq_eq_false_iff_ne.mpr c3
  have c3b1 : (a1 != 0) = true := bne_iff_ne.mpr c3
  by_cases c9 : a1 ≥ 128
  ·rw [if_pos c9] at H
   have c9b0 : decide (128 ≤ a1) = true := decide_eq_true c9
   clear c9
   simp only [Option.some.injEq, Prod.mk.injEq] at H
   obtain ⟨rfl, rfl⟩ := H
   go_enter Tryd.func66, Tryd.ntmps66
   go_wp2_with (first | ((with_reducible refine gate_dst (N := 2) rfl ?_); refine box_event ?hg (N := 2) ?hd (cs := #[.int .u64 a0_0, .int .u64 a0_1]) (t := 25) ?hr ?_; (case hd => rfl); (case hg => rfl); (case hr => first | (go_simp; done) | (go_simp; rfl)); intro gb314 hg w10 hbox hb; have n0_ := zM (below_step HB.out hb); have n1_ := zM (hbox); have n2_ := zM ((by rw [hg]; exact (below_size HB.out) : w.heap.size ≤ gb314)); have n3_ := zM ((by rw [hg]; exact (below_size HB.out) : w.heap.size ≤ gb314)); clear HB; have HB := n0_; have BK314 := n1_; have GW314 := n2_; have GE314 := n3_; clear n0_ n1_ n2_ n3_; clear hb hbox hg) | ((with_reducible refine gate_dst (N := 4) rfl ?_); refine box_event ?hg (N := 4) ?hd (cs := #[.int .u64 0, .int .u64 0]) (t := 25) ?hr ?_; (case hd => rfl); (case hg => rfl); (case hr => first | (go_simp; done) | (go_simp; rfl)); intro gb315 hg w11 hbox hb; have n0_ := zM (blk_below BK314.out hb); have n1_ := zM (below_step HB.out hb); have n2_ := zM (hbox); have n3_ := zM ((by rw [hg]; exact (below_size HB.out) : w.heap.size ≤ gb315)); have n4_ := zM ((by rw [hg]; exact (below_size HB.out) : w.heap.size ≤ gb315)); have n5_ := zM ((by rw [hg]; exact Nat.ne_of_lt (blk_lt BK314.out) : gb314 ≠ gb315)); have n6_ := zM ((by rw [hg]; exact Nat.ne_of_gt (blk_lt BK314.out) : gb315 ≠ gb314)); clear BK314; clear HB; have BK314 := n0_; have HB := n1_; have BK315 := n2_; have GW315 := n3_; have GE315 := n4_; have NB314_315 := n5_; have NB315_314 := n6_; clear n0_ n1_ n2_ n3_ n4_ n5_ n6_; clear hb hbox hg; have hnb12 := NB315_314.out; have hnc12 := NB314_315.out; have hcz13_0 : w11.cell? ⟨gb315, 0, none⟩ = some (.int .u64 0) := (blk_cell BK315.out 0).trans rfl; have hcz13_1 : w11.cell? ⟨gb315, 1, none⟩ = some (.int .u64 0) := (blk_cell BK315.out 1).trans rfl; have hfz13_0 := blk_frozen BK315.out 0; have hfz13_1 := blk_frozen BK315.out 1))
   refine bodyPost_ret (results_cell_row rfl _ _ gb315 25 #[.int .u64 0, .int .u64 0] (0, 0) _ rfl (by refine blk_put (cs := #[.int .u64 0, .int .u64 0]) ?_ 1 _ rfl; refine blk_put (cs := #[.int .u64 0, .int .u64 0]) ?_ 0 _ rfl; exact BK315.out) Tryd.underlying25 rfl (by kernel_rfl)) rfl ?_
   exact ⟨by first | rfl | (simp [errW_none, errW_some] <;> rfl) | (simp [*, errW_none, errW_some] <;> rfl), by repeat (first | (with_reducible first | exact HB.out | apply yA | apply yN | apply yD | refine below_set ?_ GE314.out | refine below_set ?_ GE315.out) | exact HB.out)⟩
  ·rw [if_neg c9] at H
   have c9b0 : decide (128 ≤ a1) = false := decide_eq_false c9
   clear c9
   by_cases c14 : a1 ≥ 64
   ·rw [if_pos c14] at H
    have c14b0 : decide (64 ≤ a1) = true := decide_eq_true c14
    clear c14
    obtain ⟨ji15, hji15⟩ : ∃ j_ : Int, (wrap64 (a1 - 64)) = j_ := ⟨_, rfl⟩
    replace H : (if 0 ≤ (ji15) then (some (0, shr .u64 a0_0 (ji15))) else (none)) = some (r1, r2) := by first | (rw [hji15] at H; exact H) | (simp only [hji15] at H ⊢; exact H)
    have hji15w : (IntKind.i64.wrap (a1 - 64)) = ji15 := (i64_w _).trans hji15
    by_cases c16 : 0 ≤ (ji15)
    ·rw [if_pos c16] at H
     have c16b0 := eq_true c16
     have c16b1 : decide (0 ≤ (ji15)) = true := decide_eq_true c16
     clear c16
     obtain ⟨ji17, hji17⟩ : ∃ j_ : Int, (shr .u64 a0_0 (ji15)) = j_ := ⟨_, rfl⟩
     replace H : (some (0, ji17)) = some (r1, r2) := by first | (rw [hji17] at H; exact H) | (simp only [hji17] at H ⊢; exact H)
     have hji17_ : (a0_0 / 2 ^ min (ji15).toNat 64) = ji17 := hji17
     have hji17z : (ji15) ≤ 64 → (a0_0 / 2 ^ (ji15).toNat) = ji17 := shr_small hji17
     simp only [Option.some.injEq, Prod.mk.injEq] at H
     obtain ⟨rfl, rfl⟩ := H
     go_enter Tryd.func66, Tryd.ntmps66
     go_wp2_with (first | ((with_reducible refine gate_dst (N := 2) rfl ?_); refine box_event ?hg (N := 2) ?hd (cs := #[.int .u64 a0_0, .int .u64 a0_1]) (t := 25) ?hr ?_; (case hd => rfl); (case hg => rfl); (case hr => first | (go_simp; done) | (go_simp; rfl)); intro gb314 hg w18 hbox hb; have n0_ := zM (below_step HB.out hb); have n1_ := zM (hbox); have n2_ := zM ((by rw [hg]; exact (below_size HB.out) : w.heap.size ≤ gb314)); have n3_ := zM ((by rw [hg]; exact (below_size HB.out) : w.heap.size ≤ gb314)); clear HB; have HB := n0_; have BK314 := n1_; have GW314 := n2_; have GE314 := n3_; clear n0_ n1_ n2_ n3_; clear hb hbox hg) | ((with_reducible refine gate_dst (N := 4) rfl ?_); refine box_event ?hg (N := 4) ?hd (cs := #[.int .u64 0, .int .u64 0]) (t := 25) ?hr ?_; (case hd => rfl); (case hg => rfl); (case hr => first | (go_simp; done) | (go_simp; rfl)); intro gb315 hg w19 hbox hb; have n0_ := zM (blk_below BK314.out hb); have n1_ := zM (below_step HB.out hb); have n2_ := zM (hbox); have n3_ := zM ((by rw [hg]; exact (below_size HB.out) : w.heap.size ≤ gb315)); have n4_ := zM ((by rw [hg]; exact (below_size HB.out) : w.heap.size ≤ gb315)); have n5_ := zM ((by rw [hg]; exact Nat.ne_of_lt (blk_lt BK314.out) : gb314 ≠ gb315)); have n6_ := zM ((by rw [hg]; exact Nat.ne_of_gt (blk_lt BK314.out) : gb315 ≠ gb314)); clear BK314; clear HB; have BK314 := n0_; have HB := n1_; have BK315 := n2_; have GW315 := n3_; have GE315 := n4_; have NB314_315 := n5_; have NB315_314 := n6_; clear n0_ n1_ n2_ n3_ n4_ n5_ n6_; clear hb hbox hg; have hnb20 := NB314_315.out; have hnc20 := NB315_314.out; have hcz21_0 : w19.cell? ⟨gb314, 0, none⟩ = some (.int .u64 a0_0) := (blk_cell BK314.out 0).trans rfl; have hcz21_1 : w19.cell? ⟨gb314, 1, none⟩ = some (.int .u64 a0_1) := (blk_cell BK314.out 1).trans rfl; have hfz21_0 := blk_frozen BK314.out 0; have hfz21_1 := blk_frozen BK314.out 1; have hcz22_0 : w19.cell? ⟨gb315, 0, none⟩ = some (.int .u64 0) := (blk_cell BK315.out 0).trans rfl; have hcz22_1 : w19.cell? ⟨gb315, 1, none⟩ = some (.int .u64 0) := (blk_cell BK315.out 1).trans rfl; have hfz22_0 := blk_frozen BK315.out 0; have hfz22_1 := blk_frozen BK315.out 1))
     refine bodyPost_ret (results_cell_row rfl _ _ gb315 25 #[.int .u64 0, .int .u64 ji17] (0, 0) _ rfl (by refine blk_put (cs := #[.int .u64 0, .int .u64 0]) ?_ 1 _ rfl; refine blk_put (cs := #[.int .u64 0, .int .u64 0]) ?_ 0 _ rfl; exact BK315.out) Tryd.underlying25 rfl (by kernel_rfl)) rfl ?_
     exact ⟨by first | rfl | (simp [errW_none, errW_some] <;> rfl) | (simp only [← hji15, ← hji17]; first | rfl | (simp [errW_none, errW_some] <;> rfl)) | (simp [*, errW_none, errW_some] <;> rfl), by repeat (first | (with_reducible first | exact HB.out | apply yA | apply yN | apply yD | refine below_set ?_ GE314.out | refine below_set ?_ GE315.out) | exact HB.out)⟩
    ·rw [if_neg c16] at H
     exact absurd H (by simp)
   ·rw [if_neg c14] at H
    have c14b0 : decide (64 ≤ a1) = false := decide_eq_false c14
    clear c14
    by_cases c23 : 0 ≤ a1
    ·rw [if_pos c23] at H
     have c23b0 := eq_true c23
     have c23b1 : decide (0 ≤ a1) = true := decide_eq_true c23
     clear c23
     obtain ⟨ji24, hji24⟩ : ∃ j_ : Int, (shr .u64 a0_0 a1) = j_ := ⟨_, rfl⟩
     replace H : (if 0 ≤ (wrap64 (64 - a1)) then (some (ji24, Go.bits .or .u64 (shr .u64 a0_1 a1) (shl .u64 a0_0 (wrap64 (64 - a1))))) else (none)) = some (r1, r2) := by first | (rw [hji24] at H; exact H) | (simp only [hji24] at H ⊢; exact H)
     have hji24_ : (a0_0 / 2 ^ min a1.toNat 64) = ji24 := hji24
     have hji24z : a1 ≤ 64 → (a0_0 / 2 ^ a1.toNat) = ji24 := shr_small hji24
     have c25b0 := eq_true (of_decide_eq_true (by first | (with_reducible assumption) | assumption) : 0 ≤ a1)
     obtain ⟨ji26, hji26⟩ : ∃ j_ : Int, (shr .u64 a0_1 a1) = j_ := ⟨_, rfl⟩
     replace H : (if 0 ≤ (wrap64 (64 - a1)) then (some (ji24, Go.bits .or .u64 (ji26) (shl .u64 a0_0 (wrap64 (64 - a1))))) else (none)) = some (r1, r2) := by first | (rw [hji26] at H; exact H) | (simp only [hji26] at H ⊢; exact H)
     have hji26_ : (a0_1 / 2 ^ min a1.toNat 64) = ji26 := hji26
     have hji26z : a1 ≤ 64 → (a0_1 / 2 ^ a1.toNat) = ji26 := shr_small hji26
     obtain ⟨ji27, hji27⟩ : ∃ j_ : Int, (wrap64 (64 - a1)) = j_ := ⟨_, rfl⟩
     replace H : (if 0 ≤ (ji27) then (some (ji24, Go.bits .or .u64 (ji26) (shl .u64 a0_0 (ji27)))) else (none)) = some (r1, r2) := by first | (rw [hji27] at H; exact H) | (simp only [hji27] at H ⊢; exact H)
     have hji27w : (IntKind.i64.wrap (64 - a1)) = ji27 := (i64_w _).trans hji27
     by_cases c28 : 0 ≤ (ji27)
     ·rw [if_pos c28] at H
      have c28b0 := eq_true c28
      have c28b1 : decide (0 ≤ (ji27)) = true := decide_eq_true c28
      clear c28
      obtain ⟨ji29, hji29⟩ : ∃ j_ : Int, (shl .u64 a0_0 (ji27)) = j_ := ⟨_, rfl⟩
      replace H : (some (ji24, Go.bits .or .u64 (ji26) (ji29))) = some (r1, r2) := by first | (rw [hji29] at H; exact H) | (simp only [hji29] at H ⊢; exact H)
      have hji29_ : (IntKind.u64.wrap (a0_0 * 2 ^ min (ji27).toNat 64)) = ji29 := hji29
      have hji29z : (ji27) ≤ 64 → (IntKind.u64.wrap (a0_0 * 2 ^ (ji27).toNat)) = ji29 := shl_small hji29
      simp only [Option.some.injEq, Prod.mk.injEq] at H
      obtain ⟨rfl, rfl⟩ := H
      go_enter Tryd.func66, Tryd.ntmps66
      try go_wp2_with (first | ((with_reducible refine gate_dst (N := 2) rfl ?_); refine box_event ?hg (N := 2) ?hd (cs := #[.int .u64 a0_0, .int .u64 a0_1]) (t := 25) ?hr ?_; (case hd => rfl); (case hg => rfl); (case hr => first | (go_simp; done) | (go_simp; rfl)); intro gb314 hg w30 hbox hb; have n0_ := zM (below_step HB.out hb); have n1_ := zM (hbox); have n2_ := zM ((by rw [hg]; exact (below_size HB.out) : w.heap.size ≤ gb314)); have n3_ := zM ((by rw [hg]; exact (below_size HB.out) : w.heap.size ≤ gb314)); clear HB; have HB := n0_; have BK314 := n1_; have GW314 := n2_; have GE314 := n3_; clear n0_ n1_ n2_ n3_; clear hb hbox hg) | ((with_reducible refine gate_dst (N := 4) rfl ?_); refine box_event ?hg (N := 4) ?hd (cs := #[.int .u64 0, .int .u64 0]) (t := 25) ?hr ?_; (case hd => rfl); (case hg => rfl); (case hr => first | (go_simp; done) | (go_simp; rfl)); intro gb315 hg w31 hbox hb; have n0_ := zM (blk_below BK314.out hb); have n1_ := zM (below_step HB.out hb); have n2_ := zM (hbox); have n3_ := zM ((by rw [hg]; exact (below_size HB.out) : w.heap.size ≤ gb315)); have n4_ := zM ((by rw [hg]; exact (below_size HB.out) : w.heap.size ≤ gb315)); have n5_ := zM ((by rw [hg]; exact Nat.ne_of_lt (blk_lt BK314.out) : gb314 ≠ gb315)); have n6_ := zM ((by rw [hg]; exact Nat.ne_of_gt (blk_lt BK314.out) : gb315 ≠ gb314)); clear BK314; clear HB; have BK314 := n0_; have HB := n1_; have BK315 := n2_; have GW315 := n3_; have GE315 := n4_; have NB314_315 := n5_; have NB315_314 := n6_; clear n0_ n1_ n2_ n3_ n4_ n5_ n6_; clear hb hbox hg))
      have n0_ := zM (zD BK314.out)
      have n1_ := zM (zD BK315.out)
      have n2_ := zM (yD HB.out)
      clear BK314
      clear BK315
      clear HB
      have BK314 := n0_
      have BK315 := n1_
      have HB := n2_
      clear n0_ n1_ n2_
      refine start_ (n := 16) (S := fun w' => w'.cell? ⟨gb314, 0, none⟩ = some (.int .u64 a0_0) ∧ w'.cell? ⟨gb314, 1, none⟩ = some (.int .u64 a0_1)) (ds := []) #[false, false, false, false, false, false, false, false, false, false, false, false, false, false, false, false] (by kernel_rfl) rfl rfl ⟨(blk_cell BK314.out 0).trans rfl, (blk_cell BK314.out 1).trans rfl⟩ (fun hHeld => ?_); refine with_tabW impl_Word_right.tab7 impl_Word_right.bits7 (fun HT_ HW_ => ?_)
      generalize w31.drew = w32 at BK314 BK315 HB hHeld ⊢
      refine pure_ (i := 0) (N := some 22) (v := ?_) (a' := ?_) #[true, false, false, false, false, false, false, false, false, false, false, false, false, false, false, false] rfl rfl (any_of HT_.out (by kernel_rfl)) (fun _ _ _ h => h) (Or.inl ⟨by rfl, ?_⟩) ?_ ?_
      rotate_left
      ·intro w'
       go_simp
       with_reducible rfl
      rotate_left
      ·simp only [Act.put, xT, xZ, xS, i64_w, i32_w]
       rfl
      refine pure_ (i := 2) (N := some 24) (v := ?_) (a' := ?_) #[true, false, true, false, false, false, false, false, false, false, false, false, false, false, false, false] rfl rfl (any_of HT_.out (by kernel_rfl)) (fun _ _ _ h => h) (Or.inl ⟨by rfl, ?_⟩) ?_ ?_
      rotate_left
      ·intro w'
       go_simp
       with_reducible rfl
      rotate_left
      ·simp only [Act.put, xT, xZ, xS, i64_w, i32_w]
       rfl
      refine pure_ (i := 4) (N := some 26) (v := ?_) (a' := ?_) #[true, false, true, false, true, false, false, false, false, false, false, false, false, false, false, false] rfl rfl (any_of HT_.out (by kernel_rfl)) (fun _ _ _ h => h) (Or.inl ⟨by rfl, ?_⟩) ?_ ?_
      rotate_left
      ·intro w'
       go_simp
       with_reducible rfl
      rotate_left
      ·simp only [Act.put, xT, xZ, xS, i64_w, i32_w]
       rfl
      refine pure_ (i := 6) (N := some 28) (v := ?_) (a' := ?_) #[true, false, true, false, true, false, true, false, false, false, false, false, false, false, false, false] rfl rfl (any_of HT_.out (by kernel_rfl)) (fun _ _ _ h => h) (Or.inl ⟨by rfl, ?_⟩) ?_ ?_
      rotate_left
      ·intro w'
       go_simp
       with_reducible rfl
      rotate_left
      ·simp only [Act.put, xT, xZ, xS, i64_w, i32_w]
       rfl
      refine pure_ (i := 8) (N := some 30) (v := ?_) (a' := ?_) #[true, false, true, false, true, false, true, false, true, false, false, false, false, false, false, false] rfl rfl (any_of HT_.out (by kernel_rfl)) (fun _ _ _ h => h) (Or.inl ⟨by rfl, ?_⟩) ?_ ?_
      rotate_left
      ·intro w'
       go_simp
       with_reducible rfl
      rotate_left
      ·simp only [Act.put, xT, xZ, xS, i64_w, i32_w]
       rfl
      refine pure_ (i := 10) (N := some 32) (v := ?_) (a' := ?_) #[true, false, true, false, true, false, true, false, true, false, true, false, false, false, false, false] rfl rfl (any_of HT_.out (by kernel_rfl)) (fun _ _ _ h => h) (Or.inl ⟨by rfl, ?_⟩) ?_ ?_
      rotate_left
      ·intro w'
       go_simp
       with_reducible rfl
      rotate_left
      ·simp only [Act.put, xT, xZ, xS, i64_w, i32_w]
       rfl
      refine pure_ (i := 11) (N := some 33) (v := ?_) (a' := ?_) #[true, false, true, false, true, false, true, false, true, false, true, true, false, false, false, false] rfl rfl (any_of HT_.out (by kernel_rfl)) (fun _ _ _ h => h) (Or.inl ⟨by rfl, ?_⟩) ?_ ?_
      rotate_left
      ·intro w'
       go_simp
       with_reducible rfl
      rotate_left
      ·simp only [Act.put, xT, xZ, xS, i64_w, i32_w]
       rfl
      refine take_ (i := 1) (N := some 23) (v := ?_) (a' := ?_) #[true, true, true, false, true, false, true, false, true, false, true, true, false, false, false, false] rfl rfl (take_ofW HT_.out HW_.out (by kernel_rfl)) (fun _ _ _ h => h) (Or.inl ⟨by rfl, ?_⟩) hHeld ?_ ?_
      rotate_left
      ·rintro w' ⟨s0, s1⟩
       go_simp
       with_reducible rfl
      rotate_left
      ·simp only [Act.put, xT, xZ, xS, i64_w, i32_w]
       rfl
      refine pure_ (i := 3) (N := some 25) (v := ?_) (a' := ?_) #[true, true, true, true, true, false, true, false, true, false, true, true, false, false, false, false] rfl rfl (any_of HT_.out (by kernel_rfl)) (fun _ _ _ h => h) (Or.inl ⟨by rfl, ?_⟩) ?_ ?_
      rotate_left
      ·intro w'
       go_simp
       with_reducible rfl
      rotate_left
      ·simp only [Act.put, xT, xZ, xS, i64_w, i32_w]
       rfl
      refine take_ (i := 5) (N := some 27) (v := ?_) (a' := ?_) #[true, true, true, true, true, true, true, false, true, false, true, true, false, false, false, false] rfl rfl (take_ofW HT_.out HW_.out (by kernel_rfl)) (fun _ _ _ h => h) (Or.inl ⟨by rfl, ?_⟩) hHeld ?_ ?_
      rotate_left
      ·rintro w' ⟨s0, s1⟩
       go_simp
       with_reducible rfl
      rotate_left
      ·simp only [Act.put, xT, xZ, xS, i64_w, i32_w]
       rfl
      refine pure_ (i := 7) (N := some 29) (v := ?_) (a' := ?_) #[true, true, true, true, true, true, true, true, true, false, true, true, false, false, false, false] rfl rfl (any_of HT_.out (by kernel_rfl)) (fun _ _ _ h => h) (Or.inl ⟨by rfl, ?_⟩) ?_ ?_
      rotate_left
      ·intro w'
       go_simp
       with_reducible rfl
      rotate_left
      ·simp only [Act.put, xT, xZ, xS, i64_w, i32_w]
       rfl
      refine take_ (i := 9) (N := some 31) (v := ?_) (a' := ?_) #[true, true, true, true, true, true, true, true, true, true, true, true, false, false, false, false] rfl rfl (take_ofW HT_.out HW_.out (by kernel_rfl)) (fun _ _ _ h => h) (Or.inl ⟨by rfl, ?_⟩) hHeld ?_ ?_
      rotate_left
      ·rintro w' ⟨s0, s1⟩
       go_simp
       with_reducible rfl
      rotate_left
      ·simp only [Act.put, xT, xZ, xS, i64_w, i32_w]
       rfl
      refine pure_ (i := 12) (N := some 34) (v := ?_) (a' := ?_) #[true, true, true, true, true, true, true, true, true, true, true, true, true, false, false, false] rfl rfl (any_of HT_.out (by kernel_rfl)) (fun _ _ _ h => h) (Or.inl ⟨by rfl, ?_⟩) ?_ ?_
      rotate_left
      ·intro w'
       go_simp
       with_reducible rfl
      rotate_left
      ·simp only [Act.put, xT, xZ, xS, i64_w, i32_w]
       rfl
      refine pure_ (i := 13) (N := some 35) (v := ?_) (a' := ?_) #[true, true, true, true, true, true, true, true, true, true, true, true, true, true, false, false] rfl rfl (any_of HT_.out (by kernel_rfl)) (fun _ _ _ h => h) (Or.inl ⟨by rfl, ?_⟩) ?_ ?_
      rotate_left
      ·intro w'
       go_simp
       with_reducible rfl
      rotate_left
      ·simp only [Act.put, xT, xZ, xS, i64_w, i32_w]
       rfl
      refine pure_ (i := 14) (N := some 36) (v := ?_) (a' := ?_) #[true, true, true, true, true, true, true, true, true, true, true, true, true, true, true, false] rfl rfl (any_of HT_.out (by kernel_rfl)) (fun _ _ _ h => h) (Or.inl ⟨by rfl, ?_⟩) ?_ ?_
      rotate_left
      ·intro w'
       go_simp
       with_reducible rfl
      rotate_left
      ·simp only [Act.put, xT, xZ, xS, i64_w, i32_w]
       rfl
      refine one_ (i := 15) (N := none) #[true, true, true, true, true, true, true, true, true, true, true, true, true, true, true, true] rfl rfl (one_of HT_.out (by kernel_rfl)) (by decide) (fun K hK => ?_)
      have hs33 : w32.cell? ⟨gb315, 0, none⟩ = some (.int .u64 0) := (blk_cell BK315.out 0).trans rfl
      have hfs33 := blk_frozen BK315.out 0
      have hns33_0 := NB314_315.out
      have hms33_0 := NB315_314.out
      have hs34 : w32.cell? ⟨gb315, 1, none⟩ = some (.int .u64 0) := (blk_cell BK315.out 1).trans rfl
      have hfs34 := blk_frozen BK315.out 1
      have hns34_0 := NB314_315.out
      have hms34_0 := NB315_314.out
      refine skip_ (w1 := ?_) (by rfl) rfl ?_ ?_
      rotate_left
      ·go_simp
       rfl
      refine hK.out _ _ ⟨((cell_far (p := ⟨gb315, _, none⟩) NB314_315.out _).trans (((cell_far (p := ⟨gb315, _, none⟩) NB314_315.out _).trans (hHeld.1)))), ((cell_far (p := ⟨gb315, _, none⟩) NB314_315.out _).trans (((cell_far (p := ⟨gb315, _, none⟩) NB314_315.out _).trans (hHeld.2))))⟩ (fun hHeld => ?_)
      clear hK K
      refine done_ (done_of HT_.out (by kernel_rfl)) ?_
      try go_wp2
      refine bodyPost_ret (results_cell_row rfl _ _ gb315 25 #[.int .u64 ji24, .int .u64 (Go.bits .or .u64 (ji26) (ji29))] (0, 0) _ rfl (by refine blk_put (cs := #[.int .u64 ji24, .int .u64 0]) ?_ 1 _ rfl; refine blk_put (cs := #[.int .u64 0, .int .u64 0]) ?_ 0 _ rfl; exact BK315.out) Tryd.underlying25 rfl (by kernel_rfl)) rfl ?_
      exact ⟨by first | rfl | (simp [errW_none, errW_some] <;> rfl) | (simp only [← hji24, ← hji26, ← hji27, ← hji29]; first | rfl | (simp [errW_none, errW_some] <;> rfl)) | (simp [*, errW_none, errW_some] <;> rfl), by repeat (first | (with_reducible first | exact HB.out | apply yA | apply yN | apply yD | refine below_set ?_ GE314.out | refine below_set ?_ GE315.out) | exact HB.out)⟩
     ·rw [if_neg c28] at H
      exact absurd H (by simp)
    ·rw [if_neg c23] at H
     exact absurd H (by simp)
def impl_layout_fracBits.f (a0_0 : Int) (a0_1 : Int) (a0_2 : Int) (a0_3 : Int) (a0_4 : Int) (a0_5 : Bool) : Option (Int) := if a0_5 = true then (some a0_0) else (some (wrap64 (a0_0 - 1)))
set_option maxHeartbeats 8000000 in
set_option maxRecDepth 100000 in
theorem impl_layout_fracBits.calls (a0_0 : Int) (a0_1 : Int) (a0_2 : Int) (a0_3 : Int) (a0_4 : Int) (a0_5 : Bool) (r : Int) (w : World) (h : impl_layout_fracBits.f a0_0 a0_1 a0_2 a0_3 a0_4 a0_5 = some r) :
  Calls Tryd.prog 67 #[.agg #[.int .i64 a0_0, .int .i64 a0_1, .int .i64 a0_2, .int .i64 a0_3, .int .i64 a0_4, .bool a0_5]] w fun e w' => e = .returned (.int .i64 r) ∧ Below w.heap.size w w' := by
 have hu91 := Tryd.underlying91
 have HB := zM (Below.refl w.heap.size w)
 have H : (if a0_5 = true then (some a0_0) else (some (wrap64 (a0_0 - 1)))) = some r := h
 clear h
 by_cases c2 : a0_5 = true
 ·subst c2
  have H1 : (some a0_0) = some r := by rw [if_pos rfl] at H; exact H
  clear H
  have H := H1
  clear H1
  obtain rfl := Option.some.inj H
  go_enter Tryd.func67, Tryd.ntmps67
  go_wp2_with (first | ((with_reducible refine gate_dst (N := 1) rfl ?_); refine box_event ?hg (N := 1) ?hd (cs := #[.int .i64 a0_0, .int .i64 a0_1, .int .i64 a0_2, .int .i64 a0_3, .int .i64 a0_4, .bool true]) (t := 91) ?hr ?_; (case hd => rfl); (case hg => rfl); (case hr => first | (go_simp; done) | (go_simp; rfl)); intro gb316 hg w3 hbox hb; have n0_ := zM (below_step HB.out hb); have n1_ := zM (hbox); have n2_ := zM ((by rw [hg]; exact (below_size HB.out) : w.heap.size ≤ gb316)); have n3_ := zM ((by rw [hg]; exact (below_size HB.out) : w.heap.size ≤ gb316)); clear HB; have HB := n0_; have BK316 := n1_; have GW316 := n2_; have GE316 := n3_; clear n0_ n1_ n2_ n3_; clear hb hbox hg; have hcz4_0 : w3.cell? ⟨gb316, 0, none⟩ = some (.int .i64 a0_0) := (blk_cell BK316.out 0).trans rfl; have hcz4_1 : w3.cell? ⟨gb316, 1, none⟩ = some (.int .i64 a0_1) := (blk_cell BK316.out 1).trans rfl; have hcz4_2 : w3.cell? ⟨gb316, 2, none⟩ = some (.int .i64 a0_2) := (blk_cell BK316.out 2).trans rfl; have hcz4_3 : w3.cell? ⟨gb316, 3, none⟩ = some (.int .i64 a0_3) := (blk_cell BK316.out 3).trans rfl; have hcz4_4 : w3.cell? ⟨gb316, 4, none⟩ = some (.int .i64 a0_4) := (blk_cell BK316.out 4).trans rfl; have hcz4_5 : w3.cell? ⟨gb316, 5, none⟩ = some (.bool true) := (blk_cell BK316.out 5).trans rfl; have hfz4_0 := blk_frozen BK316.out 0; have hfz4_1 := blk_frozen BK316.out 1; have hfz4_2 := blk_frozen BK316.out 2; have hfz4_3 := blk_frozen BK316.out 3; have hfz4_4 := blk_frozen BK316.out 4; have hfz4_5 := blk_frozen BK316.out 5))
  go_ret
  exact ⟨by first | rfl | (simp [errW_none, errW_some] <;> rfl) | (simp [*, errW_none, errW_some] <;> rfl), by repeat (first | (with_reducible first | exact HB.out | apply yA | apply yN | apply yD | refine below_set ?_ GE316.out) | exact HB.out)⟩
 ·replace c2 := Bool.eq_false_iff.mpr c2
  subst c2
  have H1 : (some (wrap64 (a0_0 - 1))) = some r := by rw [if_neg (show ¬ (false = true) by decide)] at H; exact H
  clear H
  have H := H1
  clear H1
  obtain rfl := Option.some.inj H
  go_enter Tryd.func67, Tryd.ntmps67
  go_wp2_with (first | ((with_reducible refine gate_dst (N := 1) rfl ?_); refine box_event ?hg (N := 1) ?hd (cs := #[.int .i64 a0_0, .int .i64 a0_1, .int .i64 a0_2, .int .i64 a0_3, .int .i64 a0_4, .bool false]) (t := 91) ?hr ?_; (case hd => rfl); (case hg => rfl); (case hr => first | (go_simp; done) | (go_simp; rfl)); intro gb316 hg w5 hbox hb; have n0_ := zM (below_step HB.out hb); have n1_ := zM (hbox); have n2_ := zM ((by rw [hg]; exact (below_size HB.out) : w.heap.size ≤ gb316)); have n3_ := zM ((by rw [hg]; exact (below_size HB.out) : w.heap.size ≤ gb316)); clear HB; have HB := n0_; have BK316 := n1_; have GW316 := n2_; have GE316 := n3_; clear n0_ n1_ n2_ n3_; clear hb hbox hg; have hcz6_0 : w5.cell? ⟨gb316, 0, none⟩ = some (.int .i64 a0_0) := (blk_cell BK316.out 0).trans rfl; have hcz6_1 : w5.cell? ⟨gb316, 1, none⟩ = some (.int .i64 a0_1) := (blk_cell BK316.out 1).trans rfl; have hcz6_2 : w5.cell? ⟨gb316, 2, none⟩ = some (.int .i64 a0_2) := (blk_cell BK316.out 2).trans rfl; have hcz6_3 : w5.cell? ⟨gb316, 3, none⟩ = some (.int .i64 a0_3) := (blk_cell BK316.out 3).trans rfl; have hcz6_4 : w5.cell? ⟨gb316, 4, none⟩ = some (.int .i64 a0_4) := (blk_cell BK316.out 4).trans rfl; have hcz6_5 : w5.cell? ⟨gb316, 5, none⟩ = some (.bool false) := (blk_cell BK316.out 5).trans rfl; have hfz6_0 := blk_frozen BK316.out 0; have hfz6_1 := blk_frozen BK316.out 1; have hfz6_2 := blk_frozen BK316.out 2; have hfz6_3 := blk_frozen BK316.out 3; have hfz6_4 := blk_frozen BK316.out 4; have hfz6_5 := blk_frozen BK316.out 5))
  go_ret
  exact ⟨by first | rfl | (simp [errW_none, errW_some] <;> rfl) | (simp [*, errW_none, errW_some] <;> rfl), by repeat (first | (with_reducible first | exact HB.out | apply yA | apply yN | apply yD | refine below_set ?_ GE316.out) | exact HB.out)⟩
def impl_Word_or.f (a0_0 : Int) (a0_1 : Int) (a1_0 : Int) (a1_1 : Int) : Option (Int × Int) := some (Go.bits .or .u64 a0_0 a1_0, Go.bits .or .u64 a0_1 a1_1)
set_option maxHeartbeats 8000000 in
set_option maxRecDepth 100000 in
theorem impl_Word_or.calls (a0_0 : Int) (a0_1 : Int) (a1_0 : Int) (a1_1 : Int) (r1 : Int) (r2 : Int) (w : World) (h : impl_Word_or.f a0_0 a0_1 a1_0 a1_1 = some (r1, r2)) :
  Calls Tryd.prog 71 #[.agg #[.int .u64 a0_0, .int .u64 a0_1], .agg #[.int .u64 a1_0, .int .u64 a1_1]] w fun e w' => e = .returned (.agg #[.int .u64 r1, .int .u64 r2]) ∧ Below w.heap.size w w' := by
 have hu25 := Tryd.underlying25
 have HB := zM (Below.refl w.heap.size w)
 have H : (some (Go.bits .or .u64 a0_0 a1_0, Go.bits .or .u64 a0_1 a1_1)) = some (r1, r2) := h
 clear h
 simp only [Option.some.injEq, Prod.mk.injEq] at H
 obtain ⟨rfl, rfl⟩ := H
 go_enter Tryd.func71, Tryd.ntmps71
 go_wp2_with (first | ((with_reducible refine gate_dst (N := 2) rfl ?_); refine box_event ?hg (N := 2) ?hd (cs := #[.int .u64 a0_0, .int .u64 a0_1]) (t := 25) ?hr ?_; (case hd => rfl); (case hg => rfl); (case hr => first | (go_simp; done) | (go_simp; rfl)); intro gb317 hg w3 hbox hb; have n0_ := zM (below_step HB.out hb); have n1_ := zM (hbox); have n2_ := zM ((by rw [hg]; exact (below_size HB.out) : w.heap.size ≤ gb317)); have n3_ := zM ((by rw [hg]; exact (below_size HB.out) : w.heap.size ≤ gb317)); clear HB; have HB := n0_; have BK317 := n1_; have GW317 := n2_; have GE317 := n3_; clear n0_ n1_ n2_ n3_; clear hb hbox hg) | ((with_reducible refine gate_dst (N := 3) rfl ?_); refine box_event ?hg (N := 3) ?hd (cs := #[.int .u64 a1_0, .int .u64 a1_1]) (t := 25) ?hr ?_; (case hd => rfl); (case hg => rfl); (case hr => first | (go_simp; done) | (go_simp; rfl)); intro gb318 hg w4 hbox hb; have n0_ := zM (blk_below BK317.out hb); have n1_ := zM (below_step HB.out hb); have n2_ := zM (hbox); have n3_ := zM ((by rw [hg]; exact (below_size HB.out) : w.heap.size ≤ gb318)); have n4_ := zM ((by rw [hg]; exact (below_size HB.out) : w.heap.size ≤ gb318)); have n5_ := zM ((by rw [hg]; exact Nat.ne_of_lt (blk_lt BK317.out) : gb317 ≠ gb318)); have n6_ := zM ((by rw [hg]; exact Nat.ne_of_gt (blk_lt BK317.out) : gb318 ≠ gb317)); clear BK317; clear HB; have BK317 := n0_; have HB := n1_; have BK318 := n2_; have GW318 := n3_; have GE318 := n4_; have NB317_318 := n5_; have NB318_317 := n6_; clear n0_ n1_ n2_ n3_ n4_ n5_ n6_; clear hb hbox hg) | ((with_reducible refine gate_dst (N := 4) rfl ?_); refine box_event ?hg (N := 4) ?hd (cs := #[.int .u64 0, .int .u64 0]) (t := 25) ?hr ?_; (case hd => rfl); (case hg => rfl); (case hr => first | (go_simp; done) | (go_simp; rfl)); intro gb319 hg w5 hbox hb; have n0_ := zM (blk_below BK317.out hb); have n1_ := zM (blk_below BK318.out hb); have n2_ := zM (below_step HB.out hb); have n3_ := zM (hbox); have n4_ := zM ((by rw [hg]; exact (below_size HB.out) : w.heap.size ≤ gb319)); have n5_ := zM ((by rw [hg]; exact (below_size HB.out) : w.heap.size ≤ gb319)); have n6_ := zM ((by rw [hg]; exact Nat.ne_of_lt (blk_lt BK317.out) : gb317 ≠ gb319)); have n7_ := zM ((by rw [hg]; exact Nat.ne_of_gt (blk_lt BK317.out) : gb319 ≠ gb317)); have n8_ := zM ((by rw [hg]; exact Nat.ne_of_lt (blk_lt BK318.out) : gb318 ≠ gb319)); have n9_ := zM ((by rw [hg]; exact Nat.ne_of_gt (blk_lt BK318.out) : gb319 ≠ gb318)); clear BK317; clear BK318; clear HB; have BK317 := n0_; have BK318 := n1_; have HB := n2_; have BK319 := n3_; have GW319 := n4_; have GE319 := n5_; have NB317_319 := n6_; have NB319_317 := n7_; have NB318_319 := n8_; have NB319_318 := n9_; clear n0_ n1_ n2_ n3_ n4_ n5_ n6_ n7_ n8_ n9_; clear hb hbox hg; have hnb6 := NB317_318.out; have hnc6 := NB318_317.out; have hnb7 := NB317_319.out; have hnc7 := NB319_317.out; have hcz8_0 : w5.cell? ⟨gb317, 0, none⟩ = some (.int .u64 a0_0) := (blk_cell BK317.out 0).trans rfl; have hcz8_1 : w5.cell? ⟨gb317, 1, none⟩ = some (.int .u64 a0_1) := (blk_cell BK317.out 1).trans rfl; have hfz8_0 := blk_frozen BK317.out 0; have hfz8_1 := blk_frozen BK317.out 1; have hnb9 := NB318_319.out; have hnc9 := NB319_318.out; have hcz10_0 : w5.cell? ⟨gb318, 0, none⟩ = some (.int .u64 a1_0) := (blk_cell BK318.out 0).trans rfl; have hcz10_1 : w5.cell? ⟨gb318, 1, none⟩ = some (.int .u64 a1_1) := (blk_cell BK318.out 1).trans rfl; have hfz10_0 := blk_frozen BK318.out 0; have hfz10_1 := blk_frozen BK318.out 1; have hcz11_0 : w5.cell? ⟨gb319, 0, none⟩ = some (.int .u64 0) := (blk_cell BK319.out 0).trans rfl; have hcz11_1 : w5.cell? ⟨gb319, 1, none⟩ = some (.int .u64 0) := (blk_cell BK319.out 1).trans rfl; have hfz11_0 := blk_frozen BK319.out 0; have hfz11_1 := blk_frozen BK319.out 1))
 refine bodyPost_ret (results_cell_row rfl _ _ gb319 25 #[.int .u64 (Go.bits .or .u64 a0_0 a1_0), .int .u64 (Go.bits .or .u64 a0_1 a1_1)] (0, 0) _ rfl (by refine blk_put (cs := #[.int .u64 (Go.bits .or .u64 a0_0 a1_0), .int .u64 0]) ?_ 1 _ rfl; refine blk_put (cs := #[.int .u64 0, .int .u64 0]) ?_ 0 _ rfl; exact BK319.out) Tryd.underlying25 rfl (by kernel_rfl)) rfl ?_
 exact ⟨by first | rfl | (simp [errW_none, errW_some] <;> rfl) | (simp [*, errW_none, errW_some] <;> rfl), by repeat (first | (with_reducible first | exact HB.out | apply yA | apply yN | apply yD | refine below_set ?_ GE317.out | refine below_set ?_ GE318.out | refine below_set ?_ GE319.out) | exact HB.out)⟩
end Go.Proofs.YtdbnmdchecacdaaDoor.PB
end
section
namespace Go.Proofs.YtdbnmdchecacdaaDoor.PB
open Go.RowKit Go.Proofs.YtdbnmdchecacdaaDoor.G Go.Proofs.YtdbnmdchecacdaaDoorV.PrintWords Go.Proofs.YtdbnmdchecacdaaDoorV.PrintLast Go.Proofs.YtdbnmdchecacdaaDoorV.PrintMore
attribute [local go_sem] max2_int min2_int max_two min_two max_three min_three max_four min_four run_Add64 run_Sub64 fld25_1
set_option linter.unusedVariables false
set_option linter.unusedSimpArgs false
def impl_Word_left.f (a0_0 : Int) (a0_1 : Int) (a1 : Int) : Option (Int × Int) := if a1 = 0 then (some (a0_0, a0_1)) else (if a1 ≥ 64 then (if 0 ≤ (wrap64 (a1 - 64)) then (some (shl .u64 a0_1 (wrap64 (a1 - 64)), 0)) else (none)) else (if 0 ≤ a1 then (if 0 ≤ (wrap64 (64 - a1)) then (some (Go.bits .or .u64 (shl .u64 a0_0 a1) (shr .u64 a0_1 (wrap64 (64 - a1))), shl .u64 a0_1 a1)) else (none)) else (none)))
def impl_Word_left.T5 : Bool × List (List Nat × List Nat) := (true, [([], []), ([0], [0]), ([], []), ([1, 2], [1, 2]), ([], []), ([4], [4]), ([], []), ([6], [6]), ([5, 7], [5, 7]), ([3, 8], [3, 8]), ([], []), ([10], [10]), ([], []), ([11, 12], [11, 12]), ([9, 13], [9, 13]), ([14, 0, 1, 2, 3, 4, 5, 6, 7, 8, 9, 10, 11, 12, 13, 14], [14])])
def impl_Word_left.B5 : List Nat := [0, 1, 0, 7, 0, 16, 0, 64, 240, 511, 0, 1024, 0, 7168, 16383, 32767]
theorem impl_Word_left.tab5 : rtab .any (opsOf Tryd.f80 5) = impl_Word_left.T5 := by kernel_rfl
theorem impl_Word_left.bits5 : waitsOk impl_Word_left.T5.2 impl_Word_left.B5 = true := by kernel_rfl
set_option maxHeartbeats 8000000 in
set_option maxRecDepth 100000 in
theorem impl_Word_left.calls (a0_0 : Int) (a0_1 : Int) (a1 : Int) (r1 : Int) (r2 : Int) (w : World) (h : impl_Word_left.f a0_0 a0_1 a1 = some (r1, r2)) :
  Calls Tryd.prog 80 #[.agg #[.int .u64 a0_0, .int .u64 a0_1], .int .i64 a1] w fun e w' => e = .returned (.agg #[.int .u64 r1, .int .u64 r2]) ∧ Below w.heap.size w w' := by
 have hu25 := Tryd.underlying25
 have HB := zM (Below.refl w.heap.size w)
 have H : (if a1 = 0 then (some (a0_0, a0_1)) else (if a1 ≥ 64 then (if 0 ≤ (wrap64 (a1 - 64)) then (some (shl .u64 a0_1 (wrap64 (a1 - 64)), 0)) else (none)) else (if 0 ≤ a1 then (if 0 ≤ (wrap64 (64 - a1)) then (some (Go.bits .or .u64 (shl .u64 a0_0 a1) (shr .u64 a0_1 (wrap64 (64 - a1))), shl .u64 a0_1 a1)) else (none)) else (none)))) = some (r1, r2) := h
 clear h
 by_cases c3 : a1 = 0
 ·rw [if_pos c3] at H
  have c3b0 : (a1 == 0) = true := beq_iff_eq.mpr c3
  have c3b1 : (a1 != 0) = false := bne_eq_false_iff_eq.mpr c3
  clear c3
  simp only [Option.some.injEq, Prod.mk.injEq] at H
  obtain ⟨rfl, rfl⟩ := H
  go_enter Tryd.func80, Tryd.ntmps80
  go_wp2_with (first | ((with_reducible refine gate_dst (N := 2) rfl ?_); refine box_event ?hg (N := 2) ?hd (cs := #[.int .u64 a0_0, .int .u64 a0_1]) (t := 25) ?hr ?_; (case hd => rfl); (case hg => rfl); (case hr => first | (go_simp; done) | (go_simp; rfl)); intro gb320 hg w4 hbox hb; have n0_ := zM (below_step HB.out hb); have n1_ := zM (hbox); have n2_ := zM ((by rw [hg]; exact (below_size HB.out) : w.heap.size ≤ gb320)); have n3_ := zM ((by rw [hg]; exact (below_size HB.out) : w.heap.size ≤ gb320)); clear HB; have HB := n0_; have BK320 := n1_; have GW320 := n2_; have GE320 := n3_; clear n0_ n1_ n2_ n3_; clear hb hbox hg) | ((with_reducible refine gate_dst (N := 4) rfl ?_); refine box_event ?hg (N := 4) ?hd (cs := #[.int .u64 0, .int .u64 0]) (t := 25) ?hr ?_; (case hd => rfl); (case hg => rfl); (case hr => first | (go_simp; done) | (go_simp; rfl)); intro gb321 hg w5 hbox hb; have n0_ := zM (blk_below BK320.out hb); have n1_ := zM (below_step HB.out hb); have n2_ := zM (hbox); have n3_ := zM ((by rw [hg]; exact (below_size HB.out) : w.heap.size ≤ gb321)); have n4_ := zM ((by rw [hg]; exact (below_size HB.out) : w.heap.size ≤ gb321)); have n5_ := zM ((by rw [hg]; exact Nat.ne_of_lt (blk_lt BK320.out) : gb320 ≠ gb321)); have n6_ := zM ((by rw [hg]; exact Nat.ne_of_gt (blk_lt BK320.out) : gb321 ≠ gb320)); clear BK320; clear HB; have BK320 := n0_; have HB := n1_; have BK321 := n2_; have GW321 := n3_; have GE321 := n4_; have NB320_321 := n5_; have NB321_320 := n6_; clear n0_ n1_ n2_ n3_ n4_ n5_ n6_; clear hb hbox hg; have hnb6 := NB320_321.out; have hnc6 := NB321_320.out; have hcz7_0 : w5.cell? ⟨gb320, 0, none⟩ = some (.int .u64 a0_0) := (blk_cell BK320.out 0).trans rfl; have hcz7_1 : w5.cell? ⟨gb320, 1, none⟩ = some (.int .u64 a0_1) := (blk_cell BK320.out 1).trans rfl; have hfz7_0 := blk_frozen BK320.out 0; have hfz7_1 := blk_frozen BK320.out 1; have hcz8_0 : w5.cell? ⟨gb321, 0, none⟩ = some (.int .u64 0) := (blk_cell BK321.out 0).trans rfl; have hcz8_1 : w5.cell? ⟨gb321, 1, none⟩ = some (.int .u64 0) := (blk_cell BK321.out 1).trans rfl; have hfz8_0 := blk_frozen BK321.out 0; have hfz8_1 := blk_frozen BK321.out 1))
  refine bodyPost_ret (results_cell_row rfl _ _ gb321 25 #[.int .u64 a0_0, .int .u64 a0_1] (0, 0) _ rfl (by refine blk_put (cs := #[.int .u64 a0_0, .int .u64 0]) ?_ 1 _ rfl; refine blk_put (cs := #[.int .u64 0, .int .u64 0]) ?_ 0 _ rfl; exact BK321.out) Tryd.underlying25 rfl (by kernel_rfl)) rfl ?_
  exact ⟨by first | rfl | (simp [errW_none, errW_some] <;> rfl) | (simp [*, errW_none, errW_some] <;> rfl), by repeat (first | (with_reducible first | exact HB.out | apply yA | apply yN | apply yD | refine below_set ?_ GE320.out | refine below_set ?_ GE321.out) | exact HB.out)⟩
 ·rw [if_neg c3] at H
  have c3b0 : (a1 == 0) = false := beq_eq_false_iff_ne.mpr c3
  have c3b1 : (a1 != 0) = true := bne_iff_ne.mpr c3
  by_cases c9 : a1 ≥ 64
  ·rw [if_pos c9] at H
   have c9b0 : decide (64 ≤ a1) = true := decide_eq_true c9
   clear c9
   obtain ⟨ji10, hji10⟩ : ∃ j_ : Int, (wrap64 (a1 - 64)) = j_ := ⟨_, rfl⟩
   replace H : (if 0 ≤ (ji10) then (some (shl .u64 a0_1 (ji10), 0)) else (none)) = some (r1, r2) := by first | (rw [hji10] at H; exact H) | (simp only [hji10] at H ⊢; exact H)
   have hji10w : (IntKind.i64.wrap (a1 - 64)) = ji10 := (i64_w _).trans hji10
   by_cases c11 : 0 ≤ (ji10)
   ·rw [if_pos c11] at H
    have c11b0 := eq_true c11
    have c11b1 : decide (0 ≤ (ji10)) = true := decide_eq_true c11
    clear c11
    obtain ⟨ji12, hji12⟩ : ∃ j_ : Int, (shl .u64 a0_1 (ji10)) = j_ := ⟨_, rfl⟩
    replace H : (some (ji12, 0)) = some (r1, r2) := by first | (rw [hji12] at H; exact H) | (simp only [hji12] at H ⊢; exact H)
    have hji12_ : (IntKind.u64.wrap (a0_1 * 2 ^ min (ji10).toNat 64)) = ji12 := hji12
    have hji12z : (ji10) ≤ 64 → (IntKind.u64.wrap (a0_1 * 2 ^ (ji10).toNat)) = ji12 := shl_small hji12
    simp only [Option.some.injEq, Prod.mk.injEq] at H
    obtain ⟨rfl, rfl⟩ := H
    go_enter Tryd.func80, Tryd.ntmps80
    go_wp2_with (first | ((with_reducible refine gate_dst (N := 2) rfl ?_); refine box_event ?hg (N := 2) ?hd (cs := #[.int .u64 a0_0, .int .u64 a0_1]) (t := 25) ?hr ?_; (case hd => rfl); (case hg => rfl); (case hr => first | (go_simp; done) | (go_simp; rfl)); intro gb320 hg w13 hbox hb; have n0_ := zM (below_step HB.out hb); have n1_ := zM (hbox); have n2_ := zM ((by rw [hg]; exact (below_size HB.out) : w.heap.size ≤ gb320)); have n3_ := zM ((by rw [hg]; exact (below_size HB.out) : w.heap.size ≤ gb320)); clear HB; have HB := n0_; have BK320 := n1_; have GW320 := n2_; have GE320 := n3_; clear n0_ n1_ n2_ n3_; clear hb hbox hg) | ((with_reducible refine gate_dst (N := 4) rfl ?_); refine box_event ?hg (N := 4) ?hd (cs := #[.int .u64 0, .int .u64 0]) (t := 25) ?hr ?_; (case hd => rfl); (case hg => rfl); (case hr => first | (go_simp; done) | (go_simp; rfl)); intro gb321 hg w14 hbox hb; have n0_ := zM (blk_below BK320.out hb); have n1_ := zM (below_step HB.out hb); have n2_ := zM (hbox); have n3_ := zM ((by rw [hg]; exact (below_size HB.out) : w.heap.size ≤ gb321)); have n4_ := zM ((by rw [hg]; exact (below_size HB.out) : w.heap.size ≤ gb321)); have n5_ := zM ((by rw [hg]; exact Nat.ne_of_lt (blk_lt BK320.out) : gb320 ≠ gb321)); have n6_ := zM ((by rw [hg]; exact Nat.ne_of_gt (blk_lt BK320.out) : gb321 ≠ gb320)); clear BK320; clear HB; have BK320 := n0_; have HB := n1_; have BK321 := n2_; have GW321 := n3_; have GE321 := n4_; have NB320_321 := n5_; have NB321_320 := n6_; clear n0_ n1_ n2_ n3_ n4_ n5_ n6_; clear hb hbox hg; have hnb15 := NB320_321.out; have hnc15 := NB321_320.out; have hcz16_0 : w14.cell? ⟨gb320, 0, none⟩ = some (.int .u64 a0_0) := (blk_cell BK320.out 0).trans rfl; have hcz16_1 : w14.cell? ⟨gb320, 1, none⟩ = some (.int .u64 a0_1) := (blk_cell BK320.out 1).trans rfl; have hfz16_0 := blk_frozen BK320.out 0; have hfz16_1 := blk_frozen BK320.out 1; have hcz17_0 : w14.cell? ⟨gb321, 0, none⟩ = some (.int .u64 0) := (blk_cell BK321.out 0).trans rfl; have hcz17_1 : w14.cell? ⟨gb321, 1, none⟩ = some (.int .u64 0) := (blk_cell BK321.out 1).trans rfl; have hfz17_0 := blk_frozen BK321.out 0; have hfz17_1 := blk_frozen BK321.out 1))
    refine bodyPost_ret (results_cell_row rfl _ _ gb321 25 #[.int .u64 ji12, .int .u64 0] (0, 0) _ rfl (by refine blk_put (cs := #[.int .u64 ji12, .int .u64 0]) ?_ 1 _ rfl; refine blk_put (cs := #[.int .u64 0, .int .u64 0]) ?_ 0 _ rfl; exact BK321.out) Tryd.underlying25 rfl (by kernel_rfl)) rfl ?_
    exact ⟨by first | rfl | (simp [errW_none, errW_some] <;> rfl) | (simp only [← hji10, ← hji12]; first | rfl | (simp [errW_none, errW_some] <;> rfl)) | (simp [*, errW_none, errW_some] <;> rfl), by repeat (first | (with_reducible first | exact HB.out | apply yA | apply yN | apply yD | refine below_set ?_ GE320.out | refine below_set ?_ GE321.out) | exact HB.out)⟩
   ·rw [if_neg c11] at H
    exact absurd H (by simp)
  ·rw [if_neg c9] at H
   have c9b0 : decide (64 ≤ a1) = false := decide_eq_false c9
   clear c9
   by_cases c18 : 0 ≤ a1
   ·rw [if_pos c18] at H
    have c18b0 := eq_true c18
    have c18b1 : decide (0 ≤ a1) = true := decide_eq_true c18
    clear c18
    obtain ⟨ji19, hji19⟩ : ∃ j_ : Int, (shl .u64 a0_0 a1) = j_ := ⟨_, rfl⟩
    replace H : (if 0 ≤ (wrap64 (64 - a1)) then (some (Go.bits .or .u64 (ji19) (shr .u64 a0_1 (wrap64 (64 - a1))), shl .u64 a0_1 a1)) else (none)) = some (r1, r2) := by first | (rw [hji19] at H; exact H) | (simp only [hji19] at H ⊢; exact H)
    have hji19_ : (IntKind.u64.wrap (a0_0 * 2 ^ min a1.toNat 64)) = ji19 := hji19
    have hji19z : a1 ≤ 64 → (IntKind.u64.wrap (a0_0 * 2 ^ a1.toNat)) = ji19 := shl_small hji19
    obtain ⟨ji20, hji20⟩ : ∃ j_ : Int, (wrap64 (64 - a1)) = j_ := ⟨_, rfl⟩
    replace H : (if 0 ≤ (ji20) then (some (Go.bits .or .u64 (ji19) (shr .u64 a0_1 (ji20)), shl .u64 a0_1 a1)) else (none)) = some (r1, r2) := by first | (rw [hji20] at H; exact H) | (simp only [hji20] at H ⊢; exact H)
    have hji20w : (IntKind.i64.wrap (64 - a1)) = ji20 := (i64_w _).trans hji20
    by_cases c21 : 0 ≤ (ji20)
    ·rw [if_pos c21] at H
     have c21b0 := eq_true c21
     have c21b1 : decide (0 ≤ (ji20)) = true := decide_eq_true c21
     clear c21
     obtain ⟨ji22, hji22⟩ : ∃ j_ : Int, (shr .u64 a0_1 (ji20)) = j_ := ⟨_, rfl⟩
     replace H : (some (Go.bits .or .u64 (ji19) (ji22), shl .u64 a0_1 a1)) = some (r1, r2) := by first | (rw [hji22] at H; exact H) | (simp only [hji22] at H ⊢; exact H)
     have hji22_ : (a0_1 / 2 ^ min (ji20).toNat 64) = ji22 := hji22
     have hji22z : (ji20) ≤ 64 → (a0_1 / 2 ^ (ji20).toNat) = ji22 := shr_small hji22
     have c23b0 := eq_true (of_decide_eq_true (by first | (with_reducible assumption) | assumption) : 0 ≤ a1)
     obtain ⟨ji24, hji24⟩ : ∃ j_ : Int, (shl .u64 a0_1 a1) = j_ := ⟨_, rfl⟩
     replace H : (some (Go.bits .or .u64 (ji19) (ji22), ji24)) = some (r1, r2) := by first | (rw [hji24] at H; exact H) | (simp only [hji24] at H ⊢; exact H)
     have hji24_ : (IntKind.u64.wrap (a0_1 * 2 ^ min a1.toNat 64)) = ji24 := hji24
     have hji24z : a1 ≤ 64 → (IntKind.u64.wrap (a0_1 * 2 ^ a1.toNat)) = ji24 := shl_small hji24
     simp only [Option.some.injEq, Prod.mk.injEq] at H
     obtain ⟨rfl, rfl⟩ := H
     go_enter Tryd.func80, Tryd.ntmps80
     try go_wp2_with (first | ((with_reducible refine gate_dst (N := 2) rfl ?_); refine box_event ?hg (N := 2) ?hd (cs := #[.int .u64 a0_0, .int .u64 a0_1]) (t := 25) ?hr ?_; (case hd => rfl); (case hg => rfl); (case hr => first | (go_simp; done) | (go_simp; rfl)); intro gb320 hg w25 hbox hb; have n0_ := zM (below_step HB.out hb); have n1_ := zM (hbox); have n2_ := zM ((by rw [hg]; exact (below_size HB.out) : w.heap.size ≤ gb320)); have n3_ := zM ((by rw [hg]; exact (below_size HB.out) : w.heap.size ≤ gb320)); clear HB; have HB := n0_; have BK320 := n1_; have GW320 := n2_; have GE320 := n3_; clear n0_ n1_ n2_ n3_; clear hb hbox hg) | ((with_reducible refine gate_dst (N := 4) rfl ?_); refine box_event ?hg (N := 4) ?hd (cs := #[.int .u64 0, .int .u64 0]) (t := 25) ?hr ?_; (case hd => rfl); (case hg => rfl); (case hr => first | (go_simp; done) | (go_simp; rfl)); intro gb321 hg w26 hbox hb; have n0_ := zM (blk_below BK320.out hb); have n1_ := zM (below_step HB.out hb); have n2_ := zM (hbox); have n3_ := zM ((by rw [hg]; exact (below_size HB.out) : w.heap.size ≤ gb321)); have n4_ := zM ((by rw [hg]; exact (below_size HB.out) : w.heap.size ≤ gb321)); have n5_ := zM ((by rw [hg]; exact Nat.ne_of_lt (blk_lt BK320.out) : gb320 ≠ gb321)); have n6_ := zM ((by rw [hg]; exact Nat.ne_of_gt (blk_lt BK320.out) : gb321 ≠ gb320)); clear BK320; clear HB; have BK320 := n0_; have HB := n1_; have BK321 := n2_; have GW321 := n3_; have GE321 := n4_; have NB320_321 := n5_; have NB321_320 := n6_; clear n0_ n1_ n2_ n3_ n4_ n5_ n6_; clear hb hbox hg))
     have n0_ := zM (zD BK320.out)
     have n1_ := zM (zD BK321.out)
     have n2_ := zM (yD HB.out)
     clear BK320
     clear BK321
     clear HB
     have BK320 := n0_
     have BK321 := n1_
     have HB := n2_
     clear n0_ n1_ n2_
     refine start_ (n := 16) (S := fun w' => w'.cell? ⟨gb320, 0, none⟩ = some (.int .u64 a0_0) ∧ w'.cell? ⟨gb320, 1, none⟩ = some (.int .u64 a0_1)) (ds := []) #[false, false, false, false, false, false, false, false, false, false, false, false, false, false, false, false] (by kernel_rfl) rfl rfl ⟨(blk_cell BK320.out 0).trans rfl, (blk_cell BK320.out 1).trans rfl⟩ (fun hHeld => ?_); refine with_tabW impl_Word_left.tab5 impl_Word_left.bits5 (fun HT_ HW_ => ?_)
     generalize w26.drew = w27 at BK320 BK321 HB hHeld ⊢
     refine pure_ (i := 0) (N := some 18) (v := ?_) (a' := ?_) #[true, false, false, false, false, false, false, false, false, false, false, false, false, false, false, false] rfl rfl (any_of HT_.out (by kernel_rfl)) (fun _ _ _ h => h) (Or.inl ⟨by rfl, ?_⟩) ?_ ?_
     rotate_left
     ·intro w'
      go_simp
      with_reducible rfl
     rotate_left
     ·simp only [Act.put, xT, xZ, xS, i64_w, i32_w]
      rfl
     refine pure_ (i := 2) (N := some 20) (v := ?_) (a' := ?_) #[true, false, true, false, false, false, false, false, false, false, false, false, false, false, false, false] rfl rfl (any_of HT_.out (by kernel_rfl)) (fun _ _ _ h => h) (Or.inl ⟨by rfl, ?_⟩) ?_ ?_
     rotate_left
     ·intro w'
      go_simp
      with_reducible rfl
     rotate_left
     ·simp only [Act.put, xT, xZ, xS, i64_w, i32_w]
      rfl
     refine pure_ (i := 4) (N := some 22) (v := ?_) (a' := ?_) #[true, false, true, false, true, false, false, false, false, false, false, false, false, false, false, false] rfl rfl (any_of HT_.out (by kernel_rfl)) (fun _ _ _ h => h) (Or.inl ⟨by rfl, ?_⟩) ?_ ?_
     rotate_left
     ·intro w'
      go_simp
      with_reducible rfl
     rotate_left
     ·simp only [Act.put, xT, xZ, xS, i64_w, i32_w]
      rfl
     refine pure_ (i := 6) (N := some 24) (v := ?_) (a' := ?_) #[true, false, true, false, true, false, true, false, false, false, false, false, false, false, false, false] rfl rfl (any_of HT_.out (by kernel_rfl)) (fun _ _ _ h => h) (Or.inl ⟨by rfl, ?_⟩) ?_ ?_
     rotate_left
     ·intro w'
      go_simp
      with_reducible rfl
     rotate_left
     ·simp only [Act.put, xT, xZ, xS, i64_w, i32_w]
      rfl
     refine pure_ (i := 7) (N := some 25) (v := ?_) (a' := ?_) #[true, false, true, false, true, false, true, true, false, false, false, false, false, false, false, false] rfl rfl (any_of HT_.out (by kernel_rfl)) (fun _ _ _ h => h) (Or.inl ⟨by rfl, ?_⟩) ?_ ?_
     rotate_left
     ·intro w'
      go_simp
      with_reducible rfl
     rotate_left
     ·simp only [Act.put, xT, xZ, xS, i64_w, i32_w]
      rfl
     refine pure_ (i := 10) (N := some 28) (v := ?_) (a' := ?_) #[true, false, true, false, true, false, true, true, false, false, true, false, false, false, false, false] rfl rfl (any_of HT_.out (by kernel_rfl)) (fun _ _ _ h => h) (Or.inl ⟨by rfl, ?_⟩) ?_ ?_
     rotate_left
     ·intro w'
      go_simp
      with_reducible rfl
     rotate_left
     ·simp only [Act.put, xT, xZ, xS, i64_w, i32_w]
      rfl
     refine pure_ (i := 12) (N := some 30) (v := ?_) (a' := ?_) #[true, false, true, false, true, false, true, true, false, false, true, false, true, false, false, false] rfl rfl (any_of HT_.out (by kernel_rfl)) (fun _ _ _ h => h) (Or.inl ⟨by rfl, ?_⟩) ?_ ?_
     rotate_left
     ·intro w'
      go_simp
      with_reducible rfl
     rotate_left
     ·simp only [Act.put, xT, xZ, xS, i64_w, i32_w]
      rfl
     refine take_ (i := 1) (N := some 19) (v := ?_) (a' := ?_) #[true, true, true, false, true, false, true, true, false, false, true, false, true, false, false, false] rfl rfl (take_ofW HT_.out HW_.out (by kernel_rfl)) (fun _ _ _ h => h) (Or.inl ⟨by rfl, ?_⟩) hHeld ?_ ?_
     rotate_left
     ·rintro w' ⟨s0, s1⟩
      go_simp
      with_reducible rfl
     rotate_left
     ·simp only [Act.put, xT, xZ, xS, i64_w, i32_w]
      rfl
     refine pure_ (i := 3) (N := some 21) (v := ?_) (a' := ?_) #[true, true, true, true, true, false, true, true, false, false, true, false, true, false, false, false] rfl rfl (any_of HT_.out (by kernel_rfl)) (fun _ _ _ h => h) (Or.inl ⟨by rfl, ?_⟩) ?_ ?_
     rotate_left
     ·intro w'
      go_simp
      with_reducible rfl
     rotate_left
     ·simp only [Act.put, xT, xZ, xS, i64_w, i32_w]
      rfl
     refine take_ (i := 5) (N := some 23) (v := ?_) (a' := ?_) #[true, true, true, true, true, true, true, true, false, false, true, false, true, false, false, false] rfl rfl (take_ofW HT_.out HW_.out (by kernel_rfl)) (fun _ _ _ h => h) (Or.inl ⟨by rfl, ?_⟩) hHeld ?_ ?_
     rotate_left
     ·rintro w' ⟨s0, s1⟩
      go_simp
      with_reducible rfl
     rotate_left
     ·simp only [Act.put, xT, xZ, xS, i64_w, i32_w]
      rfl
     refine pure_ (i := 8) (N := some 26) (v := ?_) (a' := ?_) #[true, true, true, true, true, true, true, true, true, false, true, false, true, false, false, false] rfl rfl (any_of HT_.out (by kernel_rfl)) (fun _ _ _ h => h) (Or.inl ⟨by rfl, ?_⟩) ?_ ?_
     rotate_left
     ·intro w'
      go_simp
      with_reducible rfl
     rotate_left
     ·simp only [Act.put, xT, xZ, xS, i64_w, i32_w]
      rfl
     refine pure_ (i := 9) (N := some 27) (v := ?_) (a' := ?_) #[true, true, true, true, true, true, true, true, true, true, true, false, true, false, false, false] rfl rfl (any_of HT_.out (by kernel_rfl)) (fun _ _ _ h => h) (Or.inl ⟨by rfl, ?_⟩) ?_ ?_
     rotate_left
     ·intro w'
      go_simp
      with_reducible rfl
     rotate_left
     ·simp only [Act.put, xT, xZ, xS, i64_w, i32_w]
      rfl
     refine take_ (i := 11) (N := some 29) (v := ?_) (a' := ?_) #[true, true, true, true, true, true, true, true, true, true, true, true, true, false, false, false] rfl rfl (take_ofW HT_.out HW_.out (by kernel_rfl)) (fun _ _ _ h => h) (Or.inl ⟨by rfl, ?_⟩) hHeld ?_ ?_
     rotate_left
     ·rintro w' ⟨s0, s1⟩
      go_simp
      with_reducible rfl
     rotate_left
     ·simp only [Act.put, xT, xZ, xS, i64_w, i32_w]
      rfl
     refine pure_ (i := 13) (N := some 31) (v := ?_) (a' := ?_) #[true, true, true, true, true, true, true, true, true, true, true, true, true, true, false, false] rfl rfl (any_of HT_.out (by kernel_rfl)) (fun _ _ _ h => h) (Or.inl ⟨by rfl, ?_⟩) ?_ ?_
     rotate_left
     ·intro w'
      go_simp
      with_reducible rfl
     rotate_left
     ·simp only [Act.put, xT, xZ, xS, i64_w, i32_w]
      rfl
     refine pure_ (i := 14) (N := some 32) (v := ?_) (a' := ?_) #[true, true, true, true, true, true, true, true, true, true, true, true, true, true, true, false] rfl rfl (any_of HT_.out (by kernel_rfl)) (fun _ _ _ h => h) (Or.inl ⟨by rfl, ?_⟩) ?_ ?_
     rotate_left
     ·intro w'
      go_simp
      with_reducible rfl
     rotate_left
     ·simp only [Act.put, xT, xZ, xS, i64_w, i32_w]
      rfl
     refine one_ (i := 15) (N := none) #[true, true, true, true, true, true, true, true, true, true, true, true, true, true, true, true] rfl rfl (one_of HT_.out (by kernel_rfl)) (by decide) (fun K hK => ?_)
     have hs28 : w27.cell? ⟨gb321, 0, none⟩ = some (.int .u64 0) := (blk_cell BK321.out 0).trans rfl
     have hfs28 := blk_frozen BK321.out 0
     have hns28_0 := NB320_321.out
     have hms28_0 := NB321_320.out
     have hs29 : w27.cell? ⟨gb321, 1, none⟩ = some (.int .u64 0) := (blk_cell BK321.out 1).trans rfl
     have hfs29 := blk_frozen BK321.out 1
     have hns29_0 := NB320_321.out
     have hms29_0 := NB321_320.out
     refine skip_ (w1 := ?_) (by rfl) rfl ?_ ?_
     rotate_left
     ·go_simp
      rfl
     refine hK.out _ _ ⟨((cell_far (p := ⟨gb321, _, none⟩) NB320_321.out _).trans (((cell_far (p := ⟨gb321, _, none⟩) NB320_321.out _).trans (hHeld.1)))), ((cell_far (p := ⟨gb321, _, none⟩) NB320_321.out _).trans (((cell_far (p := ⟨gb321, _, none⟩) NB320_321.out _).trans (hHeld.2))))⟩ (fun hHeld => ?_)
     clear hK K
     refine done_ (done_of HT_.out (by kernel_rfl)) ?_
     try go_wp2
     refine bodyPost_ret (results_cell_row rfl _ _ gb321 25 #[.int .u64 (Go.bits .or .u64 (ji19) (ji22)), .int .u64 ji24] (0, 0) _ rfl (by refine blk_put (cs := #[.int .u64 (Go.bits .or .u64 (ji19) (ji22)), .int .u64 0]) ?_ 1 _ rfl; refine blk_put (cs := #[.int .u64 0, .int .u64 0]) ?_ 0 _ rfl; exact BK321.out) Tryd.underlying25 rfl (by kernel_rfl)) rfl ?_
     exact ⟨by first | rfl | (simp [errW_none, errW_some] <;> rfl) | (simp only [← hji19, ← hji20, ← hji22, ← hji24]; first | rfl | (simp [errW_none, errW_some] <;> rfl)) | (simp [*, errW_none, errW_some] <;> rfl), by repeat (first | (with_reducible first | exact HB.out | apply yA | apply yN | apply yD | refine below_set ?_ GE320.out | refine below_set ?_ GE321.out) | exact HB.out)⟩
    ·rw [if_neg c21] at H
     exact absurd H (by simp)
   ·rw [if_neg c18] at H
    exact absurd H (by simp)
def impl_Word_without.f (a0_0 : Int) (a0_1 : Int) (a1_0 : Int) (a1_1 : Int) : Option (Int × Int) := some (Go.bits .andNot .u64 a0_0 a1_0, Go.bits .andNot .u64 a0_1 a1_1)
set_option maxHeartbeats 8000000 in
set_option maxRecDepth 100000 in
theorem impl_Word_without.calls (a0_0 : Int) (a0_1 : Int) (a1_0 : Int) (a1_1 : Int) (r1 : Int) (r2 : Int) (w : World) (h : impl_Word_without.f a0_0 a0_1 a1_0 a1_1 = some (r1, r2)) :
  Calls Tryd.prog 124 #[.agg #[.int .u64 a0_0, .int .u64 a0_1], .agg #[.int .u64 a1_0, .int .u64 a1_1]] w fun e w' => e = .returned (.agg #[.int .u64 r1, .int .u64 r2]) ∧ Below w.heap.size w w' := by
 have hu25 := Tryd.underlying25
 have HB := zM (Below.refl w.heap.size w)
 have H : (some (Go.bits .andNot .u64 a0_0 a1_0, Go.bits .andNot .u64 a0_1 a1_1)) = some (r1, r2) := h
 clear h
 simp only [Option.some.injEq, Prod.mk.injEq] at H
 obtain ⟨rfl, rfl⟩ := H
 go_enter Tryd.func124, Tryd.ntmps124
 go_wp2_with (first | ((with_reducible refine gate_dst (N := 2) rfl ?_); refine box_event ?hg (N := 2) ?hd (cs := #[.int .u64 a0_0, .int .u64 a0_1]) (t := 25) ?hr ?_; (case hd => rfl); (case hg => rfl); (case hr => first | (go_simp; done) | (go_simp; rfl)); intro gb322 hg w3 hbox hb; have n0_ := zM (below_step HB.out hb); have n1_ := zM (hbox); have n2_ := zM ((by rw [hg]; exact (below_size HB.out) : w.heap.size ≤ gb322)); have n3_ := zM ((by rw [hg]; exact (below_size HB.out) : w.heap.size ≤ gb322)); clear HB; have HB := n0_; have BK322 := n1_; have GW322 := n2_; have GE322 := n3_; clear n0_ n1_ n2_ n3_; clear hb hbox hg) | ((with_reducible refine gate_dst (N := 3) rfl ?_); refine box_event ?hg (N := 3) ?hd (cs := #[.int .u64 a1_0, .int .u64 a1_1]) (t := 25) ?hr ?_; (case hd => rfl); (case hg => rfl); (case hr => first | (go_simp; done) | (go_simp; rfl)); intro gb323 hg w4 hbox hb; have n0_ := zM (blk_below BK322.out hb); have n1_ := zM (below_step HB.out hb); have n2_ := zM (hbox); have n3_ := zM ((by rw [hg]; exact (below_size HB.out) : w.heap.size ≤ gb323)); have n4_ := zM ((by rw [hg]; exact (below_size HB.out) : w.heap.size ≤ gb323)); have n5_ := zM ((by rw [hg]; exact Nat.ne_of_lt (blk_lt BK322.out) : gb322 ≠ gb323)); have n6_ := zM ((by rw [hg]; exact Nat.ne_of_gt (blk_lt BK322.out) : gb323 ≠ gb322)); clear BK322; clear HB; have BK322 := n0_; have HB := n1_; have BK323 := n2_; have GW323 := n3_; have GE323 := n4_; have NB322_323 := n5_; have NB323_322 := n6_; clear n0_ n1_ n2_ n3_ n4_ n5_ n6_; clear hb hbox hg) | ((with_reducible refine gate_dst (N := 4) rfl ?_); refine box_event ?hg (N := 4) ?hd (cs := #[.int .u64 0, .int .u64 0]) (t := 25) ?hr ?_; (case hd => rfl); (case hg => rfl); (case hr => first | (go_simp; done) | (go_simp; rfl)); intro gb324 hg w5 hbox hb; have n0_ := zM (blk_below BK322.out hb); have n1_ := zM (blk_below BK323.out hb); have n2_ := zM (below_step HB.out hb); have n3_ := zM (hbox); have n4_ := zM ((by rw [hg]; exact (below_size HB.out) : w.heap.size ≤ gb324)); have n5_ := zM ((by rw [hg]; exact (below_size HB.out) : w.heap.size ≤ gb324)); have n6_ := zM ((by rw [hg]; exact Nat.ne_of_lt (blk_lt BK322.out) : gb322 ≠ gb324)); have n7_ := zM ((by rw [hg]; exact Nat.ne_of_gt (blk_lt BK322.out) : gb324 ≠ gb322)); have n8_ := zM ((by rw [hg]; exact Nat.ne_of_lt (blk_lt BK323.out) : gb323 ≠ gb324)); have n9_ := zM ((by rw [hg]; exact Nat.ne_of_gt (blk_lt BK323.out) : gb324 ≠ gb323)); clear BK322; clear BK323; clear HB; have BK322 := n0_; have BK323 := n1_; have HB := n2_; have BK324 := n3_; have GW324 := n4_; have GE324 := n5_; have NB322_324 := n6_; have NB324_322 := n7_; have NB323_324 := n8_; have NB324_323 := n9_; clear n0_ n1_ n2_ n3_ n4_ n5_ n6_ n7_ n8_ n9_; clear hb hbox hg; have hnb6 := NB322_323.out; have hnc6 := NB323_322.out; have hnb7 := NB322_324.out; have hnc7 := NB324_322.out; have hcz8_0 : w5.cell? ⟨gb322, 0, none⟩ = some (.int .u64 a0_0) := (blk_cell BK322.out 0).trans rfl; have hcz8_1 : w5.cell? ⟨gb322, 1, none⟩ = some (.int .u64 a0_1) := (blk_cell BK322.out 1).trans rfl; have hfz8_0 := blk_frozen BK322.out 0; have hfz8_1 := blk_frozen BK322.out 1; have hnb9 := NB323_324.out; have hnc9 := NB324_323.out; have hcz10_0 : w5.cell? ⟨gb323, 0, none⟩ = some (.int .u64 a1_0) := (blk_cell BK323.out 0).trans rfl; have hcz10_1 : w5.cell? ⟨gb323, 1, none⟩ = some (.int .u64 a1_1) := (blk_cell BK323.out 1).trans rfl; have hfz10_0 := blk_frozen BK323.out 0; have hfz10_1 := blk_frozen BK323.out 1; have hcz11_0 : w5.cell? ⟨gb324, 0, none⟩ = some (.int .u64 0) := (blk_cell BK324.out 0).trans rfl; have hcz11_1 : w5.cell? ⟨gb324, 1, none⟩ = some (.int .u64 0) := (blk_cell BK324.out 1).trans rfl; have hfz11_0 := blk_frozen BK324.out 0; have hfz11_1 := blk_frozen BK324.out 1))
 refine bodyPost_ret (results_cell_row rfl _ _ gb324 25 #[.int .u64 (Go.bits .andNot .u64 a0_0 a1_0), .int .u64 (Go.bits .andNot .u64 a0_1 a1_1)] (0, 0) _ rfl (by refine blk_put (cs := #[.int .u64 (Go.bits .andNot .u64 a0_0 a1_0), .int .u64 0]) ?_ 1 _ rfl; refine blk_put (cs := #[.int .u64 0, .int .u64 0]) ?_ 0 _ rfl; exact BK324.out) Tryd.underlying25 rfl (by kernel_rfl)) rfl ?_
 exact ⟨by first | rfl | (simp [errW_none, errW_some] <;> rfl) | (simp [*, errW_none, errW_some] <;> rfl), by repeat (first | (with_reducible first | exact HB.out | apply yA | apply yN | apply yD | refine below_set ?_ GE322.out | refine below_set ?_ GE323.out | refine below_set ?_ GE324.out) | exact HB.out)⟩
def impl_Word_low.f (a0_0 : Int) (a0_1 : Int) (a1 : Int) : Option (Int × Int) := if a1 ≥ 128 then (some (a0_0, a0_1)) else ((impl_Word_or.f a0_0 a0_1 0 0).bind fun bt327 => ((impl_Word_right.f a0_0 a0_1 a1).bind fun bt329 => ((impl_Word_left.f bt329.1 bt329.2 a1).bind fun bt331 => ((impl_Word_without.f bt327.1 bt327.2 bt331.1 bt331.2).bind fun bt333 => (some (bt333.1, bt333.2))))))
def impl_Word_low.T3 : Bool × List (List Nat × List Nat) := (true, [([], []), ([], []), ([0, 1], [0, 1]), ([], []), ([], []), ([3, 4, 2], [3, 4]), ([], []), ([5, 6, 5], [5, 6]), ([2, 7, 7], [2, 7]), ([8, 8, 0, 1, 2, 3, 4, 5, 6, 7, 8], [8])])
def impl_Word_low.B3 : List Nat := [0, 0, 3, 0, 0, 31, 0, 127, 255, 511]
theorem impl_Word_low.tab3 : rtab .any (opsOf Tryd.f68 3) = impl_Word_low.T3 := by kernel_rfl
theorem impl_Word_low.bits3 : waitsOk impl_Word_low.T3.2 impl_Word_low.B3 = true := by kernel_rfl
set_option maxHeartbeats 8000000 in
set_option maxRecDepth 100000 in
theorem impl_Word_low.calls (a0_0 : Int) (a0_1 : Int) (a1 : Int) (r1 : Int) (r2 : Int) (w : World) (h : impl_Word_low.f a0_0 a0_1 a1 = some (r1, r2)) :
  Calls Tryd.prog 68 #[.agg #[.int .u64 a0_0, .int .u64 a0_1], .int .i64 a1] w fun e w' => e = .returned (.agg #[.int .u64 r1, .int .u64 r2]) ∧ Below w.heap.size w w' := by
 have hu25 := Tryd.underlying25
 have HB := zM (Below.refl w.heap.size w)
 have H : (if a1 ≥ 128 then (some (a0_0, a0_1)) else ((impl_Word_or.f a0_0 a0_1 0 0).bind fun bt327 => ((impl_Word_right.f a0_0 a0_1 a1).bind fun bt329 => ((impl_Word_left.f bt329.1 bt329.2 a1).bind fun bt331 => ((impl_Word_without.f bt327.1 bt327.2 bt331.1 bt331.2).bind fun bt333 => (some (bt333.1, bt333.2))))))) = some (r1, r2) := h
 clear h
 by_cases c3 : a1 ≥ 128
 ·rw [if_pos c3] at H
  have c3b0 : decide (128 ≤ a1) = true := decide_eq_true c3
  clear c3
  simp only [Option.some.injEq, Prod.mk.injEq] at H
  obtain ⟨rfl, rfl⟩ := H
  go_enter Tryd.func68, Tryd.ntmps68
  go_wp2_with (first | ((with_reducible refine gate_dst (N := 2) rfl ?_); refine box_event ?hg (N := 2) ?hd (cs := #[.int .u64 a0_0, .int .u64 a0_1]) (t := 25) ?hr ?_; (case hd => rfl); (case hg => rfl); (case hr => first | (go_simp; done) | (go_simp; rfl)); intro gb325 hg w4 hbox hb; have n0_ := zM (below_step HB.out hb); have n1_ := zM (hbox); have n2_ := zM ((by rw [hg]; exact (below_size HB.out) : w.heap.size ≤ gb325)); have n3_ := zM ((by rw [hg]; exact (below_size HB.out) : w.heap.size ≤ gb325)); clear HB; have HB := n0_; have BK325 := n1_; have GW325 := n2_; have GE325 := n3_; clear n0_ n1_ n2_ n3_; clear hb hbox hg) | ((with_reducible refine gate_dst (N := 4) rfl ?_); refine box_event ?hg (N := 4) ?hd (cs := #[.int .u64 0, .int .u64 0]) (t := 25) ?hr ?_; (case hd => rfl); (case hg => rfl); (case hr => first | (go_simp; done) | (go_simp; rfl)); intro gb326 hg w5 hbox hb; have n0_ := zM (blk_below BK325.out hb); have n1_ := zM (below_step HB.out hb); have n2_ := zM (hbox); have n3_ := zM ((by rw [hg]; exact (below_size HB.out) : w.heap.size ≤ gb326)); have n4_ := zM ((by rw [hg]; exact (below_size HB.out) : w.heap.size ≤ gb326)); have n5_ := zM ((by rw [hg]; exact Nat.ne_of_lt (blk_lt BK325.out) : gb325 ≠ gb326)); have n6_ := zM ((by rw [hg]; exact Nat.ne_of_gt (blk_lt BK325.out) : gb326 ≠ gb325)); clear BK325; clear HB; have BK325 := n0_; have HB := n1_; have BK326 := n2_; have GW326 := n3_; have GE326 := n4_; have NB325_326 := n5_; have NB326_325 := n6_; clear n0_ n1_ n2_ n3_ n4_ n5_ n6_; clear hb hbox hg; have hnb6 := NB325_326.out; have hnc6 := NB326_325.out; have hcz7_0 : w5.cell? ⟨gb325, 0, none⟩ = some (.int .u64 a0_0) := (blk_cell BK325.out 0).trans rfl; have hcz7_1 : w5.cell? ⟨gb325, 1, none⟩ = some (.int .u64 a0_1) := (blk_cell BK325.out 1).trans rfl; have hfz7_0 := blk_frozen BK325.out 0; have hfz7_1 := blk_frozen BK325.out 1; have hcz8_0 : w5.cell? ⟨gb326, 0, none⟩ = some (.int .u64 0) := (blk_cell BK326.out 0).trans rfl; have hcz8_1 : w5.cell? ⟨gb326, 1, none⟩ = some (.int .u64 0) := (blk_cell BK326.out 1).trans rfl; have hfz8_0 := blk_frozen BK326.out 0; have hfz8_1 := blk_frozen BK326.out 1))
  refine bodyPost_ret (results_cell_row rfl _ _ gb326 25 #[.int .u64 a0_0, .int .u64 a0_1] (0, 0) _ rfl (by refine blk_put (cs := #[.int .u64 a0_0, .int .u64 0]) ?_ 1 _ rfl; refine blk_put (cs := #[.int .u64 0, .int .u64 0]) ?_ 0 _ rfl; exact BK326.out) Tryd.underlying25 rfl (by kernel_rfl)) rfl ?_
  exact ⟨by first | rfl | (simp [errW_none, errW_some] <;> rfl) | (simp [*, errW_none, errW_some] <;> rfl), by repeat (first | (with_reducible first | exact HB.out | apply yA | apply yN | apply yD | refine below_set ?_ GE325.out | refine below_set ?_ GE326.out) | exact HB.out)⟩
 ·rw [if_neg c3] at H
  have c3b0 : decide (128 ≤ a1) = false := decide_eq_false c3
  clear c3
  replace H := Option.bind_eq_some_iff.mp H
  obtain ⟨⟨t327, t328⟩, A90, H⟩ := H
  replace H : ((impl_Word_right.f a0_0 a0_1 a1).bind fun bt329 => ((impl_Word_left.f bt329.1 bt329.2 a1).bind fun bt331 => ((impl_Word_without.f t327 t328 bt331.1 bt331.2).bind fun bt333 => (some (bt333.1, bt333.2))))) = some (r1, r2) := H
  have A9 := zM A90
  clear A90
  replace H := Option.bind_eq_some_iff.mp H
  obtain ⟨⟨t329, t330⟩, A100, H⟩ := H
  replace H : ((impl_Word_left.f t329 t330 a1).bind fun bt331 => ((impl_Word_without.f t327 t328 bt331.1 bt331.2).bind fun bt333 => (some (bt333.1, bt333.2)))) = some (r1, r2) := H
  have A10 := zM A100
  clear A100
  replace H := Option.bind_eq_some_iff.mp H
  obtain ⟨⟨t331, t332⟩, A110, H⟩ := H
  replace H : ((impl_Word_without.f t327 t328 t331 t332).bind fun bt333 => (some (bt333.1, bt333.2))) = some (r1, r2) := H
  have A11 := zM A110
  clear A110
  replace H := Option.bind_eq_some_iff.mp H
  obtain ⟨⟨t333, t334⟩, A120, H⟩ := H
  replace H : (some (t333, t334)) = some (r1, r2) := H
  have A12 := zM A120
  clear A120
  simp only [Option.some.injEq, Prod.mk.injEq] at H
  obtain ⟨rfl, rfl⟩ := H
  go_enter Tryd.func68, Tryd.ntmps68
  try go_wp2_with (first | ((with_reducible refine gate_dst (N := 2) rfl ?_); refine box_event ?hg (N := 2) ?hd (cs := #[.int .u64 a0_0, .int .u64 a0_1]) (t := 25) ?hr ?_; (case hd => rfl); (case hg => rfl); (case hr => first | (go_simp; done) | (go_simp; rfl)); intro gb325 hg w13 hbox hb; have n0_ := zM (below_step HB.out hb); have n1_ := zM (hbox); have n2_ := zM ((by rw [hg]; exact (below_size HB.out) : w.heap.size ≤ gb325)); have n3_ := zM ((by rw [hg]; exact (below_size HB.out) : w.heap.size ≤ gb325)); clear HB; have HB := n0_; have BK325 := n1_; have GW325 := n2_; have GE325 := n3_; clear n0_ n1_ n2_ n3_; clear hb hbox hg) | ((with_reducible refine gate_dst (N := 4) rfl ?_); refine box_event ?hg (N := 4) ?hd (cs := #[.int .u64 0, .int .u64 0]) (t := 25) ?hr ?_; (case hd => rfl); (case hg => rfl); (case hr => first | (go_simp; done) | (go_simp; rfl)); intro gb326 hg w14 hbox hb; have n0_ := zM (blk_below BK325.out hb); have n1_ := zM (below_step HB.out hb); have n2_ := zM (hbox); have n3_ := zM ((by rw [hg]; exact (below_size HB.out) : w.heap.size ≤ gb326)); have n4_ := zM ((by rw [hg]; exact (below_size HB.out) : w.heap.size ≤ gb326)); have n5_ := zM ((by rw [hg]; exact Nat.ne_of_lt (blk_lt BK325.out) : gb325 ≠ gb326)); have n6_ := zM ((by rw [hg]; exact Nat.ne_of_gt (blk_lt BK325.out) : gb326 ≠ gb325)); clear BK325; clear HB; have BK325 := n0_; have HB := n1_; have BK326 := n2_; have GW326 := n3_; have GE326 := n4_; have NB325_326 := n5_; have NB326_325 := n6_; clear n0_ n1_ n2_ n3_ n4_ n5_ n6_; clear hb hbox hg))
  have n0_ := zM (zD BK325.out)
  have n1_ := zM (zD BK326.out)
  have n2_ := zM (yD HB.out)
  clear BK325
  clear BK326
  clear HB
  have BK325 := n0_
  have BK326 := n1_
  have HB := n2_
  clear n0_ n1_ n2_
  refine start_ (n := 10) (S := fun w' => w'.cell? ⟨gb325, 0, none⟩ = some (.int .u64 a0_0) ∧ w'.cell? ⟨gb325, 1, none⟩ = some (.int .u64 a0_1)) (ds := []) #[false, false, false, false, false, false, false, false, false, false] (by kernel_rfl) rfl rfl ⟨(blk_cell BK325.out 0).trans rfl, (blk_cell BK325.out 1).trans rfl⟩ (fun hHeld => ?_); refine with_tabW impl_Word_low.tab3 impl_Word_low.bits3 (fun HT_ HW_ => ?_)
  generalize w14.drew = w15 at BK325 BK326 HB hHeld ⊢
  refine pure_ (i := 1) (N := some 9) (v := ?_) (a' := ?_) #[false, true, false, false, false, false, false, false, false, false] rfl rfl (any_of HT_.out (by kernel_rfl)) (fun _ _ _ h => h) (Or.inl ⟨by rfl, ?_⟩) ?_ ?_
  rotate_left
  ·intro w'
   go_simp
   with_reducible rfl
  rotate_left
  ·simp only [Act.put, xT, xZ, xS, i64_w, i32_w]
   rfl
  refine pure_ (i := 4) (N := some 12) (v := ?_) (a' := ?_) #[false, true, false, false, true, false, false, false, false, false] rfl rfl (any_of HT_.out (by kernel_rfl)) (fun _ _ _ h => h) (Or.inl ⟨by rfl, ?_⟩) ?_ ?_
  rotate_left
  ·intro w'
   go_simp
   with_reducible rfl
  rotate_left
  ·simp only [Act.put, xT, xZ, xS, i64_w, i32_w]
   rfl
  refine pure_ (i := 6) (N := some 14) (v := ?_) (a' := ?_) #[false, true, false, false, true, false, true, false, false, false] rfl rfl (any_of HT_.out (by kernel_rfl)) (fun _ _ _ h => h) (Or.inl ⟨by rfl, ?_⟩) ?_ ?_
  rotate_left
  ·intro w'
   go_simp
   with_reducible rfl
  rotate_left
  ·simp only [Act.put, xT, xZ, xS, i64_w, i32_w]
   rfl
  refine take_ (i := 0) (N := some 8) (v := ?_) (a' := ?_) #[true, true, false, false, true, false, true, false, false, false] rfl rfl (take_ofW HT_.out HW_.out (by kernel_rfl)) (fun _ _ _ h => h) (Or.inl ⟨by rfl, ?_⟩) hHeld ?_ ?_
  rotate_left
  ·rintro w' ⟨s0, s1⟩
   go_simp
   with_reducible rfl
  rotate_left
  ·simp only [Act.put, xT, xZ, xS, i64_w, i32_w]
   rfl
  refine take_ (i := 3) (N := some 11) (v := ?_) (a' := ?_) #[true, true, false, true, true, false, true, false, false, false] rfl rfl (take_ofW HT_.out HW_.out (by kernel_rfl)) (fun _ _ _ h => h) (Or.inl ⟨by rfl, ?_⟩) hHeld ?_ ?_
  rotate_left
  ·rintro w' ⟨s0, s1⟩
   go_simp
   with_reducible rfl
  rotate_left
  ·simp only [Act.put, xT, xZ, xS, i64_w, i32_w]
   rfl
  refine one_ (i := 2) (N := some 10) #[true, true, true, true, true, false, true, false, false, false] rfl rfl (one_of HT_.out (by kernel_rfl)) (by decide) (fun K hK => ?_)
  refine goes_ Tryd.func71 (by kernel_rfl) rfl #[.agg #[.int .u64 a0_0, .int .u64 a0_1], .agg #[.int .u64 0, .int .u64 0]] (by rfl) rfl rfl (by first | rfl | (simp only [List.map_toArray, List.map_cons, List.map_nil, List.length_drop, List.length_take]; rfl)) ?_
  with_reducible refine (impl_Word_or.calls a0_0 a0_1 0 0 t327 t328 _ A9.out).mono ?_
  rintro e w16 ⟨rfl, hb⟩
  refine ⟨_, rfl, ?_⟩
  have n0_ := zM (blk_below BK325.out hb)
  have n1_ := zM (blk_below BK326.out hb)
  have n2_ := zM (below_step HB.out hb)
  clear BK325
  clear BK326
  clear HB
  have BK325 := n0_
  have BK326 := n1_
  have HB := n2_
  clear n0_ n1_ n2_
  try clear hb; try clear hb2; try clear hk; try clear hi
  refine hK.out _ _ ⟨(blk_cell BK325.out 0).trans rfl, (blk_cell BK325.out 1).trans rfl⟩ (fun hHeld => ?_)
  clear hK K
  refine norm_ (a' := ?_) ?_ ?_
  rotate_left
  ·show Act.put _ (some 10) _ = _
   simp only [Act.put, xT, xZ, xS, i64_w, i32_w]
   rfl
  refine one_ (i := 5) (N := some 13) #[true, true, true, true, true, true, true, false, false, false] rfl rfl (one_of HT_.out (by kernel_rfl)) (by decide) (fun K hK => ?_)
  refine goes_ Tryd.func66 (by kernel_rfl) rfl #[.agg #[.int .u64 a0_0, .int .u64 a0_1], .int .i64 a1] (by rfl) rfl rfl (by first | rfl | (simp only [List.map_toArray, List.map_cons, List.map_nil, List.length_drop, List.length_take]; rfl)) ?_
  with_reducible refine (impl_Word_right.calls a0_0 a0_1 a1 t329 t330 _ A10.out).mono ?_
  rintro e w17 ⟨rfl, hb⟩
  refine ⟨_, rfl, ?_⟩
  have n0_ := zM (blk_below BK325.out hb)
  have n1_ := zM (blk_below BK326.out hb)
  have n2_ := zM (below_step HB.out hb)
  clear BK325
  clear BK326
  clear HB
  have BK325 := n0_
  have BK326 := n1_
  have HB := n2_
  clear n0_ n1_ n2_
  try clear hb; try clear hb2; try clear hk; try clear hi
  refine hK.out _ _ ⟨(blk_cell BK325.out 0).trans rfl, (blk_cell BK325.out 1).trans rfl⟩ (fun hHeld => ?_)
  clear hK K
  refine norm_ (a' := ?_) ?_ ?_
  rotate_left
  ·show Act.put _ (some 13) _ = _
   simp only [Act.put, xT, xZ, xS, i64_w, i32_w]
   rfl
  refine one_ (i := 7) (N := some 15) #[true, true, true, true, true, true, true, true, false, false] rfl rfl (one_of HT_.out (by kernel_rfl)) (by decide) (fun K hK => ?_)
  refine goes_ Tryd.func80 (by kernel_rfl) rfl #[.agg #[.int .u64 t329, .int .u64 t330], .int .i64 a1] (by rfl) rfl rfl (by first | rfl | (simp only [List.map_toArray, List.map_cons, List.map_nil, List.length_drop, List.length_take]; rfl)) ?_
  with_reducible refine (impl_Word_left.calls t329 t330 a1 t331 t332 _ A11.out).mono ?_
  rintro e w18 ⟨rfl, hb⟩
  refine ⟨_, rfl, ?_⟩
  have n0_ := zM (blk_below BK325.out hb)
  have n1_ := zM (blk_below BK326.out hb)
  have n2_ := zM (below_step HB.out hb)
  clear BK325
  clear BK326
  clear HB
  have BK325 := n0_
  have BK326 := n1_
  have HB := n2_
  clear n0_ n1_ n2_
  try clear hb; try clear hb2; try clear hk; try clear hi
  refine hK.out _ _ ⟨(blk_cell BK325.out 0).trans rfl, (blk_cell BK325.out 1).trans rfl⟩ (fun hHeld => ?_)
  clear hK K
  refine norm_ (a' := ?_) ?_ ?_
  rotate_left
  ·show Act.put _ (some 15) _ = _
   simp only [Act.put, xT, xZ, xS, i64_w, i32_w]
   rfl
  refine one_ (i := 8) (N := some 16) #[true, true, true, true, true, true, true, true, true, false] rfl rfl (one_of HT_.out (by kernel_rfl)) (by decide) (fun K hK => ?_)
  refine goes_ Tryd.func124 (by kernel_rfl) rfl #[.agg #[.int .u64 t327, .int .u64 t328], .agg #[.int .u64 t331, .int .u64 t332]] (by rfl) rfl rfl (by first | rfl | (simp only [List.map_toArray, List.map_cons, List.map_nil, List.length_drop, List.length_take]; rfl)) ?_
  with_reducible refine (impl_Word_without.calls t327 t328 t331 t332 t333 t334 _ A12.out).mono ?_
  rintro e w19 ⟨rfl, hb⟩
  refine ⟨_, rfl, ?_⟩
  have n0_ := zM (blk_below BK325.out hb)
  have n1_ := zM (blk_below BK326.out hb)
  have n2_ := zM (below_step HB.out hb)
  clear BK325
  clear BK326
  clear HB
  have BK325 := n0_
  have BK326 := n1_
  have HB := n2_
  clear n0_ n1_ n2_
  try clear hb; try clear hb2; try clear hk; try clear hi
  refine hK.out _ _ ⟨(blk_cell BK325.out 0).trans rfl, (blk_cell BK325.out 1).trans rfl⟩ (fun hHeld => ?_)
  clear hK K
  refine norm_ (a' := ?_) ?_ ?_
  rotate_left
  ·show Act.put _ (some 16) _ = _
   simp only [Act.put, xT, xZ, xS, i64_w, i32_w]
   rfl
  refine one_ (i := 9) (N := none) #[true, true, true, true, true, true, true, true, true, true] rfl rfl (one_of HT_.out (by kernel_rfl)) (by decide) (fun K hK => ?_)
  have hs20 : w19.cell? ⟨gb326, 0, none⟩ = some (.int .u64 0) := (blk_cell BK326.out 0).trans rfl
  have hfs20 := blk_frozen BK326.out 0
  have hns20_0 := NB325_326.out
  have hms20_0 := NB326_325.out
  have hs21 : w19.cell? ⟨gb326, 1, none⟩ = some (.int .u64 0) := (blk_cell BK326.out 1).trans rfl
  have hfs21 := blk_frozen BK326.out 1
  have hns21_0 := NB325_326.out
  have hms21_0 := NB326_325.out
  refine skip_ (w1 := ?_) (by rfl) rfl ?_ ?_
  rotate_left
  ·go_simp
   rfl
  refine hK.out _ _ ⟨((cell_far (p := ⟨gb326, _, none⟩) NB325_326.out _).trans (((cell_far (p := ⟨gb326, _, none⟩) NB325_326.out _).trans (hHeld.1)))), ((cell_far (p := ⟨gb326, _, none⟩) NB325_326.out _).trans (((cell_far (p := ⟨gb326, _, none⟩) NB325_326.out _).trans (hHeld.2))))⟩ (fun hHeld => ?_)
  clear hK K
  refine done_ (done_of HT_.out (by kernel_rfl)) ?_
  try go_wp2
  refine bodyPost_ret (results_cell_row rfl _ _ gb326 25 #[.int .u64 t333, .int .u64 t334] (0, 0) _ rfl (by refine blk_put (cs := #[.int .u64 t333, .int .u64 0]) ?_ 1 _ rfl; refine blk_put (cs := #[.int .u64 0, .int .u64 0]) ?_ 0 _ rfl; exact BK326.out) Tryd.underlying25 rfl (by kernel_rfl)) rfl ?_
  exact ⟨by first | rfl | (simp [errW_none, errW_some] <;> rfl) | (simp [*, errW_none, errW_some] <;> rfl), by repeat (first | (with_reducible first | exact HB.out | apply yA | apply yN | apply yD | refine below_set ?_ GE325.out | refine below_set ?_ GE326.out) | exact HB.out)⟩
def impl_layout_top.f (a0_0 : Int) (a0_1 : Int) (a0_2 : Int) (a0_3 : Int) (a0_4 : Int) (a0_5 : Bool) : Option (Int) := if 0 ≤ a0_4 then (some (wrap64 ((shl .i64 1 a0_4) - 1))) else (none)
set_option maxHeartbeats 8000000 in
set_option maxRecDepth 100000 in
theorem impl_layout_top.calls (a0_0 : Int) (a0_1 : Int) (a0_2 : Int) (a0_3 : Int) (a0_4 : Int) (a0_5 : Bool) (r : Int) (w : World) (h : impl_layout_top.f a0_0 a0_1 a0_2 a0_3 a0_4 a0_5 = some r) :
  Calls Tryd.prog 69 #[.agg #[.int .i64 a0_0, .int .i64 a0_1, .int .i64 a0_2, .int .i64 a0_3, .int .i64 a0_4, .bool a0_5]] w fun e w' => e = .returned (.int .i64 r) ∧ Below w.heap.size w w' := by
 have hu91 := Tryd.underlying91
 have HB := zM (Below.refl w.heap.size w)
 have H : (if 0 ≤ a0_4 then (some (wrap64 ((shl .i64 1 a0_4) - 1))) else (none)) = some r := h
 clear h
 by_cases c2 : 0 ≤ a0_4
 ·rw [if_pos c2] at H
  have c2b0 := eq_true c2
  have c2b1 : decide (0 ≤ a0_4) = true := decide_eq_true c2
  clear c2
  obtain ⟨ji3, hji3⟩ : ∃ j_ : Int, (shl .i64 1 a0_4) = j_ := ⟨_, rfl⟩
  replace H : (some (wrap64 ((ji3) - 1))) = some r := by first | (rw [hji3] at H; exact H) | (simp only [hji3] at H ⊢; exact H)
  have hji3_ : (IntKind.i64.wrap (1 * 2 ^ min a0_4.toNat 64)) = ji3 := hji3
  have hji3z : a0_4 ≤ 64 → (IntKind.i64.wrap (1 * 2 ^ a0_4.toNat)) = ji3 := shl_small hji3
  have hji3u : (IntKind.i64.wrap (2 ^ min a0_4.toNat 64)) = ji3 := by have h_ := hji3_; rw [Int.one_mul] at h_; exact h_
  have hji3v : a0_4 ≤ 64 → (IntKind.i64.wrap (2 ^ a0_4.toNat)) = ji3 := fun hle_ => by have h_ := hji3z hle_; rw [Int.one_mul] at h_; exact h_
  have hji3y : (wrap64 (1 * 2 ^ min a0_4.toNat 64)) = ji3 := (i64_w _).symm.trans hji3_
  have hji3x : a0_4 ≤ 64 → (wrap64 (1 * 2 ^ a0_4.toNat)) = ji3 := fun h_ => (i64_w _).symm.trans (hji3z h_)
  obtain rfl := Option.some.inj H
  go_enter Tryd.func69, Tryd.ntmps69
  go_wp2_with (first | ((with_reducible refine gate_dst (N := 1) rfl ?_); refine box_event ?hg (N := 1) ?hd (cs := #[.int .i64 a0_0, .int .i64 a0_1, .int .i64 a0_2, .int .i64 a0_3, .int .i64 a0_4, .bool a0_5]) (t := 91) ?hr ?_; (case hd => rfl); (case hg => rfl); (case hr => first | (go_simp; done) | (go_simp; rfl)); intro gb335 hg w4 hbox hb; have n0_ := zM (below_step HB.out hb); have n1_ := zM (hbox); have n2_ := zM ((by rw [hg]; exact (below_size HB.out) : w.heap.size ≤ gb335)); have n3_ := zM ((by rw [hg]; exact (below_size HB.out) : w.heap.size ≤ gb335)); clear HB; have HB := n0_; have BK335 := n1_; have GW335 := n2_; have GE335 := n3_; clear n0_ n1_ n2_ n3_; clear hb hbox hg; have hcz5_0 : w4.cell? ⟨gb335, 0, none⟩ = some (.int .i64 a0_0) := (blk_cell BK335.out 0).trans rfl; have hcz5_1 : w4.cell? ⟨gb335, 1, none⟩ = some (.int .i64 a0_1) := (blk_cell BK335.out 1).trans rfl; have hcz5_2 : w4.cell? ⟨gb335, 2, none⟩ = some (.int .i64 a0_2) := (blk_cell BK335.out 2).trans rfl; have hcz5_3 : w4.cell? ⟨gb335, 3, none⟩ = some (.int .i64 a0_3) := (blk_cell BK335.out 3).trans rfl; have hcz5_4 : w4.cell? ⟨gb335, 4, none⟩ = some (.int .i64 a0_4) := (blk_cell BK335.out 4).trans rfl; have hcz5_5 : w4.cell? ⟨gb335, 5, none⟩ = some (.bool a0_5) := (blk_cell BK335.out 5).trans rfl; have hfz5_0 := blk_frozen BK335.out 0; have hfz5_1 := blk_frozen BK335.out 1; have hfz5_2 := blk_frozen BK335.out 2; have hfz5_3 := blk_frozen BK335.out 3; have hfz5_4 := blk_frozen BK335.out 4; have hfz5_5 := blk_frozen BK335.out 5))
  go_ret
  exact ⟨by first | rfl | (simp [errW_none, errW_some] <;> rfl) | (simp only [← hji3]; first | rfl | (simp [errW_none, errW_some] <;> rfl)) | (simp [*, errW_none, errW_some] <;> rfl), by repeat (first | (with_reducible first | exact HB.out | apply yA | apply yN | apply yD | refine below_set ?_ GE335.out) | exact HB.out)⟩
 ·rw [if_neg c2] at H
  exact absurd H (by simp)
def impl_layout_qMin.f (a0_0 : Int) (a0_1 : Int) (a0_2 : Int) (a0_3 : Int) (a0_4 : Int) (a0_5 : Bool) : Option (Int) := some (wrap64 ((wrap64 (a0_1 - a0_0)) + 1))
set_option maxHeartbeats 8000000 in
set_option maxRecDepth 100000 in
theorem impl_layout_qMin.calls (a0_0 : Int) (a0_1 : Int) (a0_2 : Int) (a0_3 : Int) (a0_4 : Int) (a0_5 : Bool) (r : Int) (w : World) (h : impl_layout_qMin.f a0_0 a0_1 a0_2 a0_3 a0_4 a0_5 = some r) :
  Calls Tryd.prog 70 #[.agg #[.int .i64 a0_0, .int .i64 a0_1, .int .i64 a0_2, .int .i64 a0_3, .int .i64 a0_4, .bool a0_5]] w fun e w' => e = .returned (.int .i64 r) ∧ Below w.heap.size w w' := by
 have hu91 := Tryd.underlying91
 have HB := zM (Below.refl w.heap.size w)
 have H : (some (wrap64 ((wrap64 (a0_1 - a0_0)) + 1))) = some r := h
 clear h
 obtain rfl := Option.some.inj H
 go_enter Tryd.func70, Tryd.ntmps70
 go_wp2_with (first | ((with_reducible refine gate_dst (N := 1) rfl ?_); refine box_event ?hg (N := 1) ?hd (cs := #[.int .i64 a0_0, .int .i64 a0_1, .int .i64 a0_2, .int .i64 a0_3, .int .i64 a0_4, .bool a0_5]) (t := 91) ?hr ?_; (case hd => rfl); (case hg => rfl); (case hr => first | (go_simp; done) | (go_simp; rfl)); intro gb336 hg w2 hbox hb; have n0_ := zM (below_step HB.out hb); have n1_ := zM (hbox); have n2_ := zM ((by rw [hg]; exact (below_size HB.out) : w.heap.size ≤ gb336)); have n3_ := zM ((by rw [hg]; exact (below_size HB.out) : w.heap.size ≤ gb336)); clear HB; have HB := n0_; have BK336 := n1_; have GW336 := n2_; have GE336 := n3_; clear n0_ n1_ n2_ n3_; clear hb hbox hg; have hcz3_0 : w2.cell? ⟨gb336, 0, none⟩ = some (.int .i64 a0_0) := (blk_cell BK336.out 0).trans rfl; have hcz3_1 : w2.cell? ⟨gb336, 1, none⟩ = some (.int .i64 a0_1) := (blk_cell BK336.out 1).trans rfl; have hcz3_2 : w2.cell? ⟨gb336, 2, none⟩ = some (.int .i64 a0_2) := (blk_cell BK336.out 2).trans rfl; have hcz3_3 : w2.cell? ⟨gb336, 3, none⟩ = some (.int .i64 a0_3) := (blk_cell BK336.out 3).trans rfl; have hcz3_4 : w2.cell? ⟨gb336, 4, none⟩ = some (.int .i64 a0_4) := (blk_cell BK336.out 4).trans rfl; have hcz3_5 : w2.cell? ⟨gb336, 5, none⟩ = some (.bool a0_5) := (blk_cell BK336.out 5).trans rfl; have hfz3_0 := blk_frozen BK336.out 0; have hfz3_1 := blk_frozen BK336.out 1; have hfz3_2 := blk_frozen BK336.out 2; have hfz3_3 := blk_frozen BK336.out 3; have hfz3_4 := blk_frozen BK336.out 4; have hfz3_5 := blk_frozen BK336.out 5))
 go_ret
 exact ⟨by first | rfl | (simp [errW_none, errW_some] <;> rfl) | (simp [*, errW_none, errW_some] <;> rfl), by repeat (first | (with_reducible first | exact HB.out | apply yA | apply yN | apply yD | refine below_set ?_ GE336.out) | exact HB.out)⟩
def impl_one.f (a0 : Int) : Option (Int × Int) := if a0 ≥ 64 then (if 0 ≤ (wrap64 (a0 - 64)) then (some (shl .u64 1 (wrap64 (a0 - 64)), 0)) else (none)) else (if 0 ≤ a0 then (some (0, shl .u64 1 a0)) else (none))
set_option maxHeartbeats 8000000 in
set_option maxRecDepth 100000 in
theorem impl_one.calls (a0 : Int) (r1 : Int) (r2 : Int) (w : World) (h : impl_one.f a0 = some (r1, r2)) :
  Calls Tryd.prog 72 #[.int .i64 a0] w fun e w' => e = .returned (.agg #[.int .u64 r1, .int .u64 r2]) ∧ Below w.heap.size w w' := by
 have hu25 := Tryd.underlying25
 have HB := zM (Below.refl w.heap.size w)
 have H : (if a0 ≥ 64 then (if 0 ≤ (wrap64 (a0 - 64)) then (some (shl .u64 1 (wrap64 (a0 - 64)), 0)) else (none)) else (if 0 ≤ a0 then (some (0, shl .u64 1 a0)) else (none))) = some (r1, r2) := h
 clear h
 by_cases c2 : a0 ≥ 64
 ·rw [if_pos c2] at H
  have c2b0 : decide (64 ≤ a0) = true := decide_eq_true c2
  clear c2
  obtain ⟨ji3, hji3⟩ : ∃ j_ : Int, (wrap64 (a0 - 64)) = j_ := ⟨_, rfl⟩
  replace H : (if 0 ≤ (ji3) then (some (shl .u64 1 (ji3), 0)) else (none)) = some (r1, r2) := by first | (rw [hji3] at H; exact H) | (simp only [hji3] at H ⊢; exact H)
  have hji3w : (IntKind.i64.wrap (a0 - 64)) = ji3 := (i64_w _).trans hji3
  by_cases c4 : 0 ≤ (ji3)
  ·rw [if_pos c4] at H
   have c4b0 := eq_true c4
   have c4b1 : decide (0 ≤ (ji3)) = true := decide_eq_true c4
   clear c4
   obtain ⟨ji5, hji5⟩ : ∃ j_ : Int, (shl .u64 1 (ji3)) = j_ := ⟨_, rfl⟩
   replace H : (some (ji5, 0)) = some (r1, r2) := by first | (rw [hji5] at H; exact H) | (simp only [hji5] at H ⊢; exact H)
   have hji5_ : (IntKind.u64.wrap (1 * 2 ^ min (ji3).toNat 64)) = ji5 := hji5
   have hji5z : (ji3) ≤ 64 → (IntKind.u64.wrap (1 * 2 ^ (ji3).toNat)) = ji5 := shl_small hji5
   have hji5u : (IntKind.u64.wrap (2 ^ min (ji3).toNat 64)) = ji5 := by have h_ := hji5_; rw [Int.one_mul] at h_; exact h_
   have hji5v : (ji3) ≤ 64 → (IntKind.u64.wrap (2 ^ (ji3).toNat)) = ji5 := fun hle_ => by have h_ := hji5z hle_; rw [Int.one_mul] at h_; exact h_
   simp only [Option.some.injEq, Prod.mk.injEq] at H
   obtain ⟨rfl, rfl⟩ := H
   go_enter Tryd.func72, Tryd.ntmps72
   go_wp2_with (first | ((with_reducible refine gate_dst (N := 2) rfl ?_); refine box_event ?hg (N := 2) ?hd (cs := #[.int .u64 0, .int .u64 0]) (t := 25) ?hr ?_; (case hd => rfl); (case hg => rfl); (case hr => first | (go_simp; done) | (go_simp; rfl)); intro gb337 hg w6 hbox hb; have n0_ := zM (below_step HB.out hb); have n1_ := zM (hbox); have n2_ := zM ((by rw [hg]; exact (below_size HB.out) : w.heap.size ≤ gb337)); have n3_ := zM ((by rw [hg]; exact (below_size HB.out) : w.heap.size ≤ gb337)); clear HB; have HB := n0_; have BK337 := n1_; have GW337 := n2_; have GE337 := n3_; clear n0_ n1_ n2_ n3_; clear hb hbox hg; have hcz7_0 : w6.cell? ⟨gb337, 0, none⟩ = some (.int .u64 0) := (blk_cell BK337.out 0).trans rfl; have hcz7_1 : w6.cell? ⟨gb337, 1, none⟩ = some (.int .u64 0) := (blk_cell BK337.out 1).trans rfl; have hfz7_0 := blk_frozen BK337.out 0; have hfz7_1 := blk_frozen BK337.out 1))
   refine bodyPost_ret (results_cell_row rfl _ _ gb337 25 #[.int .u64 ji5, .int .u64 0] (0, 0) _ rfl (by refine blk_put (cs := #[.int .u64 ji5, .int .u64 0]) ?_ 1 _ rfl; refine blk_put (cs := #[.int .u64 0, .int .u64 0]) ?_ 0 _ rfl; exact BK337.out) Tryd.underlying25 rfl (by kernel_rfl)) rfl ?_
   exact ⟨by first | rfl | (simp [errW_none, errW_some] <;> rfl) | (simp only [← hji3, ← hji5]; first | rfl | (simp [errW_none, errW_some] <;> rfl)) | (simp [*, errW_none, errW_some] <;> rfl), by repeat (first | (with_reducible first | exact HB.out | apply yA | apply yN | apply yD | refine below_set ?_ GE337.out) | exact HB.out)⟩
  ·rw [if_neg c4] at H
   exact absurd H (by simp)
 ·rw [if_neg c2] at H
  have c2b0 : decide (64 ≤ a0) = false := decide_eq_false c2
  clear c2
  by_cases c8 : 0 ≤ a0
  ·rw [if_pos c8] at H
   have c8b0 := eq_true c8
   have c8b1 : decide (0 ≤ a0) = true := decide_eq_true c8
   clear c8
   obtain ⟨ji9, hji9⟩ : ∃ j_ : Int, (shl .u64 1 a0) = j_ := ⟨_, rfl⟩
   replace H : (some (0, ji9)) = some (r1, r2) := by first | (rw [hji9] at H; exact H) | (simp only [hji9] at H ⊢; exact H)
   have hji9_ : (IntKind.u64.wrap (1 * 2 ^ min a0.toNat 64)) = ji9 := hji9
   have hji9z : a0 ≤ 64 → (IntKind.u64.wrap (1 * 2 ^ a0.toNat)) = ji9 := shl_small hji9
   have hji9u : (IntKind.u64.wrap (2 ^ min a0.toNat 64)) = ji9 := by have h_ := hji9_; rw [Int.one_mul] at h_; exact h_
   have hji9v : a0 ≤ 64 → (IntKind.u64.wrap (2 ^ a0.toNat)) = ji9 := fun hle_ => by have h_ := hji9z hle_; rw [Int.one_mul] at h_; exact h_
   simp only [Option.some.injEq, Prod.mk.injEq] at H
   obtain ⟨rfl, rfl⟩ := H
   go_enter Tryd.func72, Tryd.ntmps72
   go_wp2_with (first | ((with_reducible refine gate_dst (N := 2) rfl ?_); refine box_event ?hg (N := 2) ?hd (cs := #[.int .u64 0, .int .u64 0]) (t := 25) ?hr ?_; (case hd => rfl); (case hg => rfl); (case hr => first | (go_simp; done) | (go_simp; rfl)); intro gb337 hg w10 hbox hb; have n0_ := zM (below_step HB.out hb); have n1_ := zM (hbox); have n2_ := zM ((by rw [hg]; exact (below_size HB.out) : w.heap.size ≤ gb337)); have n3_ := zM ((by rw [hg]; exact (below_size HB.out) : w.heap.size ≤ gb337)); clear HB; have HB := n0_; have BK337 := n1_; have GW337 := n2_; have GE337 := n3_; clear n0_ n1_ n2_ n3_; clear hb hbox hg; have hcz11_0 : w10.cell? ⟨gb337, 0, none⟩ = some (.int .u64 0) := (blk_cell BK337.out 0).trans rfl; have hcz11_1 : w10.cell? ⟨gb337, 1, none⟩ = some (.int .u64 0) := (blk_cell BK337.out 1).trans rfl; have hfz11_0 := blk_frozen BK337.out 0; have hfz11_1 := blk_frozen BK337.out 1))
   refine bodyPost_ret (results_cell_row rfl _ _ gb337 25 #[.int .u64 0, .int .u64 ji9] (0, 0) _ rfl (by refine blk_put (cs := #[.int .u64 0, .int .u64 0]) ?_ 1 _ rfl; refine blk_put (cs := #[.int .u64 0, .int .u64 0]) ?_ 0 _ rfl; exact BK337.out) Tryd.underlying25 rfl (by kernel_rfl)) rfl ?_
   exact ⟨by first | rfl | (simp [errW_none, errW_some] <;> rfl) | (simp only [← hji9]; first | rfl | (simp [errW_none, errW_some] <;> rfl)) | (simp [*, errW_none, errW_some] <;> rfl), by repeat (first | (with_reducible first | exact HB.out | apply yA | apply yN | apply yD | refine below_set ?_ GE337.out) | exact HB.out)⟩
  ·rw [if_neg c8] at H
   exact absurd H (by simp)
end Go.Proofs.YtdbnmdchecacdaaDoor.PB
end
section
namespace Go.Proofs.YtdbnmdchecacdaaDoor.M
open Go.RowKit Go.Proofs.YtdbnmdchecacdaaDoor.G Go.Proofs.YtdbnmdchecacdaaDoorV.PrintWords Go.Proofs.YtdbnmdchecacdaaDoorV.PrintLast Go.Proofs.YtdbnmdchecacdaaDoorV.PrintMore Go.Proofs.YtdbnmdchecacdaaDoor.PB
set_option linter.unusedVariables false
set_option linter.unusedSimpArgs false
def hiI (w : Nat) : Int := ((w / 18446744073709551616 : Nat) : Int)
def loI (w : Nat) : Int := ((w % 18446744073709551616 : Nat) : Int)
abbrev B128 : Nat := 340282366920938463463374607431768211456
theorem hi_lt {w : Nat} (h : w < B128) : w / 18446744073709551616 < 18446744073709551616 := by unfold B128 at h; omega
theorem lo_lt (w : Nat) : w % 18446744073709551616 < 18446744073709551616 := by omega
theorem wordI_of (hi lo : Nat) (hl : lo < 18446744073709551616) : hiI (hi * 18446744073709551616 + lo) = (hi : Int) ∧ loI (hi * 18446744073709551616 + lo) = (lo : Int) := by
  unfold hiI loI
  constructor <;> omega
theorem wsubK (K a : Nat) (h : a ≤ K) (hK : K ≤ 1000) : wrap64 ((K : Int) - (a : Int)) = ((K - a : Nat) : Int) := by rw [wrap64_id (by omega)]; omega
theorem wsub64' (a : Nat) (h : a ≤ 64) : wrap64 (64 - (a : Int)) = ((64 - a : Nat) : Int) := wsubK 64 a h (by decide)
theorem wsubA64 (a : Nat) (h : 64 ≤ a) (hK : a ≤ 1000) : wrap64 ((a : Int) - 64) = ((a - 64 : Nat) : Int) := by rw [wrap64_id (by omega)]; omega
theorem pow64 : (18446744073709551616 : Nat) = 2 ^ 64 := rfl
theorem split_div (w n : Nat) (hn : n < 64) : w / 2 ^ n / 18446744073709551616 = w / 18446744073709551616 / 2 ^ n ∧ w / 2 ^ n % 18446744073709551616 = w % 18446744073709551616 / 2 ^ n + w / 18446744073709551616 * 2 ^ (64 - n) % 18446744073709551616 := by
  have hp : 0 < 2 ^ n := Nat.pow_pos (by decide)
  have e64 : (18446744073709551616 : Nat) = 2 ^ (64 - n) * 2 ^ n := by rw [← Nat.pow_add, show 64 - n + n = 64 by omega]
  have h1 : w / 2 ^ n / 18446744073709551616 = w / 18446744073709551616 / 2 ^ n := by rw [Nat.div_div_eq_div_mul, Nat.div_div_eq_div_mul, Nat.mul_comm]
  refine ⟨h1, ?_⟩
  have hdm := Nat.div_add_mod w 18446744073709551616
  generalize hH : w / 18446744073709551616 = H at *
  generalize hL : w % 18446744073709551616 = L at *
  have hLl : L < 18446744073709551616 := by rw [← hL]; exact Nat.mod_lt _ (by decide)
  have h2 : w / 2 ^ n = L / 2 ^ n + H * 2 ^ (64 - n) := by
    rw [← hdm, e64, show 2 ^ (64 - n) * 2 ^ n * H + L = L + 2 ^ n * (H * 2 ^ (64 - n)) by rw [Nat.mul_comm (2 ^ (64 - n)), Nat.mul_assoc, Nat.mul_comm (2 ^ (64 - n)) H]; omega, Nat.add_mul_div_left _ _ hp]
  rw [h2]
  have h3 : L / 2 ^ n < 2 ^ (64 - n) := by rw [Nat.div_lt_iff_lt_mul hp, ← e64]; exact hLl
  have h4 : H * 2 ^ (64 - n) % 18446744073709551616 = H % 2 ^ n * 2 ^ (64 - n) := by
    rw [show (18446744073709551616 : Nat) = 2 ^ n * 2 ^ (64 - n) by rw [Nat.mul_comm]; exact e64, Nat.mul_mod_mul_right]
  have h5 : H % 2 ^ n * 2 ^ (64 - n) + 2 ^ (64 - n) ≤ 18446744073709551616 := by
    have := Nat.mul_le_mul_right (2 ^ (64 - n)) (show H % 2 ^ n + 1 ≤ 2 ^ n from Nat.mod_lt _ hp)
    rw [Nat.add_mul, Nat.one_mul, Nat.mul_comm (2 ^ n)] at this
    rwa [← e64] at this
  rw [Nat.add_mod, h4, Nat.mod_eq_of_lt (show L / 2 ^ n < 18446744073709551616 by omega), Nat.mod_eq_of_lt (by omega)]
theorem right_eq (w n : Nat) (hw : w < B128) (hn : n ≤ 1000) : impl_Word_right.f (hiI w) (loI w) (n : Int) = some (hiI (w / 2 ^ n), loI (w / 2 ^ n)) := by
  have hh := hi_lt hw
  unfold impl_Word_right.f
  by_cases h0 : n = 0
  · subst h0
    rw [if_pos (by rfl), Nat.pow_zero, Nat.div_one]
  have c0 : ¬ (n : Int) = 0 := by omega
  rw [if_neg c0]
  by_cases h1 : 128 ≤ n
  · have c1 : (n : Int) ≥ 128 := by omega
    have hz : w / 2 ^ n = 0 := Nat.div_eq_of_lt (Nat.lt_of_lt_of_le hw (Nat.pow_le_pow_right (n := 2) (by decide) h1))
    rw [if_pos c1, hz]
    rfl
  have c1 : ¬ (n : Int) ≥ 128 := by omega
  rw [if_neg c1]
  by_cases h2 : 64 ≤ n
  · have c2 : (n : Int) ≥ 64 := by omega
    have e1 : w / 2 ^ n = w / 18446744073709551616 / 2 ^ (n - 64) := by
      rw [Nat.div_div_eq_div_mul, pow64, ← Nat.pow_add, show 64 + (n - 64) = n by omega]
    have hs : w / 18446744073709551616 / 2 ^ (n - 64) < 18446744073709551616 := Nat.lt_of_le_of_lt (Nat.div_le_self _ _) hh
    rw [if_pos c2, wsubA64 n h2 (by omega), if_pos (Int.natCast_nonneg _), e1]
    unfold hiI loI
    rw [shr_nat _ _ (by omega), Nat.div_eq_of_lt hs, Nat.mod_eq_of_lt hs]
    rfl
  · have c2 : ¬ (n : Int) ≥ 64 := by omega
    obtain ⟨s1, s2⟩ := split_div w n (by omega)
    have hp : 0 < 2 ^ n := Nat.pow_pos (by decide)
    have e64 : (18446744073709551616 : Nat) = 2 ^ (64 - n) * 2 ^ n := by rw [← Nat.pow_add, show 64 - n + n = 64 by omega]
    have hl : w % 18446744073709551616 / 2 ^ n < 2 ^ (64 - n) := by rw [Nat.div_lt_iff_lt_mul hp, ← e64]; exact lo_lt w
    have hd : 2 ^ (64 - n) ∣ w / 18446744073709551616 * 2 ^ (64 - n) % 18446744073709551616 := (Nat.dvd_mod_iff (by rw [e64]; exact Nat.dvd_mul_right _ _)).2 (Nat.dvd_mul_left _ _)
    rw [if_neg c2, if_pos (Int.natCast_nonneg _), wsub64' n (by omega), if_pos (Int.natCast_nonneg _)]
    unfold hiI loI
    rw [shr_nat _ _ (by omega), shr_nat _ _ (by omega), shl_nat _ _ (by omega), or_nat' (64 - n) _ _ (by omega) (Nat.mod_lt _ (by decide)) hd hl, s1, s2]
theorem mul_split (w n : Nat) (hn : n < 64) : (w * 2 ^ n) % B128 / 18446744073709551616 = w / 18446744073709551616 * 2 ^ n % 18446744073709551616 + w % 18446744073709551616 / 2 ^ (64 - n) ∧ (w * 2 ^ n) % B128 % 18446744073709551616 = w % 18446744073709551616 * 2 ^ n % 18446744073709551616 := by
  have hp : 0 < 2 ^ n := Nat.pow_pos (by decide)
  have e64 : (18446744073709551616 : Nat) = 2 ^ (64 - n) * 2 ^ n := by rw [← Nat.pow_add, show 64 - n + n = 64 by omega]
  have hdm := Nat.div_add_mod w 18446744073709551616
  generalize hH : w / 18446744073709551616 = H at *
  generalize hL : w % 18446744073709551616 = L at *
  have hLl : L < 18446744073709551616 := by rw [← hL]; exact Nat.mod_lt _ (by decide)
  have hB : B128 = 18446744073709551616 * 18446744073709551616 := rfl
  have h1 : w * 2 ^ n = 18446744073709551616 * (H * 2 ^ n) + L * 2 ^ n := by rw [← hdm, Nat.add_mul, Nat.mul_assoc]
  have h2 : L * 2 ^ n / 18446744073709551616 = L / 2 ^ (64 - n) := by
    rw [e64, Nat.mul_div_mul_right _ _ hp]
  have h3 : L / 2 ^ (64 - n) < 2 ^ n := by rw [Nat.div_lt_iff_lt_mul (Nat.pow_pos (by decide)), Nat.mul_comm, ← e64]; exact hLl
  have h4 : w * 2 ^ n / 18446744073709551616 = H * 2 ^ n + L / 2 ^ (64 - n) := by
    rw [h1, Nat.mul_add_div (by decide), h2]
  have h5 : H * 2 ^ n % 18446744073709551616 + 2 ^ n ≤ 18446744073709551616 := by
    have e : H * 2 ^ n % 18446744073709551616 = H % 2 ^ (64 - n) * 2 ^ n := by rw [show (18446744073709551616 : Nat) = 2 ^ (64 - n) * 2 ^ n from e64, Nat.mul_mod_mul_right]
    rw [e]
    have := Nat.mul_le_mul_right (2 ^ n) (show H % 2 ^ (64 - n) + 1 ≤ 2 ^ (64 - n) from Nat.mod_lt _ (Nat.pow_pos (by decide)))
    rw [Nat.add_mul, Nat.one_mul] at this
    rwa [← e64] at this
  constructor
  · rw [hB, Nat.mod_mul_right_div_self, h4, Nat.add_mod, Nat.mod_eq_of_lt (show L / 2 ^ (64 - n) < 18446744073709551616 by omega), Nat.mod_eq_of_lt (by omega)]
  · rw [hB, Nat.mod_mul_right_mod, h1, Nat.mul_add_mod]
theorem left_eq (w n : Nat) (hw : w < B128) (hn : n < 128) : impl_Word_left.f (hiI w) (loI w) (n : Int) = some (hiI (w * 2 ^ n % B128), loI (w * 2 ^ n % B128)) := by
  have hh := hi_lt hw
  unfold impl_Word_left.f
  by_cases h0 : n = 0
  · subst h0
    rw [if_pos (by rfl), Nat.pow_zero, Nat.mul_one, Nat.mod_eq_of_lt hw]
  have c0 : ¬ (n : Int) = 0 := by omega
  rw [if_neg c0]
  by_cases h2 : 64 ≤ n
  · have c2 : (n : Int) ≥ 64 := by omega
    have hdm := Nat.div_add_mod w 18446744073709551616
    have e1 : w * 2 ^ n % B128 = (w % 18446744073709551616 * 2 ^ (n - 64) % 18446744073709551616) * 18446744073709551616 := by
      have e2 : 2 ^ n = 2 ^ (n - 64) * 18446744073709551616 := by rw [pow64, ← Nat.pow_add, show n - 64 + 64 = n by omega]
      rw [e2, ← Nat.mul_assoc, show B128 = 18446744073709551616 * 18446744073709551616 from rfl, Nat.mul_mod_mul_right]
      congr 1
      rw [Nat.mul_mod (w % 18446744073709551616), Nat.mod_mod, ← Nat.mul_mod]
    rw [if_pos c2, wsubA64 n h2 (by omega), if_pos (Int.natCast_nonneg _), e1]
    unfold hiI loI
    rw [shl_nat _ _ (by omega), Nat.mul_div_cancel _ (by decide), Nat.mul_mod_left]
    rfl
  · have c2 : ¬ (n : Int) ≥ 64 := by omega
    obtain ⟨s1, s2⟩ := mul_split w n (by omega)
    have hp : 0 < 2 ^ n := Nat.pow_pos (by decide)
    have e64 : (18446744073709551616 : Nat) = 2 ^ (64 - n) * 2 ^ n := by rw [← Nat.pow_add, show 64 - n + n = 64 by omega]
    have hl : w % 18446744073709551616 / 2 ^ (64 - n) < 2 ^ n := by rw [Nat.div_lt_iff_lt_mul (Nat.pow_pos (by decide)), Nat.mul_comm, ← e64]; exact lo_lt w
    have hd : 2 ^ n ∣ w / 18446744073709551616 * 2 ^ n % 18446744073709551616 := (Nat.dvd_mod_iff (by rw [e64]; exact Nat.dvd_mul_left _ _)).2 (Nat.dvd_mul_left _ _)
    rw [if_neg c2, if_pos (Int.natCast_nonneg _), wsub64' n (by omega), if_pos (Int.natCast_nonneg _)]
    unfold hiI loI
    rw [shl_nat _ _ (by omega), shr_nat _ _ (by omega), shl_nat _ _ (by omega), or_nat n _ _ (by omega) (Nat.mod_lt _ (by decide)) hd hl, s1, s2]
end Go.Proofs.YtdbnmdchecacdaaDoor.M
end
section
namespace Go.Proofs.YtdbnmdchecacdaaDoor.M
open Go.RowKit Go.Proofs.YtdbnmdchecacdaaDoor.G Go.Proofs.YtdbnmdchecacdaaDoorV.PrintWords Go.Proofs.YtdbnmdchecacdaaDoorV.PrintLast Go.Proofs.YtdbnmdchecacdaaDoorV.PrintMore Go.Proofs.YtdbnmdchecacdaaDoor.PB
set_option linter.unusedVariables false
set_option linter.unusedSimpArgs false
theorem or_nn (a b : Nat) (ha : a < 18446744073709551616) (hb : b < 18446744073709551616) : Go.bits .or .u64 (a : Int) (b : Int) = ((a ||| b : Nat) : Int) :=
  (bits_nat .u64 64 (by decide) wraps_u64 a b ha hb).2
theorem andNot_nn (a b : Nat) (ha : a < 18446744073709551616) (hb : b < 18446744073709551616) : Go.bits .andNot .u64 (a : Int) (b : Int) = (((BitVec.ofNat 64 a &&& ~~~ BitVec.ofNat 64 b).toNat : Nat) : Int) := by
  have h : ∀ x : BitVec 64, IntKind.u64.wrap (x.toNat : Int) = (x.toNat : Int) := fun x => wrap_u64_id (by have := x.isLt; omega)
  exact h _
theorem andNot_high (a m : Nat) (ha : a < 18446744073709551616) (hm : m ≤ 64) : Go.bits .andNot .u64 (a : Int) ((a / 2 ^ m * 2 ^ m : Nat) : Int) = ((a % 2 ^ m : Nat) : Int) := by
  have hle : a / 2 ^ m * 2 ^ m ≤ a := Nat.div_mul_le_self _ _
  rw [andNot_nn _ _ ha (by omega)]
  congr 1
  have hmod : a % 2 ^ m < 2 ^ 64 := Nat.lt_of_le_of_lt (Nat.mod_le _ _) ha
  have : (BitVec.ofNat 64 a &&& ~~~ BitVec.ofNat 64 (a / 2 ^ m * 2 ^ m)) = BitVec.ofNat 64 (a % 2 ^ m) := by
    apply BitVec.eq_of_getLsbD_eq
    intro i hi
    simp only [BitVec.getLsbD_and, BitVec.getLsbD_not, BitVec.getLsbD_ofNat, hi, decide_true, Bool.true_and, Nat.testBit_mul_two_pow, Nat.testBit_div_two_pow, Nat.testBit_mod_two_pow]
    by_cases h : m ≤ i
    · have h2 : ¬ i < m := by omega
      have e : m + (i - m) = i := by omega
      have e' : i - m + m = i := by omega
      simp [h, h2, e, e']
    · have h2 : i < m := by omega
      simp [h, h2]
  rw [this, BitVec.toNat_ofNat, Nat.mod_eq_of_lt hmod]
theorem andNot_self (a : Nat) (ha : a < 18446744073709551616) : Go.bits .andNot .u64 (a : Int) (a : Int) = 0 := by
  have h := andNot_high a 0 ha (by decide)
  rw [Nat.pow_zero, Nat.div_one, Nat.mul_one, Nat.mod_one] at h
  exact h
theorem andNot_zero (a : Nat) (ha : a < 18446744073709551616) : Go.bits .andNot .u64 (a : Int) ((0 : Nat) : Int) = (a : Int) := by
  have h := andNot_high a 64 ha (by decide)
  rw [Nat.div_eq_of_lt (show a < 2 ^ 64 from ha), Nat.zero_mul, Nat.mod_eq_of_lt (show a < 2 ^ 64 from ha)] at h
  exact h
theorem or_zero (a : Nat) (ha : a < 18446744073709551616) : Go.bits .or .u64 (a : Int) 0 = (a : Int) := by
  have h := or_nn a 0 ha (by decide)
  rw [Nat.or_zero] at h
  exact h
theorem high_cells (w n : Nat) : (n < 64 → w / 2 ^ n * 2 ^ n / 18446744073709551616 = w / 18446744073709551616 ∧ w / 2 ^ n * 2 ^ n % 18446744073709551616 = w % 18446744073709551616 / 2 ^ n * 2 ^ n ∧ w % 2 ^ n / 18446744073709551616 = 0 ∧ w % 2 ^ n % 18446744073709551616 = w % 18446744073709551616 % 2 ^ n) ∧
    (64 ≤ n → w / 2 ^ n * 2 ^ n / 18446744073709551616 = w / 18446744073709551616 / 2 ^ (n - 64) * 2 ^ (n - 64) ∧ w / 2 ^ n * 2 ^ n % 18446744073709551616 = 0 ∧ w % 2 ^ n / 18446744073709551616 = w / 18446744073709551616 % 2 ^ (n - 64) ∧ w % 2 ^ n % 18446744073709551616 = w % 18446744073709551616) := by
  constructor
  · intro hn
    have hp : 0 < 2 ^ n := Nat.pow_pos (by decide)
    have e64 : (18446744073709551616 : Nat) = 2 ^ n * 2 ^ (64 - n) := by rw [← Nat.pow_add, show n + (64 - n) = 64 by omega]
    have hlt : 2 ^ n < 18446744073709551616 := by rw [pow64]; exact Nat.pow_lt_pow_right (by decide) hn
    have h1 := Nat.div_add_mod w (2 ^ n)
    have h2 := Nat.mod_lt w hp
    have hdm := Nat.div_add_mod w 18446744073709551616
    have hm : w % 18446744073709551616 % 2 ^ n = w % 2 ^ n := by rw [e64, Nat.mod_mul_right_mod]
    have hd := Nat.div_add_mod (w % 18446744073709551616) (2 ^ n)
    rw [hm] at hd
    have e1 : w / 2 ^ n * 2 ^ n = 18446744073709551616 * (w / 18446744073709551616) + w % 18446744073709551616 / 2 ^ n * 2 ^ n := by
      rw [Nat.mul_comm (w / 2 ^ n), Nat.mul_comm (w % 18446744073709551616 / 2 ^ n)]
      omega
    have hL : w % 18446744073709551616 / 2 ^ n * 2 ^ n < 18446744073709551616 := Nat.lt_of_le_of_lt (Nat.div_mul_le_self _ _) (Nat.mod_lt _ (by decide))
    refine ⟨?_, ?_, Nat.div_eq_of_lt (by omega), ?_⟩
    · rw [e1, Nat.mul_add_div (by decide), Nat.div_eq_of_lt hL, Nat.add_zero]
    · rw [e1, Nat.mul_add_mod, Nat.mod_eq_of_lt hL]
    · rw [hm, Nat.mod_eq_of_lt (by omega)]
  · intro hn
    have e : 2 ^ n = 18446744073709551616 * 2 ^ (n - 64) := by rw [pow64, ← Nat.pow_add, show 64 + (n - 64) = n by omega]
    have e1 : w / 2 ^ n * 2 ^ n = 18446744073709551616 * (w / 18446744073709551616 / 2 ^ (n - 64) * 2 ^ (n - 64)) := by
      rw [e, ← Nat.div_div_eq_div_mul, Nat.mul_left_comm]
    refine ⟨?_, ?_, ?_, ?_⟩
    · rw [e1, Nat.mul_div_cancel_left _ (by decide)]
    · rw [e1, Nat.mul_mod_right]
    · rw [e, Nat.mod_mul_right_div_self]
    · rw [e, Nat.mod_mul_right_mod]
theorem low_eq (w n : Nat) (hw : w < B128) (hn : n < 128) : impl_Word_low.f (hiI w) (loI w) (n : Int) = some (hiI (w % 2 ^ n), loI (w % 2 ^ n)) := by
  have hh := hi_lt hw
  have hq : w / 2 ^ n < B128 := Nat.lt_of_le_of_lt (Nat.div_le_self _ _) hw
  have hv : w / 2 ^ n * 2 ^ n < B128 := Nat.lt_of_le_of_lt (Nat.div_mul_le_self _ _) hw
  have c0 : ¬ (n : Int) ≥ 128 := by omega
  have o1 : impl_Word_or.f (hiI w) (loI w) 0 0 = some (hiI w, loI w) := by
    unfold impl_Word_or.f hiI loI
    rw [or_zero _ hh, or_zero _ (lo_lt w)]
  unfold impl_Word_low.f
  rw [if_neg c0, o1, Option.bind_some, right_eq w n hw (by omega), Option.bind_some]
  dsimp only
  rw [left_eq _ n hq hn, Option.bind_some, Nat.mod_eq_of_lt hv]
  dsimp only
  unfold impl_Word_without.f
  rw [Option.bind_some]
  obtain ⟨k1, k2⟩ := high_cells w n
  unfold hiI loI
  by_cases h : n < 64
  · obtain ⟨a1, a2, a3, a4⟩ := k1 h
    rw [a1, a2, a3, a4, andNot_self _ hh, andNot_high _ n (lo_lt w) (by omega)]
    rfl
  · obtain ⟨a1, a2, a3, a4⟩ := k2 (by omega)
    rw [a1, a2, a3, a4, andNot_high _ (n - 64) hh (by omega), andNot_zero _ (lo_lt w)]
theorem one_eq (n : Nat) (hn : n < 128) : impl_one.f (n : Int) = some (hiI (2 ^ n), loI (2 ^ n)) := by
  unfold impl_one.f
  by_cases h : 64 ≤ n
  · have c1 : (n : Int) ≥ 64 := by omega
    have e : 2 ^ n = 18446744073709551616 * 2 ^ (n - 64) := by rw [pow64, ← Nat.pow_add, show 64 + (n - 64) = n by omega]
    have hl : 2 ^ (n - 64) < 18446744073709551616 := by rw [pow64]; exact Nat.pow_lt_pow_right (by decide) (by omega)
    have hs := shl_nat 1 (n - 64) (by omega)
    rw [Nat.one_mul, Nat.mod_eq_of_lt hl] at hs
    rw [if_pos c1, wsubA64 n h (by omega), if_pos (Int.natCast_nonneg _), e]
    unfold hiI loI
    rw [Nat.mul_div_cancel_left _ (by decide), Nat.mul_mod_right, show (1 : Int) = ((1 : Nat) : Int) from rfl, hs]
    rfl
  · have c1 : ¬ (n : Int) ≥ 64 := by omega
    have hl : 2 ^ n < 18446744073709551616 := by rw [pow64]; exact Nat.pow_lt_pow_right (by decide) (by omega)
    have hs := shl_nat 1 n (by omega)
    rw [Nat.one_mul, Nat.mod_eq_of_lt hl] at hs
    rw [if_neg c1, if_pos (Int.natCast_nonneg _)]
    unfold hiI loI
    rw [Nat.div_eq_of_lt hl, Nat.mod_eq_of_lt hl, show (1 : Int) = ((1 : Nat) : Int) from rfl, hs]
    rfl
theorem or_top (r p : Nat) (hr : r < 2 ^ p) (b : Bool) : ((if b = true then r + 2 ^ p else r) ||| 2 ^ p) = r + 2 ^ p := by
  have h1 : r + 2 ^ p = 2 ^ p ||| r := by
    have := Nat.two_pow_add_eq_or_of_lt hr 1
    rw [Nat.mul_one] at this
    omega
  cases b with
  | true =>
    rw [if_pos rfl, h1, Nat.or_assoc, Nat.or_comm r, ← Nat.or_assoc, Nat.or_self]
  | false =>
    rw [if_neg (by decide), h1, Nat.or_comm]
theorem or_eq (r p : Nat) (hp : p < 127) (hr : r < 2 ^ p) (b : Bool) : impl_Word_or.f (hiI (if b = true then r + 2 ^ p else r)) (loI (if b = true then r + 2 ^ p else r)) (hiI (2 ^ p)) (loI (2 ^ p)) = some (hiI (r + 2 ^ p), loI (r + 2 ^ p)) := by
  have hpow : 2 ^ p < 2 ^ 127 := Nat.pow_lt_pow_right (by decide) hp
  have h127 : (2 : Nat) ^ 127 + 2 ^ 127 = B128 := by decide
  obtain ⟨x, hx⟩ : ∃ x, x = (if b = true then r + 2 ^ p else r) := ⟨_, rfl⟩
  have hxb : x < B128 := by
    rw [hx]
    split <;> omega
  have ht := or_top r p hr b
  rw [← hx] at ht ⊢
  have hb2 : 2 ^ p < B128 := by omega
  unfold impl_Word_or.f hiI loI
  rw [or_nn _ _ (hi_lt hxb) (hi_lt hb2), or_nn _ _ (lo_lt _) (lo_lt _)]
  have d : ∀ y z : Nat, y / 18446744073709551616 ||| z / 18446744073709551616 = (y ||| z) / 18446744073709551616 := fun y z => by
    rw [pow64]; exact (Nat.or_div_two_pow).symm
  have m : ∀ y z : Nat, y % 18446744073709551616 ||| z % 18446744073709551616 = (y ||| z) % 18446744073709551616 := fun y z => by
    rw [pow64]; exact (Nat.or_mod_two_pow).symm
  rw [d, m, ht]
end Go.Proofs.YtdbnmdchecacdaaDoor.M
end
section
namespace Go.Proofs.YtdbnmdchecacdaaDoor.M
open Go.RowKit Go.Proofs.YtdbnmdchecacdaaDoor.G Go.Proofs.YtdbnmdchecacdaaDoorV.PrintWords Go.Proofs.YtdbnmdchecacdaaDoorV.PrintLast Go.Proofs.YtdbnmdchecacdaaDoorV.PrintMore Go.Proofs.YtdbnmdchecacdaaDoor.PB
set_option linter.unusedVariables false
set_option linter.unusedSimpArgs false
def Clear (l : List Int) (n : Nat) : Prop := ∀ m : Nat, n ≤ m → rd l (m : Int) = 0
theorem Clear.set {l : List Int} {n p : Nat} {x : Int} (h : Clear l n) (hp : p < n) : Clear (l.set p x) n := fun m hm => by rw [rd_set_ne _ _ _ _ (by omega)]; exact h m hm
theorem Clear.zeros (n m : Nat) : Clear (List.replicate n 0) m := fun k hk => by
  rw [rd_nat, List.getD_eq_getElem?_getD, List.getElem?_replicate]
  split <;> rfl
end Go.Proofs.YtdbnmdchecacdaaDoor.M
end
section
namespace Go.Proofs.YtdbnmdchecacdaaDoor.M
open Go.RowKit Go.Proofs.YtdbnmdchecacdaaDoor.G Go.Proofs.YtdbnmdchecacdaaDoorV.PrintWords Go.Proofs.YtdbnmdchecacdaaDoorV.PrintLast Go.Proofs.YtdbnmdchecacdaaDoorV.PrintMore Go.Proofs.YtdbnmdchecacdaaDoor.PB
set_option linter.unusedVariables false
set_option linter.unusedSimpArgs false
def IsBits (v n : Nat) : Prop := v < 2 ^ n ∧ (n = 0 ∨ 2 ^ (n - 1) ≤ v)
instance (v n : Nat) : Decidable (IsBits v n) := by unfold IsBits; infer_instance
theorem IsBits.uniq {v n m : Nat} (h : IsBits v n) (k : IsBits v m) : n = m := by
  have one : ∀ a b : Nat, IsBits v a → IsBits v b → a ≤ b := by
    intro a b h k
    rcases h.2 with h2 | h2
    · omega
    · rcases Nat.lt_or_ge b a with h3 | h3
      · have := Nat.pow_le_pow_right (n := 2) (by omega) (show b ≤ a - 1 by omega)
        have := k.1
        omega
      · exact h3
  exact Nat.le_antisymm (one n m h k) (one m n k h)
theorem IsBits.zero : IsBits 0 0 := ⟨by decide, Or.inl rfl⟩
theorem IsBits.pos {v n : Nat} (h : IsBits v n) (hv : 0 < v) : 0 < n := by
  rcases Nat.eq_zero_or_pos n with h2 | h2
  · subst h2
    have := h.1
    simp at this
    omega
  · exact h2
theorem IsBits.up {v m s : Nat} (h : IsBits (v / 2 ^ s) m) (hv : 0 < v / 2 ^ s) : IsBits v (s + m) := by
  have hp : 0 < 2 ^ s := Nat.pow_pos (by omega)
  have hm := h.pos hv
  refine ⟨?_, Or.inr ?_⟩
  · rw [Nat.pow_add, Nat.mul_comm]
    exact (Nat.div_lt_iff_lt_mul hp).1 h.1
  · rcases h.2 with h2 | h2
    · omega
    · rw [show s + m - 1 = s + (m - 1) by omega, Nat.pow_add, Nat.mul_comm]
      exact (Nat.le_div_iff_mul_le hp).1 h2
theorem IsBits.le {v n w : Nat} (h : IsBits v n) (hv : v < 2 ^ w) : n ≤ w := by
  rcases h.2 with h2 | h2
  · omega
  · rcases Nat.lt_or_ge w n with h3 | h3
    · have := Nat.pow_le_pow_right (n := 2) (by omega) (show w ≤ n - 1 by omega)
      omega
    · exact h3
theorem sbits_loop (m : Nat) : ∀ (u n : Nat), IsBits u m → n + m ≤ 4611686018427387904 → Ev (fun k => spec_l1Bits.l0 k (n : Int) (u : Int)) ((n + m : Nat) : Int) := by
  induction m with
  | zero =>
    intro u n h hb
    have := h.1
    refine Ev.step (f := fun _ => some ((n + 0 : Nat) : Int)) (fun k => ?_) (Ev.now _)
    simp only [spec_l1Bits.l0]
    rw [if_neg (by omega)]
    rfl
  | succ m ih =>
    intro u n h hb
    have hu : 2 ^ m ≤ u := by
      rcases h.2 with h2 | h2
      · omega
      · simpa using h2
    have hp : 0 < 2 ^ m := Nat.pow_pos (by omega)
    have h1 := h.1
    rw [Nat.pow_succ] at h1
    have hh : IsBits (u / 2) m := by
      refine ⟨by omega, ?_⟩
      rcases Nat.eq_zero_or_pos m with h3 | h3
      · exact Or.inl h3
      · right
        rw [show m = (m - 1) + 1 by omega, Nat.pow_succ] at hu
        omega
    refine Ev.step (fun k => ?_) (ev_to (ih (u / 2) (n + 1) hh (by omega)) (by congr 1; omega))
    simp only [spec_l1Bits.l0]
    rw [if_pos (by omega), wrap64_id (by omega)]
    rfl
def ofW (v : Nat) : List Int := trimL [((v % 4294967296 : Nat) : Int), ((v / 4294967296 : Nat) : Int)]
theorem ofW_eq (v : Nat) (hv : v < 18446744073709551616) : spec_l1Of.f (v : Int) = some (ofW v) := by
  unfold spec_l1Of.f
  rw [trim_eq _ (by simp), Option.bind_some, and_low32 _ (by omega) (by omega)]
  rfl
theorem ofW_dig (v : Nat) (hv : v < 18446744073709551616) : Dig B32 (ofW v) := by
  unfold ofW
  exact (Dig.cons (by unfold B32; omega) (Dig.cons (by unfold B32; omega) (Dig.nil _))).trim
theorem ofW_val (v : Nat) : val B32 (ofW v) = v := by
  unfold ofW
  rw [val_trim]
  simp only [val_cons, val_nil]
  unfold B32
  omega
theorem ofW_length (v : Nat) : (ofW v).length ≤ 2 := by
  unfold ofW
  have := trimL_length [((v % 4294967296 : Nat) : Int), ((v / 4294967296 : Nat) : Int)]
  simpa using this
end Go.Proofs.YtdbnmdchecacdaaDoor.M
end
section
namespace Go.Proofs.YtdbnmdchecacdaaDoor.M
open Go.RowKit Go.Proofs.YtdbnmdchecacdaaDoor.G Go.Proofs.YtdbnmdchecacdaaDoorV.PrintWords Go.Proofs.YtdbnmdchecacdaaDoorV.PrintLast Go.Proofs.YtdbnmdchecacdaaDoorV.PrintMore Go.Proofs.YtdbnmdchecacdaaDoor.PB
set_option linter.unusedVariables false
set_option linter.unusedSimpArgs false
theorem bits_of (v : Nat) (hv : v < 18446744073709551616) : ∃ m : Nat, IsBits v m ∧ m ≤ 64 := by
  by_cases h0 : v = 0
  · subst h0
    exact ⟨0, IsBits.zero, by decide⟩
  · have h1 : v < 2 ^ (v.log2 + 1) := Nat.lt_log2_self
    have h2 : 2 ^ v.log2 ≤ v := Nat.log2_self_le h0
    have h : IsBits v (v.log2 + 1) := ⟨h1, .inr (by rw [Nat.add_sub_cancel]; exact h2)⟩
    exact ⟨v.log2 + 1, h, h.le (w := 64) hv⟩
theorem sbits_gen (a : List Int) (ha : Dig B32 a) (na : Norm a) (la : a.length ≤ 1073741824) :
    ∃ m : Nat, Ev (fun k => spec_l1Bits.f k a) (m : Int) ∧ IsBits (val B32 a) m ∧ m ≤ 32 * a.length := by
  unfold spec_l1Bits.f
  rcases Nat.eq_zero_or_pos a.length with h | h
  · obtain rfl := List.eq_nil_of_length_eq_zero h
    exact ⟨0, Ev.congr (fun k => by simp) (Ev.now _), IsBits.zero, by simp⟩
  · obtain ⟨b, x, rfl⟩ := snoc_of h
    have hx := norm_snoc.1 na
    have hx0 := ha x (by simp)
    have hb : Dig B32 b := fun y hy => ha y (by simp [hy])
    have hl : (b ++ [x]).length = b.length + 1 := by simp
    rw [hl] at la
    obtain ⟨m, hm, hm64⟩ := bits_of x.toNat (by unfold B32 at hx0; omega)
    have hm32 : m ≤ 32 := hm.le (by unfold B32 at hx0; omega)
    have hv : val B32 (b ++ [x]) / 2 ^ (32 * b.length) = x.toNat := by
      rw [val_snoc, Nat.pow_mul, ← B32_pow, Nat.add_mul_div_left _ _ (Nat.pow_pos B32_pos), Nat.div_eq_of_lt (val_lt hb), Nat.zero_add]
    refine ⟨32 * b.length + m, ?_, IsBits.up (s := 32 * b.length) (by rw [hv]; exact hm) (by rw [hv]; omega), by rw [hl]; omega⟩
    have hr : rd (b ++ [x]) ((b.length : Nat) : Int) = ((x.toNat : Nat) : Int) := by
      rw [rd_nat]; simp; omega
    have w1 : wrap64 (((b ++ [x]).length : Int) - 1) = ((b.length : Nat) : Int) := by rw [hl, wrap64_id (by omega)]; omega
    have w2 : wrap64 (32 * ((b.length : Nat) : Int)) = ((32 * b.length : Nat) : Int) := by rw [wrap64_id (by omega)]; omega
    have g1 : ¬ ((b ++ [x]).length : Int) = 0 := by omega
    have g2 : ((b.length : Nat) : Int) < ((b ++ [x]).length : Int) := by omega
    refine Ev.congr (fun k => ?_) (sbits_loop m x.toNat (32 * b.length) hm (by omega))
    rw [if_neg g1, w1, w2, if_pos (Int.natCast_nonneg _), if_pos g2, hr]
theorem wtdiv32 (i : Nat) (h : i ≤ 9223372036854775807) : wrap64 (Int.tdiv (i : Int) 32) = ((i / 32 : Nat) : Int) := by
  have h1 := wtdiv i 32 h
  rw [show ((32 : Nat) : Int) = 32 from rfl] at h1
  exact h1
theorem wtmod32 (i : Nat) (h : i ≤ 9223372036854775807) : IntKind.u64.wrap (Int.tmod (i : Int) 32) = ((i % 32 : Nat) : Int) := by
  have h1 := wtmod i 32 h
  rw [show ((32 : Nat) : Int) = 32 from rfl] at h1
  exact h1
end Go.Proofs.YtdbnmdchecacdaaDoor.M
end
