import Derived.Test.YtdbnmdchecacdaaDoorQFnExactOrderl
section
namespace Go.Proofs.YtdbnmdchecacdaaDoor.PP
open Go.RowKit Go.Proofs.YtdbnmdchecacdaaDoor.G Go.Proofs.YtdbnmdchecacdaaDoorV.PrintWords Go.Proofs.YtdbnmdchecacdaaDoorV.PrintLast Go.Proofs.YtdbnmdchecacdaaDoorV.PrintMore
attribute [local go_sem] max2_int min2_int max_two min_two max_three min_three max_four min_four run_Add64 run_Sub64 fld25_1
set_option linter.unusedVariables false
set_option linter.unusedSimpArgs false
def laws_FnExactOrder.f (k : Nat) (a0 : Int) (a1_0 : Int) (a1_1 : Int) (a2_0 : Int) (a2_1 : Int) : Option (Bool) := (laws_toWord.f a1_0 a1_1).bind fun bt383 => ((laws_toWord.f a2_0 a2_1).bind fun bt385 => ((spec_Order.f k a0 bt383.1 bt383.2 bt385.1 bt385.2).bind fun t387 => ((laws_toWord.f a1_0 a1_1).bind fun bt388 => ((laws_toWord.f a2_0 a2_1).bind fun bt390 => ((impl_Order.f k a0 bt388.1 bt388.2 bt390.1 bt390.2).bind fun t392 => (if t392 = t387 then (some true) else (some false)))))))
set_option maxHeartbeats 8000000 in
set_option maxRecDepth 100000 in
theorem laws_FnExactOrder.calls (k : Nat) (a0 : Int) (a1_0 : Int) (a1_1 : Int) (a2_0 : Int) (a2_1 : Int) (r : Bool) (w : World) (hT : Tabled w) (h : laws_FnExactOrder.f k a0 a1_0 a1_1 a2_0 a2_1 = some r) :
  Calls Tryd.prog 4 #[.int .i64 a0, .agg #[.int .u64 a1_0, .int .u64 a1_1], .agg #[.int .u64 a2_0, .int .u64 a2_1]] w fun e w' => e = .returned (.bool r) ∧ Below w.heap.size w w' := by
 have hu24 := Tryd.underlying24
 have HTb_ := zM hT
 clear hT
 have HB := zM (Below.refl w.heap.size w)
 have H : ((laws_toWord.f a1_0 a1_1).bind fun bt383 => ((laws_toWord.f a2_0 a2_1).bind fun bt385 => ((spec_Order.f k a0 bt383.1 bt383.2 bt385.1 bt385.2).bind fun t387 => ((laws_toWord.f a1_0 a1_1).bind fun bt388 => ((laws_toWord.f a2_0 a2_1).bind fun bt390 => ((impl_Order.f k a0 bt388.1 bt388.2 bt390.1 bt390.2).bind fun t392 => (if t392 = t387 then (some true) else (some false)))))))) = some r := h
 clear h
 replace H := Option.bind_eq_some_iff.mp H
 obtain ⟨⟨t383, t384⟩, A40, H⟩ := H
 replace H : ((laws_toWord.f a2_0 a2_1).bind fun bt385 => ((spec_Order.f k a0 t383 t384 bt385.1 bt385.2).bind fun t387 => ((laws_toWord.f a1_0 a1_1).bind fun bt388 => ((laws_toWord.f a2_0 a2_1).bind fun bt390 => ((impl_Order.f k a0 bt388.1 bt388.2 bt390.1 bt390.2).bind fun t392 => (if t392 = t387 then (some true) else (some false))))))) = some r := H
 have A4 := zM A40
 clear A40
 replace H := Option.bind_eq_some_iff.mp H
 obtain ⟨⟨t385, t386⟩, A50, H⟩ := H
 replace H : ((spec_Order.f k a0 t383 t384 t385 t386).bind fun t387 => ((laws_toWord.f a1_0 a1_1).bind fun bt388 => ((laws_toWord.f a2_0 a2_1).bind fun bt390 => ((impl_Order.f k a0 bt388.1 bt388.2 bt390.1 bt390.2).bind fun t392 => (if t392 = t387 then (some true) else (some false)))))) = some r := H
 have A5 := zM A50
 clear A50
 replace H := Option.bind_eq_some_iff.mp H
 obtain ⟨t387, A60, H⟩ := H
 replace H : ((laws_toWord.f a1_0 a1_1).bind fun bt388 => ((laws_toWord.f a2_0 a2_1).bind fun bt390 => ((impl_Order.f k a0 bt388.1 bt388.2 bt390.1 bt390.2).bind fun t392 => (if t392 = t387 then (some true) else (some false))))) = some r := H
 have A6 := zM A60
 clear A60
 replace H := Option.bind_eq_some_iff.mp H
 obtain ⟨⟨t388, t389⟩, A70, H⟩ := H
 replace H : ((laws_toWord.f a2_0 a2_1).bind fun bt390 => ((impl_Order.f k a0 t388 t389 bt390.1 bt390.2).bind fun t392 => (if t392 = t387 then (some true) else (some false)))) = some r := H
 have A7 := zM A70
 clear A70
 replace H := Option.bind_eq_some_iff.mp H
 obtain ⟨⟨t390, t391⟩, A80, H⟩ := H
 replace H : ((impl_Order.f k a0 t388 t389 t390 t391).bind fun t392 => (if t392 = t387 then (some true) else (some false))) = some r := H
 have A8 := zM A80
 clear A80
 replace H := Option.bind_eq_some_iff.mp H
 obtain ⟨t392, A90, H⟩ := H
 replace H : (if t392 = t387 then (some true) else (some false)) = some r := H
 have A9 := zM A90
 clear A90
 by_cases c10 : t392 = t387
 ·rw [if_pos c10] at H
  have c10b0 : (t392 == t387) = true := beq_iff_eq.mpr c10
  have c10b1 : (t392 != t387) = false := bne_eq_false_iff_eq.mpr c10
  clear c10
  obtain rfl := Option.some.inj H
  go_enter Tryd.func4, Tryd.ntmps4
  try go_wp2_with (first | ((with_reducible refine gate_dst (N := 4) rfl ?_); refine box_event ?hg (N := 4) ?hd (cs := #[.int .u64 a1_0, .int .u64 a1_1]) (t := 24) ?hr ?_; (case hd => rfl); (case hg => rfl); (case hr => first | (go_simp; done) | (go_simp; rfl)); intro gb381 hg w11 hbox hb; have n0_ := zM (below_step (by repeat (first | (with_reducible first | exact HB.out | apply yA | apply yN | apply yD) | exact HB.out)) hb); have n1_ := zM (hbox); have n2_ := zM ((by rw [hg]; exact (below_size (by repeat (first | (with_reducible first | exact HB.out | apply yA | apply yN | apply yD) | exact HB.out))) : w.heap.size ≤ gb381)); have n3_ := zM ((by rw [hg]; exact (below_size (by repeat (first | (with_reducible first | exact HB.out | apply yA | apply yN | apply yD) | exact HB.out))) : w.heap.size ≤ gb381)); clear HB; have HB := n0_; have BK381 := n1_; have GW381 := n2_; have GE381 := n3_; clear n0_ n1_ n2_ n3_; clear hb hbox hg) | ((with_reducible refine gate_dst (N := 5) rfl ?_); refine box_event ?hg (N := 5) ?hd (cs := #[.int .u64 a2_0, .int .u64 a2_1]) (t := 24) ?hr ?_; (case hd => rfl); (case hg => rfl); (case hr => first | (go_simp; done) | (go_simp; rfl)); intro gb382 hg w12 hbox hb; have n0_ := zM (blk_below (g := gb381) (o := .cells #[.int .u64 a1_0, .int .u64 a1_1] 24 (0, 0)) (by (with_reducible repeat (first | apply zN | apply zD | apply zA)); exact BK381.out) hb); have n1_ := zM (below_step (by repeat (first | (with_reducible first | exact HB.out | apply yA | apply yN | apply yD | refine below_set ?_ GE381.out) | exact HB.out)) hb); have n2_ := zM (hbox); have n3_ := zM ((by rw [hg]; exact (below_size (by repeat (first | (with_reducible first | exact HB.out | apply yA | apply yN | apply yD | refine below_set ?_ GE381.out) | exact HB.out))) : w.heap.size ≤ gb382)); have n4_ := zM ((by rw [hg]; exact (below_size (by repeat (first | (with_reducible first | exact HB.out | apply yA | apply yN | apply yD | refine below_set ?_ GE381.out) | exact HB.out))) : w.heap.size ≤ gb382)); have n5_ := zM ((by rw [hg]; exact Nat.ne_of_lt (blk_lt (g := gb381) (o := .cells #[.int .u64 a1_0, .int .u64 a1_1] 24 (0, 0)) (by (with_reducible repeat (first | apply zN | apply zD | apply zA)); exact BK381.out)) : gb381 ≠ gb382)); have n6_ := zM ((by rw [hg]; exact Nat.ne_of_gt (blk_lt (g := gb381) (o := .cells #[.int .u64 a1_0, .int .u64 a1_1] 24 (0, 0)) (by (with_reducible repeat (first | apply zN | apply zD | apply zA)); exact BK381.out)) : gb382 ≠ gb381)); clear BK381; clear HB; have BK381 := n0_; have HB := n1_; have BK382 := n2_; have GW382 := n3_; have GE382 := n4_; have NB381_382 := n5_; have NB382_381 := n6_; clear n0_ n1_ n2_ n3_ n4_ n5_ n6_; clear hb hbox hg))
  have n0_ := zM (zD BK381.out)
  have n1_ := zM (zD BK382.out)
  have n2_ := zM (yD HB.out)
  clear BK381
  clear BK382
  clear HB
  have BK381 := n0_
  have BK382 := n1_
  have HB := n2_
  clear n0_ n1_ n2_
  refine start_ (n := 7) (S := fun w' => w'.cell? ⟨gb381, 0, none⟩ = some (.int .u64 a1_0) ∧ w'.cell? ⟨gb381, 1, none⟩ = some (.int .u64 a1_1) ∧ w'.cell? ⟨gb382, 0, none⟩ = some (.int .u64 a2_0) ∧ w'.cell? ⟨gb382, 1, none⟩ = some (.int .u64 a2_1)) (ds := []) #[false, false, false, false, false, false, false] (by kernel_rfl) rfl rfl ⟨(blk_cell BK381.out 0).trans rfl, (blk_cell BK381.out 1).trans rfl, (blk_cell BK382.out 0).trans rfl, (blk_cell BK382.out 1).trans rfl⟩ (fun hHeld => ?_)
  generalize w12.drew = w13 at BK381 BK382 HB hHeld ⊢
  refine pure_ (i := 0) (N := some 9) (v := ?_) (a' := ?_) #[true, false, false, false, false, false, false] rfl rfl (by kernel_rfl) (fun _ _ _ h => h) (Or.inl ⟨by rfl, ?_⟩) ?_ ?_
  rotate_left
  ·intro w'
   go_simp
   with_reducible rfl
  rotate_left
  ·simp only [Act.put, xT, xZ, xS, i64_w, i32_w]
   rfl
  refine take_ (i := 1) (N := some 10) (v := ?_) (a' := ?_) #[true, true, false, false, false, false, false] rfl rfl (by kernel_rfl) (fun _ _ _ h => h) (Or.inl ⟨by rfl, ?_⟩) hHeld ?_ ?_
  rotate_left
  ·rintro w' ⟨s0, s1, s2, s3⟩
   go_simp
   with_reducible rfl
  rotate_left
  ·simp only [Act.put, xT, xZ, xS, i64_w, i32_w]
   rfl
  refine take_ (i := 3) (N := some 12) (v := ?_) (a' := ?_) #[true, true, false, true, false, false, false] rfl rfl (by kernel_rfl) (fun _ _ _ h => h) (Or.inl ⟨by rfl, ?_⟩) hHeld ?_ ?_
  rotate_left
  ·rintro w' ⟨s0, s1, s2, s3⟩
   go_simp
   with_reducible rfl
  rotate_left
  ·simp only [Act.put, xT, xZ, xS, i64_w, i32_w]
   rfl
  refine one_ (i := 2) (N := some 11) #[true, true, true, true, false, false, false] rfl rfl (by kernel_rfl) (by decide) (fun K hK => ?_)
  refine goes_ Tryd.func16 (by kernel_rfl) rfl #[.agg #[.int .u64 a1_0, .int .u64 a1_1]] (by rfl) rfl rfl (by (try simp only [List.map_toArray, List.map_cons, List.map_nil]); first | done | rfl | (simp only [List.length_drop, List.length_take]; rfl)) ?_
  with_reducible refine (laws_toWord.calls a1_0 a1_1 t383 t384 _ A4.out).mono ?_
  rintro e w14 ⟨rfl, hb⟩
  refine ⟨_, rfl, ?_⟩
  have n0_ := zM (blk_below (g := gb381) (o := .cells #[.int .u64 a1_0, .int .u64 a1_1] 24 (0, 0)) (by (with_reducible repeat (first | apply zN | apply zD | apply zA)); exact BK381.out) hb)
  have n1_ := zM (blk_below (g := gb382) (o := .cells #[.int .u64 a2_0, .int .u64 a2_1] 24 (0, 0)) (by (with_reducible repeat (first | apply zN | apply zD | apply zA)); exact BK382.out) hb)
  have n2_ := zM (below_step (by repeat (first | (with_reducible first | exact HB.out | apply yA | apply yN | apply yD | refine below_set ?_ GE381.out | refine below_set ?_ GE382.out) | exact HB.out)) hb)
  clear BK381
  clear BK382
  clear HB
  have BK381 := n0_
  have BK382 := n1_
  have HB := n2_
  clear n0_ n1_ n2_
  (try clear hb)
  (try clear hb2)
  (try clear hk)
  (try clear hi)
  refine hK.out _ _ ⟨(blk_cell BK381.out 0).trans rfl, (blk_cell BK381.out 1).trans rfl, (blk_cell BK382.out 0).trans rfl, (blk_cell BK382.out 1).trans rfl⟩ (fun hHeld => ?_)
  clear hK K
  refine norm_ (a' := ?_) ?_ ?_
  rotate_left
  ·show Act.put _ (some 11) _ = _
   simp only [Act.put, xT, xZ, xS, i64_w, i32_w]
   rfl
  refine one_ (i := 4) (N := some 13) #[true, true, true, true, true, false, false] rfl rfl (by kernel_rfl) (by decide) (fun K hK => ?_)
  refine goes_ Tryd.func16 (by kernel_rfl) rfl #[.agg #[.int .u64 a2_0, .int .u64 a2_1]] (by rfl) rfl rfl (by (try simp only [List.map_toArray, List.map_cons, List.map_nil]); first | done | rfl | (simp only [List.length_drop, List.length_take]; rfl)) ?_
  with_reducible refine (laws_toWord.calls a2_0 a2_1 t385 t386 _ A5.out).mono ?_
  rintro e w15 ⟨rfl, hb⟩
  refine ⟨_, rfl, ?_⟩
  have n0_ := zM (blk_below (g := gb381) (o := .cells #[.int .u64 a1_0, .int .u64 a1_1] 24 (0, 0)) (by (with_reducible repeat (first | apply zN | apply zD | apply zA)); exact BK381.out) hb)
  have n1_ := zM (blk_below (g := gb382) (o := .cells #[.int .u64 a2_0, .int .u64 a2_1] 24 (0, 0)) (by (with_reducible repeat (first | apply zN | apply zD | apply zA)); exact BK382.out) hb)
  have n2_ := zM (below_step (by repeat (first | (with_reducible first | exact HB.out | apply yA | apply yN | apply yD | refine below_set ?_ GE381.out | refine below_set ?_ GE382.out) | exact HB.out)) hb)
  clear BK381
  clear BK382
  clear HB
  have BK381 := n0_
  have BK382 := n1_
  have HB := n2_
  clear n0_ n1_ n2_
  (try clear hb)
  (try clear hb2)
  (try clear hk)
  (try clear hi)
  refine hK.out _ _ ⟨(blk_cell BK381.out 0).trans rfl, (blk_cell BK381.out 1).trans rfl, (blk_cell BK382.out 0).trans rfl, (blk_cell BK382.out 1).trans rfl⟩ (fun hHeld => ?_)
  clear hK K
  refine norm_ (a' := ?_) ?_ ?_
  rotate_left
  ·show Act.put _ (some 13) _ = _
   simp only [Act.put, xT, xZ, xS, i64_w, i32_w]
   rfl
  refine one_ (i := 5) (N := some 14) #[true, true, true, true, true, true, false] rfl rfl (by kernel_rfl) (by decide) (fun K hK => ?_)
  refine goes_ Tryd.func19 (by kernel_rfl) rfl #[.int .i64 a0, .agg #[.int .u64 t383, .int .u64 t384], .agg #[.int .u64 t385, .int .u64 t386]] (by rfl) rfl rfl (by (try simp only [List.map_toArray, List.map_cons, List.map_nil]); first | done | rfl | (simp only [List.length_drop, List.length_take]; rfl)) ?_
  with_reducible refine (spec_Order.calls k a0 t383 t384 t385 t386 t387 _ A6.out).mono ?_
  rintro e w16 ⟨rfl, hb⟩
  refine ⟨_, rfl, ?_⟩
  have n0_ := zM (blk_below (g := gb381) (o := .cells #[.int .u64 a1_0, .int .u64 a1_1] 24 (0, 0)) (by (with_reducible repeat (first | apply zN | apply zD | apply zA)); exact BK381.out) hb)
  have n1_ := zM (blk_below (g := gb382) (o := .cells #[.int .u64 a2_0, .int .u64 a2_1] 24 (0, 0)) (by (with_reducible repeat (first | apply zN | apply zD | apply zA)); exact BK382.out) hb)
  have n2_ := zM (below_step (by repeat (first | (with_reducible first | exact HB.out | apply yA | apply yN | apply yD | refine below_set ?_ GE381.out | refine below_set ?_ GE382.out) | exact HB.out)) hb)
  clear BK381
  clear BK382
  clear HB
  have BK381 := n0_
  have BK382 := n1_
  have HB := n2_
  clear n0_ n1_ n2_
  (try clear hb)
  (try clear hb2)
  (try clear hk)
  (try clear hi)
  refine hK.out _ _ ⟨(blk_cell BK381.out 0).trans rfl, (blk_cell BK381.out 1).trans rfl, (blk_cell BK382.out 0).trans rfl, (blk_cell BK382.out 1).trans rfl⟩ (fun hHeld => ?_)
  clear hK K
  refine norm_ (a' := ?_) ?_ ?_
  rotate_left
  ·show Act.put _ (some 14) _ = _
   simp only [Act.put, xT, xZ, xS, i64_w, i32_w]
   rfl
  refine pure_ (i := 6) (N := some 7) (v := ?_) (a' := ?_) #[true, true, true, true, true, true, true] rfl rfl (by kernel_rfl) (fun _ _ _ h => h) (Or.inl ⟨by rfl, ?_⟩) ?_ ?_
  rotate_left
  ·intro w'
   go_simp
   with_reducible rfl
  rotate_left
  ·simp only [Act.put, xT, xZ, xS, i64_w, i32_w]
   rfl
  refine done_ (by kernel_rfl) ?_
  try go_wp2
  have n0_ := zM (zD BK381.out)
  have n1_ := zM (zD BK382.out)
  have n2_ := zM (yD HB.out)
  clear BK381
  clear BK382
  clear HB
  have BK381 := n0_
  have BK382 := n1_
  have HB := n2_
  clear n0_ n1_ n2_
  refine start_ (n := 7) (S := fun w' => w'.cell? ⟨gb381, 0, none⟩ = some (.int .u64 a1_0) ∧ w'.cell? ⟨gb381, 1, none⟩ = some (.int .u64 a1_1) ∧ w'.cell? ⟨gb382, 0, none⟩ = some (.int .u64 a2_0) ∧ w'.cell? ⟨gb382, 1, none⟩ = some (.int .u64 a2_1)) (ds := []) #[false, false, false, false, false, false, false] (by kernel_rfl) rfl rfl ⟨(blk_cell BK381.out 0).trans rfl, (blk_cell BK381.out 1).trans rfl, (blk_cell BK382.out 0).trans rfl, (blk_cell BK382.out 1).trans rfl⟩ (fun hHeld => ?_)
  generalize w16.drew = w17 at BK381 BK382 HB hHeld ⊢
  refine pure_ (i := 0) (N := some 15) (v := ?_) (a' := ?_) #[true, false, false, false, false, false, false] rfl rfl (by kernel_rfl) (fun _ _ _ h => h) (Or.inl ⟨by rfl, ?_⟩) ?_ ?_
  rotate_left
  ·intro w'
   go_simp
   with_reducible rfl
  rotate_left
  ·simp only [Act.put, xT, xZ, xS, i64_w, i32_w]
   rfl
  refine take_ (i := 1) (N := some 16) (v := ?_) (a' := ?_) #[true, true, false, false, false, false, false] rfl rfl (by kernel_rfl) (fun _ _ _ h => h) (Or.inl ⟨by rfl, ?_⟩) hHeld ?_ ?_
  rotate_left
  ·rintro w' ⟨s0, s1, s2, s3⟩
   go_simp
   with_reducible rfl
  rotate_left
  ·simp only [Act.put, xT, xZ, xS, i64_w, i32_w]
   rfl
  refine take_ (i := 3) (N := some 18) (v := ?_) (a' := ?_) #[true, true, false, true, false, false, false] rfl rfl (by kernel_rfl) (fun _ _ _ h => h) (Or.inl ⟨by rfl, ?_⟩) hHeld ?_ ?_
  rotate_left
  ·rintro w' ⟨s0, s1, s2, s3⟩
   go_simp
   with_reducible rfl
  rotate_left
  ·simp only [Act.put, xT, xZ, xS, i64_w, i32_w]
   rfl
  refine one_ (i := 2) (N := some 17) #[true, true, true, true, false, false, false] rfl rfl (by kernel_rfl) (by decide) (fun K hK => ?_)
  refine goes_ Tryd.func16 (by kernel_rfl) rfl #[.agg #[.int .u64 a1_0, .int .u64 a1_1]] (by rfl) rfl rfl (by (try simp only [List.map_toArray, List.map_cons, List.map_nil]); first | done | rfl | (simp only [List.length_drop, List.length_take]; rfl)) ?_
  with_reducible refine (laws_toWord.calls a1_0 a1_1 t388 t389 _ A7.out).mono ?_
  rintro e w18 ⟨rfl, hb⟩
  refine ⟨_, rfl, ?_⟩
  have n0_ := zM (blk_below (g := gb381) (o := .cells #[.int .u64 a1_0, .int .u64 a1_1] 24 (0, 0)) (by (with_reducible repeat (first | apply zN | apply zD | apply zA)); exact BK381.out) hb)
  have n1_ := zM (blk_below (g := gb382) (o := .cells #[.int .u64 a2_0, .int .u64 a2_1] 24 (0, 0)) (by (with_reducible repeat (first | apply zN | apply zD | apply zA)); exact BK382.out) hb)
  have n2_ := zM (below_step (by repeat (first | (with_reducible first | exact HB.out | apply yA | apply yN | apply yD | refine below_set ?_ GE381.out | refine below_set ?_ GE382.out) | exact HB.out)) hb)
  clear BK381
  clear BK382
  clear HB
  have BK381 := n0_
  have BK382 := n1_
  have HB := n2_
  clear n0_ n1_ n2_
  (try clear hb)
  (try clear hb2)
  (try clear hk)
  (try clear hi)
  refine hK.out _ _ ⟨(blk_cell BK381.out 0).trans rfl, (blk_cell BK381.out 1).trans rfl, (blk_cell BK382.out 0).trans rfl, (blk_cell BK382.out 1).trans rfl⟩ (fun hHeld => ?_)
  clear hK K
  refine norm_ (a' := ?_) ?_ ?_
  rotate_left
  ·show Act.put _ (some 17) _ = _
   simp only [Act.put, xT, xZ, xS, i64_w, i32_w]
   rfl
  refine one_ (i := 4) (N := some 19) #[true, true, true, true, true, false, false] rfl rfl (by kernel_rfl) (by decide) (fun K hK => ?_)
  refine goes_ Tryd.func16 (by kernel_rfl) rfl #[.agg #[.int .u64 a2_0, .int .u64 a2_1]] (by rfl) rfl rfl (by (try simp only [List.map_toArray, List.map_cons, List.map_nil]); first | done | rfl | (simp only [List.length_drop, List.length_take]; rfl)) ?_
  with_reducible refine (laws_toWord.calls a2_0 a2_1 t390 t391 _ A8.out).mono ?_
  rintro e w19 ⟨rfl, hb⟩
  refine ⟨_, rfl, ?_⟩
  have n0_ := zM (blk_below (g := gb381) (o := .cells #[.int .u64 a1_0, .int .u64 a1_1] 24 (0, 0)) (by (with_reducible repeat (first | apply zN | apply zD | apply zA)); exact BK381.out) hb)
  have n1_ := zM (blk_below (g := gb382) (o := .cells #[.int .u64 a2_0, .int .u64 a2_1] 24 (0, 0)) (by (with_reducible repeat (first | apply zN | apply zD | apply zA)); exact BK382.out) hb)
  have n2_ := zM (below_step (by repeat (first | (with_reducible first | exact HB.out | apply yA | apply yN | apply yD | refine below_set ?_ GE381.out | refine below_set ?_ GE382.out) | exact HB.out)) hb)
  clear BK381
  clear BK382
  clear HB
  have BK381 := n0_
  have BK382 := n1_
  have HB := n2_
  clear n0_ n1_ n2_
  (try clear hb)
  (try clear hb2)
  (try clear hk)
  (try clear hi)
  refine hK.out _ _ ⟨(blk_cell BK381.out 0).trans rfl, (blk_cell BK381.out 1).trans rfl, (blk_cell BK382.out 0).trans rfl, (blk_cell BK382.out 1).trans rfl⟩ (fun hHeld => ?_)
  clear hK K
  refine norm_ (a' := ?_) ?_ ?_
  rotate_left
  ·show Act.put _ (some 19) _ = _
   simp only [Act.put, xT, xZ, xS, i64_w, i32_w]
   rfl
  refine one_ (i := 5) (N := some 20) #[true, true, true, true, true, true, false] rfl rfl (by kernel_rfl) (by decide) (fun K hK => ?_)
  refine goes_ Tryd.func20 (by kernel_rfl) rfl #[.int .i64 a0, .agg #[.int .u64 t388, .int .u64 t389], .agg #[.int .u64 t390, .int .u64 t391]] (by rfl) rfl rfl (by (try simp only [List.map_toArray, List.map_cons, List.map_nil]); first | done | rfl | (simp only [List.length_drop, List.length_take]; rfl)) ?_
  with_reducible refine (impl_Order.calls k a0 t388 t389 t390 t391 t392 _ ?side1 A9.out).mono ?_
  (case side1 => exact tabled_below HTb_.out (by repeat (first | (with_reducible first | exact HB.out | apply yA | apply yN | apply yD | refine below_set ?_ GE381.out | refine below_set ?_ GE382.out) | exact HB.out)))
  rintro e w20 ⟨rfl, hb⟩
  refine ⟨_, rfl, ?_⟩
  have n0_ := zM (blk_below (g := gb381) (o := .cells #[.int .u64 a1_0, .int .u64 a1_1] 24 (0, 0)) (by (with_reducible repeat (first | apply zN | apply zD | apply zA)); exact BK381.out) hb)
  have n1_ := zM (blk_below (g := gb382) (o := .cells #[.int .u64 a2_0, .int .u64 a2_1] 24 (0, 0)) (by (with_reducible repeat (first | apply zN | apply zD | apply zA)); exact BK382.out) hb)
  have n2_ := zM (below_step (by repeat (first | (with_reducible first | exact HB.out | apply yA | apply yN | apply yD | refine below_set ?_ GE381.out | refine below_set ?_ GE382.out) | exact HB.out)) hb)
  clear BK381
  clear BK382
  clear HB
  have BK381 := n0_
  have BK382 := n1_
  have HB := n2_
  clear n0_ n1_ n2_
  (try clear hb)
  (try clear hb2)
  (try clear hk)
  (try clear hi)
  refine hK.out _ _ ⟨(blk_cell BK381.out 0).trans rfl, (blk_cell BK381.out 1).trans rfl, (blk_cell BK382.out 0).trans rfl, (blk_cell BK382.out 1).trans rfl⟩ (fun hHeld => ?_)
  clear hK K
  refine norm_ (a' := ?_) ?_ ?_
  rotate_left
  ·show Act.put _ (some 20) _ = _
   simp only [Act.put, xT, xZ, xS, i64_w, i32_w]
   rfl
  refine pure_ (i := 6) (N := some 8) (v := ?_) (a' := ?_) #[true, true, true, true, true, true, true] rfl rfl (by kernel_rfl) (fun _ _ _ h => h) (Or.inl ⟨by rfl, ?_⟩) ?_ ?_
  rotate_left
  ·intro w'
   go_simp
   with_reducible rfl
  rotate_left
  ·simp only [Act.put, xT, xZ, xS, i64_w, i32_w]
   rfl
  refine done_ (by kernel_rfl) ?_
  try go_wp2
  go_ret
  exact ⟨by first | rfl | (simp [errW_none, errW_some] <;> rfl) | (simp [*, errW_none, errW_some] <;> rfl), by repeat (first | (with_reducible first | exact HB.out | apply yA | apply yN | apply yD | refine below_set ?_ GE381.out | refine below_set ?_ GE382.out) | exact HB.out)⟩
 ·rw [if_neg c10] at H
  have c10b0 : (t392 == t387) = false := beq_eq_false_iff_ne.mpr c10
  have c10b1 : (t392 != t387) = true := bne_iff_ne.mpr c10
  obtain rfl := Option.some.inj H
  go_enter Tryd.func4, Tryd.ntmps4
  try go_wp2_with (first | ((with_reducible refine gate_dst (N := 4) rfl ?_); refine box_event ?hg (N := 4) ?hd (cs := #[.int .u64 a1_0, .int .u64 a1_1]) (t := 24) ?hr ?_; (case hd => rfl); (case hg => rfl); (case hr => first | (go_simp; done) | (go_simp; rfl)); intro gb381 hg w21 hbox hb; have n0_ := zM (below_step (by repeat (first | (with_reducible first | exact HB.out | apply yA | apply yN | apply yD) | exact HB.out)) hb); have n1_ := zM (hbox); have n2_ := zM ((by rw [hg]; exact (below_size (by repeat (first | (with_reducible first | exact HB.out | apply yA | apply yN | apply yD) | exact HB.out))) : w.heap.size ≤ gb381)); have n3_ := zM ((by rw [hg]; exact (below_size (by repeat (first | (with_reducible first | exact HB.out | apply yA | apply yN | apply yD) | exact HB.out))) : w.heap.size ≤ gb381)); clear HB; have HB := n0_; have BK381 := n1_; have GW381 := n2_; have GE381 := n3_; clear n0_ n1_ n2_ n3_; clear hb hbox hg) | ((with_reducible refine gate_dst (N := 5) rfl ?_); refine box_event ?hg (N := 5) ?hd (cs := #[.int .u64 a2_0, .int .u64 a2_1]) (t := 24) ?hr ?_; (case hd => rfl); (case hg => rfl); (case hr => first | (go_simp; done) | (go_simp; rfl)); intro gb382 hg w22 hbox hb; have n0_ := zM (blk_below (g := gb381) (o := .cells #[.int .u64 a1_0, .int .u64 a1_1] 24 (0, 0)) (by (with_reducible repeat (first | apply zN | apply zD | apply zA)); exact BK381.out) hb); have n1_ := zM (below_step (by repeat (first | (with_reducible first | exact HB.out | apply yA | apply yN | apply yD | refine below_set ?_ GE381.out) | exact HB.out)) hb); have n2_ := zM (hbox); have n3_ := zM ((by rw [hg]; exact (below_size (by repeat (first | (with_reducible first | exact HB.out | apply yA | apply yN | apply yD | refine below_set ?_ GE381.out) | exact HB.out))) : w.heap.size ≤ gb382)); have n4_ := zM ((by rw [hg]; exact (below_size (by repeat (first | (with_reducible first | exact HB.out | apply yA | apply yN | apply yD | refine below_set ?_ GE381.out) | exact HB.out))) : w.heap.size ≤ gb382)); have n5_ := zM ((by rw [hg]; exact Nat.ne_of_lt (blk_lt (g := gb381) (o := .cells #[.int .u64 a1_0, .int .u64 a1_1] 24 (0, 0)) (by (with_reducible repeat (first | apply zN | apply zD | apply zA)); exact BK381.out)) : gb381 ≠ gb382)); have n6_ := zM ((by rw [hg]; exact Nat.ne_of_gt (blk_lt (g := gb381) (o := .cells #[.int .u64 a1_0, .int .u64 a1_1] 24 (0, 0)) (by (with_reducible repeat (first | apply zN | apply zD | apply zA)); exact BK381.out)) : gb382 ≠ gb381)); clear BK381; clear HB; have BK381 := n0_; have HB := n1_; have BK382 := n2_; have GW382 := n3_; have GE382 := n4_; have NB381_382 := n5_; have NB382_381 := n6_; clear n0_ n1_ n2_ n3_ n4_ n5_ n6_; clear hb hbox hg))
  have n0_ := zM (zD BK381.out)
  have n1_ := zM (zD BK382.out)
  have n2_ := zM (yD HB.out)
  clear BK381
  clear BK382
  clear HB
  have BK381 := n0_
  have BK382 := n1_
  have HB := n2_
  clear n0_ n1_ n2_
  refine start_ (n := 7) (S := fun w' => w'.cell? ⟨gb381, 0, none⟩ = some (.int .u64 a1_0) ∧ w'.cell? ⟨gb381, 1, none⟩ = some (.int .u64 a1_1) ∧ w'.cell? ⟨gb382, 0, none⟩ = some (.int .u64 a2_0) ∧ w'.cell? ⟨gb382, 1, none⟩ = some (.int .u64 a2_1)) (ds := []) #[false, false, false, false, false, false, false] (by kernel_rfl) rfl rfl ⟨(blk_cell BK381.out 0).trans rfl, (blk_cell BK381.out 1).trans rfl, (blk_cell BK382.out 0).trans rfl, (blk_cell BK382.out 1).trans rfl⟩ (fun hHeld => ?_)
  generalize w22.drew = w23 at BK381 BK382 HB hHeld ⊢
  refine pure_ (i := 0) (N := some 9) (v := ?_) (a' := ?_) #[true, false, false, false, false, false, false] rfl rfl (by kernel_rfl) (fun _ _ _ h => h) (Or.inl ⟨by rfl, ?_⟩) ?_ ?_
  rotate_left
  ·intro w'
   go_simp
   with_reducible rfl
  rotate_left
  ·simp only [Act.put, xT, xZ, xS, i64_w, i32_w]
   rfl
  refine take_ (i := 1) (N := some 10) (v := ?_) (a' := ?_) #[true, true, false, false, false, false, false] rfl rfl (by kernel_rfl) (fun _ _ _ h => h) (Or.inl ⟨by rfl, ?_⟩) hHeld ?_ ?_
  rotate_left
  ·rintro w' ⟨s0, s1, s2, s3⟩
   go_simp
   with_reducible rfl
  rotate_left
  ·simp only [Act.put, xT, xZ, xS, i64_w, i32_w]
   rfl
  refine take_ (i := 3) (N := some 12) (v := ?_) (a' := ?_) #[true, true, false, true, false, false, false] rfl rfl (by kernel_rfl) (fun _ _ _ h => h) (Or.inl ⟨by rfl, ?_⟩) hHeld ?_ ?_
  rotate_left
  ·rintro w' ⟨s0, s1, s2, s3⟩
   go_simp
   with_reducible rfl
  rotate_left
  ·simp only [Act.put, xT, xZ, xS, i64_w, i32_w]
   rfl
  refine one_ (i := 2) (N := some 11) #[true, true, true, true, false, false, false] rfl rfl (by kernel_rfl) (by decide) (fun K hK => ?_)
  refine goes_ Tryd.func16 (by kernel_rfl) rfl #[.agg #[.int .u64 a1_0, .int .u64 a1_1]] (by rfl) rfl rfl (by (try simp only [List.map_toArray, List.map_cons, List.map_nil]); first | done | rfl | (simp only [List.length_drop, List.length_take]; rfl)) ?_
  with_reducible refine (laws_toWord.calls a1_0 a1_1 t383 t384 _ A4.out).mono ?_
  rintro e w24 ⟨rfl, hb⟩
  refine ⟨_, rfl, ?_⟩
  have n0_ := zM (blk_below (g := gb381) (o := .cells #[.int .u64 a1_0, .int .u64 a1_1] 24 (0, 0)) (by (with_reducible repeat (first | apply zN | apply zD | apply zA)); exact BK381.out) hb)
  have n1_ := zM (blk_below (g := gb382) (o := .cells #[.int .u64 a2_0, .int .u64 a2_1] 24 (0, 0)) (by (with_reducible repeat (first | apply zN | apply zD | apply zA)); exact BK382.out) hb)
  have n2_ := zM (below_step (by repeat (first | (with_reducible first | exact HB.out | apply yA | apply yN | apply yD | refine below_set ?_ GE381.out | refine below_set ?_ GE382.out) | exact HB.out)) hb)
  clear BK381
  clear BK382
  clear HB
  have BK381 := n0_
  have BK382 := n1_
  have HB := n2_
  clear n0_ n1_ n2_
  (try clear hb)
  (try clear hb2)
  (try clear hk)
  (try clear hi)
  refine hK.out _ _ ⟨(blk_cell BK381.out 0).trans rfl, (blk_cell BK381.out 1).trans rfl, (blk_cell BK382.out 0).trans rfl, (blk_cell BK382.out 1).trans rfl⟩ (fun hHeld => ?_)
  clear hK K
  refine norm_ (a' := ?_) ?_ ?_
  rotate_left
  ·show Act.put _ (some 11) _ = _
   simp only [Act.put, xT, xZ, xS, i64_w, i32_w]
   rfl
  refine one_ (i := 4) (N := some 13) #[true, true, true, true, true, false, false] rfl rfl (by kernel_rfl) (by decide) (fun K hK => ?_)
  refine goes_ Tryd.func16 (by kernel_rfl) rfl #[.agg #[.int .u64 a2_0, .int .u64 a2_1]] (by rfl) rfl rfl (by (try simp only [List.map_toArray, List.map_cons, List.map_nil]); first | done | rfl | (simp only [List.length_drop, List.length_take]; rfl)) ?_
  with_reducible refine (laws_toWord.calls a2_0 a2_1 t385 t386 _ A5.out).mono ?_
  rintro e w25 ⟨rfl, hb⟩
  refine ⟨_, rfl, ?_⟩
  have n0_ := zM (blk_below (g := gb381) (o := .cells #[.int .u64 a1_0, .int .u64 a1_1] 24 (0, 0)) (by (with_reducible repeat (first | apply zN | apply zD | apply zA)); exact BK381.out) hb)
  have n1_ := zM (blk_below (g := gb382) (o := .cells #[.int .u64 a2_0, .int .u64 a2_1] 24 (0, 0)) (by (with_reducible repeat (first | apply zN | apply zD | apply zA)); exact BK382.out) hb)
  have n2_ := zM (below_step (by repeat (first | (with_reducible first | exact HB.out | apply yA | apply yN | apply yD | refine below_set ?_ GE381.out | refine below_set ?_ GE382.out) | exact HB.out)) hb)
  clear BK381
  clear BK382
  clear HB
  have BK381 := n0_
  have BK382 := n1_
  have HB := n2_
  clear n0_ n1_ n2_
  (try clear hb)
  (try clear hb2)
  (try clear hk)
  (try clear hi)
  refine hK.out _ _ ⟨(blk_cell BK381.out 0).trans rfl, (blk_cell BK381.out 1).trans rfl, (blk_cell BK382.out 0).trans rfl, (blk_cell BK382.out 1).trans rfl⟩ (fun hHeld => ?_)
  clear hK K
  refine norm_ (a' := ?_) ?_ ?_
  rotate_left
  ·show Act.put _ (some 13) _ = _
   simp only [Act.put, xT, xZ, xS, i64_w, i32_w]
   rfl
  refine one_ (i := 5) (N := some 14) #[true, true, true, true, true, true, false] rfl rfl (by kernel_rfl) (by decide) (fun K hK => ?_)
  refine goes_ Tryd.func19 (by kernel_rfl) rfl #[.int .i64 a0, .agg #[.int .u64 t383, .int .u64 t384], .agg #[.int .u64 t385, .int .u64 t386]] (by rfl) rfl rfl (by (try simp only [List.map_toArray, List.map_cons, List.map_nil]); first | done | rfl | (simp only [List.length_drop, List.length_take]; rfl)) ?_
  with_reducible refine (spec_Order.calls k a0 t383 t384 t385 t386 t387 _ A6.out).mono ?_
  rintro e w26 ⟨rfl, hb⟩
  refine ⟨_, rfl, ?_⟩
  have n0_ := zM (blk_below (g := gb381) (o := .cells #[.int .u64 a1_0, .int .u64 a1_1] 24 (0, 0)) (by (with_reducible repeat (first | apply zN | apply zD | apply zA)); exact BK381.out) hb)
  have n1_ := zM (blk_below (g := gb382) (o := .cells #[.int .u64 a2_0, .int .u64 a2_1] 24 (0, 0)) (by (with_reducible repeat (first | apply zN | apply zD | apply zA)); exact BK382.out) hb)
  have n2_ := zM (below_step (by repeat (first | (with_reducible first | exact HB.out | apply yA | apply yN | apply yD | refine below_set ?_ GE381.out | refine below_set ?_ GE382.out) | exact HB.out)) hb)
  clear BK381
  clear BK382
  clear HB
  have BK381 := n0_
  have BK382 := n1_
  have HB := n2_
  clear n0_ n1_ n2_
  (try clear hb)
  (try clear hb2)
  (try clear hk)
  (try clear hi)
  refine hK.out _ _ ⟨(blk_cell BK381.out 0).trans rfl, (blk_cell BK381.out 1).trans rfl, (blk_cell BK382.out 0).trans rfl, (blk_cell BK382.out 1).trans rfl⟩ (fun hHeld => ?_)
  clear hK K
  refine norm_ (a' := ?_) ?_ ?_
  rotate_left
  ·show Act.put _ (some 14) _ = _
   simp only [Act.put, xT, xZ, xS, i64_w, i32_w]
   rfl
  refine pure_ (i := 6) (N := some 7) (v := ?_) (a' := ?_) #[true, true, true, true, true, true, true] rfl rfl (by kernel_rfl) (fun _ _ _ h => h) (Or.inl ⟨by rfl, ?_⟩) ?_ ?_
  rotate_left
  ·intro w'
   go_simp
   with_reducible rfl
  rotate_left
  ·simp only [Act.put, xT, xZ, xS, i64_w, i32_w]
   rfl
  refine done_ (by kernel_rfl) ?_
  try go_wp2
  have n0_ := zM (zD BK381.out)
  have n1_ := zM (zD BK382.out)
  have n2_ := zM (yD HB.out)
  clear BK381
  clear BK382
  clear HB
  have BK381 := n0_
  have BK382 := n1_
  have HB := n2_
  clear n0_ n1_ n2_
  refine start_ (n := 7) (S := fun w' => w'.cell? ⟨gb381, 0, none⟩ = some (.int .u64 a1_0) ∧ w'.cell? ⟨gb381, 1, none⟩ = some (.int .u64 a1_1) ∧ w'.cell? ⟨gb382, 0, none⟩ = some (.int .u64 a2_0) ∧ w'.cell? ⟨gb382, 1, none⟩ = some (.int .u64 a2_1)) (ds := []) #[false, false, false, false, false, false, false] (by kernel_rfl) rfl rfl ⟨(blk_cell BK381.out 0).trans rfl, (blk_cell BK381.out 1).trans rfl, (blk_cell BK382.out 0).trans rfl, (blk_cell BK382.out 1).trans rfl⟩ (fun hHeld => ?_)
  generalize w26.drew = w27 at BK381 BK382 HB hHeld ⊢
  refine pure_ (i := 0) (N := some 15) (v := ?_) (a' := ?_) #[true, false, false, false, false, false, false] rfl rfl (by kernel_rfl) (fun _ _ _ h => h) (Or.inl ⟨by rfl, ?_⟩) ?_ ?_
  rotate_left
  ·intro w'
   go_simp
   with_reducible rfl
  rotate_left
  ·simp only [Act.put, xT, xZ, xS, i64_w, i32_w]
   rfl
  refine take_ (i := 1) (N := some 16) (v := ?_) (a' := ?_) #[true, true, false, false, false, false, false] rfl rfl (by kernel_rfl) (fun _ _ _ h => h) (Or.inl ⟨by rfl, ?_⟩) hHeld ?_ ?_
  rotate_left
  ·rintro w' ⟨s0, s1, s2, s3⟩
   go_simp
   with_reducible rfl
  rotate_left
  ·simp only [Act.put, xT, xZ, xS, i64_w, i32_w]
   rfl
  refine take_ (i := 3) (N := some 18) (v := ?_) (a' := ?_) #[true, true, false, true, false, false, false] rfl rfl (by kernel_rfl) (fun _ _ _ h => h) (Or.inl ⟨by rfl, ?_⟩) hHeld ?_ ?_
  rotate_left
  ·rintro w' ⟨s0, s1, s2, s3⟩
   go_simp
   with_reducible rfl
  rotate_left
  ·simp only [Act.put, xT, xZ, xS, i64_w, i32_w]
   rfl
  refine one_ (i := 2) (N := some 17) #[true, true, true, true, false, false, false] rfl rfl (by kernel_rfl) (by decide) (fun K hK => ?_)
  refine goes_ Tryd.func16 (by kernel_rfl) rfl #[.agg #[.int .u64 a1_0, .int .u64 a1_1]] (by rfl) rfl rfl (by (try simp only [List.map_toArray, List.map_cons, List.map_nil]); first | done | rfl | (simp only [List.length_drop, List.length_take]; rfl)) ?_
  with_reducible refine (laws_toWord.calls a1_0 a1_1 t388 t389 _ A7.out).mono ?_
  rintro e w28 ⟨rfl, hb⟩
  refine ⟨_, rfl, ?_⟩
  have n0_ := zM (blk_below (g := gb381) (o := .cells #[.int .u64 a1_0, .int .u64 a1_1] 24 (0, 0)) (by (with_reducible repeat (first | apply zN | apply zD | apply zA)); exact BK381.out) hb)
  have n1_ := zM (blk_below (g := gb382) (o := .cells #[.int .u64 a2_0, .int .u64 a2_1] 24 (0, 0)) (by (with_reducible repeat (first | apply zN | apply zD | apply zA)); exact BK382.out) hb)
  have n2_ := zM (below_step (by repeat (first | (with_reducible first | exact HB.out | apply yA | apply yN | apply yD | refine below_set ?_ GE381.out | refine below_set ?_ GE382.out) | exact HB.out)) hb)
  clear BK381
  clear BK382
  clear HB
  have BK381 := n0_
  have BK382 := n1_
  have HB := n2_
  clear n0_ n1_ n2_
  (try clear hb)
  (try clear hb2)
  (try clear hk)
  (try clear hi)
  refine hK.out _ _ ⟨(blk_cell BK381.out 0).trans rfl, (blk_cell BK381.out 1).trans rfl, (blk_cell BK382.out 0).trans rfl, (blk_cell BK382.out 1).trans rfl⟩ (fun hHeld => ?_)
  clear hK K
  refine norm_ (a' := ?_) ?_ ?_
  rotate_left
  ·show Act.put _ (some 17) _ = _
   simp only [Act.put, xT, xZ, xS, i64_w, i32_w]
   rfl
  refine one_ (i := 4) (N := some 19) #[true, true, true, true, true, false, false] rfl rfl (by kernel_rfl) (by decide) (fun K hK => ?_)
  refine goes_ Tryd.func16 (by kernel_rfl) rfl #[.agg #[.int .u64 a2_0, .int .u64 a2_1]] (by rfl) rfl rfl (by (try simp only [List.map_toArray, List.map_cons, List.map_nil]); first | done | rfl | (simp only [List.length_drop, List.length_take]; rfl)) ?_
  with_reducible refine (laws_toWord.calls a2_0 a2_1 t390 t391 _ A8.out).mono ?_
  rintro e w29 ⟨rfl, hb⟩
  refine ⟨_, rfl, ?_⟩
  have n0_ := zM (blk_below (g := gb381) (o := .cells #[.int .u64 a1_0, .int .u64 a1_1] 24 (0, 0)) (by (with_reducible repeat (first | apply zN | apply zD | apply zA)); exact BK381.out) hb)
  have n1_ := zM (blk_below (g := gb382) (o := .cells #[.int .u64 a2_0, .int .u64 a2_1] 24 (0, 0)) (by (with_reducible repeat (first | apply zN | apply zD | apply zA)); exact BK382.out) hb)
  have n2_ := zM (below_step (by repeat (first | (with_reducible first | exact HB.out | apply yA | apply yN | apply yD | refine below_set ?_ GE381.out | refine below_set ?_ GE382.out) | exact HB.out)) hb)
  clear BK381
  clear BK382
  clear HB
  have BK381 := n0_
  have BK382 := n1_
  have HB := n2_
  clear n0_ n1_ n2_
  (try clear hb)
  (try clear hb2)
  (try clear hk)
  (try clear hi)
  refine hK.out _ _ ⟨(blk_cell BK381.out 0).trans rfl, (blk_cell BK381.out 1).trans rfl, (blk_cell BK382.out 0).trans rfl, (blk_cell BK382.out 1).trans rfl⟩ (fun hHeld => ?_)
  clear hK K
  refine norm_ (a' := ?_) ?_ ?_
  rotate_left
  ·show Act.put _ (some 19) _ = _
   simp only [Act.put, xT, xZ, xS, i64_w, i32_w]
   rfl
  refine one_ (i := 5) (N := some 20) #[true, true, true, true, true, true, false] rfl rfl (by kernel_rfl) (by decide) (fun K hK => ?_)
  refine goes_ Tryd.func20 (by kernel_rfl) rfl #[.int .i64 a0, .agg #[.int .u64 t388, .int .u64 t389], .agg #[.int .u64 t390, .int .u64 t391]] (by rfl) rfl rfl (by (try simp only [List.map_toArray, List.map_cons, List.map_nil]); first | done | rfl | (simp only [List.length_drop, List.length_take]; rfl)) ?_
  with_reducible refine (impl_Order.calls k a0 t388 t389 t390 t391 t392 _ ?side1 A9.out).mono ?_
  (case side1 => exact tabled_below HTb_.out (by repeat (first | (with_reducible first | exact HB.out | apply yA | apply yN | apply yD | refine below_set ?_ GE381.out | refine below_set ?_ GE382.out) | exact HB.out)))
  rintro e w30 ⟨rfl, hb⟩
  refine ⟨_, rfl, ?_⟩
  have n0_ := zM (blk_below (g := gb381) (o := .cells #[.int .u64 a1_0, .int .u64 a1_1] 24 (0, 0)) (by (with_reducible repeat (first | apply zN | apply zD | apply zA)); exact BK381.out) hb)
  have n1_ := zM (blk_below (g := gb382) (o := .cells #[.int .u64 a2_0, .int .u64 a2_1] 24 (0, 0)) (by (with_reducible repeat (first | apply zN | apply zD | apply zA)); exact BK382.out) hb)
  have n2_ := zM (below_step (by repeat (first | (with_reducible first | exact HB.out | apply yA | apply yN | apply yD | refine below_set ?_ GE381.out | refine below_set ?_ GE382.out) | exact HB.out)) hb)
  clear BK381
  clear BK382
  clear HB
  have BK381 := n0_
  have BK382 := n1_
  have HB := n2_
  clear n0_ n1_ n2_
  (try clear hb)
  (try clear hb2)
  (try clear hk)
  (try clear hi)
  refine hK.out _ _ ⟨(blk_cell BK381.out 0).trans rfl, (blk_cell BK381.out 1).trans rfl, (blk_cell BK382.out 0).trans rfl, (blk_cell BK382.out 1).trans rfl⟩ (fun hHeld => ?_)
  clear hK K
  refine norm_ (a' := ?_) ?_ ?_
  rotate_left
  ·show Act.put _ (some 20) _ = _
   simp only [Act.put, xT, xZ, xS, i64_w, i32_w]
   rfl
  refine pure_ (i := 6) (N := some 8) (v := ?_) (a' := ?_) #[true, true, true, true, true, true, true] rfl rfl (by kernel_rfl) (fun _ _ _ h => h) (Or.inl ⟨by rfl, ?_⟩) ?_ ?_
  rotate_left
  ·intro w'
   go_simp
   with_reducible rfl
  rotate_left
  ·simp only [Act.put, xT, xZ, xS, i64_w, i32_w]
   rfl
  refine done_ (by kernel_rfl) ?_
  try go_wp2
  go_ret
  exact ⟨by first | rfl | (simp [errW_none, errW_some] <;> rfl) | (simp [*, errW_none, errW_some] <;> rfl), by repeat (first | (with_reducible first | exact HB.out | apply yA | apply yN | apply yD | refine below_set ?_ GE381.out | refine below_set ?_ GE382.out) | exact HB.out)⟩
end Go.Proofs.YtdbnmdchecacdaaDoor.PP
end
section
namespace Go.Proofs.YtdbnmdchecacdaaDoor.M
open Go.RowKit Go.Proofs.YtdbnmdchecacdaaDoor.G Go.Proofs.YtdbnmdchecacdaaDoorV.PrintWords Go.Proofs.YtdbnmdchecacdaaDoorV.PrintLast Go.Proofs.YtdbnmdchecacdaaDoorV.PrintMore Go.Proofs.YtdbnmdchecacdaaDoor.PP
set_option linter.unusedVariables false
set_option linter.unusedSimpArgs false
abbrev Rnk : Type := List Int × Bool × Bool
def badR : Rnk := ([], false, false)
theorem rank_bad {f : Int} {w : Nat} {p : Prt} (hS : Ev (fun k => spec_Unpack.f k f (hiI w) (loI w)) p) (hb : p.1 = 0 ∨ p.1 = 5) : Ev (fun k => spec_l2Rank.f k f (hiI w) (loI w)) badR := by
  have hj : Ev (fun k => spec_l2Rank.j0 k f true (hiI w) (loI w) p.1 p.2.1 p.2.2.1 p.2.2.2.1 p.2.2.2.2) badR := by
    refine Ev.step (f := fun _ => some badR) (fun k => ?_) (Ev.now _)
    simp only [spec_l2Rank.j0]
    rw [if_pos trivial]
    rfl
  unfold spec_l2Rank.f
  refine Ev.bind hS ?_
  rcases hb with h | h
  · simp only [if_pos h]
    exact hj
  · have h0 : ¬ p.1 = 0 := by rw [h]; decide
    have h5 : (p.1 == 5) = true := by rw [h]; rfl
    simp only [if_neg h0]
    rw [h5]
    exact hj
theorem rank_good {P : Nat} {emin emax : Int} {W E : Nat} {ex : Bool} (h : Fmt P emin emax W E ex) {f : Int} (hf : spec_Describe.f f = some ((P : Int), emin, emax, (W : Int), (E : Int), ex)) {w : Nat} (hw : w < B128) {p : Prt} (hS : Ev (fun k => spec_Unpack.f k f (hiI w) (loI w)) p) (h0 : p.1 ≠ 0) (h5 : p.1 ≠ 5) :
    ∃ r, Ev (fun k => spec_l2Rank.f k f (hiI w) (loI w)) ((r, p.2.1, true) : Rnk) ∧ Dig B32 r ∧ Norm r ∧ val B32 r = w % 2 ^ (W - 1) ∧ r.length ≤ 100 := by
  have p0 := h.p0
  have w1' := h.w1
  have w2' := h.w2
  have e0 := h.e0
  obtain ⟨A, hA, dA, nA, vA, lA⟩ := l2Of_ev w hw
  obtain ⟨r, hr, dr, nr, vr, lr⟩ := l2Low_ev A dA (by omega) (W - 1) (by omega)
  rw [vA] at vr
  refine ⟨r, ?_, dr, nr, vr, by clear vr vA; omega⟩
  clear vr vA
  have wW : wrap64 ((W : Int) - 1) = ((W - 1 : Nat) : Int) := by rw [wsm _ (by omega)]; omega
  have h5' : (p.1 == 5) = false := by rw [beq_eq_false_iff_ne]; exact h5
  unfold spec_l2Rank.f
  refine Ev.bind hS ?_
  simp only [if_neg h0]
  rw [h5']
  refine Ev.step (f := fun k => (spec_l2Of.f k (hiI w) (loI w)).bind fun t => (spec_l2Low.f k t ((W - 1 : Nat) : Int)).bind fun t2 => some (t2, p.2.1, true)) (fun k => ?_) (Ev.bind hA (Ev.bind hr (Ev.now _)))
  simp only [spec_l2Rank.j0]
  rw [if_neg (by decide), hf, Option.bind_some]
  dsimp only
  rw [wW]
section
variable {f : Int} {w1 w2 : Nat}
theorem so_bad1 {q : Rnk} (h1 : Ev (fun k => spec_l2Rank.f k f (hiI w1) (loI w1)) badR) (h2 : Ev (fun k => spec_l2Rank.f k f (hiI w2) (loI w2)) q) : Ev (fun k => spec_Order.f k f (hiI w1) (loI w1) (hiI w2) (loI w2)) 2 := by
  unfold spec_Order.f
  refine Ev.bind h1 (Ev.bind h2 ?_)
  have c : ¬ badR.2.2 = true := by decide
  simp only [if_neg c]
  refine Ev.step (f := fun _ => some 2) (fun k => ?_) (Ev.now _)
  simp only [spec_Order.j0]
  rw [if_pos trivial]
theorem so_bad2 {r : List Int} {n : Bool} (h1 : Ev (fun k => spec_l2Rank.f k f (hiI w1) (loI w1)) ((r, n, true) : Rnk)) (h2 : Ev (fun k => spec_l2Rank.f k f (hiI w2) (loI w2)) badR) : Ev (fun k => spec_Order.f k f (hiI w1) (loI w1) (hiI w2) (loI w2)) 2 := by
  unfold spec_Order.f
  refine Ev.bind h1 (Ev.bind h2 ?_)
  refine Ev.congr (f := fun k => spec_Order.j0 k r n badR.1 badR.2.1 true) (fun k => rfl) ?_
  refine Ev.step (f := fun _ => some 2) (fun k => ?_) (Ev.now _)
  simp only [spec_Order.j0]
  rw [if_pos trivial]
theorem so_good {r1 r2 : List Int} {n1 n2 : Bool} (h1 : Ev (fun k => spec_l2Rank.f k f (hiI w1) (loI w1)) ((r1, n1, true) : Rnk)) (h2 : Ev (fun k => spec_l2Rank.f k f (hiI w2) (loI w2)) ((r2, n2, true) : Rnk)) {R : Int} (hR : Ev (fun k => spec_Order.j0 k r1 n1 r2 n2 false) R) : Ev (fun k => spec_Order.f k f (hiI w1) (loI w1) (hiI w2) (loI w2)) R := by
  unfold spec_Order.f
  refine Ev.bind h1 (Ev.bind h2 ?_)
  exact Ev.congr (f := fun k => spec_Order.j0 k r1 n1 r2 n2 false) (fun k => rfl) hR
theorem io_of {p q : Prt} (h1 : Ev (fun k => impl_Unpack.f k f (hiI w1) (loI w1)) p) (h2 : Ev (fun k => impl_Unpack.f k f (hiI w2) (loI w2)) q) {R : Int} (hR : if p.1 = 0 then R = 2 else if p.1 = 5 then R = 2 else if q.1 = 0 then R = 2 else if q.1 = 5 then R = 2 else Ev (fun k => tailO k f (hiI w1) (loI w1) (hiI w2) (loI w2) p q) R) : Ev (fun k => impl_Order.f k f (hiI w1) (loI w1) (hiI w2) (loI w2)) R := by
  unfold impl_Order.f
  refine Ev.bind h1 (Ev.bind h2 ?_)
  exact Ev.congr (f := fun k => impl_Order.l0 k f [ptS p, ptS q] 2 0 (hiI w1) (loI w1) (hiI w2) (loI w2) p.1 p.2.1 p.2.2.1 p.2.2.2.1 p.2.2.2.2 q.1 q.2.1 q.2.2.1 q.2.2.2.1 q.2.2.2.2) (fun k => rfl) (io0 f _ _ _ _ p q hR)
theorem bad_both {p q : Prt} (s1 : Ev (fun k => spec_Unpack.f k f (hiI w1) (loI w1)) p) (i1 : Ev (fun k => impl_Unpack.f k f (hiI w1) (loI w1)) p) (i2 : Ev (fun k => impl_Unpack.f k f (hiI w2) (loI w2)) q) (hb : p.1 = 0 ∨ p.1 = 5) {y : Rnk} (k2 : Ev (fun k => spec_l2Rank.f k f (hiI w2) (loI w2)) y) :
    Ev (fun k => spec_Order.f k f (hiI w1) (loI w1) (hiI w2) (loI w2)) 2 ∧ Ev (fun k => impl_Order.f k f (hiI w1) (loI w1) (hiI w2) (loI w2)) 2 := by
  refine ⟨so_bad1 (rank_bad s1 hb) k2, io_of i1 i2 ?_⟩
  rcases hb with h | h
  · rw [if_pos h]
  · rw [if_neg (by rw [h]; decide), if_pos h]
end
theorem order_fmt {P : Nat} {emin emax : Int} {W E : Nat} {ex : Bool} (h : Fmt P emin emax W E ex) (f : Int) (hS : spec_Describe.f f = some ((P : Int), emin, emax, (W : Int), (E : Int), ex)) (hI : impl_layoutOf.f f = some ((P : Int), emin, emax, (W : Int), (E : Int), ex, true)) (w1 w2 : Nat) (hw1 : w1 < B128) (hw2 : w2 < B128) :
    ∃ R : Int, Ev (fun k => spec_Order.f k f (hiI w1) (loI w1) (hiI w2) (loI w2)) R ∧ Ev (fun k => impl_Order.f k f (hiI w1) (loI w1) (hiI w2) (loI w2)) R := by
  have s1 := unpS_ev h f hS w1 hw1
  have s2 := unpS_ev h f hS w2 hw2
  have i1 := unpI_ev h f hI w1 hw1
  have i2 := unpI_ev h f hI w2 hw2
  have v1 := unpN_valid h w1
  have v2 := unpN_valid h w2
  generalize unpN P emin emax W E ex w1 = p at *
  generalize unpN P emin emax W E ex w2 = q at *
  have k2 : ∃ y : Rnk, Ev (fun k => spec_l2Rank.f k f (hiI w2) (loI w2)) y := by
    rcases v2 with a | a | ⟨a, b, _, _⟩
    · exact ⟨_, rank_bad s2 (.inl a)⟩
    · exact ⟨_, rank_bad s2 (.inr a)⟩
    · obtain ⟨r, hr, _⟩ := rank_good h hS hw2 s2 a b
      exact ⟨_, hr⟩
  obtain ⟨y, hy⟩ := k2
  rcases v1 with a | a | ⟨a1, b1, c1, d1⟩
  · exact ⟨2, bad_both s1 i1 i2 (.inl a) hy⟩
  · exact ⟨2, bad_both s1 i1 i2 (.inr a) hy⟩
  obtain ⟨r1, g1, dg1, nr1, vr1, lr1⟩ := rank_good h hS hw1 s1 a1 b1
  rcases v2 with a | a | ⟨a2, b2, c2, d2⟩
  · exact ⟨2, so_bad2 g1 (rank_bad s2 (.inl a)), io_of i1 i2 (by rw [if_neg a1, if_neg b1, if_pos a])⟩
  · exact ⟨2, so_bad2 g1 (rank_bad s2 (.inr a)), io_of i1 i2 (by rw [if_neg a1, if_neg b1, if_neg (by rw [a]; decide), if_pos a])⟩
  obtain ⟨r2, g2, dg2, nr2, vr2, lr2⟩ := rank_good h hS hw2 s2 a2 b2
  have hf := so_fin r1 r2 p.2.1 q.2.1 dg1 nr1 lr1 dg2 nr2 lr2
  rw [vr1, vr2] at hf
  refine ⟨_, so_good g1 g2 hf, io_of i1 i2 ?_⟩
  rw [if_neg a1, if_neg b1, if_neg a2, if_neg b2]
  exact tail_ev h f hI w1 w2 hw1 hw2 p q p.2.1 q.2.1 d1 d2 rfl rfl
theorem order_same (f : Int) (w1 w2 : Nat) (hw1 : w1 < B128) (hw2 : w2 < B128) : ∃ R : Int, Ev (fun k => spec_Order.f k f (hiI w1) (loI w1) (hiI w2) (loI w2)) R ∧ Ev (fun k => impl_Order.f k f (hiI w1) (loI w1) (hiI w2) (loI w2)) R := by
  by_cases h0 : f = 0
  · subst h0; exact order_fmt fmt0 0 rfl rfl w1 w2 hw1 hw2
  by_cases h1 : f = 1
  · subst h1; exact order_fmt fmt1 1 rfl rfl w1 w2 hw1 hw2
  by_cases h2 : f = 2
  · subst h2; exact order_fmt fmt2 2 rfl rfl w1 w2 hw1 hw2
  by_cases h3 : f = 3
  · subst h3; exact order_fmt fmt3 3 rfl rfl w1 w2 hw1 hw2
  obtain ⟨s1, i1⟩ := unpack_none f w1 h0 h1 h2 h3
  obtain ⟨s2, i2⟩ := unpack_none f w2 h0 h1 h2 h3
  exact ⟨2, bad_both s1 i1 i2 (.inl rfl) (rank_bad s2 (.inl rfl))⟩
theorem order_law (f : Int) (w1 w2 : Nat) (hw1 : w1 < B128) (hw2 : w2 < B128) : Ev (fun k => laws_FnExactOrder.f k f (hiI w1) (loI w1) (hiI w2) (loI w2)) true := by
  obtain ⟨R, hs, hi⟩ := order_same f w1 w2 hw1 hw2
  refine Ev.congr (f := fun k => (spec_Order.f k f (hiI w1) (loI w1) (hiI w2) (loI w2)).bind fun a => (impl_Order.f k f (hiI w1) (loI w1) (hiI w2) (loI w2)).bind fun b => if b = a then some true else some false) (fun k => rfl) (Ev.bind hs (Ev.bind hi (ev_const ?_)))
  rw [if_pos rfl]
end Go.Proofs.YtdbnmdchecacdaaDoor.M
end
