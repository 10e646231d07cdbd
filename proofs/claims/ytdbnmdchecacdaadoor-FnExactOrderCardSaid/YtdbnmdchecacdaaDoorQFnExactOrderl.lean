import Derived.Test.YtdbnmdchecacdaaDoorQFnExactOrderk
section
namespace Go.Proofs.YtdbnmdchecacdaaDoor.PP
open Go.RowKit Go.Proofs.YtdbnmdchecacdaaDoor.G Go.Proofs.YtdbnmdchecacdaaDoorV.PrintWords Go.Proofs.YtdbnmdchecacdaaDoorV.PrintLast Go.Proofs.YtdbnmdchecacdaaDoorV.PrintMore
attribute [local go_sem] max2_int min2_int max_two min_two max_three min_three max_four min_four run_Add64 run_Sub64 fld25_1
set_option linter.unusedVariables false
set_option linter.unusedSimpArgs false
def impl_Order.l0 : Nat → Int → List (S27) → Int → Int → Int → Int → Int → Int → Int → Bool → Int → Int → Int → Int → Bool → Int → Int → Int → Option (Int)
 | 0, _, _, _, _, _, _, _, _, _, _, _, _, _, _, _, _, _, _ => none
 | k + 1, x0, x24, x25, x26, x342000, x342001, x343000, x343001, x354000, x354001, x354002, x354003, x354004, x355000, x355001, x355002, x355003, x355004 => if x26 < x25 then (if 0 ≤ x26 then (if x26 < (x24.length : Int) then (if ((rd_T27 x24 x26).f0) = 0 then (some 2) else (if ((rd_T27 x24 x26).f0) = 5 then (some 2) else (impl_Order.l0 k x0 x24 x25 (wrap64 (x26 + 1)) x342000 x342001 x343000 x343001 x354000 x354001 x354002 x354003 x354004 x355000 x355001 x355002 x355003 x355004))) else (none)) else (none)) else ((impl_Order_1.f x354000 x354001 x354002 x354003 x354004).bind fun t360 => ((impl_Order_1.f x355000 x355001 x355002 x355003 x355004).bind fun t361 => (if t360 = t361 then ((impl_layoutOf.f x0).bind fun bt362 => ((impl_Word_low.f x342000 x342001 (wrap64 (bt362.2.2.2.1 - 1))).bind fun bt370 => ((impl_Word_nat.f bt370.1 bt370.2).bind fun t372 => ((impl_Word_low.f x343000 x343001 (wrap64 (bt362.2.2.2.1 - 1))).bind fun bt375 => ((impl_Word_nat.f bt375.1 bt375.2).bind fun t377 => ((impl_nat_cmp.f k t372 t377).bind fun t380 => (some (wrap64 (t360 * t380))))))))) else (some (mx (-1) (mn 1 (wrap64 (t360 - t361))))))))
def impl_Order.f (k : Nat) (a0 : Int) (a1_0 : Int) (a1_1 : Int) (a2_0 : Int) (a2_1 : Int) : Option (Int) := (impl_Unpack.f k a0 a1_0 a1_1).bind fun bt343 => ((impl_Unpack.f k a0 a2_0 a2_1).bind fun bt348 => ((some (([(⟨bt343.1, bt343.2.1, (⟨bt343.2.2.1, bt343.2.2.2.1⟩ : S25), bt343.2.2.2.2⟩ : S27), (⟨bt348.1, bt348.2.1, (⟨bt348.2.2.1, bt348.2.2.2.1⟩ : S25), bt348.2.2.2.2⟩ : S27)] : List (S27)) : List (S27))).bind fun y355 => (impl_Order.l0 k a0 y355 (y355.length : Int) 0 a1_0 a1_1 a2_0 a2_1 bt343.1 bt343.2.1 bt343.2.2.1 bt343.2.2.2.1 bt343.2.2.2.2 bt348.1 bt348.2.1 bt348.2.2.1 bt348.2.2.2.1 bt348.2.2.2.2)))
def impl_Order.T1 : Bool × List (List Nat × List Nat) := (true, [([], []), ([], []), ([0, 1], [0, 1]), ([], []), ([], []), ([3, 4, 2], [3, 4]), ([], []), ([], []), ([6, 2, 5, 0, 1, 2, 6, 7], [2, 6]), ([7, 5, 8, 0, 1, 2, 3, 4, 5, 6, 7, 8], [5, 7])])
def impl_Order.B1 : List Nat := [0, 0, 3, 0, 0, 31, 0, 0, 255, 511]
theorem impl_Order.tab1 : rtab .any (opsOf Tryd.f20 1) = impl_Order.T1 := by kernel_rfl
theorem impl_Order.bits1 : waitsOk impl_Order.T1.2 impl_Order.B1 = true := by kernel_rfl
def impl_Order.T9 : Bool × List (List Nat × List Nat) := (true, [([], []), ([], []), ([0, 1], [0, 1]), ([], []), ([], []), ([3, 4, 2], [3, 4]), ([2, 5, 0, 1, 2], [2]), ([5, 6, 0, 1, 2, 3, 4, 5, 6], [5])])
def impl_Order.B9 : List Nat := [0, 0, 3, 0, 0, 31, 63, 127]
theorem impl_Order.tab9 : rtab .any (opsOf Tryd.f20 9) = impl_Order.T9 := by kernel_rfl
theorem impl_Order.bits9 : waitsOk impl_Order.T9.2 impl_Order.B9 = true := by kernel_rfl
def impl_Order.T13 : Bool × List (List Nat × List Nat) := (true, [([], []), ([], []), ([], []), ([2], [2]), ([3], [3]), ([4], [4]), ([1, 5], [1, 5]), ([6, 6], [6]), ([], []), ([], []), ([9], [9]), ([10], [10]), ([11], [11]), ([8, 12, 7], [8, 12]), ([13, 13], [13]), ([7, 14, 14], [7, 14]), ([0, 15], [0, 15]), ([16, 15, 0, 1, 2, 3, 4, 5, 6, 7, 8, 9, 10, 11, 12, 13, 14, 15, 16], [16])])
def impl_Order.B13 : List Nat := [0, 0, 0, 4, 12, 28, 62, 126, 0, 0, 512, 1536, 3584, 8190, 16382, 32766, 65535, 131071]
theorem impl_Order.tab13 : rtab .any (opsOf Tryd.f20 13) = impl_Order.T13 := by kernel_rfl
theorem impl_Order.bits13 : waitsOk impl_Order.T13.2 impl_Order.B13 = true := by kernel_rfl
set_option maxHeartbeats 8000000 in
set_option maxRecDepth 100000 in
theorem impl_Order.calls (k : Nat) (a0 : Int) (a1_0 : Int) (a1_1 : Int) (a2_0 : Int) (a2_1 : Int) (r : Int) (w : World) (hT : Tabled w) (h : impl_Order.f k a0 a1_0 a1_1 a2_0 a2_1 = some r) :
  Calls Tryd.prog 20 #[.int .i64 a0, .agg #[.int .u64 a1_0, .int .u64 a1_1], .agg #[.int .u64 a2_0, .int .u64 a2_1]] w fun e w' => e = .returned (.int .i64 r) ∧ Below w.heap.size w w' := by
 have hu25 := Tryd.underlying25
 have hu27 := Tryd.underlying27
 have hu91 := Tryd.underlying91
 have HTb_ := zM hT
 clear hT
 have HB := zM (Below.refl w.heap.size w)
 have H : ((impl_Unpack.f k a0 a1_0 a1_1).bind fun bt343 => ((impl_Unpack.f k a0 a2_0 a2_1).bind fun bt348 => ((some (([(⟨bt343.1, bt343.2.1, (⟨bt343.2.2.1, bt343.2.2.2.1⟩ : S25), bt343.2.2.2.2⟩ : S27), (⟨bt348.1, bt348.2.1, (⟨bt348.2.2.1, bt348.2.2.2.1⟩ : S25), bt348.2.2.2.2⟩ : S27)] : List (S27)) : List (S27))).bind fun y355 => (impl_Order.l0 k a0 y355 (y355.length : Int) 0 a1_0 a1_1 a2_0 a2_1 bt343.1 bt343.2.1 bt343.2.2.1 bt343.2.2.2.1 bt343.2.2.2.2 bt348.1 bt348.2.1 bt348.2.2.1 bt348.2.2.2.1 bt348.2.2.2.2)))) = some r := h
 clear h
 replace H := Option.bind_eq_some_iff.mp H
 obtain ⟨⟨t343, t344, t345, t346, t347⟩, A40, H⟩ := H
 replace H : ((impl_Unpack.f k a0 a2_0 a2_1).bind fun bt348 => ((some (([(⟨t343, t344, (⟨t345, t346⟩ : S25), t347⟩ : S27), (⟨bt348.1, bt348.2.1, (⟨bt348.2.2.1, bt348.2.2.2.1⟩ : S25), bt348.2.2.2.2⟩ : S27)] : List (S27)) : List (S27))).bind fun y355 => (impl_Order.l0 k a0 y355 (y355.length : Int) 0 a1_0 a1_1 a2_0 a2_1 t343 t344 t345 t346 t347 bt348.1 bt348.2.1 bt348.2.2.1 bt348.2.2.2.1 bt348.2.2.2.2))) = some r := H
 have A4 := zM A40
 clear A40
 replace H := Option.bind_eq_some_iff.mp H
 obtain ⟨⟨t348, t349, t350, t351, t352⟩, A50, H⟩ := H
 replace H : ((some (([(⟨t343, t344, (⟨t345, t346⟩ : S25), t347⟩ : S27), (⟨t348, t349, (⟨t350, t351⟩ : S25), t352⟩ : S27)] : List (S27)) : List (S27))).bind fun y355 => (impl_Order.l0 k a0 y355 (y355.length : Int) 0 a1_0 a1_1 a2_0 a2_1 t343 t344 t345 t346 t347 t348 t349 t350 t351 t352)) = some r := H
 have A5 := zM A50
 clear A50
 obtain ⟨y355, hy355⟩ : ∃ y_ : List (S27), y_ = (([(⟨t343, t344, (⟨t345, t346⟩ : S25), t347⟩ : S27), (⟨t348, t349, (⟨t350, t351⟩ : S25), t352⟩ : S27)] : List (S27))) := ⟨_, rfl⟩
 replace H : (impl_Order.l0 k a0 y355 (y355.length : Int) 0 a1_0 a1_1 a2_0 a2_1 t343 t344 t345 t346 t347 t348 t349 t350 t351 t352) = some r := by first | (rw [hy355]; with_reducible exact H) | (have H2_ := (Option.bind_some _ _).symm.trans H; rw [hy355]; with_reducible exact H2_) | (have H2_ := (Option.bind_some _ _).symm.trans H; with_reducible exact H2_) | with_reducible exact H | (rw [hy355]; exact H) | exact H
 have Ny355 := zM hy355
 clear hy355
 have H' := zM H
 clear H
 go_enter Tryd.func20, Tryd.ntmps20
 try go_wp2_with (first | ((with_reducible refine gate_dst (N := 4) rfl ?_); refine box_event ?hg (N := 4) ?hd (cs := #[.int .u64 a1_0, .int .u64 a1_1]) (t := 25) ?hr ?_; (case hd => rfl); (case hg => rfl); (case hr => first | (go_simp; done) | (go_simp; rfl)); intro gb341 hg w6 hbox hb; have n0_ := zM (below_step (by repeat (first | (with_reducible first | exact HB.out | apply yA | apply yN | apply yD) | exact HB.out)) hb); have n1_ := zM (hbox); have n2_ := zM ((by rw [hg]; exact (below_size (by repeat (first | (with_reducible first | exact HB.out | apply yA | apply yN | apply yD) | exact HB.out))) : w.heap.size ≤ gb341)); have n3_ := zM ((by rw [hg]; exact (below_size (by repeat (first | (with_reducible first | exact HB.out | apply yA | apply yN | apply yD) | exact HB.out))) : w.heap.size ≤ gb341)); clear HB; have HB := n0_; have BK341 := n1_; have GW341 := n2_; have GE341 := n3_; clear n0_ n1_ n2_ n3_; clear hb hbox hg) | ((with_reducible refine gate_dst (N := 5) rfl ?_); refine box_event ?hg (N := 5) ?hd (cs := #[.int .u64 a2_0, .int .u64 a2_1]) (t := 25) ?hr ?_; (case hd => rfl); (case hg => rfl); (case hr => first | (go_simp; done) | (go_simp; rfl)); intro gb342 hg w7 hbox hb; have n0_ := zM (blk_below (g := gb341) (o := .cells #[.int .u64 a1_0, .int .u64 a1_1] 25 (0, 0)) (by (with_reducible repeat (first | apply zN | apply zD | apply zA)); exact BK341.out) hb); have n1_ := zM (below_step (by repeat (first | (with_reducible first | exact HB.out | apply yA | apply yN | apply yD | refine below_set ?_ GE341.out) | exact HB.out)) hb); have n2_ := zM (hbox); have n3_ := zM ((by rw [hg]; exact (below_size (by repeat (first | (with_reducible first | exact HB.out | apply yA | apply yN | apply yD | refine below_set ?_ GE341.out) | exact HB.out))) : w.heap.size ≤ gb342)); have n4_ := zM ((by rw [hg]; exact (below_size (by repeat (first | (with_reducible first | exact HB.out | apply yA | apply yN | apply yD | refine below_set ?_ GE341.out) | exact HB.out))) : w.heap.size ≤ gb342)); have n5_ := zM ((by rw [hg]; exact Nat.ne_of_lt (blk_lt (g := gb341) (o := .cells #[.int .u64 a1_0, .int .u64 a1_1] 25 (0, 0)) (by (with_reducible repeat (first | apply zN | apply zD | apply zA)); exact BK341.out)) : gb341 ≠ gb342)); have n6_ := zM ((by rw [hg]; exact Nat.ne_of_gt (blk_lt (g := gb341) (o := .cells #[.int .u64 a1_0, .int .u64 a1_1] 25 (0, 0)) (by (with_reducible repeat (first | apply zN | apply zD | apply zA)); exact BK341.out)) : gb342 ≠ gb341)); clear BK341; clear HB; have BK341 := n0_; have HB := n1_; have BK342 := n2_; have GW342 := n3_; have GE342 := n4_; have NB341_342 := n5_; have NB342_341 := n6_; clear n0_ n1_ n2_ n3_ n4_ n5_ n6_; clear hb hbox hg))
 have n0_ := zM (zD BK341.out)
 have n1_ := zM (zD BK342.out)
 have n2_ := zM (yD HB.out)
 clear BK341
 clear BK342
 clear HB
 have BK341 := n0_
 have BK342 := n1_
 have HB := n2_
 clear n0_ n1_ n2_
 refine start_ (n := 10) (S := fun w' => w'.cell? ⟨gb341, 0, none⟩ = some (.int .u64 a1_0) ∧ w'.cell? ⟨gb341, 1, none⟩ = some (.int .u64 a1_1) ∧ w'.cell? ⟨gb342, 0, none⟩ = some (.int .u64 a2_0) ∧ w'.cell? ⟨gb342, 1, none⟩ = some (.int .u64 a2_1)) (ds := []) #[false, false, false, false, false, false, false, false, false, false] (by kernel_rfl) rfl rfl ⟨(blk_cell BK341.out 0).trans rfl, (blk_cell BK341.out 1).trans rfl, (blk_cell BK342.out 0).trans rfl, (blk_cell BK342.out 1).trans rfl⟩ (fun hHeld => ?_); refine with_tabW impl_Order.tab1 impl_Order.bits1 (fun HT_ HW_ => ?_)
 generalize w7.drew = w8 at BK341 BK342 HB hHeld ⊢
 refine pure_ (i := 0) (N := some 16) (v := ?_) (a' := ?_) #[true, false, false, false, false, false, false, false, false, false] rfl rfl (any_of HT_.out (by kernel_rfl)) (fun _ _ _ h => h) (Or.inl ⟨by rfl, ?_⟩) ?_ ?_
 rotate_left
 ·intro w'
  go_simp
  with_reducible rfl
 rotate_left
 ·simp only [Act.put, xT, xZ, xS, i64_w, i32_w]
  rfl
 refine pure_ (i := 3) (N := some 19) (v := ?_) (a' := ?_) #[true, false, false, true, false, false, false, false, false, false] rfl rfl (any_of HT_.out (by kernel_rfl)) (fun _ _ _ h => h) (Or.inl ⟨by rfl, ?_⟩) ?_ ?_
 rotate_left
 ·intro w'
  go_simp
  with_reducible rfl
 rotate_left
 ·simp only [Act.put, xT, xZ, xS, i64_w, i32_w]
  rfl
 refine take_ (i := 1) (N := some 17) (v := ?_) (a' := ?_) #[true, true, false, true, false, false, false, false, false, false] rfl rfl (take_ofW HT_.out HW_.out (by kernel_rfl)) (fun _ _ _ h => h) (Or.inl ⟨by rfl, ?_⟩) hHeld ?_ ?_
 rotate_left
 ·rintro w' ⟨s0, s1, s2, s3⟩
  go_simp
  with_reducible rfl
 rotate_left
 ·simp only [Act.put, xT, xZ, xS, i64_w, i32_w]
  rfl
 refine take_ (i := 4) (N := some 20) (v := ?_) (a' := ?_) #[true, true, false, true, true, false, false, false, false, false] rfl rfl (take_ofW HT_.out HW_.out (by kernel_rfl)) (fun _ _ _ h => h) (Or.inl ⟨by rfl, ?_⟩) hHeld ?_ ?_
 rotate_left
 ·rintro w' ⟨s0, s1, s2, s3⟩
  go_simp
  with_reducible rfl
 rotate_left
 ·simp only [Act.put, xT, xZ, xS, i64_w, i32_w]
  rfl
 refine join_ (σ := Nat × Nat) 2 #[true, true, true, true, true, true, true, true, false, false] (fun s_ => [(18, .agg #[.int .i64 t343, .bool t344, .int .u64 t345, .int .u64 t346, .int .i64 t347]), (21, .agg #[.int .i64 t348, .bool t349, .int .u64 t350, .int .u64 t351, .int .i64 t352]), (7, .pointer (some ⟨s_.1, 0, none⟩)), (8, .pointer (some ⟨s_.2, 0, none⟩))]) (fun s_ w' => (w'.cell? ⟨gb341, 0, none⟩ = some (.int .u64 a1_0) ∧ w'.cell? ⟨gb341, 1, none⟩ = some (.int .u64 a1_1) ∧ w'.cell? ⟨gb342, 0, none⟩ = some (.int .u64 a2_0) ∧ w'.cell? ⟨gb342, 1, none⟩ = some (.int .u64 a2_1)) ∧ (w'.heap[gb341]? = some (.cells #[.int .u64 a1_0, .int .u64 a1_1] 25 (0, 0))) ∧ (w'.heap[gb342]? = some (.cells #[.int .u64 a2_0, .int .u64 a2_1] 25 (0, 0))) ∧ (w'.heap[s_.1]? = some (.cells #[.int .i64 0, .bool false, .int .u64 0, .int .u64 0, .int .i64 0] 27 (0, 0))) ∧ (w'.heap[s_.2]? = some (.cells #[.int .i64 0, .bool false, .int .u64 0, .int .u64 0, .int .i64 0] 27 (0, 0))) ∧ (w.heap.size ≤ s_.1) ∧ (w.heap.size ≤ s_.1) ∧ (gb341 ≠ s_.1) ∧ (s_.1 ≠ gb341) ∧ (gb342 ≠ s_.1) ∧ (s_.1 ≠ gb342) ∧ (s_.2 ≠ s_.1) ∧ (s_.1 ≠ s_.2) ∧ (w.heap.size ≤ s_.2) ∧ (w.heap.size ≤ s_.2) ∧ (gb341 ≠ s_.2) ∧ (s_.2 ≠ gb341) ∧ (gb342 ≠ s_.2) ∧ (s_.2 ≠ gb342) ∧ (Below w.heap.size w w')) ?_ ?_
 rotate_left
 ·intro hJ2_5_6_7
  refine join_ (σ := Nat) 3 #[true, true, true, true, true, true, true, false, false, false] (fun s_ => [(18, .agg #[.int .i64 t343, .bool t344, .int .u64 t345, .int .u64 t346, .int .i64 t347]), (21, .agg #[.int .i64 t348, .bool t349, .int .u64 t350, .int .u64 t351, .int .i64 t352]), (7, .pointer (some ⟨s_, 0, none⟩))]) (fun s_ w' => (w'.cell? ⟨gb341, 0, none⟩ = some (.int .u64 a1_0) ∧ w'.cell? ⟨gb341, 1, none⟩ = some (.int .u64 a1_1) ∧ w'.cell? ⟨gb342, 0, none⟩ = some (.int .u64 a2_0) ∧ w'.cell? ⟨gb342, 1, none⟩ = some (.int .u64 a2_1)) ∧ (w'.heap[gb341]? = some (.cells #[.int .u64 a1_0, .int .u64 a1_1] 25 (0, 0))) ∧ (w'.heap[gb342]? = some (.cells #[.int .u64 a2_0, .int .u64 a2_1] 25 (0, 0))) ∧ (w'.heap[s_]? = some (.cells #[.int .i64 0, .bool false, .int .u64 0, .int .u64 0, .int .i64 0] 27 (0, 0))) ∧ (w.heap.size ≤ s_) ∧ (w.heap.size ≤ s_) ∧ (gb341 ≠ s_) ∧ (s_ ≠ gb341) ∧ (gb342 ≠ s_) ∧ (s_ ≠ gb342) ∧ (Below w.heap.size w w')) ?_ ?_
  rotate_left
  ·intro hJ2_5_6
   refine join_ (σ := Nat) 3 #[true, true, true, true, true, true, false, true, false, false] (fun s_ => [(18, .agg #[.int .i64 t343, .bool t344, .int .u64 t345, .int .u64 t346, .int .i64 t347]), (21, .agg #[.int .i64 t348, .bool t349, .int .u64 t350, .int .u64 t351, .int .i64 t352]), (8, .pointer (some ⟨s_, 0, none⟩))]) (fun s_ w' => (w'.cell? ⟨gb341, 0, none⟩ = some (.int .u64 a1_0) ∧ w'.cell? ⟨gb341, 1, none⟩ = some (.int .u64 a1_1) ∧ w'.cell? ⟨gb342, 0, none⟩ = some (.int .u64 a2_0) ∧ w'.cell? ⟨gb342, 1, none⟩ = some (.int .u64 a2_1)) ∧ (w'.heap[gb341]? = some (.cells #[.int .u64 a1_0, .int .u64 a1_1] 25 (0, 0))) ∧ (w'.heap[gb342]? = some (.cells #[.int .u64 a2_0, .int .u64 a2_1] 25 (0, 0))) ∧ (w'.heap[s_]? = some (.cells #[.int .i64 0, .bool false, .int .u64 0, .int .u64 0, .int .i64 0] 27 (0, 0))) ∧ (w.heap.size ≤ s_) ∧ (w.heap.size ≤ s_) ∧ (gb341 ≠ s_) ∧ (s_ ≠ gb341) ∧ (gb342 ≠ s_) ∧ (s_ ≠ gb342) ∧ (Below w.heap.size w w')) ?_ ?_
   rotate_left
   ·intro hJ2_5_7
    refine join_ (σ := Nat × Nat) 3 #[true, true, true, true, true, false, true, true, false, false] (fun s_ => [(18, .agg #[.int .i64 t343, .bool t344, .int .u64 t345, .int .u64 t346, .int .i64 t347]), (7, .pointer (some ⟨s_.1, 0, none⟩)), (8, .pointer (some ⟨s_.2, 0, none⟩))]) (fun s_ w' => (w'.cell? ⟨gb341, 0, none⟩ = some (.int .u64 a1_0) ∧ w'.cell? ⟨gb341, 1, none⟩ = some (.int .u64 a1_1) ∧ w'.cell? ⟨gb342, 0, none⟩ = some (.int .u64 a2_0) ∧ w'.cell? ⟨gb342, 1, none⟩ = some (.int .u64 a2_1)) ∧ (w'.heap[gb341]? = some (.cells #[.int .u64 a1_0, .int .u64 a1_1] 25 (0, 0))) ∧ (w'.heap[gb342]? = some (.cells #[.int .u64 a2_0, .int .u64 a2_1] 25 (0, 0))) ∧ (w'.heap[s_.1]? = some (.cells #[.int .i64 0, .bool false, .int .u64 0, .int .u64 0, .int .i64 0] 27 (0, 0))) ∧ (w'.heap[s_.2]? = some (.cells #[.int .i64 0, .bool false, .int .u64 0, .int .u64 0, .int .i64 0] 27 (0, 0))) ∧ (w.heap.size ≤ s_.1) ∧ (w.heap.size ≤ s_.1) ∧ (gb341 ≠ s_.1) ∧ (s_.1 ≠ gb341) ∧ (gb342 ≠ s_.1) ∧ (s_.1 ≠ gb342) ∧ (s_.2 ≠ s_.1) ∧ (s_.1 ≠ s_.2) ∧ (w.heap.size ≤ s_.2) ∧ (w.heap.size ≤ s_.2) ∧ (gb341 ≠ s_.2) ∧ (s_.2 ≠ gb341) ∧ (gb342 ≠ s_.2) ∧ (s_.2 ≠ gb342) ∧ (Below w.heap.size w w')) ?_ ?_
    rotate_left
    ·intro hJ2_6_7
     refine join_ (σ := Unit) 4 #[true, true, true, true, true, true, false, false, false, false] (fun s_ => [(18, .agg #[.int .i64 t343, .bool t344, .int .u64 t345, .int .u64 t346, .int .i64 t347]), (21, .agg #[.int .i64 t348, .bool t349, .int .u64 t350, .int .u64 t351, .int .i64 t352])]) (fun s_ w' => (w'.cell? ⟨gb341, 0, none⟩ = some (.int .u64 a1_0) ∧ w'.cell? ⟨gb341, 1, none⟩ = some (.int .u64 a1_1) ∧ w'.cell? ⟨gb342, 0, none⟩ = some (.int .u64 a2_0) ∧ w'.cell? ⟨gb342, 1, none⟩ = some (.int .u64 a2_1)) ∧ (w'.heap[gb341]? = some (.cells #[.int .u64 a1_0, .int .u64 a1_1] 25 (0, 0))) ∧ (w'.heap[gb342]? = some (.cells #[.int .u64 a2_0, .int .u64 a2_1] 25 (0, 0))) ∧ (Below w.heap.size w w')) ?_ ?_
     rotate_left
     ·intro hJ2_5
      refine join_ (σ := Nat) 4 #[true, true, true, true, true, false, true, false, false, false] (fun s_ => [(18, .agg #[.int .i64 t343, .bool t344, .int .u64 t345, .int .u64 t346, .int .i64 t347]), (7, .pointer (some ⟨s_, 0, none⟩))]) (fun s_ w' => (w'.cell? ⟨gb341, 0, none⟩ = some (.int .u64 a1_0) ∧ w'.cell? ⟨gb341, 1, none⟩ = some (.int .u64 a1_1) ∧ w'.cell? ⟨gb342, 0, none⟩ = some (.int .u64 a2_0) ∧ w'.cell? ⟨gb342, 1, none⟩ = some (.int .u64 a2_1)) ∧ (w'.heap[gb341]? = some (.cells #[.int .u64 a1_0, .int .u64 a1_1] 25 (0, 0))) ∧ (w'.heap[gb342]? = some (.cells #[.int .u64 a2_0, .int .u64 a2_1] 25 (0, 0))) ∧ (w'.heap[s_]? = some (.cells #[.int .i64 0, .bool false, .int .u64 0, .int .u64 0, .int .i64 0] 27 (0, 0))) ∧ (w.heap.size ≤ s_) ∧ (w.heap.size ≤ s_) ∧ (gb341 ≠ s_) ∧ (s_ ≠ gb341) ∧ (gb342 ≠ s_) ∧ (s_ ≠ gb342) ∧ (Below w.heap.size w w')) ?_ ?_
      rotate_left
      ·intro hJ2_6
       refine join_ (σ := Nat) 4 #[true, true, true, true, true, false, false, true, false, false] (fun s_ => [(18, .agg #[.int .i64 t343, .bool t344, .int .u64 t345, .int .u64 t346, .int .i64 t347]), (8, .pointer (some ⟨s_, 0, none⟩))]) (fun s_ w' => (w'.cell? ⟨gb341, 0, none⟩ = some (.int .u64 a1_0) ∧ w'.cell? ⟨gb341, 1, none⟩ = some (.int .u64 a1_1) ∧ w'.cell? ⟨gb342, 0, none⟩ = some (.int .u64 a2_0) ∧ w'.cell? ⟨gb342, 1, none⟩ = some (.int .u64 a2_1)) ∧ (w'.heap[gb341]? = some (.cells #[.int .u64 a1_0, .int .u64 a1_1] 25 (0, 0))) ∧ (w'.heap[gb342]? = some (.cells #[.int .u64 a2_0, .int .u64 a2_1] 25 (0, 0))) ∧ (w'.heap[s_]? = some (.cells #[.int .i64 0, .bool false, .int .u64 0, .int .u64 0, .int .i64 0] 27 (0, 0))) ∧ (w.heap.size ≤ s_) ∧ (w.heap.size ≤ s_) ∧ (gb341 ≠ s_) ∧ (s_ ≠ gb341) ∧ (gb342 ≠ s_) ∧ (s_ ≠ gb342) ∧ (Below w.heap.size w w')) ?_ ?_
       rotate_left
       ·intro hJ2_7
        refine join_ (σ := Nat × Nat) 4 #[true, true, false, true, true, false, true, true, false, false] (fun s_ => [(7, .pointer (some ⟨s_.1, 0, none⟩)), (8, .pointer (some ⟨s_.2, 0, none⟩))]) (fun s_ w' => (w'.cell? ⟨gb341, 0, none⟩ = some (.int .u64 a1_0) ∧ w'.cell? ⟨gb341, 1, none⟩ = some (.int .u64 a1_1) ∧ w'.cell? ⟨gb342, 0, none⟩ = some (.int .u64 a2_0) ∧ w'.cell? ⟨gb342, 1, none⟩ = some (.int .u64 a2_1)) ∧ (w'.heap[gb341]? = some (.cells #[.int .u64 a1_0, .int .u64 a1_1] 25 (0, 0))) ∧ (w'.heap[gb342]? = some (.cells #[.int .u64 a2_0, .int .u64 a2_1] 25 (0, 0))) ∧ (w'.heap[s_.1]? = some (.cells #[.int .i64 0, .bool false, .int .u64 0, .int .u64 0, .int .i64 0] 27 (0, 0))) ∧ (w'.heap[s_.2]? = some (.cells #[.int .i64 0, .bool false, .int .u64 0, .int .u64 0, .int .i64 0] 27 (0, 0))) ∧ (w.heap.size ≤ s_.1) ∧ (w.heap.size ≤ s_.1) ∧ (gb341 ≠ s_.1) ∧ (s_.1 ≠ gb341) ∧ (gb342 ≠ s_.1) ∧ (s_.1 ≠ gb342) ∧ (s_.2 ≠ s_.1) ∧ (s_.1 ≠ s_.2) ∧ (w.heap.size ≤ s_.2) ∧ (w.heap.size ≤ s_.2) ∧ (gb341 ≠ s_.2) ∧ (s_.2 ≠ gb341) ∧ (gb342 ≠ s_.2) ∧ (s_.2 ≠ gb342) ∧ (Below w.heap.size w w')) ?_ ?_
        rotate_left
        ·intro hJ6_7
         refine join_ (σ := Unit) 5 #[true, true, true, true, true, false, false, false, false, false] (fun s_ => [(18, .agg #[.int .i64 t343, .bool t344, .int .u64 t345, .int .u64 t346, .int .i64 t347])]) (fun s_ w' => (w'.cell? ⟨gb341, 0, none⟩ = some (.int .u64 a1_0) ∧ w'.cell? ⟨gb341, 1, none⟩ = some (.int .u64 a1_1) ∧ w'.cell? ⟨gb342, 0, none⟩ = some (.int .u64 a2_0) ∧ w'.cell? ⟨gb342, 1, none⟩ = some (.int .u64 a2_1)) ∧ (w'.heap[gb341]? = some (.cells #[.int .u64 a1_0, .int .u64 a1_1] 25 (0, 0))) ∧ (w'.heap[gb342]? = some (.cells #[.int .u64 a2_0, .int .u64 a2_1] 25 (0, 0))) ∧ (Below w.heap.size w w')) ?_ ?_
         rotate_left
         ·intro hJ2
          refine join_ (σ := Nat) 5 #[true, true, false, true, true, false, true, false, false, false] (fun s_ => [(7, .pointer (some ⟨s_, 0, none⟩))]) (fun s_ w' => (w'.cell? ⟨gb341, 0, none⟩ = some (.int .u64 a1_0) ∧ w'.cell? ⟨gb341, 1, none⟩ = some (.int .u64 a1_1) ∧ w'.cell? ⟨gb342, 0, none⟩ = some (.int .u64 a2_0) ∧ w'.cell? ⟨gb342, 1, none⟩ = some (.int .u64 a2_1)) ∧ (w'.heap[gb341]? = some (.cells #[.int .u64 a1_0, .int .u64 a1_1] 25 (0, 0))) ∧ (w'.heap[gb342]? = some (.cells #[.int .u64 a2_0, .int .u64 a2_1] 25 (0, 0))) ∧ (w'.heap[s_]? = some (.cells #[.int .i64 0, .bool false, .int .u64 0, .int .u64 0, .int .i64 0] 27 (0, 0))) ∧ (w.heap.size ≤ s_) ∧ (w.heap.size ≤ s_) ∧ (gb341 ≠ s_) ∧ (s_ ≠ gb341) ∧ (gb342 ≠ s_) ∧ (s_ ≠ gb342) ∧ (Below w.heap.size w w')) ?_ ?_
          rotate_left
          ·intro hJ6
           refine join_ (σ := Nat) 5 #[true, true, false, true, true, false, false, true, false, false] (fun s_ => [(8, .pointer (some ⟨s_, 0, none⟩))]) (fun s_ w' => (w'.cell? ⟨gb341, 0, none⟩ = some (.int .u64 a1_0) ∧ w'.cell? ⟨gb341, 1, none⟩ = some (.int .u64 a1_1) ∧ w'.cell? ⟨gb342, 0, none⟩ = some (.int .u64 a2_0) ∧ w'.cell? ⟨gb342, 1, none⟩ = some (.int .u64 a2_1)) ∧ (w'.heap[gb341]? = some (.cells #[.int .u64 a1_0, .int .u64 a1_1] 25 (0, 0))) ∧ (w'.heap[gb342]? = some (.cells #[.int .u64 a2_0, .int .u64 a2_1] 25 (0, 0))) ∧ (w'.heap[s_]? = some (.cells #[.int .i64 0, .bool false, .int .u64 0, .int .u64 0, .int .i64 0] 27 (0, 0))) ∧ (w.heap.size ≤ s_) ∧ (w.heap.size ≤ s_) ∧ (gb341 ≠ s_) ∧ (s_ ≠ gb341) ∧ (gb342 ≠ s_) ∧ (s_ ≠ gb342) ∧ (Below w.heap.size w w')) ?_ ?_
           rotate_left
           ·intro hJ7
            refine three_ (i := 2) (j := 6) (k := 7) (Ni := some 18) (Nj := some 7) (Nk := some 8) #[true, true, true, true, true, false, false, false, false, false] #[true, true, false, true, true, false, true, false, false, false] #[true, true, false, true, true, false, false, true, false, false] rfl rfl rfl rfl rfl rfl (three_of HT_.out (by kernel_rfl)) (by decide) (by decide) (by decide) (fun K hK => ?_) (fun K hK => ?_) (fun K hK => ?_)
            ·skip
             refine goes_ Tryd.func17 (by kernel_rfl) rfl #[.int .i64 a0, .agg #[.int .u64 a1_0, .int .u64 a1_1]] (by rfl) rfl rfl (by (try simp only [List.map_toArray, List.map_cons, List.map_nil]); first | done | rfl | (simp only [List.length_drop, List.length_take]; rfl)) ?_
             with_reducible refine (impl_Unpack.calls k a0 a1_0 a1_1 t343 t344 t345 t346 t347 _ ?side1 A4.out).mono ?_
             (case side1 => exact tabled_below HTb_.out (by repeat (first | (with_reducible first | exact HB.out | apply yA | apply yN | apply yD | refine below_set ?_ GE341.out | refine below_set ?_ GE342.out) | exact HB.out)))
             rintro e w9 ⟨rfl, hb⟩
             refine ⟨_, rfl, ?_⟩
             have n0_ := zM (blk_below (g := gb341) (o := .cells #[.int .u64 a1_0, .int .u64 a1_1] 25 (0, 0)) (by (with_reducible repeat (first | apply zN | apply zD | apply zA)); exact BK341.out) hb)
             have n1_ := zM (blk_below (g := gb342) (o := .cells #[.int .u64 a2_0, .int .u64 a2_1] 25 (0, 0)) (by (with_reducible repeat (first | apply zN | apply zD | apply zA)); exact BK342.out) hb)
             have n2_ := zM (below_step (by repeat (first | (with_reducible first | exact HB.out | apply yA | apply yN | apply yD | refine below_set ?_ GE341.out | refine below_set ?_ GE342.out) | exact HB.out)) hb)
             clear BK341
             clear BK342
             clear HB
             have BK341 := n0_
             have BK342 := n1_
             have HB := n2_
             clear n0_ n1_ n2_
             (try clear hb)
             (try clear hb2)
             (try clear hk)
             (try clear hi)
             refine hK.out _ _ ⟨(blk_cell BK341.out 0).trans rfl, (blk_cell BK341.out 1).trans rfl, (blk_cell BK342.out 0).trans rfl, (blk_cell BK342.out 1).trans rfl⟩ (fun hHeld => ?_)
             clear hK K
             refine norm_ (a' := ?_) ?_ ?_
             rotate_left
             ·show Act.put _ (some 18) _ = _
              simp only [Act.put, xT, xZ, xS, i64_w, i32_w]
              rfl
             exact norm_ (by first | (simp only [putAll, Act.put, xT, xZ, xS]; done) | (simp only [putAll, Act.put, xT, xZ, xS]; rfl)) (hJ2 () _ ⟨hHeld, (by (with_reducible repeat (first | apply zN | apply zD | apply zA)); exact BK341.out), (by (with_reducible repeat (first | apply zN | apply zD | apply zA)); exact BK342.out), (by repeat (first | (with_reducible first | exact HB.out | apply yA | apply yN | apply yD | refine below_set ?_ GE341.out | refine below_set ?_ GE342.out) | exact HB.out))⟩)
            ·skip
             refine box_step ?hg (N := 7) ?hd (cs := #[.int .i64 0, .bool false, .int .u64 0, .int .u64 0, .int .i64 0]) (t := 27) ?hr ?_; (case hd => rfl); (case hg => rfl); (case hr => first | (go_simp; done) | (go_simp; rfl))
             intro gb353 hg w9 hbox hb
             have n0_ := zM (blk_below (g := gb341) (o := .cells #[.int .u64 a1_0, .int .u64 a1_1] 25 (0, 0)) (by (with_reducible repeat (first | apply zN | apply zD | apply zA)); exact BK341.out) hb)
             have n1_ := zM (blk_below (g := gb342) (o := .cells #[.int .u64 a2_0, .int .u64 a2_1] 25 (0, 0)) (by (with_reducible repeat (first | apply zN | apply zD | apply zA)); exact BK342.out) hb)
             have n2_ := zM (below_step (by repeat (first | (with_reducible first | exact HB.out | apply yA | apply yN | apply yD | refine below_set ?_ GE341.out | refine below_set ?_ GE342.out) | exact HB.out)) hb)
             have n3_ := zM (hbox)
             have n4_ := zM ((by rw [hg]; exact (below_size (by repeat (first | (with_reducible first | exact HB.out | apply yA | apply yN | apply yD | refine below_set ?_ GE341.out | refine below_set ?_ GE342.out) | exact HB.out))) : w.heap.size ≤ gb353))
             have n5_ := zM ((by rw [hg]; exact (below_size (by repeat (first | (with_reducible first | exact HB.out | apply yA | apply yN | apply yD | refine below_set ?_ GE341.out | refine below_set ?_ GE342.out) | exact HB.out))) : w.heap.size ≤ gb353))
             have n6_ := zM ((by rw [hg]; exact Nat.ne_of_lt (blk_lt (g := gb341) (o := .cells #[.int .u64 a1_0, .int .u64 a1_1] 25 (0, 0)) (by (with_reducible repeat (first | apply zN | apply zD | apply zA)); exact BK341.out)) : gb341 ≠ gb353))
             have n7_ := zM ((by rw [hg]; exact Nat.ne_of_gt (blk_lt (g := gb341) (o := .cells #[.int .u64 a1_0, .int .u64 a1_1] 25 (0, 0)) (by (with_reducible repeat (first | apply zN | apply zD | apply zA)); exact BK341.out)) : gb353 ≠ gb341))
             have n8_ := zM ((by rw [hg]; exact Nat.ne_of_lt (blk_lt (g := gb342) (o := .cells #[.int .u64 a2_0, .int .u64 a2_1] 25 (0, 0)) (by (with_reducible repeat (first | apply zN | apply zD | apply zA)); exact BK342.out)) : gb342 ≠ gb353))
             have n9_ := zM ((by rw [hg]; exact Nat.ne_of_gt (blk_lt (g := gb342) (o := .cells #[.int .u64 a2_0, .int .u64 a2_1] 25 (0, 0)) (by (with_reducible repeat (first | apply zN | apply zD | apply zA)); exact BK342.out)) : gb353 ≠ gb342))
             clear BK341
             clear BK342
             clear HB
             have BK341 := n0_
             have BK342 := n1_
             have HB := n2_
             have BK353 := n3_
             have GW353 := n4_
             have GE353 := n5_
             have NB341_353 := n6_
             have NB353_341 := n7_
             have NB342_353 := n8_
             have NB353_342 := n9_
             clear n0_ n1_ n2_ n3_ n4_ n5_ n6_ n7_ n8_ n9_
             clear hb hbox hg
             refine hK.out _ _ ⟨(blk_cell BK341.out 0).trans rfl, (blk_cell BK341.out 1).trans rfl, (blk_cell BK342.out 0).trans rfl, (blk_cell BK342.out 1).trans rfl⟩ (fun hHeld => ?_)
             clear hK K
             refine norm_ (a' := ?_) ?_ ?_
             rotate_left
             ·show Act.put _ (some 7) _ = _
              simp only [Act.put, xT, xZ, xS, i64_w, i32_w]
              rfl
             exact norm_ (by first | (simp only [putAll, Act.put, xT, xZ, xS]; done) | (simp only [putAll, Act.put, xT, xZ, xS]; rfl)) (hJ6 (gb353) _ ⟨hHeld, (by (with_reducible repeat (first | apply zN | apply zD | apply zA)); exact BK341.out), (by (with_reducible repeat (first | apply zN | apply zD | apply zA)); exact BK342.out), (by (with_reducible repeat (first | apply zN | apply zD | apply zA)); exact BK353.out), GW353.out, GE353.out, NB341_353.out, NB353_341.out, NB342_353.out, NB353_342.out, (by repeat (first | (with_reducible first | exact HB.out | apply yA | apply yN | apply yD | refine below_set ?_ GE341.out | refine below_set ?_ GE342.out | refine below_set ?_ GE353.out) | exact HB.out))⟩)
            ·skip
             refine box_step ?hg (N := 8) ?hd (cs := #[.int .i64 0, .bool false, .int .u64 0, .int .u64 0, .int .i64 0]) (t := 27) ?hr ?_; (case hd => rfl); (case hg => rfl); (case hr => first | (go_simp; done) | (go_simp; rfl))
             intro gb354 hg w9 hbox hb
             have n0_ := zM (blk_below (g := gb341) (o := .cells #[.int .u64 a1_0, .int .u64 a1_1] 25 (0, 0)) (by (with_reducible repeat (first | apply zN | apply zD | apply zA)); exact BK341.out) hb)
             have n1_ := zM (blk_below (g := gb342) (o := .cells #[.int .u64 a2_0, .int .u64 a2_1] 25 (0, 0)) (by (with_reducible repeat (first | apply zN | apply zD | apply zA)); exact BK342.out) hb)
             have n2_ := zM (below_step (by repeat (first | (with_reducible first | exact HB.out | apply yA | apply yN | apply yD | refine below_set ?_ GE341.out | refine below_set ?_ GE342.out) | exact HB.out)) hb)
             have n3_ := zM (hbox)
             have n4_ := zM ((by rw [hg]; exact (below_size (by repeat (first | (with_reducible first | exact HB.out | apply yA | apply yN | apply yD | refine below_set ?_ GE341.out | refine below_set ?_ GE342.out) | exact HB.out))) : w.heap.size ≤ gb354))
             have n5_ := zM ((by rw [hg]; exact (below_size (by repeat (first | (with_reducible first | exact HB.out | apply yA | apply yN | apply yD | refine below_set ?_ GE341.out | refine below_set ?_ GE342.out) | exact HB.out))) : w.heap.size ≤ gb354))
             have n6_ := zM ((by rw [hg]; exact Nat.ne_of_lt (blk_lt (g := gb341) (o := .cells #[.int .u64 a1_0, .int .u64 a1_1] 25 (0, 0)) (by (with_reducible repeat (first | apply zN | apply zD | apply zA)); exact BK341.out)) : gb341 ≠ gb354))
             have n7_ := zM ((by rw [hg]; exact Nat.ne_of_gt (blk_lt (g := gb341) (o := .cells #[.int .u64 a1_0, .int .u64 a1_1] 25 (0, 0)) (by (with_reducible repeat (first | apply zN | apply zD | apply zA)); exact BK341.out)) : gb354 ≠ gb341))
             have n8_ := zM ((by rw [hg]; exact Nat.ne_of_lt (blk_lt (g := gb342) (o := .cells #[.int .u64 a2_0, .int .u64 a2_1] 25 (0, 0)) (by (with_reducible repeat (first | apply zN | apply zD | apply zA)); exact BK342.out)) : gb342 ≠ gb354))
             have n9_ := zM ((by rw [hg]; exact Nat.ne_of_gt (blk_lt (g := gb342) (o := .cells #[.int .u64 a2_0, .int .u64 a2_1] 25 (0, 0)) (by (with_reducible repeat (first | apply zN | apply zD | apply zA)); exact BK342.out)) : gb354 ≠ gb342))
             clear BK341
             clear BK342
             clear HB
             have BK341 := n0_
             have BK342 := n1_
             have HB := n2_
             have BK354 := n3_
             have GW354 := n4_
             have GE354 := n5_
             have NB341_354 := n6_
             have NB354_341 := n7_
             have NB342_354 := n8_
             have NB354_342 := n9_
             clear n0_ n1_ n2_ n3_ n4_ n5_ n6_ n7_ n8_ n9_
             clear hb hbox hg
             refine hK.out _ _ ⟨(blk_cell BK341.out 0).trans rfl, (blk_cell BK341.out 1).trans rfl, (blk_cell BK342.out 0).trans rfl, (blk_cell BK342.out 1).trans rfl⟩ (fun hHeld => ?_)
             clear hK K
             refine norm_ (a' := ?_) ?_ ?_
             rotate_left
             ·show Act.put _ (some 8) _ = _
              simp only [Act.put, xT, xZ, xS, i64_w, i32_w]
              rfl
             exact norm_ (by first | (simp only [putAll, Act.put, xT, xZ, xS]; done) | (simp only [putAll, Act.put, xT, xZ, xS]; rfl)) (hJ7 (gb354) _ ⟨hHeld, (by (with_reducible repeat (first | apply zN | apply zD | apply zA)); exact BK341.out), (by (with_reducible repeat (first | apply zN | apply zD | apply zA)); exact BK342.out), (by (with_reducible repeat (first | apply zN | apply zD | apply zA)); exact BK354.out), GW354.out, GE354.out, NB341_354.out, NB354_341.out, NB342_354.out, NB354_342.out, (by repeat (first | (with_reducible first | exact HB.out | apply yA | apply yN | apply yD | refine below_set ?_ GE341.out | refine below_set ?_ GE342.out | refine below_set ?_ GE354.out) | exact HB.out))⟩)
           ·skip
            rintro gb354 w10 ⟨hS_, h0_, h1_, h2_, h3_, h4_, h5_, h6_, h7_, h8_, h9_⟩
            have n0_ : Aside0 (w10.heap[gb341]? = some (.cells #[.int .u64 a1_0, .int .u64 a1_1] 25 (0, 0))) := ⟨h0_⟩
            have n1_ : Aside0 (w10.heap[gb342]? = some (.cells #[.int .u64 a2_0, .int .u64 a2_1] 25 (0, 0))) := ⟨h1_⟩
            have n2_ : Aside0 (w10.heap[gb354]? = some (.cells #[.int .i64 0, .bool false, .int .u64 0, .int .u64 0, .int .i64 0] 27 (0, 0))) := ⟨h2_⟩
            have n3_ : Aside0 (w.heap.size ≤ gb354) := ⟨h3_⟩
            have n4_ : Aside0 (w.heap.size ≤ gb354) := ⟨h4_⟩
            have n5_ : Aside0 (gb341 ≠ gb354) := ⟨h5_⟩
            have n6_ : Aside0 (gb354 ≠ gb341) := ⟨h6_⟩
            have n7_ : Aside0 (gb342 ≠ gb354) := ⟨h7_⟩
            have n8_ : Aside0 (gb354 ≠ gb342) := ⟨h8_⟩
            have n9_ : Aside0 (Below w.heap.size w w10) := ⟨h9_⟩
            clear BK341
            clear BK342
            clear HB
            clear h0_ h1_ h2_ h3_ h4_ h5_ h6_ h7_ h8_ h9_
            have BK341 := n0_
            have BK342 := n1_
            have BK354 := n2_
            have GW354 := n3_
            have GE354 := n4_
            have NB341_354 := n5_
            have NB354_341 := n6_
            have NB342_354 := n7_
            have NB354_342 := n8_
            have HB := n9_
            clear n0_ n1_ n2_ n3_ n4_ n5_ n6_ n7_ n8_ n9_
            have hHeld : w10.cell? ⟨gb341, 0, none⟩ = some (.int .u64 a1_0) ∧ w10.cell? ⟨gb341, 1, none⟩ = some (.int .u64 a1_1) ∧ w10.cell? ⟨gb342, 0, none⟩ = some (.int .u64 a2_0) ∧ w10.cell? ⟨gb342, 1, none⟩ = some (.int .u64 a2_1) := hS_
            refine norm_ (a' := ?_) ?_ ?_
            rotate_left
            ·simp only [putAll, Act.put, xT, xZ, xS]
             rfl
            refine two_ (i := 2) (j := 6) (Ni := some 18) (Nj := some 7) #[true, true, true, true, true, false, false, true, false, false] #[true, true, false, true, true, false, true, true, false, false] rfl rfl rfl rfl (two_of HT_.out (by kernel_rfl)) (by decide) (by decide) (fun K hK => ?_) (fun K hK => ?_)
            ·skip
             refine goes_ Tryd.func17 (by kernel_rfl) rfl #[.int .i64 a0, .agg #[.int .u64 a1_0, .int .u64 a1_1]] (by rfl) rfl rfl (by (try simp only [List.map_toArray, List.map_cons, List.map_nil]); first | done | rfl | (simp only [List.length_drop, List.length_take]; rfl)) ?_
             with_reducible refine (impl_Unpack.calls k a0 a1_0 a1_1 t343 t344 t345 t346 t347 _ ?side1 A4.out).mono ?_
             (case side1 => exact tabled_below HTb_.out (by repeat (first | (with_reducible first | exact HB.out | apply yA | apply yN | apply yD | refine below_set ?_ GE341.out | refine below_set ?_ GE342.out | refine below_set ?_ GE354.out) | exact HB.out)))
             rintro e w11 ⟨rfl, hb⟩
             refine ⟨_, rfl, ?_⟩
             have n0_ := zM (blk_below (g := gb341) (o := .cells #[.int .u64 a1_0, .int .u64 a1_1] 25 (0, 0)) (by (with_reducible repeat (first | apply zN | apply zD | apply zA)); exact BK341.out) hb)
             have n1_ := zM (blk_below (g := gb342) (o := .cells #[.int .u64 a2_0, .int .u64 a2_1] 25 (0, 0)) (by (with_reducible repeat (first | apply zN | apply zD | apply zA)); exact BK342.out) hb)
             have n2_ := zM (blk_below (g := gb354) (o := .cells #[.int .i64 0, .bool false, .int .u64 0, .int .u64 0, .int .i64 0] 27 (0, 0)) (by (with_reducible repeat (first | apply zN | apply zD | apply zA)); exact BK354.out) hb)
             have n3_ := zM (below_step (by repeat (first | (with_reducible first | exact HB.out | apply yA | apply yN | apply yD | refine below_set ?_ GE341.out | refine below_set ?_ GE342.out | refine below_set ?_ GE354.out) | exact HB.out)) hb)
             clear BK341
             clear BK342
             clear BK354
             clear HB
             have BK341 := n0_
             have BK342 := n1_
             have BK354 := n2_
             have HB := n3_
             clear n0_ n1_ n2_ n3_
             (try clear hb)
             (try clear hb2)
             (try clear hk)
             (try clear hi)
             refine hK.out _ _ ⟨(blk_cell BK341.out 0).trans rfl, (blk_cell BK341.out 1).trans rfl, (blk_cell BK342.out 0).trans rfl, (blk_cell BK342.out 1).trans rfl⟩ (fun hHeld => ?_)
             clear hK K
             refine norm_ (a' := ?_) ?_ ?_
             rotate_left
             ·show Act.put _ (some 18) _ = _
              simp only [Act.put, xT, xZ, xS, i64_w, i32_w]
              rfl
             exact norm_ (by first | (simp only [putAll, Act.put, xT, xZ, xS]; done) | (simp only [putAll, Act.put, xT, xZ, xS]; rfl)) (hJ2_7 (gb354) _ ⟨hHeld, (by (with_reducible repeat (first | apply zN | apply zD | apply zA)); exact BK341.out), (by (with_reducible repeat (first | apply zN | apply zD | apply zA)); exact BK342.out), (by (with_reducible repeat (first | apply zN | apply zD | apply zA)); exact BK354.out), GW354.out, GE354.out, NB341_354.out, NB354_341.out, NB342_354.out, NB354_342.out, (by repeat (first | (with_reducible first | exact HB.out | apply yA | apply yN | apply yD | refine below_set ?_ GE341.out | refine below_set ?_ GE342.out | refine below_set ?_ GE354.out) | exact HB.out))⟩)
            ·skip
             refine box_step ?hg (N := 7) ?hd (cs := #[.int .i64 0, .bool false, .int .u64 0, .int .u64 0, .int .i64 0]) (t := 27) ?hr ?_; (case hd => rfl); (case hg => rfl); (case hr => first | (go_simp; done) | (go_simp; rfl))
             intro gb353 hg w11 hbox hb
             have n0_ := zM (blk_below (g := gb341) (o := .cells #[.int .u64 a1_0, .int .u64 a1_1] 25 (0, 0)) (by (with_reducible repeat (first | apply zN | apply zD | apply zA)); exact BK341.out) hb)
             have n1_ := zM (blk_below (g := gb342) (o := .cells #[.int .u64 a2_0, .int .u64 a2_1] 25 (0, 0)) (by (with_reducible repeat (first | apply zN | apply zD | apply zA)); exact BK342.out) hb)
             have n2_ := zM (blk_below (g := gb354) (o := .cells #[.int .i64 0, .bool false, .int .u64 0, .int .u64 0, .int .i64 0] 27 (0, 0)) (by (with_reducible repeat (first | apply zN | apply zD | apply zA)); exact BK354.out) hb)
             have n3_ := zM (below_step (by repeat (first | (with_reducible first | exact HB.out | apply yA | apply yN | apply yD | refine below_set ?_ GE341.out | refine below_set ?_ GE342.out | refine below_set ?_ GE354.out) | exact HB.out)) hb)
             have n4_ := zM (hbox)
             have n5_ := zM ((by rw [hg]; exact (below_size (by repeat (first | (with_reducible first | exact HB.out | apply yA | apply yN | apply yD | refine below_set ?_ GE341.out | refine below_set ?_ GE342.out | refine below_set ?_ GE354.out) | exact HB.out))) : w.heap.size ≤ gb353))
             have n6_ := zM ((by rw [hg]; exact (below_size (by repeat (first | (with_reducible first | exact HB.out | apply yA | apply yN | apply yD | refine below_set ?_ GE341.out | refine below_set ?_ GE342.out | refine below_set ?_ GE354.out) | exact HB.out))) : w.heap.size ≤ gb353))
             have n7_ := zM ((by rw [hg]; exact Nat.ne_of_lt (blk_lt (g := gb341) (o := .cells #[.int .u64 a1_0, .int .u64 a1_1] 25 (0, 0)) (by (with_reducible repeat (first | apply zN | apply zD | apply zA)); exact BK341.out)) : gb341 ≠ gb353))
             have n8_ := zM ((by rw [hg]; exact Nat.ne_of_gt (blk_lt (g := gb341) (o := .cells #[.int .u64 a1_0, .int .u64 a1_1] 25 (0, 0)) (by (with_reducible repeat (first | apply zN | apply zD | apply zA)); exact BK341.out)) : gb353 ≠ gb341))
             have n9_ := zM ((by rw [hg]; exact Nat.ne_of_lt (blk_lt (g := gb342) (o := .cells #[.int .u64 a2_0, .int .u64 a2_1] 25 (0, 0)) (by (with_reducible repeat (first | apply zN | apply zD | apply zA)); exact BK342.out)) : gb342 ≠ gb353))
             have n10_ := zM ((by rw [hg]; exact Nat.ne_of_gt (blk_lt (g := gb342) (o := .cells #[.int .u64 a2_0, .int .u64 a2_1] 25 (0, 0)) (by (with_reducible repeat (first | apply zN | apply zD | apply zA)); exact BK342.out)) : gb353 ≠ gb342))
             have n11_ := zM ((by rw [hg]; exact Nat.ne_of_lt (blk_lt (g := gb354) (o := .cells #[.int .i64 0, .bool false, .int .u64 0, .int .u64 0, .int .i64 0] 27 (0, 0)) (by (with_reducible repeat (first | apply zN | apply zD | apply zA)); exact BK354.out)) : gb354 ≠ gb353))
             have n12_ := zM ((by rw [hg]; exact Nat.ne_of_gt (blk_lt (g := gb354) (o := .cells #[.int .i64 0, .bool false, .int .u64 0, .int .u64 0, .int .i64 0] 27 (0, 0)) (by (with_reducible repeat (first | apply zN | apply zD | apply zA)); exact BK354.out)) : gb353 ≠ gb354))
             clear BK341
             clear BK342
             clear BK354
             clear HB
             have BK341 := n0_
             have BK342 := n1_
             have BK354 := n2_
             have HB := n3_
             have BK353 := n4_
             have GW353 := n5_
             have GE353 := n6_
             have NB341_353 := n7_
             have NB353_341 := n8_
             have NB342_353 := n9_
             have NB353_342 := n10_
             have NB354_353 := n11_
             have NB353_354 := n12_
             clear n0_ n1_ n2_ n3_ n4_ n5_ n6_ n7_ n8_ n9_ n10_ n11_ n12_
             clear hb hbox hg
             refine hK.out _ _ ⟨(blk_cell BK341.out 0).trans rfl, (blk_cell BK341.out 1).trans rfl, (blk_cell BK342.out 0).trans rfl, (blk_cell BK342.out 1).trans rfl⟩ (fun hHeld => ?_)
             clear hK K
             refine norm_ (a' := ?_) ?_ ?_
             rotate_left
             ·show Act.put _ (some 7) _ = _
              simp only [Act.put, xT, xZ, xS, i64_w, i32_w]
              rfl
             exact norm_ (by first | (simp only [putAll, Act.put, xT, xZ, xS]; done) | (simp only [putAll, Act.put, xT, xZ, xS]; rfl)) (hJ6_7 (gb353, gb354) _ ⟨hHeld, (by (with_reducible repeat (first | apply zN | apply zD | apply zA)); exact BK341.out), (by (with_reducible repeat (first | apply zN | apply zD | apply zA)); exact BK342.out), (by (with_reducible repeat (first | apply zN | apply zD | apply zA)); exact BK353.out), (by (with_reducible repeat (first | apply zN | apply zD | apply zA)); exact BK354.out), GW353.out, GE353.out, NB341_353.out, NB353_341.out, NB342_353.out, NB353_342.out, NB354_353.out, NB353_354.out, GW354.out, GE354.out, NB341_354.out, NB354_341.out, NB342_354.out, NB354_342.out, (by repeat (first | (with_reducible first | exact HB.out | apply yA | apply yN | apply yD | refine below_set ?_ GE341.out | refine below_set ?_ GE342.out | refine below_set ?_ GE354.out | refine below_set ?_ GE353.out) | exact HB.out))⟩)
          ·skip
           rintro gb353 w10 ⟨hS_, h0_, h1_, h2_, h3_, h4_, h5_, h6_, h7_, h8_, h9_⟩
           have n0_ : Aside0 (w10.heap[gb341]? = some (.cells #[.int .u64 a1_0, .int .u64 a1_1] 25 (0, 0))) := ⟨h0_⟩
           have n1_ : Aside0 (w10.heap[gb342]? = some (.cells #[.int .u64 a2_0, .int .u64 a2_1] 25 (0, 0))) := ⟨h1_⟩
           have n2_ : Aside0 (w10.heap[gb353]? = some (.cells #[.int .i64 0, .bool false, .int .u64 0, .int .u64 0, .int .i64 0] 27 (0, 0))) := ⟨h2_⟩
           have n3_ : Aside0 (w.heap.size ≤ gb353) := ⟨h3_⟩
           have n4_ : Aside0 (w.heap.size ≤ gb353) := ⟨h4_⟩
           have n5_ : Aside0 (gb341 ≠ gb353) := ⟨h5_⟩
           have n6_ : Aside0 (gb353 ≠ gb341) := ⟨h6_⟩
           have n7_ : Aside0 (gb342 ≠ gb353) := ⟨h7_⟩
           have n8_ : Aside0 (gb353 ≠ gb342) := ⟨h8_⟩
           have n9_ : Aside0 (Below w.heap.size w w10) := ⟨h9_⟩
           clear BK341
           clear BK342
           clear HB
           clear h0_ h1_ h2_ h3_ h4_ h5_ h6_ h7_ h8_ h9_
           have BK341 := n0_
           have BK342 := n1_
           have BK353 := n2_
           have GW353 := n3_
           have GE353 := n4_
           have NB341_353 := n5_
           have NB353_341 := n6_
           have NB342_353 := n7_
           have NB353_342 := n8_
           have HB := n9_
           clear n0_ n1_ n2_ n3_ n4_ n5_ n6_ n7_ n8_ n9_
           have hHeld : w10.cell? ⟨gb341, 0, none⟩ = some (.int .u64 a1_0) ∧ w10.cell? ⟨gb341, 1, none⟩ = some (.int .u64 a1_1) ∧ w10.cell? ⟨gb342, 0, none⟩ = some (.int .u64 a2_0) ∧ w10.cell? ⟨gb342, 1, none⟩ = some (.int .u64 a2_1) := hS_
           refine norm_ (a' := ?_) ?_ ?_
           rotate_left
           ·simp only [putAll, Act.put, xT, xZ, xS]
            rfl
           refine two_ (i := 2) (j := 7) (Ni := some 18) (Nj := some 8) #[true, true, true, true, true, false, true, false, false, false] #[true, true, false, true, true, false, true, true, false, false] rfl rfl rfl rfl (two_of HT_.out (by kernel_rfl)) (by decide) (by decide) (fun K hK => ?_) (fun K hK => ?_)
           ·skip
            refine goes_ Tryd.func17 (by kernel_rfl) rfl #[.int .i64 a0, .agg #[.int .u64 a1_0, .int .u64 a1_1]] (by rfl) rfl rfl (by (try simp only [List.map_toArray, List.map_cons, List.map_nil]); first | done | rfl | (simp only [List.length_drop, List.length_take]; rfl)) ?_
            with_reducible refine (impl_Unpack.calls k a0 a1_0 a1_1 t343 t344 t345 t346 t347 _ ?side1 A4.out).mono ?_
            (case side1 => exact tabled_below HTb_.out (by repeat (first | (with_reducible first | exact HB.out | apply yA | apply yN | apply yD | refine below_set ?_ GE341.out | refine below_set ?_ GE342.out | refine below_set ?_ GE353.out) | exact HB.out)))
            rintro e w11 ⟨rfl, hb⟩
            refine ⟨_, rfl, ?_⟩
            have n0_ := zM (blk_below (g := gb341) (o := .cells #[.int .u64 a1_0, .int .u64 a1_1] 25 (0, 0)) (by (with_reducible repeat (first | apply zN | apply zD | apply zA)); exact BK341.out) hb)
            have n1_ := zM (blk_below (g := gb342) (o := .cells #[.int .u64 a2_0, .int .u64 a2_1] 25 (0, 0)) (by (with_reducible repeat (first | apply zN | apply zD | apply zA)); exact BK342.out) hb)
            have n2_ := zM (blk_below (g := gb353) (o := .cells #[.int .i64 0, .bool false, .int .u64 0, .int .u64 0, .int .i64 0] 27 (0, 0)) (by (with_reducible repeat (first | apply zN | apply zD | apply zA)); exact BK353.out) hb)
            have n3_ := zM (below_step (by repeat (first | (with_reducible first | exact HB.out | apply yA | apply yN | apply yD | refine below_set ?_ GE341.out | refine below_set ?_ GE342.out | refine below_set ?_ GE353.out) | exact HB.out)) hb)
            clear BK341
            clear BK342
            clear BK353
            clear HB
            have BK341 := n0_
            have BK342 := n1_
            have BK353 := n2_
            have HB := n3_
            clear n0_ n1_ n2_ n3_
            (try clear hb)
            (try clear hb2)
            (try clear hk)
            (try clear hi)
            refine hK.out _ _ ⟨(blk_cell BK341.out 0).trans rfl, (blk_cell BK341.out 1).trans rfl, (blk_cell BK342.out 0).trans rfl, (blk_cell BK342.out 1).trans rfl⟩ (fun hHeld => ?_)
            clear hK K
            refine norm_ (a' := ?_) ?_ ?_
            rotate_left
            ·show Act.put _ (some 18) _ = _
             simp only [Act.put, xT, xZ, xS, i64_w, i32_w]
             rfl
            exact norm_ (by first | (simp only [putAll, Act.put, xT, xZ, xS]; done) | (simp only [putAll, Act.put, xT, xZ, xS]; rfl)) (hJ2_6 (gb353) _ ⟨hHeld, (by (with_reducible repeat (first | apply zN | apply zD | apply zA)); exact BK341.out), (by (with_reducible repeat (first | apply zN | apply zD | apply zA)); exact BK342.out), (by (with_reducible repeat (first | apply zN | apply zD | apply zA)); exact BK353.out), GW353.out, GE353.out, NB341_353.out, NB353_341.out, NB342_353.out, NB353_342.out, (by repeat (first | (with_reducible first | exact HB.out | apply yA | apply yN | apply yD | refine below_set ?_ GE341.out | refine below_set ?_ GE342.out | refine below_set ?_ GE353.out) | exact HB.out))⟩)
           ·skip
            refine box_step ?hg (N := 8) ?hd (cs := #[.int .i64 0, .bool false, .int .u64 0, .int .u64 0, .int .i64 0]) (t := 27) ?hr ?_; (case hd => rfl); (case hg => rfl); (case hr => first | (go_simp; done) | (go_simp; rfl))
            intro gb354 hg w11 hbox hb
            have n0_ := zM (blk_below (g := gb341) (o := .cells #[.int .u64 a1_0, .int .u64 a1_1] 25 (0, 0)) (by (with_reducible repeat (first | apply zN | apply zD | apply zA)); exact BK341.out) hb)
            have n1_ := zM (blk_below (g := gb342) (o := .cells #[.int .u64 a2_0, .int .u64 a2_1] 25 (0, 0)) (by (with_reducible repeat (first | apply zN | apply zD | apply zA)); exact BK342.out) hb)
            have n2_ := zM (blk_below (g := gb353) (o := .cells #[.int .i64 0, .bool false, .int .u64 0, .int .u64 0, .int .i64 0] 27 (0, 0)) (by (with_reducible repeat (first | apply zN | apply zD | apply zA)); exact BK353.out) hb)
            have n3_ := zM (below_step (by repeat (first | (with_reducible first | exact HB.out | apply yA | apply yN | apply yD | refine below_set ?_ GE341.out | refine below_set ?_ GE342.out | refine below_set ?_ GE353.out) | exact HB.out)) hb)
            have n4_ := zM (hbox)
            have n5_ := zM ((by rw [hg]; exact (below_size (by repeat (first | (with_reducible first | exact HB.out | apply yA | apply yN | apply yD | refine below_set ?_ GE341.out | refine below_set ?_ GE342.out | refine below_set ?_ GE353.out) | exact HB.out))) : w.heap.size ≤ gb354))
            have n6_ := zM ((by rw [hg]; exact (below_size (by repeat (first | (with_reducible first | exact HB.out | apply yA | apply yN | apply yD | refine below_set ?_ GE341.out | refine below_set ?_ GE342.out | refine below_set ?_ GE353.out) | exact HB.out))) : w.heap.size ≤ gb354))
            have n7_ := zM ((by rw [hg]; exact Nat.ne_of_lt (blk_lt (g := gb341) (o := .cells #[.int .u64 a1_0, .int .u64 a1_1] 25 (0, 0)) (by (with_reducible repeat (first | apply zN | apply zD | apply zA)); exact BK341.out)) : gb341 ≠ gb354))
            have n8_ := zM ((by rw [hg]; exact Nat.ne_of_gt (blk_lt (g := gb341) (o := .cells #[.int .u64 a1_0, .int .u64 a1_1] 25 (0, 0)) (by (with_reducible repeat (first | apply zN | apply zD | apply zA)); exact BK341.out)) : gb354 ≠ gb341))
            have n9_ := zM ((by rw [hg]; exact Nat.ne_of_lt (blk_lt (g := gb342) (o := .cells #[.int .u64 a2_0, .int .u64 a2_1] 25 (0, 0)) (by (with_reducible repeat (first | apply zN | apply zD | apply zA)); exact BK342.out)) : gb342 ≠ gb354))
            have n10_ := zM ((by rw [hg]; exact Nat.ne_of_gt (blk_lt (g := gb342) (o := .cells #[.int .u64 a2_0, .int .u64 a2_1] 25 (0, 0)) (by (with_reducible repeat (first | apply zN | apply zD | apply zA)); exact BK342.out)) : gb354 ≠ gb342))
            have n11_ := zM ((by rw [hg]; exact Nat.ne_of_lt (blk_lt (g := gb353) (o := .cells #[.int .i64 0, .bool false, .int .u64 0, .int .u64 0, .int .i64 0] 27 (0, 0)) (by (with_reducible repeat (first | apply zN | apply zD | apply zA)); exact BK353.out)) : gb353 ≠ gb354))
            have n12_ := zM ((by rw [hg]; exact Nat.ne_of_gt (blk_lt (g := gb353) (o := .cells #[.int .i64 0, .bool false, .int .u64 0, .int .u64 0, .int .i64 0] 27 (0, 0)) (by (with_reducible repeat (first | apply zN | apply zD | apply zA)); exact BK353.out)) : gb354 ≠ gb353))
            clear BK341
            clear BK342
            clear BK353
            clear HB
            have BK341 := n0_
            have BK342 := n1_
            have BK353 := n2_
            have HB := n3_
            have BK354 := n4_
            have GW354 := n5_
            have GE354 := n6_
            have NB341_354 := n7_
            have NB354_341 := n8_
            have NB342_354 := n9_
            have NB354_342 := n10_
            have NB353_354 := n11_
            have NB354_353 := n12_
            clear n0_ n1_ n2_ n3_ n4_ n5_ n6_ n7_ n8_ n9_ n10_ n11_ n12_
            clear hb hbox hg
            refine hK.out _ _ ⟨(blk_cell BK341.out 0).trans rfl, (blk_cell BK341.out 1).trans rfl, (blk_cell BK342.out 0).trans rfl, (blk_cell BK342.out 1).trans rfl⟩ (fun hHeld => ?_)
            clear hK K
            refine norm_ (a' := ?_) ?_ ?_
            rotate_left
            ·show Act.put _ (some 8) _ = _
             simp only [Act.put, xT, xZ, xS, i64_w, i32_w]
             rfl
            exact norm_ (by first | (simp only [putAll, Act.put, xT, xZ, xS]; done) | (simp only [putAll, Act.put, xT, xZ, xS]; rfl)) (hJ6_7 (gb353, gb354) _ ⟨hHeld, (by (with_reducible repeat (first | apply zN | apply zD | apply zA)); exact BK341.out), (by (with_reducible repeat (first | apply zN | apply zD | apply zA)); exact BK342.out), (by (with_reducible repeat (first | apply zN | apply zD | apply zA)); exact BK353.out), (by (with_reducible repeat (first | apply zN | apply zD | apply zA)); exact BK354.out), GW353.out, GE353.out, NB341_353.out, NB353_341.out, NB342_353.out, NB353_342.out, NB354_353.out, NB353_354.out, GW354.out, GE354.out, NB341_354.out, NB354_341.out, NB342_354.out, NB354_342.out, (by repeat (first | (with_reducible first | exact HB.out | apply yA | apply yN | apply yD | refine below_set ?_ GE341.out | refine below_set ?_ GE342.out | refine below_set ?_ GE353.out | refine below_set ?_ GE354.out) | exact HB.out))⟩)
         ·skip
          rintro _ w10 ⟨hS_, h0_, h1_, h2_⟩
          have n0_ : Aside0 (w10.heap[gb341]? = some (.cells #[.int .u64 a1_0, .int .u64 a1_1] 25 (0, 0))) := ⟨h0_⟩
          have n1_ : Aside0 (w10.heap[gb342]? = some (.cells #[.int .u64 a2_0, .int .u64 a2_1] 25 (0, 0))) := ⟨h1_⟩
          have n2_ : Aside0 (Below w.heap.size w w10) := ⟨h2_⟩
          clear BK341
          clear BK342
          clear HB
          clear h0_ h1_ h2_
          have BK341 := n0_
          have BK342 := n1_
          have HB := n2_
          clear n0_ n1_ n2_
          have hHeld : w10.cell? ⟨gb341, 0, none⟩ = some (.int .u64 a1_0) ∧ w10.cell? ⟨gb341, 1, none⟩ = some (.int .u64 a1_1) ∧ w10.cell? ⟨gb342, 0, none⟩ = some (.int .u64 a2_0) ∧ w10.cell? ⟨gb342, 1, none⟩ = some (.int .u64 a2_1) := hS_
          refine norm_ (a' := ?_) ?_ ?_
          rotate_left
          ·simp only [putAll, Act.put, xT, xZ, xS]
           rfl
          refine three_ (i := 5) (j := 6) (k := 7) (Ni := some 21) (Nj := some 7) (Nk := some 8) #[true, true, true, true, true, true, false, false, false, false] #[true, true, true, true, true, false, true, false, false, false] #[true, true, true, true, true, false, false, true, false, false] rfl rfl rfl rfl rfl rfl (three_of HT_.out (by kernel_rfl)) (by decide) (by decide) (by decide) (fun K hK => ?_) (fun K hK => ?_) (fun K hK => ?_)
          ·skip
           refine goes_ Tryd.func17 (by kernel_rfl) rfl #[.int .i64 a0, .agg #[.int .u64 a2_0, .int .u64 a2_1]] (by rfl) rfl rfl (by (try simp only [List.map_toArray, List.map_cons, List.map_nil]); first | done | rfl | (simp only [List.length_drop, List.length_take]; rfl)) ?_
           with_reducible refine (impl_Unpack.calls k a0 a2_0 a2_1 t348 t349 t350 t351 t352 _ ?side1 A5.out).mono ?_
           (case side1 => exact tabled_below HTb_.out (by repeat (first | (with_reducible first | exact HB.out | apply yA | apply yN | apply yD | refine below_set ?_ GE341.out | refine below_set ?_ GE342.out) | exact HB.out)))
           rintro e w11 ⟨rfl, hb⟩
           refine ⟨_, rfl, ?_⟩
           have n0_ := zM (blk_below (g := gb341) (o := .cells #[.int .u64 a1_0, .int .u64 a1_1] 25 (0, 0)) (by (with_reducible repeat (first | apply zN | apply zD | apply zA)); exact BK341.out) hb)
           have n1_ := zM (blk_below (g := gb342) (o := .cells #[.int .u64 a2_0, .int .u64 a2_1] 25 (0, 0)) (by (with_reducible repeat (first | apply zN | apply zD | apply zA)); exact BK342.out) hb)
           have n2_ := zM (below_step (by repeat (first | (with_reducible first | exact HB.out | apply yA | apply yN | apply yD | refine below_set ?_ GE341.out | refine below_set ?_ GE342.out) | exact HB.out)) hb)
           clear BK341
           clear BK342
           clear HB
           have BK341 := n0_
           have BK342 := n1_
           have HB := n2_
           clear n0_ n1_ n2_
           (try clear hb)
           (try clear hb2)
           (try clear hk)
           (try clear hi)
           refine hK.out _ _ ⟨(blk_cell BK341.out 0).trans rfl, (blk_cell BK341.out 1).trans rfl, (blk_cell BK342.out 0).trans rfl, (blk_cell BK342.out 1).trans rfl⟩ (fun hHeld => ?_)
           clear hK K
           refine norm_ (a' := ?_) ?_ ?_
           rotate_left
           ·show Act.put _ (some 21) _ = _
            simp only [Act.put, xT, xZ, xS, i64_w, i32_w]
            rfl
           exact norm_ (by first | (simp only [putAll, Act.put, xT, xZ, xS]; done) | (simp only [putAll, Act.put, xT, xZ, xS]; rfl)) (hJ2_5 () _ ⟨hHeld, (by (with_reducible repeat (first | apply zN | apply zD | apply zA)); exact BK341.out), (by (with_reducible repeat (first | apply zN | apply zD | apply zA)); exact BK342.out), (by repeat (first | (with_reducible first | exact HB.out | apply yA | apply yN | apply yD | refine below_set ?_ GE341.out | refine below_set ?_ GE342.out) | exact HB.out))⟩)
          ·skip
           refine box_step ?hg (N := 7) ?hd (cs := #[.int .i64 0, .bool false, .int .u64 0, .int .u64 0, .int .i64 0]) (t := 27) ?hr ?_; (case hd => rfl); (case hg => rfl); (case hr => first | (go_simp; done) | (go_simp; rfl))
           intro gb353 hg w11 hbox hb
           have n0_ := zM (blk_below (g := gb341) (o := .cells #[.int .u64 a1_0, .int .u64 a1_1] 25 (0, 0)) (by (with_reducible repeat (first | apply zN | apply zD | apply zA)); exact BK341.out) hb)
           have n1_ := zM (blk_below (g := gb342) (o := .cells #[.int .u64 a2_0, .int .u64 a2_1] 25 (0, 0)) (by (with_reducible repeat (first | apply zN | apply zD | apply zA)); exact BK342.out) hb)
           have n2_ := zM (below_step (by repeat (first | (with_reducible first | exact HB.out | apply yA | apply yN | apply yD | refine below_set ?_ GE341.out | refine below_set ?_ GE342.out) | exact HB.out)) hb)
           have n3_ := zM (hbox)
           have n4_ := zM ((by rw [hg]; exact (below_size (by repeat (first | (with_reducible first | exact HB.out | apply yA | apply yN | apply yD | refine below_set ?_ GE341.out | refine below_set ?_ GE342.out) | exact HB.out))) : w.heap.size ≤ gb353))
           have n5_ := zM ((by rw [hg]; exact (below_size (by repeat (first | (with_reducible first | exact HB.out | apply yA | apply yN | apply yD | refine below_set ?_ GE341.out | refine below_set ?_ GE342.out) | exact HB.out))) : w.heap.size ≤ gb353))
           have n6_ := zM ((by rw [hg]; exact Nat.ne_of_lt (blk_lt (g := gb341) (o := .cells #[.int .u64 a1_0, .int .u64 a1_1] 25 (0, 0)) (by (with_reducible repeat (first | apply zN | apply zD | apply zA)); exact BK341.out)) : gb341 ≠ gb353))
           have n7_ := zM ((by rw [hg]; exact Nat.ne_of_gt (blk_lt (g := gb341) (o := .cells #[.int .u64 a1_0, .int .u64 a1_1] 25 (0, 0)) (by (with_reducible repeat (first | apply zN | apply zD | apply zA)); exact BK341.out)) : gb353 ≠ gb341))
           have n8_ := zM ((by rw [hg]; exact Nat.ne_of_lt (blk_lt (g := gb342) (o := .cells #[.int .u64 a2_0, .int .u64 a2_1] 25 (0, 0)) (by (with_reducible repeat (first | apply zN | apply zD | apply zA)); exact BK342.out)) : gb342 ≠ gb353))
           have n9_ := zM ((by rw [hg]; exact Nat.ne_of_gt (blk_lt (g := gb342) (o := .cells #[.int .u64 a2_0, .int .u64 a2_1] 25 (0, 0)) (by (with_reducible repeat (first | apply zN | apply zD | apply zA)); exact BK342.out)) : gb353 ≠ gb342))
           clear BK341
           clear BK342
           clear HB
           have BK341 := n0_
           have BK342 := n1_
           have HB := n2_
           have BK353 := n3_
           have GW353 := n4_
           have GE353 := n5_
           have NB341_353 := n6_
           have NB353_341 := n7_
           have NB342_353 := n8_
           have NB353_342 := n9_
           clear n0_ n1_ n2_ n3_ n4_ n5_ n6_ n7_ n8_ n9_
           clear hb hbox hg
           refine hK.out _ _ ⟨(blk_cell BK341.out 0).trans rfl, (blk_cell BK341.out 1).trans rfl, (blk_cell BK342.out 0).trans rfl, (blk_cell BK342.out 1).trans rfl⟩ (fun hHeld => ?_)
           clear hK K
           refine norm_ (a' := ?_) ?_ ?_
           rotate_left
           ·show Act.put _ (some 7) _ = _
            simp only [Act.put, xT, xZ, xS, i64_w, i32_w]
            rfl
           exact norm_ (by first | (simp only [putAll, Act.put, xT, xZ, xS]; done) | (simp only [putAll, Act.put, xT, xZ, xS]; rfl)) (hJ2_6 (gb353) _ ⟨hHeld, (by (with_reducible repeat (first | apply zN | apply zD | apply zA)); exact BK341.out), (by (with_reducible repeat (first | apply zN | apply zD | apply zA)); exact BK342.out), (by (with_reducible repeat (first | apply zN | apply zD | apply zA)); exact BK353.out), GW353.out, GE353.out, NB341_353.out, NB353_341.out, NB342_353.out, NB353_342.out, (by repeat (first | (with_reducible first | exact HB.out | apply yA | apply yN | apply yD | refine below_set ?_ GE341.out | refine below_set ?_ GE342.out | refine below_set ?_ GE353.out) | exact HB.out))⟩)
          ·skip
           refine box_step ?hg (N := 8) ?hd (cs := #[.int .i64 0, .bool false, .int .u64 0, .int .u64 0, .int .i64 0]) (t := 27) ?hr ?_; (case hd => rfl); (case hg => rfl); (case hr => first | (go_simp; done) | (go_simp; rfl))
           intro gb354 hg w11 hbox hb
           have n0_ := zM (blk_below (g := gb341) (o := .cells #[.int .u64 a1_0, .int .u64 a1_1] 25 (0, 0)) (by (with_reducible repeat (first | apply zN | apply zD | apply zA)); exact BK341.out) hb)
           have n1_ := zM (blk_below (g := gb342) (o := .cells #[.int .u64 a2_0, .int .u64 a2_1] 25 (0, 0)) (by (with_reducible repeat (first | apply zN | apply zD | apply zA)); exact BK342.out) hb)
           have n2_ := zM (below_step (by repeat (first | (with_reducible first | exact HB.out | apply yA | apply yN | apply yD | refine below_set ?_ GE341.out | refine below_set ?_ GE342.out) | exact HB.out)) hb)
           have n3_ := zM (hbox)
           have n4_ := zM ((by rw [hg]; exact (below_size (by repeat (first | (with_reducible first | exact HB.out | apply yA | apply yN | apply yD | refine below_set ?_ GE341.out | refine below_set ?_ GE342.out) | exact HB.out))) : w.heap.size ≤ gb354))
           have n5_ := zM ((by rw [hg]; exact (below_size (by repeat (first | (with_reducible first | exact HB.out | apply yA | apply yN | apply yD | refine below_set ?_ GE341.out | refine below_set ?_ GE342.out) | exact HB.out))) : w.heap.size ≤ gb354))
           have n6_ := zM ((by rw [hg]; exact Nat.ne_of_lt (blk_lt (g := gb341) (o := .cells #[.int .u64 a1_0, .int .u64 a1_1] 25 (0, 0)) (by (with_reducible repeat (first | apply zN | apply zD | apply zA)); exact BK341.out)) : gb341 ≠ gb354))
           have n7_ := zM ((by rw [hg]; exact Nat.ne_of_gt (blk_lt (g := gb341) (o := .cells #[.int .u64 a1_0, .int .u64 a1_1] 25 (0, 0)) (by (with_reducible repeat (first | apply zN | apply zD | apply zA)); exact BK341.out)) : gb354 ≠ gb341))
           have n8_ := zM ((by rw [hg]; exact Nat.ne_of_lt (blk_lt (g := gb342) (o := .cells #[.int .u64 a2_0, .int .u64 a2_1] 25 (0, 0)) (by (with_reducible repeat (first | apply zN | apply zD | apply zA)); exact BK342.out)) : gb342 ≠ gb354))
           have n9_ := zM ((by rw [hg]; exact Nat.ne_of_gt (blk_lt (g := gb342) (o := .cells #[.int .u64 a2_0, .int .u64 a2_1] 25 (0, 0)) (by (with_reducible repeat (first | apply zN | apply zD | apply zA)); exact BK342.out)) : gb354 ≠ gb342))
           clear BK341
           clear BK342
           clear HB
           have BK341 := n0_
           have BK342 := n1_
           have HB := n2_
           have BK354 := n3_
           have GW354 := n4_
           have GE354 := n5_
           have NB341_354 := n6_
           have NB354_341 := n7_
           have NB342_354 := n8_
           have NB354_342 := n9_
           clear n0_ n1_ n2_ n3_ n4_ n5_ n6_ n7_ n8_ n9_
           clear hb hbox hg
           refine hK.out _ _ ⟨(blk_cell BK341.out 0).trans rfl, (blk_cell BK341.out 1).trans rfl, (blk_cell BK342.out 0).trans rfl, (blk_cell BK342.out 1).trans rfl⟩ (fun hHeld => ?_)
           clear hK K
           refine norm_ (a' := ?_) ?_ ?_
           rotate_left
           ·show Act.put _ (some 8) _ = _
            simp only [Act.put, xT, xZ, xS, i64_w, i32_w]
            rfl
           exact norm_ (by first | (simp only [putAll, Act.put, xT, xZ, xS]; done) | (simp only [putAll, Act.put, xT, xZ, xS]; rfl)) (hJ2_7 (gb354) _ ⟨hHeld, (by (with_reducible repeat (first | apply zN | apply zD | apply zA)); exact BK341.out), (by (with_reducible repeat (first | apply zN | apply zD | apply zA)); exact BK342.out), (by (with_reducible repeat (first | apply zN | apply zD | apply zA)); exact BK354.out), GW354.out, GE354.out, NB341_354.out, NB354_341.out, NB342_354.out, NB354_342.out, (by repeat (first | (with_reducible first | exact HB.out | apply yA | apply yN | apply yD | refine below_set ?_ GE341.out | refine below_set ?_ GE342.out | refine below_set ?_ GE354.out) | exact HB.out))⟩)
        ·skip
         rintro ⟨gb353, gb354⟩ w11 ⟨hS_, h0_, h1_, h2_, h3_, h4_, h5_, h6_, h7_, h8_, h9_, h10_, h11_, h12_, h13_, h14_, h15_, h16_, h17_, h18_⟩
         have n0_ : Aside0 (w11.heap[gb341]? = some (.cells #[.int .u64 a1_0, .int .u64 a1_1] 25 (0, 0))) := ⟨h0_⟩
         have n1_ : Aside0 (w11.heap[gb342]? = some (.cells #[.int .u64 a2_0, .int .u64 a2_1] 25 (0, 0))) := ⟨h1_⟩
         have n2_ : Aside0 (w11.heap[gb353]? = some (.cells #[.int .i64 0, .bool false, .int .u64 0, .int .u64 0, .int .i64 0] 27 (0, 0))) := ⟨h2_⟩
         have n3_ : Aside0 (w11.heap[gb354]? = some (.cells #[.int .i64 0, .bool false, .int .u64 0, .int .u64 0, .int .i64 0] 27 (0, 0))) := ⟨h3_⟩
         have n4_ : Aside0 (w.heap.size ≤ gb353) := ⟨h4_⟩
         have n5_ : Aside0 (w.heap.size ≤ gb353) := ⟨h5_⟩
         have n6_ : Aside0 (gb341 ≠ gb353) := ⟨h6_⟩
         have n7_ : Aside0 (gb353 ≠ gb341) := ⟨h7_⟩
         have n8_ : Aside0 (gb342 ≠ gb353) := ⟨h8_⟩
         have n9_ : Aside0 (gb353 ≠ gb342) := ⟨h9_⟩
         have n10_ : Aside0 (gb354 ≠ gb353) := ⟨h10_⟩
         have n11_ : Aside0 (gb353 ≠ gb354) := ⟨h11_⟩
         have n12_ : Aside0 (w.heap.size ≤ gb354) := ⟨h12_⟩
         have n13_ : Aside0 (w.heap.size ≤ gb354) := ⟨h13_⟩
         have n14_ : Aside0 (gb341 ≠ gb354) := ⟨h14_⟩
         have n15_ : Aside0 (gb354 ≠ gb341) := ⟨h15_⟩
         have n16_ : Aside0 (gb342 ≠ gb354) := ⟨h16_⟩
         have n17_ : Aside0 (gb354 ≠ gb342) := ⟨h17_⟩
         have n18_ : Aside0 (Below w.heap.size w w11) := ⟨h18_⟩
         clear BK341
         clear BK342
         clear HB
         clear h0_ h1_ h2_ h3_ h4_ h5_ h6_ h7_ h8_ h9_ h10_ h11_ h12_ h13_ h14_ h15_ h16_ h17_ h18_
         have BK341 := n0_
         have BK342 := n1_
         have BK353 := n2_
         have BK354 := n3_
         have GW353 := n4_
         have GE353 := n5_
         have NB341_353 := n6_
         have NB353_341 := n7_
         have NB342_353 := n8_
         have NB353_342 := n9_
         have NB354_353 := n10_
         have NB353_354 := n11_
         have GW354 := n12_
         have GE354 := n13_
         have NB341_354 := n14_
         have NB354_341 := n15_
         have NB342_354 := n16_
         have NB354_342 := n17_
         have HB := n18_
         clear n0_ n1_ n2_ n3_ n4_ n5_ n6_ n7_ n8_ n9_ n10_ n11_ n12_ n13_ n14_ n15_ n16_ n17_ n18_
         have hHeld : w11.cell? ⟨gb341, 0, none⟩ = some (.int .u64 a1_0) ∧ w11.cell? ⟨gb341, 1, none⟩ = some (.int .u64 a1_1) ∧ w11.cell? ⟨gb342, 0, none⟩ = some (.int .u64 a2_0) ∧ w11.cell? ⟨gb342, 1, none⟩ = some (.int .u64 a2_1) := hS_
         refine norm_ (a' := ?_) ?_ ?_
         rotate_left
         ·simp only [putAll, Act.put, xT, xZ, xS]
          rfl
         refine one_ (i := 2) (N := some 18) #[true, true, true, true, true, false, true, true, false, false] rfl rfl (one_of HT_.out (by kernel_rfl)) (by decide) (fun K hK => ?_)
         refine goes_ Tryd.func17 (by kernel_rfl) rfl #[.int .i64 a0, .agg #[.int .u64 a1_0, .int .u64 a1_1]] (by rfl) rfl rfl (by (try simp only [List.map_toArray, List.map_cons, List.map_nil]); first | done | rfl | (simp only [List.length_drop, List.length_take]; rfl)) ?_
         with_reducible refine (impl_Unpack.calls k a0 a1_0 a1_1 t343 t344 t345 t346 t347 _ ?side1 A4.out).mono ?_
         (case side1 => exact tabled_below HTb_.out (by repeat (first | (with_reducible first | exact HB.out | apply yA | apply yN | apply yD | refine below_set ?_ GE341.out | refine below_set ?_ GE342.out | refine below_set ?_ GE353.out | refine below_set ?_ GE354.out) | exact HB.out)))
         rintro e w12 ⟨rfl, hb⟩
         refine ⟨_, rfl, ?_⟩
         have n0_ := zM (blk_below (g := gb341) (o := .cells #[.int .u64 a1_0, .int .u64 a1_1] 25 (0, 0)) (by (with_reducible repeat (first | apply zN | apply zD | apply zA)); exact BK341.out) hb)
         have n1_ := zM (blk_below (g := gb342) (o := .cells #[.int .u64 a2_0, .int .u64 a2_1] 25 (0, 0)) (by (with_reducible repeat (first | apply zN | apply zD | apply zA)); exact BK342.out) hb)
         have n2_ := zM (blk_below (g := gb353) (o := .cells #[.int .i64 0, .bool false, .int .u64 0, .int .u64 0, .int .i64 0] 27 (0, 0)) (by (with_reducible repeat (first | apply zN | apply zD | apply zA)); exact BK353.out) hb)
         have n3_ := zM (blk_below (g := gb354) (o := .cells #[.int .i64 0, .bool false, .int .u64 0, .int .u64 0, .int .i64 0] 27 (0, 0)) (by (with_reducible repeat (first | apply zN | apply zD | apply zA)); exact BK354.out) hb)
         have n4_ := zM (below_step (by repeat (first | (with_reducible first | exact HB.out | apply yA | apply yN | apply yD | refine below_set ?_ GE341.out | refine below_set ?_ GE342.out | refine below_set ?_ GE353.out | refine below_set ?_ GE354.out) | exact HB.out)) hb)
         clear BK341
         clear BK342
         clear BK353
         clear BK354
         clear HB
         have BK341 := n0_
         have BK342 := n1_
         have BK353 := n2_
         have BK354 := n3_
         have HB := n4_
         clear n0_ n1_ n2_ n3_ n4_
         (try clear hb)
         (try clear hb2)
         (try clear hk)
         (try clear hi)
         refine hK.out _ _ ⟨(blk_cell BK341.out 0).trans rfl, (blk_cell BK341.out 1).trans rfl, (blk_cell BK342.out 0).trans rfl, (blk_cell BK342.out 1).trans rfl⟩ (fun hHeld => ?_)
         clear hK K
         refine norm_ (a' := ?_) ?_ ?_
         rotate_left
         ·show Act.put _ (some 18) _ = _
          simp only [Act.put, xT, xZ, xS, i64_w, i32_w]
          rfl
         exact norm_ (by first | (simp only [putAll, Act.put, xT, xZ, xS]; done) | (simp only [putAll, Act.put, xT, xZ, xS]; rfl)) (hJ2_6_7 (gb353, gb354) _ ⟨hHeld, (by (with_reducible repeat (first | apply zN | apply zD | apply zA)); exact BK341.out), (by (with_reducible repeat (first | apply zN | apply zD | apply zA)); exact BK342.out), (by (with_reducible repeat (first | apply zN | apply zD | apply zA)); exact BK353.out), (by (with_reducible repeat (first | apply zN | apply zD | apply zA)); exact BK354.out), GW353.out, GE353.out, NB341_353.out, NB353_341.out, NB342_353.out, NB353_342.out, NB354_353.out, NB353_354.out, GW354.out, GE354.out, NB341_354.out, NB354_341.out, NB342_354.out, NB354_342.out, (by repeat (first | (with_reducible first | exact HB.out | apply yA | apply yN | apply yD | refine below_set ?_ GE341.out | refine below_set ?_ GE342.out | refine below_set ?_ GE353.out | refine below_set ?_ GE354.out) | exact HB.out))⟩)
       ·skip
        rintro gb354 w11 ⟨hS_, h0_, h1_, h2_, h3_, h4_, h5_, h6_, h7_, h8_, h9_⟩
        have n0_ : Aside0 (w11.heap[gb341]? = some (.cells #[.int .u64 a1_0, .int .u64 a1_1] 25 (0, 0))) := ⟨h0_⟩
        have n1_ : Aside0 (w11.heap[gb342]? = some (.cells #[.int .u64 a2_0, .int .u64 a2_1] 25 (0, 0))) := ⟨h1_⟩
        have n2_ : Aside0 (w11.heap[gb354]? = some (.cells #[.int .i64 0, .bool false, .int .u64 0, .int .u64 0, .int .i64 0] 27 (0, 0))) := ⟨h2_⟩
        have n3_ : Aside0 (w.heap.size ≤ gb354) := ⟨h3_⟩
        have n4_ : Aside0 (w.heap.size ≤ gb354) := ⟨h4_⟩
        have n5_ : Aside0 (gb341 ≠ gb354) := ⟨h5_⟩
        have n6_ : Aside0 (gb354 ≠ gb341) := ⟨h6_⟩
        have n7_ : Aside0 (gb342 ≠ gb354) := ⟨h7_⟩
        have n8_ : Aside0 (gb354 ≠ gb342) := ⟨h8_⟩
        have n9_ : Aside0 (Below w.heap.size w w11) := ⟨h9_⟩
        clear BK341
        clear BK342
        clear HB
        clear h0_ h1_ h2_ h3_ h4_ h5_ h6_ h7_ h8_ h9_
        have BK341 := n0_
        have BK342 := n1_
        have BK354 := n2_
        have GW354 := n3_
        have GE354 := n4_
        have NB341_354 := n5_
        have NB354_341 := n6_
        have NB342_354 := n7_
        have NB354_342 := n8_
        have HB := n9_
        clear n0_ n1_ n2_ n3_ n4_ n5_ n6_ n7_ n8_ n9_
        have hHeld : w11.cell? ⟨gb341, 0, none⟩ = some (.int .u64 a1_0) ∧ w11.cell? ⟨gb341, 1, none⟩ = some (.int .u64 a1_1) ∧ w11.cell? ⟨gb342, 0, none⟩ = some (.int .u64 a2_0) ∧ w11.cell? ⟨gb342, 1, none⟩ = some (.int .u64 a2_1) := hS_
        refine norm_ (a' := ?_) ?_ ?_
        rotate_left
        ·simp only [putAll, Act.put, xT, xZ, xS]
         rfl
        refine two_ (i := 5) (j := 6) (Ni := some 21) (Nj := some 7) #[true, true, true, true, true, true, false, true, false, false] #[true, true, true, true, true, false, true, true, false, false] rfl rfl rfl rfl (two_of HT_.out (by kernel_rfl)) (by decide) (by decide) (fun K hK => ?_) (fun K hK => ?_)
        ·skip
         refine goes_ Tryd.func17 (by kernel_rfl) rfl #[.int .i64 a0, .agg #[.int .u64 a2_0, .int .u64 a2_1]] (by rfl) rfl rfl (by (try simp only [List.map_toArray, List.map_cons, List.map_nil]); first | done | rfl | (simp only [List.length_drop, List.length_take]; rfl)) ?_
         with_reducible refine (impl_Unpack.calls k a0 a2_0 a2_1 t348 t349 t350 t351 t352 _ ?side1 A5.out).mono ?_
         (case side1 => exact tabled_below HTb_.out (by repeat (first | (with_reducible first | exact HB.out | apply yA | apply yN | apply yD | refine below_set ?_ GE341.out | refine below_set ?_ GE342.out | refine below_set ?_ GE354.out) | exact HB.out)))
         rintro e w12 ⟨rfl, hb⟩
         refine ⟨_, rfl, ?_⟩
         have n0_ := zM (blk_below (g := gb341) (o := .cells #[.int .u64 a1_0, .int .u64 a1_1] 25 (0, 0)) (by (with_reducible repeat (first | apply zN | apply zD | apply zA)); exact BK341.out) hb)
         have n1_ := zM (blk_below (g := gb342) (o := .cells #[.int .u64 a2_0, .int .u64 a2_1] 25 (0, 0)) (by (with_reducible repeat (first | apply zN | apply zD | apply zA)); exact BK342.out) hb)
         have n2_ := zM (blk_below (g := gb354) (o := .cells #[.int .i64 0, .bool false, .int .u64 0, .int .u64 0, .int .i64 0] 27 (0, 0)) (by (with_reducible repeat (first | apply zN | apply zD | apply zA)); exact BK354.out) hb)
         have n3_ := zM (below_step (by repeat (first | (with_reducible first | exact HB.out | apply yA | apply yN | apply yD | refine below_set ?_ GE341.out | refine below_set ?_ GE342.out | refine below_set ?_ GE354.out) | exact HB.out)) hb)
         clear BK341
         clear BK342
         clear BK354
         clear HB
         have BK341 := n0_
         have BK342 := n1_
         have BK354 := n2_
         have HB := n3_
         clear n0_ n1_ n2_ n3_
         (try clear hb)
         (try clear hb2)
         (try clear hk)
         (try clear hi)
         refine hK.out _ _ ⟨(blk_cell BK341.out 0).trans rfl, (blk_cell BK341.out 1).trans rfl, (blk_cell BK342.out 0).trans rfl, (blk_cell BK342.out 1).trans rfl⟩ (fun hHeld => ?_)
         clear hK K
         refine norm_ (a' := ?_) ?_ ?_
         rotate_left
         ·show Act.put _ (some 21) _ = _
          simp only [Act.put, xT, xZ, xS, i64_w, i32_w]
          rfl
         exact norm_ (by first | (simp only [putAll, Act.put, xT, xZ, xS]; done) | (simp only [putAll, Act.put, xT, xZ, xS]; rfl)) (hJ2_5_7 (gb354) _ ⟨hHeld, (by (with_reducible repeat (first | apply zN | apply zD | apply zA)); exact BK341.out), (by (with_reducible repeat (first | apply zN | apply zD | apply zA)); exact BK342.out), (by (with_reducible repeat (first | apply zN | apply zD | apply zA)); exact BK354.out), GW354.out, GE354.out, NB341_354.out, NB354_341.out, NB342_354.out, NB354_342.out, (by repeat (first | (with_reducible first | exact HB.out | apply yA | apply yN | apply yD | refine below_set ?_ GE341.out | refine below_set ?_ GE342.out | refine below_set ?_ GE354.out) | exact HB.out))⟩)
        ·skip
         refine box_step ?hg (N := 7) ?hd (cs := #[.int .i64 0, .bool false, .int .u64 0, .int .u64 0, .int .i64 0]) (t := 27) ?hr ?_; (case hd => rfl); (case hg => rfl); (case hr => first | (go_simp; done) | (go_simp; rfl))
         intro gb353 hg w12 hbox hb
         have n0_ := zM (blk_below (g := gb341) (o := .cells #[.int .u64 a1_0, .int .u64 a1_1] 25 (0, 0)) (by (with_reducible repeat (first | apply zN | apply zD | apply zA)); exact BK341.out) hb)
         have n1_ := zM (blk_below (g := gb342) (o := .cells #[.int .u64 a2_0, .int .u64 a2_1] 25 (0, 0)) (by (with_reducible repeat (first | apply zN | apply zD | apply zA)); exact BK342.out) hb)
         have n2_ := zM (blk_below (g := gb354) (o := .cells #[.int .i64 0, .bool false, .int .u64 0, .int .u64 0, .int .i64 0] 27 (0, 0)) (by (with_reducible repeat (first | apply zN | apply zD | apply zA)); exact BK354.out) hb)
         have n3_ := zM (below_step (by repeat (first | (with_reducible first | exact HB.out | apply yA | apply yN | apply yD | refine below_set ?_ GE341.out | refine below_set ?_ GE342.out | refine below_set ?_ GE354.out) | exact HB.out)) hb)
         have n4_ := zM (hbox)
         have n5_ := zM ((by rw [hg]; exact (below_size (by repeat (first | (with_reducible first | exact HB.out | apply yA | apply yN | apply yD | refine below_set ?_ GE341.out | refine below_set ?_ GE342.out | refine below_set ?_ GE354.out) | exact HB.out))) : w.heap.size ≤ gb353))
         have n6_ := zM ((by rw [hg]; exact (below_size (by repeat (first | (with_reducible first | exact HB.out | apply yA | apply yN | apply yD | refine below_set ?_ GE341.out | refine below_set ?_ GE342.out | refine below_set ?_ GE354.out) | exact HB.out))) : w.heap.size ≤ gb353))
         have n7_ := zM ((by rw [hg]; exact Nat.ne_of_lt (blk_lt (g := gb341) (o := .cells #[.int .u64 a1_0, .int .u64 a1_1] 25 (0, 0)) (by (with_reducible repeat (first | apply zN | apply zD | apply zA)); exact BK341.out)) : gb341 ≠ gb353))
         have n8_ := zM ((by rw [hg]; exact Nat.ne_of_gt (blk_lt (g := gb341) (o := .cells #[.int .u64 a1_0, .int .u64 a1_1] 25 (0, 0)) (by (with_reducible repeat (first | apply zN | apply zD | apply zA)); exact BK341.out)) : gb353 ≠ gb341))
         have n9_ := zM ((by rw [hg]; exact Nat.ne_of_lt (blk_lt (g := gb342) (o := .cells #[.int .u64 a2_0, .int .u64 a2_1] 25 (0, 0)) (by (with_reducible repeat (first | apply zN | apply zD | apply zA)); exact BK342.out)) : gb342 ≠ gb353))
         have n10_ := zM ((by rw [hg]; exact Nat.ne_of_gt (blk_lt (g := gb342) (o := .cells #[.int .u64 a2_0, .int .u64 a2_1] 25 (0, 0)) (by (with_reducible repeat (first | apply zN | apply zD | apply zA)); exact BK342.out)) : gb353 ≠ gb342))
         have n11_ := zM ((by rw [hg]; exact Nat.ne_of_lt (blk_lt (g := gb354) (o := .cells #[.int .i64 0, .bool false, .int .u64 0, .int .u64 0, .int .i64 0] 27 (0, 0)) (by (with_reducible repeat (first | apply zN | apply zD | apply zA)); exact BK354.out)) : gb354 ≠ gb353))
         have n12_ := zM ((by rw [hg]; exact Nat.ne_of_gt (blk_lt (g := gb354) (o := .cells #[.int .i64 0, .bool false, .int .u64 0, .int .u64 0, .int .i64 0] 27 (0, 0)) (by (with_reducible repeat (first | apply zN | apply zD | apply zA)); exact BK354.out)) : gb353 ≠ gb354))
         clear BK341
         clear BK342
         clear BK354
         clear HB
         have BK341 := n0_
         have BK342 := n1_
         have BK354 := n2_
         have HB := n3_
         have BK353 := n4_
         have GW353 := n5_
         have GE353 := n6_
         have NB341_353 := n7_
         have NB353_341 := n8_
         have NB342_353 := n9_
         have NB353_342 := n10_
         have NB354_353 := n11_
         have NB353_354 := n12_
         clear n0_ n1_ n2_ n3_ n4_ n5_ n6_ n7_ n8_ n9_ n10_ n11_ n12_
         clear hb hbox hg
         refine hK.out _ _ ⟨(blk_cell BK341.out 0).trans rfl, (blk_cell BK341.out 1).trans rfl, (blk_cell BK342.out 0).trans rfl, (blk_cell BK342.out 1).trans rfl⟩ (fun hHeld => ?_)
         clear hK K
         refine norm_ (a' := ?_) ?_ ?_
         rotate_left
         ·show Act.put _ (some 7) _ = _
          simp only [Act.put, xT, xZ, xS, i64_w, i32_w]
          rfl
         exact norm_ (by first | (simp only [putAll, Act.put, xT, xZ, xS]; done) | (simp only [putAll, Act.put, xT, xZ, xS]; rfl)) (hJ2_6_7 (gb353, gb354) _ ⟨hHeld, (by (with_reducible repeat (first | apply zN | apply zD | apply zA)); exact BK341.out), (by (with_reducible repeat (first | apply zN | apply zD | apply zA)); exact BK342.out), (by (with_reducible repeat (first | apply zN | apply zD | apply zA)); exact BK353.out), (by (with_reducible repeat (first | apply zN | apply zD | apply zA)); exact BK354.out), GW353.out, GE353.out, NB341_353.out, NB353_341.out, NB342_353.out, NB353_342.out, NB354_353.out, NB353_354.out, GW354.out, GE354.out, NB341_354.out, NB354_341.out, NB342_354.out, NB354_342.out, (by repeat (first | (with_reducible first | exact HB.out | apply yA | apply yN | apply yD | refine below_set ?_ GE341.out | refine below_set ?_ GE342.out | refine below_set ?_ GE354.out | refine below_set ?_ GE353.out) | exact HB.out))⟩)
      ·skip
       rintro gb353 w11 ⟨hS_, h0_, h1_, h2_, h3_, h4_, h5_, h6_, h7_, h8_, h9_⟩
       have n0_ : Aside0 (w11.heap[gb341]? = some (.cells #[.int .u64 a1_0, .int .u64 a1_1] 25 (0, 0))) := ⟨h0_⟩
       have n1_ : Aside0 (w11.heap[gb342]? = some (.cells #[.int .u64 a2_0, .int .u64 a2_1] 25 (0, 0))) := ⟨h1_⟩
       have n2_ : Aside0 (w11.heap[gb353]? = some (.cells #[.int .i64 0, .bool false, .int .u64 0, .int .u64 0, .int .i64 0] 27 (0, 0))) := ⟨h2_⟩
       have n3_ : Aside0 (w.heap.size ≤ gb353) := ⟨h3_⟩
       have n4_ : Aside0 (w.heap.size ≤ gb353) := ⟨h4_⟩
       have n5_ : Aside0 (gb341 ≠ gb353) := ⟨h5_⟩
       have n6_ : Aside0 (gb353 ≠ gb341) := ⟨h6_⟩
       have n7_ : Aside0 (gb342 ≠ gb353) := ⟨h7_⟩
       have n8_ : Aside0 (gb353 ≠ gb342) := ⟨h8_⟩
       have n9_ : Aside0 (Below w.heap.size w w11) := ⟨h9_⟩
       clear BK341
       clear BK342
       clear HB
       clear h0_ h1_ h2_ h3_ h4_ h5_ h6_ h7_ h8_ h9_
       have BK341 := n0_
       have BK342 := n1_
       have BK353 := n2_
       have GW353 := n3_
       have GE353 := n4_
       have NB341_353 := n5_
       have NB353_341 := n6_
       have NB342_353 := n7_
       have NB353_342 := n8_
       have HB := n9_
       clear n0_ n1_ n2_ n3_ n4_ n5_ n6_ n7_ n8_ n9_
       have hHeld : w11.cell? ⟨gb341, 0, none⟩ = some (.int .u64 a1_0) ∧ w11.cell? ⟨gb341, 1, none⟩ = some (.int .u64 a1_1) ∧ w11.cell? ⟨gb342, 0, none⟩ = some (.int .u64 a2_0) ∧ w11.cell? ⟨gb342, 1, none⟩ = some (.int .u64 a2_1) := hS_
       refine norm_ (a' := ?_) ?_ ?_
       rotate_left
       ·simp only [putAll, Act.put, xT, xZ, xS]
        rfl
       refine two_ (i := 5) (j := 7) (Ni := some 21) (Nj := some 8) #[true, true, true, true, true, true, true, false, false, false] #[true, true, true, true, true, false, true, true, false, false] rfl rfl rfl rfl (two_of HT_.out (by kernel_rfl)) (by decide) (by decide) (fun K hK => ?_) (fun K hK => ?_)
       ·skip
        refine goes_ Tryd.func17 (by kernel_rfl) rfl #[.int .i64 a0, .agg #[.int .u64 a2_0, .int .u64 a2_1]] (by rfl) rfl rfl (by (try simp only [List.map_toArray, List.map_cons, List.map_nil]); first | done | rfl | (simp only [List.length_drop, List.length_take]; rfl)) ?_
        with_reducible refine (impl_Unpack.calls k a0 a2_0 a2_1 t348 t349 t350 t351 t352 _ ?side1 A5.out).mono ?_
        (case side1 => exact tabled_below HTb_.out (by repeat (first | (with_reducible first | exact HB.out | apply yA | apply yN | apply yD | refine below_set ?_ GE341.out | refine below_set ?_ GE342.out | refine below_set ?_ GE353.out) | exact HB.out)))
        rintro e w12 ⟨rfl, hb⟩
        refine ⟨_, rfl, ?_⟩
        have n0_ := zM (blk_below (g := gb341) (o := .cells #[.int .u64 a1_0, .int .u64 a1_1] 25 (0, 0)) (by (with_reducible repeat (first | apply zN | apply zD | apply zA)); exact BK341.out) hb)
        have n1_ := zM (blk_below (g := gb342) (o := .cells #[.int .u64 a2_0, .int .u64 a2_1] 25 (0, 0)) (by (with_reducible repeat (first | apply zN | apply zD | apply zA)); exact BK342.out) hb)
        have n2_ := zM (blk_below (g := gb353) (o := .cells #[.int .i64 0, .bool false, .int .u64 0, .int .u64 0, .int .i64 0] 27 (0, 0)) (by (with_reducible repeat (first | apply zN | apply zD | apply zA)); exact BK353.out) hb)
        have n3_ := zM (below_step (by repeat (first | (with_reducible first | exact HB.out | apply yA | apply yN | apply yD | refine below_set ?_ GE341.out | refine below_set ?_ GE342.out | refine below_set ?_ GE353.out) | exact HB.out)) hb)
        clear BK341
        clear BK342
        clear BK353
        clear HB
        have BK341 := n0_
        have BK342 := n1_
        have BK353 := n2_
        have HB := n3_
        clear n0_ n1_ n2_ n3_
        (try clear hb)
        (try clear hb2)
        (try clear hk)
        (try clear hi)
        refine hK.out _ _ ⟨(blk_cell BK341.out 0).trans rfl, (blk_cell BK341.out 1).trans rfl, (blk_cell BK342.out 0).trans rfl, (blk_cell BK342.out 1).trans rfl⟩ (fun hHeld => ?_)
        clear hK K
        refine norm_ (a' := ?_) ?_ ?_
        rotate_left
        ·show Act.put _ (some 21) _ = _
         simp only [Act.put, xT, xZ, xS, i64_w, i32_w]
         rfl
        exact norm_ (by first | (simp only [putAll, Act.put, xT, xZ, xS]; done) | (simp only [putAll, Act.put, xT, xZ, xS]; rfl)) (hJ2_5_6 (gb353) _ ⟨hHeld, (by (with_reducible repeat (first | apply zN | apply zD | apply zA)); exact BK341.out), (by (with_reducible repeat (first | apply zN | apply zD | apply zA)); exact BK342.out), (by (with_reducible repeat (first | apply zN | apply zD | apply zA)); exact BK353.out), GW353.out, GE353.out, NB341_353.out, NB353_341.out, NB342_353.out, NB353_342.out, (by repeat (first | (with_reducible first | exact HB.out | apply yA | apply yN | apply yD | refine below_set ?_ GE341.out | refine below_set ?_ GE342.out | refine below_set ?_ GE353.out) | exact HB.out))⟩)
       ·skip
        refine box_step ?hg (N := 8) ?hd (cs := #[.int .i64 0, .bool false, .int .u64 0, .int .u64 0, .int .i64 0]) (t := 27) ?hr ?_; (case hd => rfl); (case hg => rfl); (case hr => first | (go_simp; done) | (go_simp; rfl))
        intro gb354 hg w12 hbox hb
        have n0_ := zM (blk_below (g := gb341) (o := .cells #[.int .u64 a1_0, .int .u64 a1_1] 25 (0, 0)) (by (with_reducible repeat (first | apply zN | apply zD | apply zA)); exact BK341.out) hb)
        have n1_ := zM (blk_below (g := gb342) (o := .cells #[.int .u64 a2_0, .int .u64 a2_1] 25 (0, 0)) (by (with_reducible repeat (first | apply zN | apply zD | apply zA)); exact BK342.out) hb)
        have n2_ := zM (blk_below (g := gb353) (o := .cells #[.int .i64 0, .bool false, .int .u64 0, .int .u64 0, .int .i64 0] 27 (0, 0)) (by (with_reducible repeat (first | apply zN | apply zD | apply zA)); exact BK353.out) hb)
        have n3_ := zM (below_step (by repeat (first | (with_reducible first | exact HB.out | apply yA | apply yN | apply yD | refine below_set ?_ GE341.out | refine below_set ?_ GE342.out | refine below_set ?_ GE353.out) | exact HB.out)) hb)
        have n4_ := zM (hbox)
        have n5_ := zM ((by rw [hg]; exact (below_size (by repeat (first | (with_reducible first | exact HB.out | apply yA | apply yN | apply yD | refine below_set ?_ GE341.out | refine below_set ?_ GE342.out | refine below_set ?_ GE353.out) | exact HB.out))) : w.heap.size ≤ gb354))
        have n6_ := zM ((by rw [hg]; exact (below_size (by repeat (first | (with_reducible first | exact HB.out | apply yA | apply yN | apply yD | refine below_set ?_ GE341.out | refine below_set ?_ GE342.out | refine below_set ?_ GE353.out) | exact HB.out))) : w.heap.size ≤ gb354))
        have n7_ := zM ((by rw [hg]; exact Nat.ne_of_lt (blk_lt (g := gb341) (o := .cells #[.int .u64 a1_0, .int .u64 a1_1] 25 (0, 0)) (by (with_reducible repeat (first | apply zN | apply zD | apply zA)); exact BK341.out)) : gb341 ≠ gb354))
        have n8_ := zM ((by rw [hg]; exact Nat.ne_of_gt (blk_lt (g := gb341) (o := .cells #[.int .u64 a1_0, .int .u64 a1_1] 25 (0, 0)) (by (with_reducible repeat (first | apply zN | apply zD | apply zA)); exact BK341.out)) : gb354 ≠ gb341))
        have n9_ := zM ((by rw [hg]; exact Nat.ne_of_lt (blk_lt (g := gb342) (o := .cells #[.int .u64 a2_0, .int .u64 a2_1] 25 (0, 0)) (by (with_reducible repeat (first | apply zN | apply zD | apply zA)); exact BK342.out)) : gb342 ≠ gb354))
        have n10_ := zM ((by rw [hg]; exact Nat.ne_of_gt (blk_lt (g := gb342) (o := .cells #[.int .u64 a2_0, .int .u64 a2_1] 25 (0, 0)) (by (with_reducible repeat (first | apply zN | apply zD | apply zA)); exact BK342.out)) : gb354 ≠ gb342))
        have n11_ := zM ((by rw [hg]; exact Nat.ne_of_lt (blk_lt (g := gb353) (o := .cells #[.int .i64 0, .bool false, .int .u64 0, .int .u64 0, .int .i64 0] 27 (0, 0)) (by (with_reducible repeat (first | apply zN | apply zD | apply zA)); exact BK353.out)) : gb353 ≠ gb354))
        have n12_ := zM ((by rw [hg]; exact Nat.ne_of_gt (blk_lt (g := gb353) (o := .cells #[.int .i64 0, .bool false, .int .u64 0, .int .u64 0, .int .i64 0] 27 (0, 0)) (by (with_reducible repeat (first | apply zN | apply zD | apply zA)); exact BK353.out)) : gb354 ≠ gb353))
        clear BK341
        clear BK342
        clear BK353
        clear HB
        have BK341 := n0_
        have BK342 := n1_
        have BK353 := n2_
        have HB := n3_
        have BK354 := n4_
        have GW354 := n5_
        have GE354 := n6_
        have NB341_354 := n7_
        have NB354_341 := n8_
        have NB342_354 := n9_
        have NB354_342 := n10_
        have NB353_354 := n11_
        have NB354_353 := n12_
        clear n0_ n1_ n2_ n3_ n4_ n5_ n6_ n7_ n8_ n9_ n10_ n11_ n12_
        clear hb hbox hg
        refine hK.out _ _ ⟨(blk_cell BK341.out 0).trans rfl, (blk_cell BK341.out 1).trans rfl, (blk_cell BK342.out 0).trans rfl, (blk_cell BK342.out 1).trans rfl⟩ (fun hHeld => ?_)
        clear hK K
        refine norm_ (a' := ?_) ?_ ?_
        rotate_left
        ·show Act.put _ (some 8) _ = _
         simp only [Act.put, xT, xZ, xS, i64_w, i32_w]
         rfl
        exact norm_ (by first | (simp only [putAll, Act.put, xT, xZ, xS]; done) | (simp only [putAll, Act.put, xT, xZ, xS]; rfl)) (hJ2_6_7 (gb353, gb354) _ ⟨hHeld, (by (with_reducible repeat (first | apply zN | apply zD | apply zA)); exact BK341.out), (by (with_reducible repeat (first | apply zN | apply zD | apply zA)); exact BK342.out), (by (with_reducible repeat (first | apply zN | apply zD | apply zA)); exact BK353.out), (by (with_reducible repeat (first | apply zN | apply zD | apply zA)); exact BK354.out), GW353.out, GE353.out, NB341_353.out, NB353_341.out, NB342_353.out, NB353_342.out, NB354_353.out, NB353_354.out, GW354.out, GE354.out, NB341_354.out, NB354_341.out, NB342_354.out, NB354_342.out, (by repeat (first | (with_reducible first | exact HB.out | apply yA | apply yN | apply yD | refine below_set ?_ GE341.out | refine below_set ?_ GE342.out | refine below_set ?_ GE353.out | refine below_set ?_ GE354.out) | exact HB.out))⟩)
     ·skip
      rintro _ w11 ⟨hS_, h0_, h1_, h2_⟩
      have n0_ : Aside0 (w11.heap[gb341]? = some (.cells #[.int .u64 a1_0, .int .u64 a1_1] 25 (0, 0))) := ⟨h0_⟩
      have n1_ : Aside0 (w11.heap[gb342]? = some (.cells #[.int .u64 a2_0, .int .u64 a2_1] 25 (0, 0))) := ⟨h1_⟩
      have n2_ : Aside0 (Below w.heap.size w w11) := ⟨h2_⟩
      clear BK341
      clear BK342
      clear HB
      clear h0_ h1_ h2_
      have BK341 := n0_
      have BK342 := n1_
      have HB := n2_
      clear n0_ n1_ n2_
      have hHeld : w11.cell? ⟨gb341, 0, none⟩ = some (.int .u64 a1_0) ∧ w11.cell? ⟨gb341, 1, none⟩ = some (.int .u64 a1_1) ∧ w11.cell? ⟨gb342, 0, none⟩ = some (.int .u64 a2_0) ∧ w11.cell? ⟨gb342, 1, none⟩ = some (.int .u64 a2_1) := hS_
      refine norm_ (a' := ?_) ?_ ?_
      rotate_left
      ·simp only [putAll, Act.put, xT, xZ, xS]
       rfl
      refine two_ (i := 6) (j := 7) (Ni := some 7) (Nj := some 8) #[true, true, true, true, true, true, true, false, false, false] #[true, true, true, true, true, true, false, true, false, false] rfl rfl rfl rfl (two_of HT_.out (by kernel_rfl)) (by decide) (by decide) (fun K hK => ?_) (fun K hK => ?_)
      ·skip
       refine box_step ?hg (N := 7) ?hd (cs := #[.int .i64 0, .bool false, .int .u64 0, .int .u64 0, .int .i64 0]) (t := 27) ?hr ?_; (case hd => rfl); (case hg => rfl); (case hr => first | (go_simp; done) | (go_simp; rfl))
       intro gb353 hg w12 hbox hb
       have n0_ := zM (blk_below (g := gb341) (o := .cells #[.int .u64 a1_0, .int .u64 a1_1] 25 (0, 0)) (by (with_reducible repeat (first | apply zN | apply zD | apply zA)); exact BK341.out) hb)
       have n1_ := zM (blk_below (g := gb342) (o := .cells #[.int .u64 a2_0, .int .u64 a2_1] 25 (0, 0)) (by (with_reducible repeat (first | apply zN | apply zD | apply zA)); exact BK342.out) hb)
       have n2_ := zM (below_step (by repeat (first | (with_reducible first | exact HB.out | apply yA | apply yN | apply yD | refine below_set ?_ GE341.out | refine below_set ?_ GE342.out) | exact HB.out)) hb)
       have n3_ := zM (hbox)
       have n4_ := zM ((by rw [hg]; exact (below_size (by repeat (first | (with_reducible first | exact HB.out | apply yA | apply yN | apply yD | refine below_set ?_ GE341.out | refine below_set ?_ GE342.out) | exact HB.out))) : w.heap.size ≤ gb353))
       have n5_ := zM ((by rw [hg]; exact (below_size (by repeat (first | (with_reducible first | exact HB.out | apply yA | apply yN | apply yD | refine below_set ?_ GE341.out | refine below_set ?_ GE342.out) | exact HB.out))) : w.heap.size ≤ gb353))
       have n6_ := zM ((by rw [hg]; exact Nat.ne_of_lt (blk_lt (g := gb341) (o := .cells #[.int .u64 a1_0, .int .u64 a1_1] 25 (0, 0)) (by (with_reducible repeat (first | apply zN | apply zD | apply zA)); exact BK341.out)) : gb341 ≠ gb353))
       have n7_ := zM ((by rw [hg]; exact Nat.ne_of_gt (blk_lt (g := gb341) (o := .cells #[.int .u64 a1_0, .int .u64 a1_1] 25 (0, 0)) (by (with_reducible repeat (first | apply zN | apply zD | apply zA)); exact BK341.out)) : gb353 ≠ gb341))
       have n8_ := zM ((by rw [hg]; exact Nat.ne_of_lt (blk_lt (g := gb342) (o := .cells #[.int .u64 a2_0, .int .u64 a2_1] 25 (0, 0)) (by (with_reducible repeat (first | apply zN | apply zD | apply zA)); exact BK342.out)) : gb342 ≠ gb353))
       have n9_ := zM ((by rw [hg]; exact Nat.ne_of_gt (blk_lt (g := gb342) (o := .cells #[.int .u64 a2_0, .int .u64 a2_1] 25 (0, 0)) (by (with_reducible repeat (first | apply zN | apply zD | apply zA)); exact BK342.out)) : gb353 ≠ gb342))
       clear BK341
       clear BK342
       clear HB
       have BK341 := n0_
       have BK342 := n1_
       have HB := n2_
       have BK353 := n3_
       have GW353 := n4_
       have GE353 := n5_
       have NB341_353 := n6_
       have NB353_341 := n7_
       have NB342_353 := n8_
       have NB353_342 := n9_
       clear n0_ n1_ n2_ n3_ n4_ n5_ n6_ n7_ n8_ n9_
       clear hb hbox hg
       refine hK.out _ _ ⟨(blk_cell BK341.out 0).trans rfl, (blk_cell BK341.out 1).trans rfl, (blk_cell BK342.out 0).trans rfl, (blk_cell BK342.out 1).trans rfl⟩ (fun hHeld => ?_)
       clear hK K
       refine norm_ (a' := ?_) ?_ ?_
       rotate_left
       ·show Act.put _ (some 7) _ = _
        simp only [Act.put, xT, xZ, xS, i64_w, i32_w]
        rfl
       exact norm_ (by first | (simp only [putAll, Act.put, xT, xZ, xS]; done) | (simp only [putAll, Act.put, xT, xZ, xS]; rfl)) (hJ2_5_6 (gb353) _ ⟨hHeld, (by (with_reducible repeat (first | apply zN | apply zD | apply zA)); exact BK341.out), (by (with_reducible repeat (first | apply zN | apply zD | apply zA)); exact BK342.out), (by (with_reducible repeat (first | apply zN | apply zD | apply zA)); exact BK353.out), GW353.out, GE353.out, NB341_353.out, NB353_341.out, NB342_353.out, NB353_342.out, (by repeat (first | (with_reducible first | exact HB.out | apply yA | apply yN | apply yD | refine below_set ?_ GE341.out | refine below_set ?_ GE342.out | refine below_set ?_ GE353.out) | exact HB.out))⟩)
      ·skip
       refine box_step ?hg (N := 8) ?hd (cs := #[.int .i64 0, .bool false, .int .u64 0, .int .u64 0, .int .i64 0]) (t := 27) ?hr ?_; (case hd => rfl); (case hg => rfl); (case hr => first | (go_simp; done) | (go_simp; rfl))
       intro gb354 hg w12 hbox hb
       have n0_ := zM (blk_below (g := gb341) (o := .cells #[.int .u64 a1_0, .int .u64 a1_1] 25 (0, 0)) (by (with_reducible repeat (first | apply zN | apply zD | apply zA)); exact BK341.out) hb)
       have n1_ := zM (blk_below (g := gb342) (o := .cells #[.int .u64 a2_0, .int .u64 a2_1] 25 (0, 0)) (by (with_reducible repeat (first | apply zN | apply zD | apply zA)); exact BK342.out) hb)
       have n2_ := zM (below_step (by repeat (first | (with_reducible first | exact HB.out | apply yA | apply yN | apply yD | refine below_set ?_ GE341.out | refine below_set ?_ GE342.out) | exact HB.out)) hb)
       have n3_ := zM (hbox)
       have n4_ := zM ((by rw [hg]; exact (below_size (by repeat (first | (with_reducible first | exact HB.out | apply yA | apply yN | apply yD | refine below_set ?_ GE341.out | refine below_set ?_ GE342.out) | exact HB.out))) : w.heap.size ≤ gb354))
       have n5_ := zM ((by rw [hg]; exact (below_size (by repeat (first | (with_reducible first | exact HB.out | apply yA | apply yN | apply yD | refine below_set ?_ GE341.out | refine below_set ?_ GE342.out) | exact HB.out))) : w.heap.size ≤ gb354))
       have n6_ := zM ((by rw [hg]; exact Nat.ne_of_lt (blk_lt (g := gb341) (o := .cells #[.int .u64 a1_0, .int .u64 a1_1] 25 (0, 0)) (by (with_reducible repeat (first | apply zN | apply zD | apply zA)); exact BK341.out)) : gb341 ≠ gb354))
       have n7_ := zM ((by rw [hg]; exact Nat.ne_of_gt (blk_lt (g := gb341) (o := .cells #[.int .u64 a1_0, .int .u64 a1_1] 25 (0, 0)) (by (with_reducible repeat (first | apply zN | apply zD | apply zA)); exact BK341.out)) : gb354 ≠ gb341))
       have n8_ := zM ((by rw [hg]; exact Nat.ne_of_lt (blk_lt (g := gb342) (o := .cells #[.int .u64 a2_0, .int .u64 a2_1] 25 (0, 0)) (by (with_reducible repeat (first | apply zN | apply zD | apply zA)); exact BK342.out)) : gb342 ≠ gb354))
       have n9_ := zM ((by rw [hg]; exact Nat.ne_of_gt (blk_lt (g := gb342) (o := .cells #[.int .u64 a2_0, .int .u64 a2_1] 25 (0, 0)) (by (with_reducible repeat (first | apply zN | apply zD | apply zA)); exact BK342.out)) : gb354 ≠ gb342))
       clear BK341
       clear BK342
       clear HB
       have BK341 := n0_
       have BK342 := n1_
       have HB := n2_
       have BK354 := n3_
       have GW354 := n4_
       have GE354 := n5_
       have NB341_354 := n6_
       have NB354_341 := n7_
       have NB342_354 := n8_
       have NB354_342 := n9_
       clear n0_ n1_ n2_ n3_ n4_ n5_ n6_ n7_ n8_ n9_
       clear hb hbox hg
       refine hK.out _ _ ⟨(blk_cell BK341.out 0).trans rfl, (blk_cell BK341.out 1).trans rfl, (blk_cell BK342.out 0).trans rfl, (blk_cell BK342.out 1).trans rfl⟩ (fun hHeld => ?_)
       clear hK K
       refine norm_ (a' := ?_) ?_ ?_
       rotate_left
       ·show Act.put _ (some 8) _ = _
        simp only [Act.put, xT, xZ, xS, i64_w, i32_w]
        rfl
       exact norm_ (by first | (simp only [putAll, Act.put, xT, xZ, xS]; done) | (simp only [putAll, Act.put, xT, xZ, xS]; rfl)) (hJ2_5_7 (gb354) _ ⟨hHeld, (by (with_reducible repeat (first | apply zN | apply zD | apply zA)); exact BK341.out), (by (with_reducible repeat (first | apply zN | apply zD | apply zA)); exact BK342.out), (by (with_reducible repeat (first | apply zN | apply zD | apply zA)); exact BK354.out), GW354.out, GE354.out, NB341_354.out, NB354_341.out, NB342_354.out, NB354_342.out, (by repeat (first | (with_reducible first | exact HB.out | apply yA | apply yN | apply yD | refine below_set ?_ GE341.out | refine below_set ?_ GE342.out | refine below_set ?_ GE354.out) | exact HB.out))⟩)
    ·skip
     rintro ⟨gb353, gb354⟩ w12 ⟨hS_, h0_, h1_, h2_, h3_, h4_, h5_, h6_, h7_, h8_, h9_, h10_, h11_, h12_, h13_, h14_, h15_, h16_, h17_, h18_⟩
     have n0_ : Aside0 (w12.heap[gb341]? = some (.cells #[.int .u64 a1_0, .int .u64 a1_1] 25 (0, 0))) := ⟨h0_⟩
     have n1_ : Aside0 (w12.heap[gb342]? = some (.cells #[.int .u64 a2_0, .int .u64 a2_1] 25 (0, 0))) := ⟨h1_⟩
     have n2_ : Aside0 (w12.heap[gb353]? = some (.cells #[.int .i64 0, .bool false, .int .u64 0, .int .u64 0, .int .i64 0] 27 (0, 0))) := ⟨h2_⟩
     have n3_ : Aside0 (w12.heap[gb354]? = some (.cells #[.int .i64 0, .bool false, .int .u64 0, .int .u64 0, .int .i64 0] 27 (0, 0))) := ⟨h3_⟩
     have n4_ : Aside0 (w.heap.size ≤ gb353) := ⟨h4_⟩
     have n5_ : Aside0 (w.heap.size ≤ gb353) := ⟨h5_⟩
     have n6_ : Aside0 (gb341 ≠ gb353) := ⟨h6_⟩
     have n7_ : Aside0 (gb353 ≠ gb341) := ⟨h7_⟩
     have n8_ : Aside0 (gb342 ≠ gb353) := ⟨h8_⟩
     have n9_ : Aside0 (gb353 ≠ gb342) := ⟨h9_⟩
     have n10_ : Aside0 (gb354 ≠ gb353) := ⟨h10_⟩
     have n11_ : Aside0 (gb353 ≠ gb354) := ⟨h11_⟩
     have n12_ : Aside0 (w.heap.size ≤ gb354) := ⟨h12_⟩
     have n13_ : Aside0 (w.heap.size ≤ gb354) := ⟨h13_⟩
     have n14_ : Aside0 (gb341 ≠ gb354) := ⟨h14_⟩
     have n15_ : Aside0 (gb354 ≠ gb341) := ⟨h15_⟩
     have n16_ : Aside0 (gb342 ≠ gb354) := ⟨h16_⟩
     have n17_ : Aside0 (gb354 ≠ gb342) := ⟨h17_⟩
     have n18_ : Aside0 (Below w.heap.size w w12) := ⟨h18_⟩
     clear BK341
     clear BK342
     clear HB
     clear h0_ h1_ h2_ h3_ h4_ h5_ h6_ h7_ h8_ h9_ h10_ h11_ h12_ h13_ h14_ h15_ h16_ h17_ h18_
     have BK341 := n0_
     have BK342 := n1_
     have BK353 := n2_
     have BK354 := n3_
     have GW353 := n4_
     have GE353 := n5_
     have NB341_353 := n6_
     have NB353_341 := n7_
     have NB342_353 := n8_
     have NB353_342 := n9_
     have NB354_353 := n10_
     have NB353_354 := n11_
     have GW354 := n12_
     have GE354 := n13_
     have NB341_354 := n14_
     have NB354_341 := n15_
     have NB342_354 := n16_
     have NB354_342 := n17_
     have HB := n18_
     clear n0_ n1_ n2_ n3_ n4_ n5_ n6_ n7_ n8_ n9_ n10_ n11_ n12_ n13_ n14_ n15_ n16_ n17_ n18_
     have hHeld : w12.cell? ⟨gb341, 0, none⟩ = some (.int .u64 a1_0) ∧ w12.cell? ⟨gb341, 1, none⟩ = some (.int .u64 a1_1) ∧ w12.cell? ⟨gb342, 0, none⟩ = some (.int .u64 a2_0) ∧ w12.cell? ⟨gb342, 1, none⟩ = some (.int .u64 a2_1) := hS_
     refine norm_ (a' := ?_) ?_ ?_
     rotate_left
     ·simp only [putAll, Act.put, xT, xZ, xS]
      rfl
     refine one_ (i := 5) (N := some 21) #[true, true, true, true, true, true, true, true, false, false] rfl rfl (one_of HT_.out (by kernel_rfl)) (by decide) (fun K hK => ?_)
     refine goes_ Tryd.func17 (by kernel_rfl) rfl #[.int .i64 a0, .agg #[.int .u64 a2_0, .int .u64 a2_1]] (by rfl) rfl rfl (by (try simp only [List.map_toArray, List.map_cons, List.map_nil]); first | done | rfl | (simp only [List.length_drop, List.length_take]; rfl)) ?_
     with_reducible refine (impl_Unpack.calls k a0 a2_0 a2_1 t348 t349 t350 t351 t352 _ ?side1 A5.out).mono ?_
     (case side1 => exact tabled_below HTb_.out (by repeat (first | (with_reducible first | exact HB.out | apply yA | apply yN | apply yD | refine below_set ?_ GE341.out | refine below_set ?_ GE342.out | refine below_set ?_ GE353.out | refine below_set ?_ GE354.out) | exact HB.out)))
     rintro e w13 ⟨rfl, hb⟩
     refine ⟨_, rfl, ?_⟩
     have n0_ := zM (blk_below (g := gb341) (o := .cells #[.int .u64 a1_0, .int .u64 a1_1] 25 (0, 0)) (by (with_reducible repeat (first | apply zN | apply zD | apply zA)); exact BK341.out) hb)
     have n1_ := zM (blk_below (g := gb342) (o := .cells #[.int .u64 a2_0, .int .u64 a2_1] 25 (0, 0)) (by (with_reducible repeat (first | apply zN | apply zD | apply zA)); exact BK342.out) hb)
     have n2_ := zM (blk_below (g := gb353) (o := .cells #[.int .i64 0, .bool false, .int .u64 0, .int .u64 0, .int .i64 0] 27 (0, 0)) (by (with_reducible repeat (first | apply zN | apply zD | apply zA)); exact BK353.out) hb)
     have n3_ := zM (blk_below (g := gb354) (o := .cells #[.int .i64 0, .bool false, .int .u64 0, .int .u64 0, .int .i64 0] 27 (0, 0)) (by (with_reducible repeat (first | apply zN | apply zD | apply zA)); exact BK354.out) hb)
     have n4_ := zM (below_step (by repeat (first | (with_reducible first | exact HB.out | apply yA | apply yN | apply yD | refine below_set ?_ GE341.out | refine below_set ?_ GE342.out | refine below_set ?_ GE353.out | refine below_set ?_ GE354.out) | exact HB.out)) hb)
     clear BK341
     clear BK342
     clear BK353
     clear BK354
     clear HB
     have BK341 := n0_
     have BK342 := n1_
     have BK353 := n2_
     have BK354 := n3_
     have HB := n4_
     clear n0_ n1_ n2_ n3_ n4_
     (try clear hb)
     (try clear hb2)
     (try clear hk)
     (try clear hi)
     refine hK.out _ _ ⟨(blk_cell BK341.out 0).trans rfl, (blk_cell BK341.out 1).trans rfl, (blk_cell BK342.out 0).trans rfl, (blk_cell BK342.out 1).trans rfl⟩ (fun hHeld => ?_)
     clear hK K
     refine norm_ (a' := ?_) ?_ ?_
     rotate_left
     ·show Act.put _ (some 21) _ = _
      simp only [Act.put, xT, xZ, xS, i64_w, i32_w]
      rfl
     exact norm_ (by first | (simp only [putAll, Act.put, xT, xZ, xS]; done) | (simp only [putAll, Act.put, xT, xZ, xS]; rfl)) (hJ2_5_6_7 (gb353, gb354) _ ⟨hHeld, (by (with_reducible repeat (first | apply zN | apply zD | apply zA)); exact BK341.out), (by (with_reducible repeat (first | apply zN | apply zD | apply zA)); exact BK342.out), (by (with_reducible repeat (first | apply zN | apply zD | apply zA)); exact BK353.out), (by (with_reducible repeat (first | apply zN | apply zD | apply zA)); exact BK354.out), GW353.out, GE353.out, NB341_353.out, NB353_341.out, NB342_353.out, NB353_342.out, NB354_353.out, NB353_354.out, GW354.out, GE354.out, NB341_354.out, NB354_341.out, NB342_354.out, NB354_342.out, (by repeat (first | (with_reducible first | exact HB.out | apply yA | apply yN | apply yD | refine below_set ?_ GE341.out | refine below_set ?_ GE342.out | refine below_set ?_ GE353.out | refine below_set ?_ GE354.out) | exact HB.out))⟩)
   ·skip
    rintro gb354 w12 ⟨hS_, h0_, h1_, h2_, h3_, h4_, h5_, h6_, h7_, h8_, h9_⟩
    have n0_ : Aside0 (w12.heap[gb341]? = some (.cells #[.int .u64 a1_0, .int .u64 a1_1] 25 (0, 0))) := ⟨h0_⟩
    have n1_ : Aside0 (w12.heap[gb342]? = some (.cells #[.int .u64 a2_0, .int .u64 a2_1] 25 (0, 0))) := ⟨h1_⟩
    have n2_ : Aside0 (w12.heap[gb354]? = some (.cells #[.int .i64 0, .bool false, .int .u64 0, .int .u64 0, .int .i64 0] 27 (0, 0))) := ⟨h2_⟩
    have n3_ : Aside0 (w.heap.size ≤ gb354) := ⟨h3_⟩
    have n4_ : Aside0 (w.heap.size ≤ gb354) := ⟨h4_⟩
    have n5_ : Aside0 (gb341 ≠ gb354) := ⟨h5_⟩
    have n6_ : Aside0 (gb354 ≠ gb341) := ⟨h6_⟩
    have n7_ : Aside0 (gb342 ≠ gb354) := ⟨h7_⟩
    have n8_ : Aside0 (gb354 ≠ gb342) := ⟨h8_⟩
    have n9_ : Aside0 (Below w.heap.size w w12) := ⟨h9_⟩
    clear BK341
    clear BK342
    clear HB
    clear h0_ h1_ h2_ h3_ h4_ h5_ h6_ h7_ h8_ h9_
    have BK341 := n0_
    have BK342 := n1_
    have BK354 := n2_
    have GW354 := n3_
    have GE354 := n4_
    have NB341_354 := n5_
    have NB354_341 := n6_
    have NB342_354 := n7_
    have NB354_342 := n8_
    have HB := n9_
    clear n0_ n1_ n2_ n3_ n4_ n5_ n6_ n7_ n8_ n9_
    have hHeld : w12.cell? ⟨gb341, 0, none⟩ = some (.int .u64 a1_0) ∧ w12.cell? ⟨gb341, 1, none⟩ = some (.int .u64 a1_1) ∧ w12.cell? ⟨gb342, 0, none⟩ = some (.int .u64 a2_0) ∧ w12.cell? ⟨gb342, 1, none⟩ = some (.int .u64 a2_1) := hS_
    refine norm_ (a' := ?_) ?_ ?_
    rotate_left
    ·simp only [putAll, Act.put, xT, xZ, xS]
     rfl
    refine one_ (i := 6) (N := some 7) #[true, true, true, true, true, true, true, true, false, false] rfl rfl (one_of HT_.out (by kernel_rfl)) (by decide) (fun K hK => ?_)
    refine box_step ?hg (N := 7) ?hd (cs := #[.int .i64 0, .bool false, .int .u64 0, .int .u64 0, .int .i64 0]) (t := 27) ?hr ?_; (case hd => rfl); (case hg => rfl); (case hr => first | (go_simp; done) | (go_simp; rfl))
    intro gb353 hg w13 hbox hb
    have n0_ := zM (blk_below (g := gb341) (o := .cells #[.int .u64 a1_0, .int .u64 a1_1] 25 (0, 0)) (by (with_reducible repeat (first | apply zN | apply zD | apply zA)); exact BK341.out) hb)
    have n1_ := zM (blk_below (g := gb342) (o := .cells #[.int .u64 a2_0, .int .u64 a2_1] 25 (0, 0)) (by (with_reducible repeat (first | apply zN | apply zD | apply zA)); exact BK342.out) hb)
    have n2_ := zM (blk_below (g := gb354) (o := .cells #[.int .i64 0, .bool false, .int .u64 0, .int .u64 0, .int .i64 0] 27 (0, 0)) (by (with_reducible repeat (first | apply zN | apply zD | apply zA)); exact BK354.out) hb)
    have n3_ := zM (below_step (by repeat (first | (with_reducible first | exact HB.out | apply yA | apply yN | apply yD | refine below_set ?_ GE341.out | refine below_set ?_ GE342.out | refine below_set ?_ GE354.out) | exact HB.out)) hb)
    have n4_ := zM (hbox)
    have n5_ := zM ((by rw [hg]; exact (below_size (by repeat (first | (with_reducible first | exact HB.out | apply yA | apply yN | apply yD | refine below_set ?_ GE341.out | refine below_set ?_ GE342.out | refine below_set ?_ GE354.out) | exact HB.out))) : w.heap.size ≤ gb353))
    have n6_ := zM ((by rw [hg]; exact (below_size (by repeat (first | (with_reducible first | exact HB.out | apply yA | apply yN | apply yD | refine below_set ?_ GE341.out | refine below_set ?_ GE342.out | refine below_set ?_ GE354.out) | exact HB.out))) : w.heap.size ≤ gb353))
    have n7_ := zM ((by rw [hg]; exact Nat.ne_of_lt (blk_lt (g := gb341) (o := .cells #[.int .u64 a1_0, .int .u64 a1_1] 25 (0, 0)) (by (with_reducible repeat (first | apply zN | apply zD | apply zA)); exact BK341.out)) : gb341 ≠ gb353))
    have n8_ := zM ((by rw [hg]; exact Nat.ne_of_gt (blk_lt (g := gb341) (o := .cells #[.int .u64 a1_0, .int .u64 a1_1] 25 (0, 0)) (by (with_reducible repeat (first | apply zN | apply zD | apply zA)); exact BK341.out)) : gb353 ≠ gb341))
    have n9_ := zM ((by rw [hg]; exact Nat.ne_of_lt (blk_lt (g := gb342) (o := .cells #[.int .u64 a2_0, .int .u64 a2_1] 25 (0, 0)) (by (with_reducible repeat (first | apply zN | apply zD | apply zA)); exact BK342.out)) : gb342 ≠ gb353))
    have n10_ := zM ((by rw [hg]; exact Nat.ne_of_gt (blk_lt (g := gb342) (o := .cells #[.int .u64 a2_0, .int .u64 a2_1] 25 (0, 0)) (by (with_reducible repeat (first | apply zN | apply zD | apply zA)); exact BK342.out)) : gb353 ≠ gb342))
    have n11_ := zM ((by rw [hg]; exact Nat.ne_of_lt (blk_lt (g := gb354) (o := .cells #[.int .i64 0, .bool false, .int .u64 0, .int .u64 0, .int .i64 0] 27 (0, 0)) (by (with_reducible repeat (first | apply zN | apply zD | apply zA)); exact BK354.out)) : gb354 ≠ gb353))
    have n12_ := zM ((by rw [hg]; exact Nat.ne_of_gt (blk_lt (g := gb354) (o := .cells #[.int .i64 0, .bool false, .int .u64 0, .int .u64 0, .int .i64 0] 27 (0, 0)) (by (with_reducible repeat (first | apply zN | apply zD | apply zA)); exact BK354.out)) : gb353 ≠ gb354))
    clear BK341
    clear BK342
    clear BK354
    clear HB
    have BK341 := n0_
    have BK342 := n1_
    have BK354 := n2_
    have HB := n3_
    have BK353 := n4_
    have GW353 := n5_
    have GE353 := n6_
    have NB341_353 := n7_
    have NB353_341 := n8_
    have NB342_353 := n9_
    have NB353_342 := n10_
    have NB354_353 := n11_
    have NB353_354 := n12_
    clear n0_ n1_ n2_ n3_ n4_ n5_ n6_ n7_ n8_ n9_ n10_ n11_ n12_
    clear hb hbox hg
    refine hK.out _ _ ⟨(blk_cell BK341.out 0).trans rfl, (blk_cell BK341.out 1).trans rfl, (blk_cell BK342.out 0).trans rfl, (blk_cell BK342.out 1).trans rfl⟩ (fun hHeld => ?_)
    clear hK K
    refine norm_ (a' := ?_) ?_ ?_
    rotate_left
    ·show Act.put _ (some 7) _ = _
     simp only [Act.put, xT, xZ, xS, i64_w, i32_w]
     rfl
    exact norm_ (by first | (simp only [putAll, Act.put, xT, xZ, xS]; done) | (simp only [putAll, Act.put, xT, xZ, xS]; rfl)) (hJ2_5_6_7 (gb353, gb354) _ ⟨hHeld, (by (with_reducible repeat (first | apply zN | apply zD | apply zA)); exact BK341.out), (by (with_reducible repeat (first | apply zN | apply zD | apply zA)); exact BK342.out), (by (with_reducible repeat (first | apply zN | apply zD | apply zA)); exact BK353.out), (by (with_reducible repeat (first | apply zN | apply zD | apply zA)); exact BK354.out), GW353.out, GE353.out, NB341_353.out, NB353_341.out, NB342_353.out, NB353_342.out, NB354_353.out, NB353_354.out, GW354.out, GE354.out, NB341_354.out, NB354_341.out, NB342_354.out, NB354_342.out, (by repeat (first | (with_reducible first | exact HB.out | apply yA | apply yN | apply yD | refine below_set ?_ GE341.out | refine below_set ?_ GE342.out | refine below_set ?_ GE354.out | refine below_set ?_ GE353.out) | exact HB.out))⟩)
  ·skip
   rintro gb353 w12 ⟨hS_, h0_, h1_, h2_, h3_, h4_, h5_, h6_, h7_, h8_, h9_⟩
   have n0_ : Aside0 (w12.heap[gb341]? = some (.cells #[.int .u64 a1_0, .int .u64 a1_1] 25 (0, 0))) := ⟨h0_⟩
   have n1_ : Aside0 (w12.heap[gb342]? = some (.cells #[.int .u64 a2_0, .int .u64 a2_1] 25 (0, 0))) := ⟨h1_⟩
   have n2_ : Aside0 (w12.heap[gb353]? = some (.cells #[.int .i64 0, .bool false, .int .u64 0, .int .u64 0, .int .i64 0] 27 (0, 0))) := ⟨h2_⟩
   have n3_ : Aside0 (w.heap.size ≤ gb353) := ⟨h3_⟩
   have n4_ : Aside0 (w.heap.size ≤ gb353) := ⟨h4_⟩
   have n5_ : Aside0 (gb341 ≠ gb353) := ⟨h5_⟩
   have n6_ : Aside0 (gb353 ≠ gb341) := ⟨h6_⟩
   have n7_ : Aside0 (gb342 ≠ gb353) := ⟨h7_⟩
   have n8_ : Aside0 (gb353 ≠ gb342) := ⟨h8_⟩
   have n9_ : Aside0 (Below w.heap.size w w12) := ⟨h9_⟩
   clear BK341
   clear BK342
   clear HB
   clear h0_ h1_ h2_ h3_ h4_ h5_ h6_ h7_ h8_ h9_
   have BK341 := n0_
   have BK342 := n1_
   have BK353 := n2_
   have GW353 := n3_
   have GE353 := n4_
   have NB341_353 := n5_
   have NB353_341 := n6_
   have NB342_353 := n7_
   have NB353_342 := n8_
   have HB := n9_
   clear n0_ n1_ n2_ n3_ n4_ n5_ n6_ n7_ n8_ n9_
   have hHeld : w12.cell? ⟨gb341, 0, none⟩ = some (.int .u64 a1_0) ∧ w12.cell? ⟨gb341, 1, none⟩ = some (.int .u64 a1_1) ∧ w12.cell? ⟨gb342, 0, none⟩ = some (.int .u64 a2_0) ∧ w12.cell? ⟨gb342, 1, none⟩ = some (.int .u64 a2_1) := hS_
   refine norm_ (a' := ?_) ?_ ?_
   rotate_left
   ·simp only [putAll, Act.put, xT, xZ, xS]
    rfl
   refine one_ (i := 7) (N := some 8) #[true, true, true, true, true, true, true, true, false, false] rfl rfl (one_of HT_.out (by kernel_rfl)) (by decide) (fun K hK => ?_)
   refine box_step ?hg (N := 8) ?hd (cs := #[.int .i64 0, .bool false, .int .u64 0, .int .u64 0, .int .i64 0]) (t := 27) ?hr ?_; (case hd => rfl); (case hg => rfl); (case hr => first | (go_simp; done) | (go_simp; rfl))
   intro gb354 hg w13 hbox hb
   have n0_ := zM (blk_below (g := gb341) (o := .cells #[.int .u64 a1_0, .int .u64 a1_1] 25 (0, 0)) (by (with_reducible repeat (first | apply zN | apply zD | apply zA)); exact BK341.out) hb)
   have n1_ := zM (blk_below (g := gb342) (o := .cells #[.int .u64 a2_0, .int .u64 a2_1] 25 (0, 0)) (by (with_reducible repeat (first | apply zN | apply zD | apply zA)); exact BK342.out) hb)
   have n2_ := zM (blk_below (g := gb353) (o := .cells #[.int .i64 0, .bool false, .int .u64 0, .int .u64 0, .int .i64 0] 27 (0, 0)) (by (with_reducible repeat (first | apply zN | apply zD | apply zA)); exact BK353.out) hb)
   have n3_ := zM (below_step (by repeat (first | (with_reducible first | exact HB.out | apply yA | apply yN | apply yD | refine below_set ?_ GE341.out | refine below_set ?_ GE342.out | refine below_set ?_ GE353.out) | exact HB.out)) hb)
   have n4_ := zM (hbox)
   have n5_ := zM ((by rw [hg]; exact (below_size (by repeat (first | (with_reducible first | exact HB.out | apply yA | apply yN | apply yD | refine below_set ?_ GE341.out | refine below_set ?_ GE342.out | refine below_set ?_ GE353.out) | exact HB.out))) : w.heap.size ≤ gb354))
   have n6_ := zM ((by rw [hg]; exact (below_size (by repeat (first | (with_reducible first | exact HB.out | apply yA | apply yN | apply yD | refine below_set ?_ GE341.out | refine below_set ?_ GE342.out | refine below_set ?_ GE353.out) | exact HB.out))) : w.heap.size ≤ gb354))
   have n7_ := zM ((by rw [hg]; exact Nat.ne_of_lt (blk_lt (g := gb341) (o := .cells #[.int .u64 a1_0, .int .u64 a1_1] 25 (0, 0)) (by (with_reducible repeat (first | apply zN | apply zD | apply zA)); exact BK341.out)) : gb341 ≠ gb354))
   have n8_ := zM ((by rw [hg]; exact Nat.ne_of_gt (blk_lt (g := gb341) (o := .cells #[.int .u64 a1_0, .int .u64 a1_1] 25 (0, 0)) (by (with_reducible repeat (first | apply zN | apply zD | apply zA)); exact BK341.out)) : gb354 ≠ gb341))
   have n9_ := zM ((by rw [hg]; exact Nat.ne_of_lt (blk_lt (g := gb342) (o := .cells #[.int .u64 a2_0, .int .u64 a2_1] 25 (0, 0)) (by (with_reducible repeat (first | apply zN | apply zD | apply zA)); exact BK342.out)) : gb342 ≠ gb354))
   have n10_ := zM ((by rw [hg]; exact Nat.ne_of_gt (blk_lt (g := gb342) (o := .cells #[.int .u64 a2_0, .int .u64 a2_1] 25 (0, 0)) (by (with_reducible repeat (first | apply zN | apply zD | apply zA)); exact BK342.out)) : gb354 ≠ gb342))
   have n11_ := zM ((by rw [hg]; exact Nat.ne_of_lt (blk_lt (g := gb353) (o := .cells #[.int .i64 0, .bool false, .int .u64 0, .int .u64 0, .int .i64 0] 27 (0, 0)) (by (with_reducible repeat (first | apply zN | apply zD | apply zA)); exact BK353.out)) : gb353 ≠ gb354))
   have n12_ := zM ((by rw [hg]; exact Nat.ne_of_gt (blk_lt (g := gb353) (o := .cells #[.int .i64 0, .bool false, .int .u64 0, .int .u64 0, .int .i64 0] 27 (0, 0)) (by (with_reducible repeat (first | apply zN | apply zD | apply zA)); exact BK353.out)) : gb354 ≠ gb353))
   clear BK341
   clear BK342
   clear BK353
   clear HB
   have BK341 := n0_
   have BK342 := n1_
   have BK353 := n2_
   have HB := n3_
   have BK354 := n4_
   have GW354 := n5_
   have GE354 := n6_
   have NB341_354 := n7_
   have NB354_341 := n8_
   have NB342_354 := n9_
   have NB354_342 := n10_
   have NB353_354 := n11_
   have NB354_353 := n12_
   clear n0_ n1_ n2_ n3_ n4_ n5_ n6_ n7_ n8_ n9_ n10_ n11_ n12_
   clear hb hbox hg
   refine hK.out _ _ ⟨(blk_cell BK341.out 0).trans rfl, (blk_cell BK341.out 1).trans rfl, (blk_cell BK342.out 0).trans rfl, (blk_cell BK342.out 1).trans rfl⟩ (fun hHeld => ?_)
   clear hK K
   refine norm_ (a' := ?_) ?_ ?_
   rotate_left
   ·show Act.put _ (some 8) _ = _
    simp only [Act.put, xT, xZ, xS, i64_w, i32_w]
    rfl
   exact norm_ (by first | (simp only [putAll, Act.put, xT, xZ, xS]; done) | (simp only [putAll, Act.put, xT, xZ, xS]; rfl)) (hJ2_5_6_7 (gb353, gb354) _ ⟨hHeld, (by (with_reducible repeat (first | apply zN | apply zD | apply zA)); exact BK341.out), (by (with_reducible repeat (first | apply zN | apply zD | apply zA)); exact BK342.out), (by (with_reducible repeat (first | apply zN | apply zD | apply zA)); exact BK353.out), (by (with_reducible repeat (first | apply zN | apply zD | apply zA)); exact BK354.out), GW353.out, GE353.out, NB341_353.out, NB353_341.out, NB342_353.out, NB353_342.out, NB354_353.out, NB353_354.out, GW354.out, GE354.out, NB341_354.out, NB354_341.out, NB342_354.out, NB354_342.out, (by repeat (first | (with_reducible first | exact HB.out | apply yA | apply yN | apply yD | refine below_set ?_ GE341.out | refine below_set ?_ GE342.out | refine below_set ?_ GE353.out | refine below_set ?_ GE354.out) | exact HB.out))⟩)
 rintro ⟨gb353, gb354⟩ w13 ⟨hS_, h0_, h1_, h2_, h3_, h4_, h5_, h6_, h7_, h8_, h9_, h10_, h11_, h12_, h13_, h14_, h15_, h16_, h17_, h18_⟩
 have n0_ : Aside0 (w13.heap[gb341]? = some (.cells #[.int .u64 a1_0, .int .u64 a1_1] 25 (0, 0))) := ⟨h0_⟩
 have n1_ : Aside0 (w13.heap[gb342]? = some (.cells #[.int .u64 a2_0, .int .u64 a2_1] 25 (0, 0))) := ⟨h1_⟩
 have n2_ : Aside0 (w13.heap[gb353]? = some (.cells #[.int .i64 0, .bool false, .int .u64 0, .int .u64 0, .int .i64 0] 27 (0, 0))) := ⟨h2_⟩
 have n3_ : Aside0 (w13.heap[gb354]? = some (.cells #[.int .i64 0, .bool false, .int .u64 0, .int .u64 0, .int .i64 0] 27 (0, 0))) := ⟨h3_⟩
 have n4_ : Aside0 (w.heap.size ≤ gb353) := ⟨h4_⟩
 have n5_ : Aside0 (w.heap.size ≤ gb353) := ⟨h5_⟩
 have n6_ : Aside0 (gb341 ≠ gb353) := ⟨h6_⟩
 have n7_ : Aside0 (gb353 ≠ gb341) := ⟨h7_⟩
 have n8_ : Aside0 (gb342 ≠ gb353) := ⟨h8_⟩
 have n9_ : Aside0 (gb353 ≠ gb342) := ⟨h9_⟩
 have n10_ : Aside0 (gb354 ≠ gb353) := ⟨h10_⟩
 have n11_ : Aside0 (gb353 ≠ gb354) := ⟨h11_⟩
 have n12_ : Aside0 (w.heap.size ≤ gb354) := ⟨h12_⟩
 have n13_ : Aside0 (w.heap.size ≤ gb354) := ⟨h13_⟩
 have n14_ : Aside0 (gb341 ≠ gb354) := ⟨h14_⟩
 have n15_ : Aside0 (gb354 ≠ gb341) := ⟨h15_⟩
 have n16_ : Aside0 (gb342 ≠ gb354) := ⟨h16_⟩
 have n17_ : Aside0 (gb354 ≠ gb342) := ⟨h17_⟩
 have n18_ : Aside0 (Below w.heap.size w w13) := ⟨h18_⟩
 clear BK341
 clear BK342
 clear HB
 clear h0_ h1_ h2_ h3_ h4_ h5_ h6_ h7_ h8_ h9_ h10_ h11_ h12_ h13_ h14_ h15_ h16_ h17_ h18_
 have BK341 := n0_
 have BK342 := n1_
 have BK353 := n2_
 have BK354 := n3_
 have GW353 := n4_
 have GE353 := n5_
 have NB341_353 := n6_
 have NB353_341 := n7_
 have NB342_353 := n8_
 have NB353_342 := n9_
 have NB354_353 := n10_
 have NB353_354 := n11_
 have GW354 := n12_
 have GE354 := n13_
 have NB341_354 := n14_
 have NB354_341 := n15_
 have NB342_354 := n16_
 have NB354_342 := n17_
 have HB := n18_
 clear n0_ n1_ n2_ n3_ n4_ n5_ n6_ n7_ n8_ n9_ n10_ n11_ n12_ n13_ n14_ n15_ n16_ n17_ n18_
 have hHeld : w13.cell? ⟨gb341, 0, none⟩ = some (.int .u64 a1_0) ∧ w13.cell? ⟨gb341, 1, none⟩ = some (.int .u64 a1_1) ∧ w13.cell? ⟨gb342, 0, none⟩ = some (.int .u64 a2_0) ∧ w13.cell? ⟨gb342, 1, none⟩ = some (.int .u64 a2_1) := hS_
 refine norm_ (a' := ?_) ?_ ?_
 rotate_left
 ·simp only [putAll, Act.put, xT, xZ, xS]
  rfl
 refine one_ (i := 8) (N := none) #[true, true, true, true, true, true, true, true, true, false] rfl rfl (one_of HT_.out (by kernel_rfl)) (by decide) (fun K hK => ?_)
 have hs14 : w13.cell? ⟨gb353, 0, none⟩ = some (.int .i64 0) := (blk_cell BK353.out 0).trans rfl
 have hfs14 := blk_frozen BK353.out 0
 have hns14_0 := NB341_353.out
 have hns14_1 := NB342_353.out
 have hns14_3 := NB354_353.out
 have hms14_0 := NB353_341.out
 have hms14_1 := NB353_342.out
 have hms14_3 := NB353_354.out
 have hs15 : w13.cell? ⟨gb353, 1, none⟩ = some (.bool false) := (blk_cell BK353.out 1).trans rfl
 have hfs15 := blk_frozen BK353.out 1
 have hns15_0 := NB341_353.out
 have hns15_1 := NB342_353.out
 have hns15_3 := NB354_353.out
 have hms15_0 := NB353_341.out
 have hms15_1 := NB353_342.out
 have hms15_3 := NB353_354.out
 have hs16 : w13.cell? ⟨gb353, 2, none⟩ = some (.int .u64 0) := (blk_cell BK353.out 2).trans rfl
 have hfs16 := blk_frozen BK353.out 2
 have hns16_0 := NB341_353.out
 have hns16_1 := NB342_353.out
 have hns16_3 := NB354_353.out
 have hms16_0 := NB353_341.out
 have hms16_1 := NB353_342.out
 have hms16_3 := NB353_354.out
 have hs17 : w13.cell? ⟨gb353, 3, none⟩ = some (.int .u64 0) := (blk_cell BK353.out 3).trans rfl
 have hfs17 := blk_frozen BK353.out 3
 have hns17_0 := NB341_353.out
 have hns17_1 := NB342_353.out
 have hns17_3 := NB354_353.out
 have hms17_0 := NB353_341.out
 have hms17_1 := NB353_342.out
 have hms17_3 := NB353_354.out
 have hs18 : w13.cell? ⟨gb353, 4, none⟩ = some (.int .i64 0) := (blk_cell BK353.out 4).trans rfl
 have hfs18 := blk_frozen BK353.out 4
 have hns18_0 := NB341_353.out
 have hns18_1 := NB342_353.out
 have hns18_3 := NB354_353.out
 have hms18_0 := NB353_341.out
 have hms18_1 := NB353_342.out
 have hms18_3 := NB353_354.out
 refine skip_ (w1 := ?_) (by rfl) rfl ?_ ?_
 rotate_left
 ·go_simp
  rfl
 refine hK.out _ _ ⟨((cell_far (p := ⟨gb353, _, none⟩) NB341_353.out _).trans (((cell_far (p := ⟨gb353, _, none⟩) NB341_353.out _).trans (((cell_far (p := ⟨gb353, _, none⟩) NB341_353.out _).trans (((cell_far (p := ⟨gb353, _, none⟩) NB341_353.out _).trans (((cell_far (p := ⟨gb353, _, none⟩) NB341_353.out _).trans (hHeld.1)))))))))), ((cell_far (p := ⟨gb353, _, none⟩) NB341_353.out _).trans (((cell_far (p := ⟨gb353, _, none⟩) NB341_353.out _).trans (((cell_far (p := ⟨gb353, _, none⟩) NB341_353.out _).trans (((cell_far (p := ⟨gb353, _, none⟩) NB341_353.out _).trans (((cell_far (p := ⟨gb353, _, none⟩) NB341_353.out _).trans (hHeld.2.1)))))))))), ((cell_far (p := ⟨gb353, _, none⟩) NB342_353.out _).trans (((cell_far (p := ⟨gb353, _, none⟩) NB342_353.out _).trans (((cell_far (p := ⟨gb353, _, none⟩) NB342_353.out _).trans (((cell_far (p := ⟨gb353, _, none⟩) NB342_353.out _).trans (((cell_far (p := ⟨gb353, _, none⟩) NB342_353.out _).trans (hHeld.2.2.1)))))))))), ((cell_far (p := ⟨gb353, _, none⟩) NB342_353.out _).trans (((cell_far (p := ⟨gb353, _, none⟩) NB342_353.out _).trans (((cell_far (p := ⟨gb353, _, none⟩) NB342_353.out _).trans (((cell_far (p := ⟨gb353, _, none⟩) NB342_353.out _).trans (((cell_far (p := ⟨gb353, _, none⟩) NB342_353.out _).trans (hHeld.2.2.2))))))))))⟩ (fun hHeld => ?_)
 clear hK K
 refine one_ (i := 9) (N := none) #[true, true, true, true, true, true, true, true, true, true] rfl rfl (one_of HT_.out (by kernel_rfl)) (by decide) (fun K hK => ?_)
 have hs19 : w13.cell? ⟨gb354, 0, none⟩ = some (.int .i64 0) := (blk_cell BK354.out 0).trans rfl
 have hfs19 := blk_frozen BK354.out 0
 have hns19_0 := NB341_354.out
 have hns19_1 := NB342_354.out
 have hns19_2 := NB353_354.out
 have hms19_0 := NB354_341.out
 have hms19_1 := NB354_342.out
 have hms19_2 := NB354_353.out
 have hs20 : w13.cell? ⟨gb354, 1, none⟩ = some (.bool false) := (blk_cell BK354.out 1).trans rfl
 have hfs20 := blk_frozen BK354.out 1
 have hns20_0 := NB341_354.out
 have hns20_1 := NB342_354.out
 have hns20_2 := NB353_354.out
 have hms20_0 := NB354_341.out
 have hms20_1 := NB354_342.out
 have hms20_2 := NB354_353.out
 have hs21 : w13.cell? ⟨gb354, 2, none⟩ = some (.int .u64 0) := (blk_cell BK354.out 2).trans rfl
 have hfs21 := blk_frozen BK354.out 2
 have hns21_0 := NB341_354.out
 have hns21_1 := NB342_354.out
 have hns21_2 := NB353_354.out
 have hms21_0 := NB354_341.out
 have hms21_1 := NB354_342.out
 have hms21_2 := NB354_353.out
 have hs22 : w13.cell? ⟨gb354, 3, none⟩ = some (.int .u64 0) := (blk_cell BK354.out 3).trans rfl
 have hfs22 := blk_frozen BK354.out 3
 have hns22_0 := NB341_354.out
 have hns22_1 := NB342_354.out
 have hns22_2 := NB353_354.out
 have hms22_0 := NB354_341.out
 have hms22_1 := NB354_342.out
 have hms22_2 := NB354_353.out
 have hs23 : w13.cell? ⟨gb354, 4, none⟩ = some (.int .i64 0) := (blk_cell BK354.out 4).trans rfl
 have hfs23 := blk_frozen BK354.out 4
 have hns23_0 := NB341_354.out
 have hns23_1 := NB342_354.out
 have hns23_2 := NB353_354.out
 have hms23_0 := NB354_341.out
 have hms23_1 := NB354_342.out
 have hms23_2 := NB354_353.out
 refine skip_ (w1 := ?_) (by rfl) rfl ?_ ?_
 rotate_left
 ·go_simp
  rfl
 refine hK.out _ _ ⟨((cell_far (p := ⟨gb354, _, none⟩) NB341_354.out _).trans (((cell_far (p := ⟨gb354, _, none⟩) NB341_354.out _).trans (((cell_far (p := ⟨gb354, _, none⟩) NB341_354.out _).trans (((cell_far (p := ⟨gb354, _, none⟩) NB341_354.out _).trans (((cell_far (p := ⟨gb354, _, none⟩) NB341_354.out _).trans (hHeld.1)))))))))), ((cell_far (p := ⟨gb354, _, none⟩) NB341_354.out _).trans (((cell_far (p := ⟨gb354, _, none⟩) NB341_354.out _).trans (((cell_far (p := ⟨gb354, _, none⟩) NB341_354.out _).trans (((cell_far (p := ⟨gb354, _, none⟩) NB341_354.out _).trans (((cell_far (p := ⟨gb354, _, none⟩) NB341_354.out _).trans (hHeld.2.1)))))))))), ((cell_far (p := ⟨gb354, _, none⟩) NB342_354.out _).trans (((cell_far (p := ⟨gb354, _, none⟩) NB342_354.out _).trans (((cell_far (p := ⟨gb354, _, none⟩) NB342_354.out _).trans (((cell_far (p := ⟨gb354, _, none⟩) NB342_354.out _).trans (((cell_far (p := ⟨gb354, _, none⟩) NB342_354.out _).trans (hHeld.2.2.1)))))))))), ((cell_far (p := ⟨gb354, _, none⟩) NB342_354.out _).trans (((cell_far (p := ⟨gb354, _, none⟩) NB342_354.out _).trans (((cell_far (p := ⟨gb354, _, none⟩) NB342_354.out _).trans (((cell_far (p := ⟨gb354, _, none⟩) NB342_354.out _).trans (((cell_far (p := ⟨gb354, _, none⟩) NB342_354.out _).trans (hHeld.2.2.2))))))))))⟩ (fun hHeld => ?_)
 clear hK K
 refine done_ (done_of HT_.out (by kernel_rfl)) ?_
 have hnb24 := NB353_341.out
 have hnc24 := NB341_353.out
 have hnb25 := NB353_342.out
 have hnc25 := NB342_353.out
 have hnb26 := NB353_354.out
 have hnc26 := NB354_353.out
 have hcz27_0 : w13.cell? ⟨gb353, 0, none⟩ = some (.int .i64 0) := (blk_cell BK353.out 0).trans rfl
 have hcz27_1 : w13.cell? ⟨gb353, 1, none⟩ = some (.bool false) := (blk_cell BK353.out 1).trans rfl
 have hcz27_2 : w13.cell? ⟨gb353, 2, none⟩ = some (.int .u64 0) := (blk_cell BK353.out 2).trans rfl
 have hcz27_3 : w13.cell? ⟨gb353, 3, none⟩ = some (.int .u64 0) := (blk_cell BK353.out 3).trans rfl
 have hcz27_4 : w13.cell? ⟨gb353, 4, none⟩ = some (.int .i64 0) := (blk_cell BK353.out 4).trans rfl
 have hfz27_0 := blk_frozen BK353.out 0
 have hfz27_1 := blk_frozen BK353.out 1
 have hfz27_2 := blk_frozen BK353.out 2
 have hfz27_3 := blk_frozen BK353.out 3
 have hfz27_4 := blk_frozen BK353.out 4
 have hnb28 := NB354_341.out
 have hnc28 := NB341_354.out
 have hnb29 := NB354_342.out
 have hnc29 := NB342_354.out
 have hcz30_0 : w13.cell? ⟨gb354, 0, none⟩ = some (.int .i64 0) := (blk_cell BK354.out 0).trans rfl
 have hcz30_1 : w13.cell? ⟨gb354, 1, none⟩ = some (.bool false) := (blk_cell BK354.out 1).trans rfl
 have hcz30_2 : w13.cell? ⟨gb354, 2, none⟩ = some (.int .u64 0) := (blk_cell BK354.out 2).trans rfl
 have hcz30_3 : w13.cell? ⟨gb354, 3, none⟩ = some (.int .u64 0) := (blk_cell BK354.out 3).trans rfl
 have hcz30_4 : w13.cell? ⟨gb354, 4, none⟩ = some (.int .i64 0) := (blk_cell BK354.out 4).trans rfl
 have hfz30_0 := blk_frozen BK354.out 0
 have hfz30_1 := blk_frozen BK354.out 1
 have hfz30_2 := blk_frozen BK354.out 2
 have hfz30_3 := blk_frozen BK354.out 3
 have hfz30_4 := blk_frozen BK354.out 4
 try go_wp2_with (first | ((with_reducible refine gate_dst (N := 24) rfl ?_); refine Kd.R_lit k27 _ 27 ?hg (N := 24) ?hd (xs := ([(⟨t343, t344, (⟨t345, t346⟩ : S25), t347⟩ : S27), (⟨t348, t349, (⟨t350, t351⟩ : S25), t352⟩ : S27)] : List (S27))) (inner := [.int .i64 t343, .bool t344, .int .u64 t345, .int .u64 t346, .int .i64 t347, .int .i64 t348, .bool t349, .int .u64 t350, .int .u64 t351, .int .i64 t352]) (ok := fun _ => True) (okp := fun _ => True) ?hr ?hp (fun _ hk => hk) trivial (Below.refl _ _) (Nat.le_refl _) (by simp) ?_; (case hd => rfl); (case hg => rfl); (case hr => first | (go_simp; done) | (go_simp; rfl)); (case hp => exact (Reps.c5 (show Kd.M k27 _ _ _ (⟨t343, t344, (⟨t345, t346⟩ : S25), t347⟩ : S27) [.int .i64 t343, .bool t344, .int .u64 t345, .int .u64 t346, .int .i64 t347] from (k27_mkM _ _ _ (⟨t343, t344, (⟨t345, t346⟩ : S25), t347⟩ : S27) )) (Reps.c5 (show Kd.M k27 _ _ _ (⟨t348, t349, (⟨t350, t351⟩ : S25), t352⟩ : S27) [.int .i64 t348, .bool t349, .int .u64 t350, .int .u64 t351, .int .i64 t352] from (k27_mkM _ _ _ (⟨t348, t349, (⟨t350, t351⟩ : S25), t352⟩ : S27) )) (Reps.none _ _)))); intro v356 w31 ho32 hb hg_ hnew_; clear hg_ hnew_; (first | rw [← Ny355.out] at ho32 | (simp only [Int.reduceToNat] at ho32; rw [← Ny355.out] at ho32)); have n0_ := zM (Kd.R_lower (Kd.R_newB (Kd.R_newB ho32 (g := gb353) (o := .cells #[.int .i64 t343, .bool t344, .int .u64 t345, .int .u64 t346, .int .i64 t347] 27 (0, 0)) (by (with_reducible repeat (first | apply zN | apply zD | apply zA)); refine blk_far ?_ NB353_354.out _; (with_reducible repeat (first | apply zN | apply zD | apply zA)); refine blk_far ?_ NB353_354.out _; (with_reducible repeat (first | apply zN | apply zD | apply zA)); refine blk_far ?_ NB353_354.out _; (with_reducible repeat (first | apply zN | apply zD | apply zA)); refine blk_far ?_ NB353_354.out _; (with_reducible repeat (first | apply zN | apply zD | apply zA)); refine blk_far ?_ NB353_354.out _; (with_reducible repeat (first | apply zN | apply zD | apply zA)); refine blk_put (cs := #[.int .i64 t343, .bool t344, .int .u64 t345, .int .u64 t346, .int .i64 0]) ?_ 4 _ rfl; (with_reducible repeat (first | apply zN | apply zD | apply zA)); refine blk_put (cs := #[.int .i64 t343, .bool t344, .int .u64 t345, .int .u64 0, .int .i64 0]) ?_ 3 _ rfl; (with_reducible repeat (first | apply zN | apply zD | apply zA)); refine blk_put (cs := #[.int .i64 t343, .bool t344, .int .u64 0, .int .u64 0, .int .i64 0]) ?_ 2 _ rfl; (with_reducible repeat (first | apply zN | apply zD | apply zA)); refine blk_put (cs := #[.int .i64 t343, .bool false, .int .u64 0, .int .u64 0, .int .i64 0]) ?_ 1 _ rfl; (with_reducible repeat (first | apply zN | apply zD | apply zA)); refine blk_put (cs := #[.int .i64 0, .bool false, .int .u64 0, .int .u64 0, .int .i64 0]) ?_ 0 _ rfl; (with_reducible repeat (first | apply zN | apply zD | apply zA)); exact BK353.out)) (g := gb354) (o := .cells #[.int .i64 t348, .bool t349, .int .u64 t350, .int .u64 t351, .int .i64 t352] 27 (0, 0)) (by (with_reducible repeat (first | apply zN | apply zD | apply zA)); refine blk_put (cs := #[.int .i64 t348, .bool t349, .int .u64 t350, .int .u64 t351, .int .i64 0]) ?_ 4 _ rfl; (with_reducible repeat (first | apply zN | apply zD | apply zA)); refine blk_put (cs := #[.int .i64 t348, .bool t349, .int .u64 t350, .int .u64 0, .int .i64 0]) ?_ 3 _ rfl; (with_reducible repeat (first | apply zN | apply zD | apply zA)); refine blk_put (cs := #[.int .i64 t348, .bool t349, .int .u64 0, .int .u64 0, .int .i64 0]) ?_ 2 _ rfl; (with_reducible repeat (first | apply zN | apply zD | apply zA)); refine blk_put (cs := #[.int .i64 t348, .bool false, .int .u64 0, .int .u64 0, .int .i64 0]) ?_ 1 _ rfl; (with_reducible repeat (first | apply zN | apply zD | apply zA)); refine blk_put (cs := #[.int .i64 0, .bool false, .int .u64 0, .int .u64 0, .int .i64 0]) ?_ 0 _ rfl; (with_reducible repeat (first | apply zN | apply zD | apply zA)); refine blk_far ?_ NB354_353.out _; (with_reducible repeat (first | apply zN | apply zD | apply zA)); refine blk_far ?_ NB354_353.out _; (with_reducible repeat (first | apply zN | apply zD | apply zA)); refine blk_far ?_ NB354_353.out _; (with_reducible repeat (first | apply zN | apply zD | apply zA)); refine blk_far ?_ NB354_353.out _; (with_reducible repeat (first | apply zN | apply zD | apply zA)); refine blk_far ?_ NB354_353.out _; (with_reducible repeat (first | apply zN | apply zD | apply zA)); exact BK354.out)) (below_size (by repeat (first | (with_reducible first | exact HB.out | apply yA | apply yN | apply yD | refine below_set ?_ GE341.out | refine below_set ?_ GE342.out | refine below_set ?_ GE353.out | refine below_set ?_ GE354.out) | exact HB.out)))); have n1_ := zM (blk_below (g := gb341) (o := .cells #[.int .u64 a1_0, .int .u64 a1_1] 25 (0, 0)) (by (with_reducible repeat (first | apply zN | apply zD | apply zA)); refine blk_far ?_ NB341_354.out _; (with_reducible repeat (first | apply zN | apply zD | apply zA)); refine blk_far ?_ NB341_354.out _; (with_reducible repeat (first | apply zN | apply zD | apply zA)); refine blk_far ?_ NB341_354.out _; (with_reducible repeat (first | apply zN | apply zD | apply zA)); refine blk_far ?_ NB341_354.out _; (with_reducible repeat (first | apply zN | apply zD | apply zA)); refine blk_far ?_ NB341_354.out _; (with_reducible repeat (first | apply zN | apply zD | apply zA)); refine blk_far ?_ NB341_353.out _; (with_reducible repeat (first | apply zN | apply zD | apply zA)); refine blk_far ?_ NB341_353.out _; (with_reducible repeat (first | apply zN | apply zD | apply zA)); refine blk_far ?_ NB341_353.out _; (with_reducible repeat (first | apply zN | apply zD | apply zA)); refine blk_far ?_ NB341_353.out _; (with_reducible repeat (first | apply zN | apply zD | apply zA)); refine blk_far ?_ NB341_353.out _; (with_reducible repeat (first | apply zN | apply zD | apply zA)); exact BK341.out) hb); have n2_ := zM (blk_below (g := gb342) (o := .cells #[.int .u64 a2_0, .int .u64 a2_1] 25 (0, 0)) (by (with_reducible repeat (first | apply zN | apply zD | apply zA)); refine blk_far ?_ NB342_354.out _; (with_reducible repeat (first | apply zN | apply zD | apply zA)); refine blk_far ?_ NB342_354.out _; (with_reducible repeat (first | apply zN | apply zD | apply zA)); refine blk_far ?_ NB342_354.out _; (with_reducible repeat (first | apply zN | apply zD | apply zA)); refine blk_far ?_ NB342_354.out _; (with_reducible repeat (first | apply zN | apply zD | apply zA)); refine blk_far ?_ NB342_354.out _; (with_reducible repeat (first | apply zN | apply zD | apply zA)); refine blk_far ?_ NB342_353.out _; (with_reducible repeat (first | apply zN | apply zD | apply zA)); refine blk_far ?_ NB342_353.out _; (with_reducible repeat (first | apply zN | apply zD | apply zA)); refine blk_far ?_ NB342_353.out _; (with_reducible repeat (first | apply zN | apply zD | apply zA)); refine blk_far ?_ NB342_353.out _; (with_reducible repeat (first | apply zN | apply zD | apply zA)); refine blk_far ?_ NB342_353.out _; (with_reducible repeat (first | apply zN | apply zD | apply zA)); exact BK342.out) hb); have n3_ := zM (blk_below (g := gb353) (o := .cells #[.int .i64 t343, .bool t344, .int .u64 t345, .int .u64 t346, .int .i64 t347] 27 (0, 0)) (by (with_reducible repeat (first | apply zN | apply zD | apply zA)); refine blk_far ?_ NB353_354.out _; (with_reducible repeat (first | apply zN | apply zD | apply zA)); refine blk_far ?_ NB353_354.out _; (with_reducible repeat (first | apply zN | apply zD | apply zA)); refine blk_far ?_ NB353_354.out _; (with_reducible repeat (first | apply zN | apply zD | apply zA)); refine blk_far ?_ NB353_354.out _; (with_reducible repeat (first | apply zN | apply zD | apply zA)); refine blk_far ?_ NB353_354.out _; (with_reducible repeat (first | apply zN | apply zD | apply zA)); refine blk_put (cs := #[.int .i64 t343, .bool t344, .int .u64 t345, .int .u64 t346, .int .i64 0]) ?_ 4 _ rfl; (with_reducible repeat (first | apply zN | apply zD | apply zA)); refine blk_put (cs := #[.int .i64 t343, .bool t344, .int .u64 t345, .int .u64 0, .int .i64 0]) ?_ 3 _ rfl; (with_reducible repeat (first | apply zN | apply zD | apply zA)); refine blk_put (cs := #[.int .i64 t343, .bool t344, .int .u64 0, .int .u64 0, .int .i64 0]) ?_ 2 _ rfl; (with_reducible repeat (first | apply zN | apply zD | apply zA)); refine blk_put (cs := #[.int .i64 t343, .bool false, .int .u64 0, .int .u64 0, .int .i64 0]) ?_ 1 _ rfl; (with_reducible repeat (first | apply zN | apply zD | apply zA)); refine blk_put (cs := #[.int .i64 0, .bool false, .int .u64 0, .int .u64 0, .int .i64 0]) ?_ 0 _ rfl; (with_reducible repeat (first | apply zN | apply zD | apply zA)); exact BK353.out) hb); have n4_ := zM (blk_below (g := gb354) (o := .cells #[.int .i64 t348, .bool t349, .int .u64 t350, .int .u64 t351, .int .i64 t352] 27 (0, 0)) (by (with_reducible repeat (first | apply zN | apply zD | apply zA)); refine blk_put (cs := #[.int .i64 t348, .bool t349, .int .u64 t350, .int .u64 t351, .int .i64 0]) ?_ 4 _ rfl; (with_reducible repeat (first | apply zN | apply zD | apply zA)); refine blk_put (cs := #[.int .i64 t348, .bool t349, .int .u64 t350, .int .u64 0, .int .i64 0]) ?_ 3 _ rfl; (with_reducible repeat (first | apply zN | apply zD | apply zA)); refine blk_put (cs := #[.int .i64 t348, .bool t349, .int .u64 0, .int .u64 0, .int .i64 0]) ?_ 2 _ rfl; (with_reducible repeat (first | apply zN | apply zD | apply zA)); refine blk_put (cs := #[.int .i64 t348, .bool false, .int .u64 0, .int .u64 0, .int .i64 0]) ?_ 1 _ rfl; (with_reducible repeat (first | apply zN | apply zD | apply zA)); refine blk_put (cs := #[.int .i64 0, .bool false, .int .u64 0, .int .u64 0, .int .i64 0]) ?_ 0 _ rfl; (with_reducible repeat (first | apply zN | apply zD | apply zA)); refine blk_far ?_ NB354_353.out _; (with_reducible repeat (first | apply zN | apply zD | apply zA)); refine blk_far ?_ NB354_353.out _; (with_reducible repeat (first | apply zN | apply zD | apply zA)); refine blk_far ?_ NB354_353.out _; (with_reducible repeat (first | apply zN | apply zD | apply zA)); refine blk_far ?_ NB354_353.out _; (with_reducible repeat (first | apply zN | apply zD | apply zA)); refine blk_far ?_ NB354_353.out _; (with_reducible repeat (first | apply zN | apply zD | apply zA)); exact BK354.out) hb); have n5_ := zM (below_step (by repeat (first | (with_reducible first | exact HB.out | apply yA | apply yN | apply yD | refine below_set ?_ GE341.out | refine below_set ?_ GE342.out | refine below_set ?_ GE353.out | refine below_set ?_ GE354.out) | exact HB.out)) hb); clear BK341; clear BK342; clear BK353; clear BK354; clear HB; have HO357 := n0_; have BK341 := n1_; have BK342 := n2_; have BK353 := n3_; have BK354 := n4_; have HB := n5_; clear n0_ n1_ n2_ n3_ n4_ n5_; clear hb ho32; obtain ⟨Ao33, co33, eo33⟩ := Kd.R_slice HO357.out; subst eo33))
 go_loopg [26] k (fun kq v26 w' => ∃ (x26_1 : Int), v26 = .int .i64 x26_1 ∧ Aside0 (impl_Order.l0 kq a0 y355 (y355.length : Int) x26_1 a1_0 a1_1 a2_0 a2_1 t343 t344 t345 t346 t347 t348 t349 t350 t351 t352 = some r) ∧ Aside0 (kq ≤ k) ∧ Aside0 (Kd.R k27 27 w' w.heap.size (fun k_ => k_ ≠ gb353 ∧ k_ ≠ gb354) (.slice Ao33 y355.length co33) y355) ∧ Aside0 (w'.heap[gb341]? = some (.cells #[.int .u64 a1_0, .int .u64 a1_1] 25 (0, 0))) ∧ Aside0 (w'.heap[gb342]? = some (.cells #[.int .u64 a2_0, .int .u64 a2_1] 25 (0, 0))) ∧ Aside0 (w'.heap[gb353]? = some (.cells #[.int .i64 t343, .bool t344, .int .u64 t345, .int .u64 t346, .int .i64 t347] 27 (0, 0))) ∧ Aside0 (w'.heap[gb354]? = some (.cells #[.int .i64 t348, .bool t349, .int .u64 t350, .int .u64 t351, .int .i64 t352] 27 (0, 0))) ∧ Aside0 (Below w.heap.size w w'))
 case atStart => exact ⟨(0), (by first | rfl | (simp; done) | (simp [*]; done)), H', ⟨Nat.le_refl _⟩, ⟨by (with_reducible repeat (first | apply Kd.R_alloc | apply Kd.R_drewN | apply Kd.R_drew)); exact Kd.R_mono HO357.out (fun _ hk => ⟨hk.1.2, hk.2⟩)⟩, ⟨by (with_reducible repeat (first | apply zN | apply zD | apply zA)); exact BK341.out⟩, ⟨by (with_reducible repeat (first | apply zN | apply zD | apply zA)); exact BK342.out⟩, ⟨by (with_reducible repeat (first | apply zN | apply zD | apply zA)); exact BK353.out⟩, ⟨by (with_reducible repeat (first | apply zN | apply zD | apply zA)); exact BK354.out⟩, ⟨by repeat (first | (with_reducible first | exact HB.out | apply yA | apply yN | apply yD | refine below_set ?_ GE341.out | refine below_set ?_ GE342.out | refine below_set ?_ GE353.out | refine below_set ?_ GE354.out) | exact HB.out)⟩⟩
 case round =>
  clear H'
  try clear c1; try clear c2; try clear p2; try clear c5; try clear c17; try clear c24; try clear c25; try clear c26; try clear c28; try clear c29; try clear hcz27_0; try clear hcz27_1; try clear hcz27_2; try clear hcz27_3; try clear hcz27_4; try clear hcz30_0; try clear hcz30_1; try clear hcz30_2; try clear hcz30_3; try clear hcz30_4; try clear hfz27_0; try clear hfz27_1; try clear hfz27_2; try clear hfz27_3; try clear hfz27_4; try clear hfz30_0; try clear hfz30_1; try clear hfz30_2; try clear hfz30_3; try clear hfz30_4
  obtain ⟨x26_1, rfl, HA, HK1, HO_24, BK341, BK342, BK353, BK354, HB⟩ := hrel
  cases gk with
  | zero => exact absurd HA.out (by simp [impl_Order.l0])
  | succ k1 =>
   have H := HA.out
   clear HA
   simp only [impl_Order.l0] at H
   by_cases c34 : x26_1 < (y355.length : Int)
   ·rw [if_pos c34] at H
    have c34b0 : decide (x26_1 < (y355.length : Int)) = true := decide_eq_true c34
    clear c34
    by_cases c35 : 0 ≤ x26_1
    ·rw [if_pos c35] at H
     have c35b0 : decide (0 ≤ x26_1) = true := decide_eq_true c35
     clear c35
     by_cases c36 : x26_1 < (y355.length : Int)
     ·rw [if_pos c36] at H
      have c36b0 : decide (x26_1 < (y355.length : Int)) = true := decide_eq_true c36
      clear c36
      by_cases c37 : ((rd_T27 y355 x26_1).f0) = 0
      ·rw [if_pos c37] at H
       have c37b0 : (((rd_T27 y355 x26_1).f0) == 0) = true := beq_iff_eq.mpr c37
       have c37b1 : (((rd_T27 y355 x26_1).f0) != 0) = false := bne_eq_false_iff_eq.mpr c37
       clear c37
       obtain rfl := Option.some.inj H
       have p358 : 0 ≤ (x26_1 : Int) := of_decide_eq_true (by first | (with_reducible assumption) | assumption)
       have q358 : x26_1 < (y355.length : Int) := of_decide_eq_true (by first | (with_reducible assumption) | assumption)
       obtain ⟨ad358, e358, hx358_0, hx358_1, hx358_2, hx358_3, hx358_4⟩ := at_T27 (Kd.R_reads' HO_24.out).2.2 x26_1 p358 q358
       cases e358
       replace p358 := eq_true p358
       replace q358 := eq_true q358
       go_wp2_with (first | ((with_reducible refine gate_dst (N := 10) rfl ?_); refine box_event ?hg (N := 10) ?hd (cs := #[.int .i64 0, .bool false, .int .u64 0, .int .u64 0, .int .i64 0]) (t := 27) ?hr ?_; (case hd => rfl); (case hg => rfl); (case hr => first | (go_simp; done) | (go_simp; rfl)); intro gb359 hg w38 hbox hb; have n0_ := zM (Kd.R_below (Kd.R_elderB (by (with_reducible repeat (first | apply Kd.R_alloc | apply Kd.R_drewN | apply Kd.R_drew)); exact HO_24.out) gb359 (Nat.le_of_eq hg.symm)) hb); have n1_ := zM (blk_below (g := gb341) (o := .cells #[.int .u64 a1_0, .int .u64 a1_1] 25 (0, 0)) (by (with_reducible repeat (first | apply zN | apply zD | apply zA)); exact BK341.out) hb); have n2_ := zM (blk_below (g := gb342) (o := .cells #[.int .u64 a2_0, .int .u64 a2_1] 25 (0, 0)) (by (with_reducible repeat (first | apply zN | apply zD | apply zA)); exact BK342.out) hb); have n3_ := zM (blk_below (g := gb353) (o := .cells #[.int .i64 t343, .bool t344, .int .u64 t345, .int .u64 t346, .int .i64 t347] 27 (0, 0)) (by (with_reducible repeat (first | apply zN | apply zD | apply zA)); exact BK353.out) hb); have n4_ := zM (blk_below (g := gb354) (o := .cells #[.int .i64 t348, .bool t349, .int .u64 t350, .int .u64 t351, .int .i64 t352] 27 (0, 0)) (by (with_reducible repeat (first | apply zN | apply zD | apply zA)); exact BK354.out) hb); have n5_ := zM (below_step (by repeat (first | (with_reducible first | exact HB.out | apply yA | apply yN | apply yD | refine below_set ?_ GE341.out | refine below_set ?_ GE342.out | refine below_set ?_ GE353.out | refine below_set ?_ GE354.out) | exact HB.out)) hb); have n6_ := zM (hbox); have n7_ := zM ((by rw [hg]; exact (below_size (by repeat (first | (with_reducible first | exact HB.out | apply yA | apply yN | apply yD | refine below_set ?_ GE341.out | refine below_set ?_ GE342.out | refine below_set ?_ GE353.out | refine below_set ?_ GE354.out) | exact HB.out))) : w.heap.size ≤ gb359)); have n8_ := zM ((by rw [hg]; exact (below_size (by repeat (first | (with_reducible first | exact HB.out | apply yA | apply yN | apply yD | refine below_set ?_ GE341.out | refine below_set ?_ GE342.out | refine below_set ?_ GE353.out | refine below_set ?_ GE354.out) | exact HB.out))) : w.heap.size ≤ gb359)); have n9_ := zM ((by rw [hg]; exact Nat.ne_of_lt (blk_lt (g := gb341) (o := .cells #[.int .u64 a1_0, .int .u64 a1_1] 25 (0, 0)) (by (with_reducible repeat (first | apply zN | apply zD | apply zA)); exact BK341.out)) : gb341 ≠ gb359)); have n10_ := zM ((by rw [hg]; exact Nat.ne_of_gt (blk_lt (g := gb341) (o := .cells #[.int .u64 a1_0, .int .u64 a1_1] 25 (0, 0)) (by (with_reducible repeat (first | apply zN | apply zD | apply zA)); exact BK341.out)) : gb359 ≠ gb341)); have n11_ := zM ((by rw [hg]; exact Nat.ne_of_lt (blk_lt (g := gb342) (o := .cells #[.int .u64 a2_0, .int .u64 a2_1] 25 (0, 0)) (by (with_reducible repeat (first | apply zN | apply zD | apply zA)); exact BK342.out)) : gb342 ≠ gb359)); have n12_ := zM ((by rw [hg]; exact Nat.ne_of_gt (blk_lt (g := gb342) (o := .cells #[.int .u64 a2_0, .int .u64 a2_1] 25 (0, 0)) (by (with_reducible repeat (first | apply zN | apply zD | apply zA)); exact BK342.out)) : gb359 ≠ gb342)); have n13_ := zM ((by rw [hg]; exact Nat.ne_of_lt (blk_lt (g := gb353) (o := .cells #[.int .i64 t343, .bool t344, .int .u64 t345, .int .u64 t346, .int .i64 t347] 27 (0, 0)) (by (with_reducible repeat (first | apply zN | apply zD | apply zA)); exact BK353.out)) : gb353 ≠ gb359)); have n14_ := zM ((by rw [hg]; exact Nat.ne_of_gt (blk_lt (g := gb353) (o := .cells #[.int .i64 t343, .bool t344, .int .u64 t345, .int .u64 t346, .int .i64 t347] 27 (0, 0)) (by (with_reducible repeat (first | apply zN | apply zD | apply zA)); exact BK353.out)) : gb359 ≠ gb353)); have n15_ := zM ((by rw [hg]; exact Nat.ne_of_lt (blk_lt (g := gb354) (o := .cells #[.int .i64 t348, .bool t349, .int .u64 t350, .int .u64 t351, .int .i64 t352] 27 (0, 0)) (by (with_reducible repeat (first | apply zN | apply zD | apply zA)); exact BK354.out)) : gb354 ≠ gb359)); have n16_ := zM ((by rw [hg]; exact Nat.ne_of_gt (blk_lt (g := gb354) (o := .cells #[.int .i64 t348, .bool t349, .int .u64 t350, .int .u64 t351, .int .i64 t352] 27 (0, 0)) (by (with_reducible repeat (first | apply zN | apply zD | apply zA)); exact BK354.out)) : gb359 ≠ gb354)); clear HO_24; clear BK341; clear BK342; clear BK353; clear BK354; clear HB; have HO_24 := n0_; have BK341 := n1_; have BK342 := n2_; have BK353 := n3_; have BK354 := n4_; have HB := n5_; have BK359 := n6_; have GW359 := n7_; have GE359 := n8_; have NB341_359 := n9_; have NB359_341 := n10_; have NB342_359 := n11_; have NB359_342 := n12_; have NB353_359 := n13_; have NB359_353 := n14_; have NB354_359 := n15_; have NB359_354 := n16_; clear n0_ n1_ n2_ n3_ n4_ n5_ n6_ n7_ n8_ n9_ n10_ n11_ n12_ n13_ n14_ n15_ n16_; clear hb hbox hg; have hnb39 := NB359_341.out; have hnc39 := NB341_359.out; have hnb40 := NB359_342.out; have hnc40 := NB342_359.out; have hnb41 := NB359_353.out; have hnc41 := NB353_359.out; have hnb42 := NB359_354.out; have hnc42 := NB354_359.out; have hcz43_0 : w38.cell? ⟨gb359, 0, none⟩ = some (.int .i64 0) := (blk_cell BK359.out 0).trans rfl; have hcz43_1 : w38.cell? ⟨gb359, 1, none⟩ = some (.bool false) := (blk_cell BK359.out 1).trans rfl; have hcz43_2 : w38.cell? ⟨gb359, 2, none⟩ = some (.int .u64 0) := (blk_cell BK359.out 2).trans rfl; have hcz43_3 : w38.cell? ⟨gb359, 3, none⟩ = some (.int .u64 0) := (blk_cell BK359.out 3).trans rfl; have hcz43_4 : w38.cell? ⟨gb359, 4, none⟩ = some (.int .i64 0) := (blk_cell BK359.out 4).trans rfl; have hfz43_0 := blk_frozen BK359.out 0; have hfz43_1 := blk_frozen BK359.out 1; have hfz43_2 := blk_frozen BK359.out 2; have hfz43_3 := blk_frozen BK359.out 3; have hfz43_4 := blk_frozen BK359.out 4))
       go_ret
       exact ⟨by first | rfl | (simp [errW_none, errW_some] <;> rfl) | (simp [*, errW_none, errW_some] <;> rfl), by repeat (first | (with_reducible first | exact HB.out | apply yA | apply yN | apply yD | refine below_set ?_ GE341.out | refine below_set ?_ GE342.out | refine below_set ?_ GE353.out | refine below_set ?_ GE354.out | refine below_set ?_ GE359.out) | exact HB.out)⟩
      ·rw [if_neg c37] at H
       have c37b0 : (((rd_T27 y355 x26_1).f0) == 0) = false := beq_eq_false_iff_ne.mpr c37
       have c37b1 : (((rd_T27 y355 x26_1).f0) != 0) = true := bne_iff_ne.mpr c37
       by_cases c44 : ((rd_T27 y355 x26_1).f0) = 5
       ·rw [if_pos c44] at H
        have c44b0 : (((rd_T27 y355 x26_1).f0) == 5) = true := beq_iff_eq.mpr c44
        have c44b1 : (((rd_T27 y355 x26_1).f0) != 5) = false := bne_eq_false_iff_eq.mpr c44
        clear c44
        obtain rfl := Option.some.inj H
        have p358 : 0 ≤ (x26_1 : Int) := of_decide_eq_true (by first | (with_reducible assumption) | assumption)
        have q358 : x26_1 < (y355.length : Int) := of_decide_eq_true (by first | (with_reducible assumption) | assumption)
        obtain ⟨ad358, e358, hx358_0, hx358_1, hx358_2, hx358_3, hx358_4⟩ := at_T27 (Kd.R_reads' HO_24.out).2.2 x26_1 p358 q358
        cases e358
        replace p358 := eq_true p358
        replace q358 := eq_true q358
        go_wp2_with (first | ((with_reducible refine gate_dst (N := 10) rfl ?_); refine box_event ?hg (N := 10) ?hd (cs := #[.int .i64 0, .bool false, .int .u64 0, .int .u64 0, .int .i64 0]) (t := 27) ?hr ?_; (case hd => rfl); (case hg => rfl); (case hr => first | (go_simp; done) | (go_simp; rfl)); intro gb359 hg w45 hbox hb; have n0_ := zM (Kd.R_below (Kd.R_elderB (by (with_reducible repeat (first | apply Kd.R_alloc | apply Kd.R_drewN | apply Kd.R_drew)); exact HO_24.out) gb359 (Nat.le_of_eq hg.symm)) hb); have n1_ := zM (blk_below (g := gb341) (o := .cells #[.int .u64 a1_0, .int .u64 a1_1] 25 (0, 0)) (by (with_reducible repeat (first | apply zN | apply zD | apply zA)); exact BK341.out) hb); have n2_ := zM (blk_below (g := gb342) (o := .cells #[.int .u64 a2_0, .int .u64 a2_1] 25 (0, 0)) (by (with_reducible repeat (first | apply zN | apply zD | apply zA)); exact BK342.out) hb); have n3_ := zM (blk_below (g := gb353) (o := .cells #[.int .i64 t343, .bool t344, .int .u64 t345, .int .u64 t346, .int .i64 t347] 27 (0, 0)) (by (with_reducible repeat (first | apply zN | apply zD | apply zA)); exact BK353.out) hb); have n4_ := zM (blk_below (g := gb354) (o := .cells #[.int .i64 t348, .bool t349, .int .u64 t350, .int .u64 t351, .int .i64 t352] 27 (0, 0)) (by (with_reducible repeat (first | apply zN | apply zD | apply zA)); exact BK354.out) hb); have n5_ := zM (below_step (by repeat (first | (with_reducible first | exact HB.out | apply yA | apply yN | apply yD | refine below_set ?_ GE341.out | refine below_set ?_ GE342.out | refine below_set ?_ GE353.out | refine below_set ?_ GE354.out) | exact HB.out)) hb); have n6_ := zM (hbox); have n7_ := zM ((by rw [hg]; exact (below_size (by repeat (first | (with_reducible first | exact HB.out | apply yA | apply yN | apply yD | refine below_set ?_ GE341.out | refine below_set ?_ GE342.out | refine below_set ?_ GE353.out | refine below_set ?_ GE354.out) | exact HB.out))) : w.heap.size ≤ gb359)); have n8_ := zM ((by rw [hg]; exact (below_size (by repeat (first | (with_reducible first | exact HB.out | apply yA | apply yN | apply yD | refine below_set ?_ GE341.out | refine below_set ?_ GE342.out | refine below_set ?_ GE353.out | refine below_set ?_ GE354.out) | exact HB.out))) : w.heap.size ≤ gb359)); have n9_ := zM ((by rw [hg]; exact Nat.ne_of_lt (blk_lt (g := gb341) (o := .cells #[.int .u64 a1_0, .int .u64 a1_1] 25 (0, 0)) (by (with_reducible repeat (first | apply zN | apply zD | apply zA)); exact BK341.out)) : gb341 ≠ gb359)); have n10_ := zM ((by rw [hg]; exact Nat.ne_of_gt (blk_lt (g := gb341) (o := .cells #[.int .u64 a1_0, .int .u64 a1_1] 25 (0, 0)) (by (with_reducible repeat (first | apply zN | apply zD | apply zA)); exact BK341.out)) : gb359 ≠ gb341)); have n11_ := zM ((by rw [hg]; exact Nat.ne_of_lt (blk_lt (g := gb342) (o := .cells #[.int .u64 a2_0, .int .u64 a2_1] 25 (0, 0)) (by (with_reducible repeat (first | apply zN | apply zD | apply zA)); exact BK342.out)) : gb342 ≠ gb359)); have n12_ := zM ((by rw [hg]; exact Nat.ne_of_gt (blk_lt (g := gb342) (o := .cells #[.int .u64 a2_0, .int .u64 a2_1] 25 (0, 0)) (by (with_reducible repeat (first | apply zN | apply zD | apply zA)); exact BK342.out)) : gb359 ≠ gb342)); have n13_ := zM ((by rw [hg]; exact Nat.ne_of_lt (blk_lt (g := gb353) (o := .cells #[.int .i64 t343, .bool t344, .int .u64 t345, .int .u64 t346, .int .i64 t347] 27 (0, 0)) (by (with_reducible repeat (first | apply zN | apply zD | apply zA)); exact BK353.out)) : gb353 ≠ gb359)); have n14_ := zM ((by rw [hg]; exact Nat.ne_of_gt (blk_lt (g := gb353) (o := .cells #[.int .i64 t343, .bool t344, .int .u64 t345, .int .u64 t346, .int .i64 t347] 27 (0, 0)) (by (with_reducible repeat (first | apply zN | apply zD | apply zA)); exact BK353.out)) : gb359 ≠ gb353)); have n15_ := zM ((by rw [hg]; exact Nat.ne_of_lt (blk_lt (g := gb354) (o := .cells #[.int .i64 t348, .bool t349, .int .u64 t350, .int .u64 t351, .int .i64 t352] 27 (0, 0)) (by (with_reducible repeat (first | apply zN | apply zD | apply zA)); exact BK354.out)) : gb354 ≠ gb359)); have n16_ := zM ((by rw [hg]; exact Nat.ne_of_gt (blk_lt (g := gb354) (o := .cells #[.int .i64 t348, .bool t349, .int .u64 t350, .int .u64 t351, .int .i64 t352] 27 (0, 0)) (by (with_reducible repeat (first | apply zN | apply zD | apply zA)); exact BK354.out)) : gb359 ≠ gb354)); clear HO_24; clear BK341; clear BK342; clear BK353; clear BK354; clear HB; have HO_24 := n0_; have BK341 := n1_; have BK342 := n2_; have BK353 := n3_; have BK354 := n4_; have HB := n5_; have BK359 := n6_; have GW359 := n7_; have GE359 := n8_; have NB341_359 := n9_; have NB359_341 := n10_; have NB342_359 := n11_; have NB359_342 := n12_; have NB353_359 := n13_; have NB359_353 := n14_; have NB354_359 := n15_; have NB359_354 := n16_; clear n0_ n1_ n2_ n3_ n4_ n5_ n6_ n7_ n8_ n9_ n10_ n11_ n12_ n13_ n14_ n15_ n16_; clear hb hbox hg; have hnb46 := NB359_341.out; have hnc46 := NB341_359.out; have hnb47 := NB359_342.out; have hnc47 := NB342_359.out; have hnb48 := NB359_353.out; have hnc48 := NB353_359.out; have hnb49 := NB359_354.out; have hnc49 := NB354_359.out; have hcz50_0 : w45.cell? ⟨gb359, 0, none⟩ = some (.int .i64 0) := (blk_cell BK359.out 0).trans rfl; have hcz50_1 : w45.cell? ⟨gb359, 1, none⟩ = some (.bool false) := (blk_cell BK359.out 1).trans rfl; have hcz50_2 : w45.cell? ⟨gb359, 2, none⟩ = some (.int .u64 0) := (blk_cell BK359.out 2).trans rfl; have hcz50_3 : w45.cell? ⟨gb359, 3, none⟩ = some (.int .u64 0) := (blk_cell BK359.out 3).trans rfl; have hcz50_4 : w45.cell? ⟨gb359, 4, none⟩ = some (.int .i64 0) := (blk_cell BK359.out 4).trans rfl; have hfz50_0 := blk_frozen BK359.out 0; have hfz50_1 := blk_frozen BK359.out 1; have hfz50_2 := blk_frozen BK359.out 2; have hfz50_3 := blk_frozen BK359.out 3; have hfz50_4 := blk_frozen BK359.out 4))
        go_ret
        exact ⟨by first | rfl | (simp [errW_none, errW_some] <;> rfl) | (simp [*, errW_none, errW_some] <;> rfl), by repeat (first | (with_reducible first | exact HB.out | apply yA | apply yN | apply yD | refine below_set ?_ GE341.out | refine below_set ?_ GE342.out | refine below_set ?_ GE353.out | refine below_set ?_ GE354.out | refine below_set ?_ GE359.out) | exact HB.out)⟩
       ·rw [if_neg c44] at H
        have c44b0 : (((rd_T27 y355 x26_1).f0) == 5) = false := beq_eq_false_iff_ne.mpr c44
        have c44b1 : (((rd_T27 y355 x26_1).f0) != 5) = true := bne_iff_ne.mpr c44
        have H' := zM H
        clear H
        have p358 : 0 ≤ (x26_1 : Int) := of_decide_eq_true (by first | (with_reducible assumption) | assumption)
        have q358 : x26_1 < (y355.length : Int) := of_decide_eq_true (by first | (with_reducible assumption) | assumption)
        obtain ⟨ad358, e358, hx358_0, hx358_1, hx358_2, hx358_3, hx358_4⟩ := at_T27 (Kd.R_reads' HO_24.out).2.2 x26_1 p358 q358
        cases e358
        replace p358 := eq_true p358
        replace q358 := eq_true q358
        go_wp2_with (first | ((with_reducible refine gate_dst (N := 10) rfl ?_); refine box_event ?hg (N := 10) ?hd (cs := #[.int .i64 0, .bool false, .int .u64 0, .int .u64 0, .int .i64 0]) (t := 27) ?hr ?_; (case hd => rfl); (case hg => rfl); (case hr => first | (go_simp; done) | (go_simp; rfl)); intro gb359 hg w51 hbox hb; have n0_ := zM (Kd.R_below (Kd.R_elderB (by (with_reducible repeat (first | apply Kd.R_alloc | apply Kd.R_drewN | apply Kd.R_drew)); exact HO_24.out) gb359 (Nat.le_of_eq hg.symm)) hb); have n1_ := zM (blk_below (g := gb341) (o := .cells #[.int .u64 a1_0, .int .u64 a1_1] 25 (0, 0)) (by (with_reducible repeat (first | apply zN | apply zD | apply zA)); exact BK341.out) hb); have n2_ := zM (blk_below (g := gb342) (o := .cells #[.int .u64 a2_0, .int .u64 a2_1] 25 (0, 0)) (by (with_reducible repeat (first | apply zN | apply zD | apply zA)); exact BK342.out) hb); have n3_ := zM (blk_below (g := gb353) (o := .cells #[.int .i64 t343, .bool t344, .int .u64 t345, .int .u64 t346, .int .i64 t347] 27 (0, 0)) (by (with_reducible repeat (first | apply zN | apply zD | apply zA)); exact BK353.out) hb); have n4_ := zM (blk_below (g := gb354) (o := .cells #[.int .i64 t348, .bool t349, .int .u64 t350, .int .u64 t351, .int .i64 t352] 27 (0, 0)) (by (with_reducible repeat (first | apply zN | apply zD | apply zA)); exact BK354.out) hb); have n5_ := zM (below_step (by repeat (first | (with_reducible first | exact HB.out | apply yA | apply yN | apply yD | refine below_set ?_ GE341.out | refine below_set ?_ GE342.out | refine below_set ?_ GE353.out | refine below_set ?_ GE354.out) | exact HB.out)) hb); have n6_ := zM (hbox); have n7_ := zM ((by rw [hg]; exact (below_size (by repeat (first | (with_reducible first | exact HB.out | apply yA | apply yN | apply yD | refine below_set ?_ GE341.out | refine below_set ?_ GE342.out | refine below_set ?_ GE353.out | refine below_set ?_ GE354.out) | exact HB.out))) : w.heap.size ≤ gb359)); have n8_ := zM ((by rw [hg]; exact (below_size (by repeat (first | (with_reducible first | exact HB.out | apply yA | apply yN | apply yD | refine below_set ?_ GE341.out | refine below_set ?_ GE342.out | refine below_set ?_ GE353.out | refine below_set ?_ GE354.out) | exact HB.out))) : w.heap.size ≤ gb359)); have n9_ := zM ((by rw [hg]; exact Nat.ne_of_lt (blk_lt (g := gb341) (o := .cells #[.int .u64 a1_0, .int .u64 a1_1] 25 (0, 0)) (by (with_reducible repeat (first | apply zN | apply zD | apply zA)); exact BK341.out)) : gb341 ≠ gb359)); have n10_ := zM ((by rw [hg]; exact Nat.ne_of_gt (blk_lt (g := gb341) (o := .cells #[.int .u64 a1_0, .int .u64 a1_1] 25 (0, 0)) (by (with_reducible repeat (first | apply zN | apply zD | apply zA)); exact BK341.out)) : gb359 ≠ gb341)); have n11_ := zM ((by rw [hg]; exact Nat.ne_of_lt (blk_lt (g := gb342) (o := .cells #[.int .u64 a2_0, .int .u64 a2_1] 25 (0, 0)) (by (with_reducible repeat (first | apply zN | apply zD | apply zA)); exact BK342.out)) : gb342 ≠ gb359)); have n12_ := zM ((by rw [hg]; exact Nat.ne_of_gt (blk_lt (g := gb342) (o := .cells #[.int .u64 a2_0, .int .u64 a2_1] 25 (0, 0)) (by (with_reducible repeat (first | apply zN | apply zD | apply zA)); exact BK342.out)) : gb359 ≠ gb342)); have n13_ := zM ((by rw [hg]; exact Nat.ne_of_lt (blk_lt (g := gb353) (o := .cells #[.int .i64 t343, .bool t344, .int .u64 t345, .int .u64 t346, .int .i64 t347] 27 (0, 0)) (by (with_reducible repeat (first | apply zN | apply zD | apply zA)); exact BK353.out)) : gb353 ≠ gb359)); have n14_ := zM ((by rw [hg]; exact Nat.ne_of_gt (blk_lt (g := gb353) (o := .cells #[.int .i64 t343, .bool t344, .int .u64 t345, .int .u64 t346, .int .i64 t347] 27 (0, 0)) (by (with_reducible repeat (first | apply zN | apply zD | apply zA)); exact BK353.out)) : gb359 ≠ gb353)); have n15_ := zM ((by rw [hg]; exact Nat.ne_of_lt (blk_lt (g := gb354) (o := .cells #[.int .i64 t348, .bool t349, .int .u64 t350, .int .u64 t351, .int .i64 t352] 27 (0, 0)) (by (with_reducible repeat (first | apply zN | apply zD | apply zA)); exact BK354.out)) : gb354 ≠ gb359)); have n16_ := zM ((by rw [hg]; exact Nat.ne_of_gt (blk_lt (g := gb354) (o := .cells #[.int .i64 t348, .bool t349, .int .u64 t350, .int .u64 t351, .int .i64 t352] 27 (0, 0)) (by (with_reducible repeat (first | apply zN | apply zD | apply zA)); exact BK354.out)) : gb359 ≠ gb354)); clear HO_24; clear BK341; clear BK342; clear BK353; clear BK354; clear HB; have HO_24 := n0_; have BK341 := n1_; have BK342 := n2_; have BK353 := n3_; have BK354 := n4_; have HB := n5_; have BK359 := n6_; have GW359 := n7_; have GE359 := n8_; have NB341_359 := n9_; have NB359_341 := n10_; have NB342_359 := n11_; have NB359_342 := n12_; have NB353_359 := n13_; have NB359_353 := n14_; have NB354_359 := n15_; have NB359_354 := n16_; clear n0_ n1_ n2_ n3_ n4_ n5_ n6_ n7_ n8_ n9_ n10_ n11_ n12_ n13_ n14_ n15_ n16_; clear hb hbox hg; have hnb52 := NB359_341.out; have hnc52 := NB341_359.out; have hnb53 := NB359_342.out; have hnc53 := NB342_359.out; have hnb54 := NB359_353.out; have hnc54 := NB353_359.out; have hnb55 := NB359_354.out; have hnc55 := NB354_359.out; have hcz56_0 : w51.cell? ⟨gb359, 0, none⟩ = some (.int .i64 0) := (blk_cell BK359.out 0).trans rfl; have hcz56_1 : w51.cell? ⟨gb359, 1, none⟩ = some (.bool false) := (blk_cell BK359.out 1).trans rfl; have hcz56_2 : w51.cell? ⟨gb359, 2, none⟩ = some (.int .u64 0) := (blk_cell BK359.out 2).trans rfl; have hcz56_3 : w51.cell? ⟨gb359, 3, none⟩ = some (.int .u64 0) := (blk_cell BK359.out 3).trans rfl; have hcz56_4 : w51.cell? ⟨gb359, 4, none⟩ = some (.int .i64 0) := (blk_cell BK359.out 4).trans rfl; have hfz56_0 := blk_frozen BK359.out 0; have hfz56_1 := blk_frozen BK359.out 1; have hfz56_2 := blk_frozen BK359.out 2; have hfz56_3 := blk_frozen BK359.out 3; have hfz56_4 := blk_frozen BK359.out 4))
        go_roundg k1
        case measure => have := HK1.out; omega
        case rel => exact ⟨(wrap64 (x26_1 + 1)), (by first | rfl | (simp; done) | (simp [*]; done)), H', ⟨by have := HK1.out; omega⟩, ⟨by (with_reducible repeat (first | apply Kd.R_alloc | apply Kd.R_drewN | apply Kd.R_drew)); exact Kd.R_mono (Kd.R_far (p := ⟨gb359, 4, none⟩) (Kd.R_far (p := ⟨gb359, 3, none⟩) (Kd.R_far (p := ⟨gb359, 2, none⟩) (Kd.R_far (p := ⟨gb359, 1, none⟩) (Kd.R_far (p := ⟨gb359, 0, none⟩) (Kd.R_mono HO_24.out (fun k_ hk => (⟨hk, hk.2⟩ : _ ∧ k_ ≠ gb359))) (fun _ hk => hk.2) (.int .i64 ((rd_T27 y355 x26_1).f0))) (fun _ hk => hk.2) (.bool ((rd_T27 y355 x26_1).f1))) (fun _ hk => hk.2) (.int .u64 ((rd_T27 y355 x26_1).f2.f0))) (fun _ hk => hk.2) (.int .u64 ((rd_T27 y355 x26_1).f2.f1))) (fun _ hk => hk.2) (.int .i64 ((rd_T27 y355 x26_1).f3))) (fun _ hk => ⟨hk.1.1.1, hk.1.1.2⟩)⟩, ⟨by (with_reducible repeat (first | apply zN | apply zD | apply zA)); refine blk_far ?_ NB341_359.out _; (with_reducible repeat (first | apply zN | apply zD | apply zA)); refine blk_far ?_ NB341_359.out _; (with_reducible repeat (first | apply zN | apply zD | apply zA)); refine blk_far ?_ NB341_359.out _; (with_reducible repeat (first | apply zN | apply zD | apply zA)); refine blk_far ?_ NB341_359.out _; (with_reducible repeat (first | apply zN | apply zD | apply zA)); refine blk_far ?_ NB341_359.out _; (with_reducible repeat (first | apply zN | apply zD | apply zA)); exact BK341.out⟩, ⟨by (with_reducible repeat (first | apply zN | apply zD | apply zA)); refine blk_far ?_ NB342_359.out _; (with_reducible repeat (first | apply zN | apply zD | apply zA)); refine blk_far ?_ NB342_359.out _; (with_reducible repeat (first | apply zN | apply zD | apply zA)); refine blk_far ?_ NB342_359.out _; (with_reducible repeat (first | apply zN | apply zD | apply zA)); refine blk_far ?_ NB342_359.out _; (with_reducible repeat (first | apply zN | apply zD | apply zA)); refine blk_far ?_ NB342_359.out _; (with_reducible repeat (first | apply zN | apply zD | apply zA)); exact BK342.out⟩, ⟨by (with_reducible repeat (first | apply zN | apply zD | apply zA)); refine blk_far ?_ NB353_359.out _; (with_reducible repeat (first | apply zN | apply zD | apply zA)); refine blk_far ?_ NB353_359.out _; (with_reducible repeat (first | apply zN | apply zD | apply zA)); refine blk_far ?_ NB353_359.out _; (with_reducible repeat (first | apply zN | apply zD | apply zA)); refine blk_far ?_ NB353_359.out _; (with_reducible repeat (first | apply zN | apply zD | apply zA)); refine blk_far ?_ NB353_359.out _; (with_reducible repeat (first | apply zN | apply zD | apply zA)); exact BK353.out⟩, ⟨by (with_reducible repeat (first | apply zN | apply zD | apply zA)); refine blk_far ?_ NB354_359.out _; (with_reducible repeat (first | apply zN | apply zD | apply zA)); refine blk_far ?_ NB354_359.out _; (with_reducible repeat (first | apply zN | apply zD | apply zA)); refine blk_far ?_ NB354_359.out _; (with_reducible repeat (first | apply zN | apply zD | apply zA)); refine blk_far ?_ NB354_359.out _; (with_reducible repeat (first | apply zN | apply zD | apply zA)); refine blk_far ?_ NB354_359.out _; (with_reducible repeat (first | apply zN | apply zD | apply zA)); exact BK354.out⟩, ⟨by repeat (first | (with_reducible first | exact HB.out | apply yA | apply yN | apply yD | refine below_set ?_ GE341.out | refine below_set ?_ GE342.out | refine below_set ?_ GE353.out | refine below_set ?_ GE354.out | refine below_set ?_ GE359.out) | exact HB.out)⟩⟩
     ·rw [if_neg c36] at H
      exact absurd H (by simp)
    ·rw [if_neg c35] at H
     exact absurd H (by simp)
   ·rw [if_neg c34] at H
    have c34b0 : decide (x26_1 < (y355.length : Int)) = false := decide_eq_false c34
    clear c34
    replace H := Option.bind_eq_some_iff.mp H
    obtain ⟨t360, A570, H⟩ := H
    replace H : ((impl_Order_1.f t348 t349 t350 t351 t352).bind fun t361 => (if t360 = t361 then ((impl_layoutOf.f a0).bind fun bt362 => ((impl_Word_low.f a1_0 a1_1 (wrap64 (bt362.2.2.2.1 - 1))).bind fun bt370 => ((impl_Word_nat.f bt370.1 bt370.2).bind fun t372 => ((impl_Word_low.f a2_0 a2_1 (wrap64 (bt362.2.2.2.1 - 1))).bind fun bt375 => ((impl_Word_nat.f bt375.1 bt375.2).bind fun t377 => ((impl_nat_cmp.f k1 t372 t377).bind fun t380 => (some (wrap64 (t360 * t380))))))))) else (some (mx (-1) (mn 1 (wrap64 (t360 - t361))))))) = some r := H
    have A57 := zM A570
    clear A570
    replace H := Option.bind_eq_some_iff.mp H
    obtain ⟨t361, A580, H⟩ := H
    replace H : (if t360 = t361 then ((impl_layoutOf.f a0).bind fun bt362 => ((impl_Word_low.f a1_0 a1_1 (wrap64 (bt362.2.2.2.1 - 1))).bind fun bt370 => ((impl_Word_nat.f bt370.1 bt370.2).bind fun t372 => ((impl_Word_low.f a2_0 a2_1 (wrap64 (bt362.2.2.2.1 - 1))).bind fun bt375 => ((impl_Word_nat.f bt375.1 bt375.2).bind fun t377 => ((impl_nat_cmp.f k1 t372 t377).bind fun t380 => (some (wrap64 (t360 * t380))))))))) else (some (mx (-1) (mn 1 (wrap64 (t360 - t361)))))) = some r := H
    have A58 := zM A580
    clear A580
    by_cases c59 : t360 = t361
    ·rw [if_pos c59] at H
     have c59b0 : (t360 == t361) = true := beq_iff_eq.mpr c59
     have c59b1 : (t360 != t361) = false := bne_eq_false_iff_eq.mpr c59
     clear c59
     replace H := Option.bind_eq_some_iff.mp H
     obtain ⟨⟨t362, t363, t364, t365, t366, t367, t368⟩, A600, H⟩ := H
     replace H : ((impl_Word_low.f a1_0 a1_1 (wrap64 (t365 - 1))).bind fun bt370 => ((impl_Word_nat.f bt370.1 bt370.2).bind fun t372 => ((impl_Word_low.f a2_0 a2_1 (wrap64 (t365 - 1))).bind fun bt375 => ((impl_Word_nat.f bt375.1 bt375.2).bind fun t377 => ((impl_nat_cmp.f k1 t372 t377).bind fun t380 => (some (wrap64 (t360 * t380)))))))) = some r := H
     have A60 := zM A600
     clear A600
     replace H := Option.bind_eq_some_iff.mp H
     obtain ⟨⟨t370, t371⟩, A610, H⟩ := H
     replace H : ((impl_Word_nat.f t370 t371).bind fun t372 => ((impl_Word_low.f a2_0 a2_1 (wrap64 (t365 - 1))).bind fun bt375 => ((impl_Word_nat.f bt375.1 bt375.2).bind fun t377 => ((impl_nat_cmp.f k1 t372 t377).bind fun t380 => (some (wrap64 (t360 * t380))))))) = some r := H
     have A61 := zM A610
     clear A610
     replace H := Option.bind_eq_some_iff.mp H
     obtain ⟨t372, A620, H⟩ := H
     replace H : ((impl_Word_low.f a2_0 a2_1 (wrap64 (t365 - 1))).bind fun bt375 => ((impl_Word_nat.f bt375.1 bt375.2).bind fun t377 => ((impl_nat_cmp.f k1 t372 t377).bind fun t380 => (some (wrap64 (t360 * t380)))))) = some r := H
     have A62 := zM A620
     clear A620
     replace H := Option.bind_eq_some_iff.mp H
     obtain ⟨⟨t375, t376⟩, A630, H⟩ := H
     replace H : ((impl_Word_nat.f t375 t376).bind fun t377 => ((impl_nat_cmp.f k1 t372 t377).bind fun t380 => (some (wrap64 (t360 * t380))))) = some r := H
     have A63 := zM A630
     clear A630
     replace H := Option.bind_eq_some_iff.mp H
     obtain ⟨t377, A640, H⟩ := H
     replace H : ((impl_nat_cmp.f k1 t372 t377).bind fun t380 => (some (wrap64 (t360 * t380)))) = some r := H
     have A64 := zM A640
     clear A640
     replace H := Option.bind_eq_some_iff.mp H
     obtain ⟨t380, A650, H⟩ := H
     replace H : (some (wrap64 (t360 * t380))) = some r := H
     have A65 := zM A650
     clear A650
     obtain rfl := Option.some.inj H
     try go_wp2
     have n0_ := zM (Kd.R_drew HO_24.out)
     have n1_ := zM (zD BK341.out)
     have n2_ := zM (zD BK342.out)
     have n3_ := zM (zD BK353.out)
     have n4_ := zM (zD BK354.out)
     have n5_ := zM (yD HB.out)
     clear HO_24
     clear BK341
     clear BK342
     clear BK353
     clear BK354
     clear HB
     have HO_24 := n0_
     have BK341 := n1_
     have BK342 := n2_
     have BK353 := n3_
     have BK354 := n4_
     have HB := n5_
     clear n0_ n1_ n2_ n3_ n4_ n5_
     refine start_ (n := 8) (S := fun w' => w'.cell? ⟨gb353, 0, none⟩ = some (.int .i64 t343) ∧ w'.cell? ⟨gb353, 1, none⟩ = some (.bool t344) ∧ w'.cell? ⟨gb353, 2, none⟩ = some (.int .u64 t345) ∧ w'.cell? ⟨gb353, 3, none⟩ = some (.int .u64 t346) ∧ w'.cell? ⟨gb353, 4, none⟩ = some (.int .i64 t347) ∧ w'.cell? ⟨gb354, 0, none⟩ = some (.int .i64 t348) ∧ w'.cell? ⟨gb354, 1, none⟩ = some (.bool t349) ∧ w'.cell? ⟨gb354, 2, none⟩ = some (.int .u64 t350) ∧ w'.cell? ⟨gb354, 3, none⟩ = some (.int .u64 t351) ∧ w'.cell? ⟨gb354, 4, none⟩ = some (.int .i64 t352)) (ds := []) #[false, false, false, false, false, false, false, false] (by kernel_rfl) rfl rfl ⟨(blk_cell BK353.out 0).trans rfl, (blk_cell BK353.out 1).trans rfl, (blk_cell BK353.out 2).trans rfl, (blk_cell BK353.out 3).trans rfl, (blk_cell BK353.out 4).trans rfl, (blk_cell BK354.out 0).trans rfl, (blk_cell BK354.out 1).trans rfl, (blk_cell BK354.out 2).trans rfl, (blk_cell BK354.out 3).trans rfl, (blk_cell BK354.out 4).trans rfl⟩ (fun hHeld => ?_); refine with_tabW impl_Order.tab9 impl_Order.bits9 (fun HT_ HW_ => ?_)
     generalize wr.drew = w66 at HO_24 BK341 BK342 BK353 BK354 HB hHeld ⊢
     refine pure_ (i := 0) (N := some 39) (v := ?_) (a' := ?_) #[true, false, false, false, false, false, false, false] rfl rfl (any_of HT_.out (by kernel_rfl)) (fun _ _ _ h => h) (Or.inl ⟨by rfl, ?_⟩) ?_ ?_
     rotate_left
     ·intro w'
      go_simp
      with_reducible rfl
     rotate_left
     ·simp only [Act.put, xT, xZ, xS, i64_w, i32_w]
      rfl
     refine pure_ (i := 3) (N := some 42) (v := ?_) (a' := ?_) #[true, false, false, true, false, false, false, false] rfl rfl (any_of HT_.out (by kernel_rfl)) (fun _ _ _ h => h) (Or.inl ⟨by rfl, ?_⟩) ?_ ?_
     rotate_left
     ·intro w'
      go_simp
      with_reducible rfl
     rotate_left
     ·simp only [Act.put, xT, xZ, xS, i64_w, i32_w]
      rfl
     refine take_ (i := 1) (N := some 40) (v := ?_) (a' := ?_) #[true, true, false, true, false, false, false, false] rfl rfl (take_ofW HT_.out HW_.out (by kernel_rfl)) (fun _ _ _ h => h) (Or.inl ⟨by rfl, ?_⟩) hHeld ?_ ?_
     rotate_left
     ·rintro w' ⟨s0, s1, s2, s3, s4, s5, s6, s7, s8, s9⟩
      go_simp
      with_reducible rfl
     rotate_left
     ·simp only [Act.put, xT, xZ, xS, i64_w, i32_w]
      rfl
     refine take_ (i := 4) (N := some 43) (v := ?_) (a' := ?_) #[true, true, false, true, true, false, false, false] rfl rfl (take_ofW HT_.out HW_.out (by kernel_rfl)) (fun _ _ _ h => h) (Or.inl ⟨by rfl, ?_⟩) hHeld ?_ ?_
     rotate_left
     ·rintro w' ⟨s0, s1, s2, s3, s4, s5, s6, s7, s8, s9⟩
      go_simp
      with_reducible rfl
     rotate_left
     ·simp only [Act.put, xT, xZ, xS, i64_w, i32_w]
      rfl
     refine one_ (i := 2) (N := some 41) #[true, true, true, true, true, false, false, false] rfl rfl (one_of HT_.out (by kernel_rfl)) (by decide) (fun K hK => ?_)
     refine goesD_ Tryd.func75 (by kernel_rfl) rfl #[.agg #[.int .i64 t343, .bool t344, .int .u64 t345, .int .u64 t346, .int .i64 t347]] (by rfl) rfl rfl rfl (by (try simp only [List.map_toArray, List.map_cons, List.map_nil]); first | done | rfl | (simp only [List.length_drop, List.length_take]; rfl)) ?_
     with_reducible refine (impl_Order_1.calls t343 t344 t345 t346 t347 t360 _ A57.out).mono ?_
     rintro e w67 ⟨rfl, hb⟩
     refine ⟨_, rfl, ?_⟩
     have n0_ := zM (Kd.R_below (by (with_reducible repeat (first | apply Kd.R_alloc | apply Kd.R_drewN | apply Kd.R_drew)); exact HO_24.out) hb)
     have n1_ := zM (blk_below (g := gb341) (o := .cells #[.int .u64 a1_0, .int .u64 a1_1] 25 (0, 0)) (by (with_reducible repeat (first | apply zN | apply zD | apply zA)); exact BK341.out) hb)
     have n2_ := zM (blk_below (g := gb342) (o := .cells #[.int .u64 a2_0, .int .u64 a2_1] 25 (0, 0)) (by (with_reducible repeat (first | apply zN | apply zD | apply zA)); exact BK342.out) hb)
     have n3_ := zM (blk_below (g := gb353) (o := .cells #[.int .i64 t343, .bool t344, .int .u64 t345, .int .u64 t346, .int .i64 t347] 27 (0, 0)) (by (with_reducible repeat (first | apply zN | apply zD | apply zA)); exact BK353.out) hb)
     have n4_ := zM (blk_below (g := gb354) (o := .cells #[.int .i64 t348, .bool t349, .int .u64 t350, .int .u64 t351, .int .i64 t352] 27 (0, 0)) (by (with_reducible repeat (first | apply zN | apply zD | apply zA)); exact BK354.out) hb)
     have n5_ := zM (below_step (by repeat (first | (with_reducible first | exact HB.out | apply yA | apply yN | apply yD | refine below_set ?_ GE341.out | refine below_set ?_ GE342.out | refine below_set ?_ GE353.out | refine below_set ?_ GE354.out) | exact HB.out)) hb)
     clear HO_24
     clear BK341
     clear BK342
     clear BK353
     clear BK354
     clear HB
     have HO_24 := n0_
     have BK341 := n1_
     have BK342 := n2_
     have BK353 := n3_
     have BK354 := n4_
     have HB := n5_
     clear n0_ n1_ n2_ n3_ n4_ n5_
     (try clear hb)
     (try clear hb2)
     (try clear hk)
     (try clear hi)
     refine hK.out _ _ ⟨(blk_cell BK353.out 0).trans rfl, (blk_cell BK353.out 1).trans rfl, (blk_cell BK353.out 2).trans rfl, (blk_cell BK353.out 3).trans rfl, (blk_cell BK353.out 4).trans rfl, (blk_cell BK354.out 0).trans rfl, (blk_cell BK354.out 1).trans rfl, (blk_cell BK354.out 2).trans rfl, (blk_cell BK354.out 3).trans rfl, (blk_cell BK354.out 4).trans rfl⟩ (fun hHeld => ?_)
     clear hK K
     refine norm_ (a' := ?_) ?_ ?_
     rotate_left
     ·show Act.put _ (some 41) _ = _
      simp only [Act.put, xT, xZ, xS, i64_w, i32_w]
      rfl
     refine one_ (i := 5) (N := some 44) #[true, true, true, true, true, true, false, false] rfl rfl (one_of HT_.out (by kernel_rfl)) (by decide) (fun K hK => ?_)
     refine goesD_ Tryd.func75 (by kernel_rfl) rfl #[.agg #[.int .i64 t348, .bool t349, .int .u64 t350, .int .u64 t351, .int .i64 t352]] (by rfl) rfl rfl rfl (by (try simp only [List.map_toArray, List.map_cons, List.map_nil]); first | done | rfl | (simp only [List.length_drop, List.length_take]; rfl)) ?_
     with_reducible refine (impl_Order_1.calls t348 t349 t350 t351 t352 t361 _ A58.out).mono ?_
     rintro e w68 ⟨rfl, hb⟩
     refine ⟨_, rfl, ?_⟩
     have n0_ := zM (Kd.R_below (by (with_reducible repeat (first | apply Kd.R_alloc | apply Kd.R_drewN | apply Kd.R_drew)); exact HO_24.out) hb)
     have n1_ := zM (blk_below (g := gb341) (o := .cells #[.int .u64 a1_0, .int .u64 a1_1] 25 (0, 0)) (by (with_reducible repeat (first | apply zN | apply zD | apply zA)); exact BK341.out) hb)
     have n2_ := zM (blk_below (g := gb342) (o := .cells #[.int .u64 a2_0, .int .u64 a2_1] 25 (0, 0)) (by (with_reducible repeat (first | apply zN | apply zD | apply zA)); exact BK342.out) hb)
     have n3_ := zM (blk_below (g := gb353) (o := .cells #[.int .i64 t343, .bool t344, .int .u64 t345, .int .u64 t346, .int .i64 t347] 27 (0, 0)) (by (with_reducible repeat (first | apply zN | apply zD | apply zA)); exact BK353.out) hb)
     have n4_ := zM (blk_below (g := gb354) (o := .cells #[.int .i64 t348, .bool t349, .int .u64 t350, .int .u64 t351, .int .i64 t352] 27 (0, 0)) (by (with_reducible repeat (first | apply zN | apply zD | apply zA)); exact BK354.out) hb)
     have n5_ := zM (below_step (by repeat (first | (with_reducible first | exact HB.out | apply yA | apply yN | apply yD | refine below_set ?_ GE341.out | refine below_set ?_ GE342.out | refine below_set ?_ GE353.out | refine below_set ?_ GE354.out) | exact HB.out)) hb)
     clear HO_24
     clear BK341
     clear BK342
     clear BK353
     clear BK354
     clear HB
     have HO_24 := n0_
     have BK341 := n1_
     have BK342 := n2_
     have BK353 := n3_
     have BK354 := n4_
     have HB := n5_
     clear n0_ n1_ n2_ n3_ n4_ n5_
     (try clear hb)
     (try clear hb2)
     (try clear hk)
     (try clear hi)
     refine hK.out _ _ ⟨(blk_cell BK353.out 0).trans rfl, (blk_cell BK353.out 1).trans rfl, (blk_cell BK353.out 2).trans rfl, (blk_cell BK353.out 3).trans rfl, (blk_cell BK353.out 4).trans rfl, (blk_cell BK354.out 0).trans rfl, (blk_cell BK354.out 1).trans rfl, (blk_cell BK354.out 2).trans rfl, (blk_cell BK354.out 3).trans rfl, (blk_cell BK354.out 4).trans rfl⟩ (fun hHeld => ?_)
     clear hK K
     refine norm_ (a' := ?_) ?_ ?_
     rotate_left
     ·show Act.put _ (some 44) _ = _
      simp only [Act.put, xT, xZ, xS, i64_w, i32_w]
      rfl
     refine pure_ (i := 6) (N := some 12) (v := ?_) (a' := ?_) #[true, true, true, true, true, true, true, false] rfl rfl (any_of HT_.out (by kernel_rfl)) (fun _ _ _ h => h) (Or.inl ⟨by rfl, ?_⟩) ?_ ?_
     rotate_left
     ·intro w'
      go_simp
      with_reducible rfl
     rotate_left
     ·simp only [Act.put, xT, xZ, xS, i64_w, i32_w]
      rfl
     refine pure_ (i := 7) (N := some 13) (v := ?_) (a' := ?_) #[true, true, true, true, true, true, true, true] rfl rfl (any_of HT_.out (by kernel_rfl)) (fun _ _ _ h => h) (Or.inl ⟨by rfl, ?_⟩) ?_ ?_
     rotate_left
     ·intro w'
      go_simp
      with_reducible rfl
     rotate_left
     ·simp only [Act.put, xT, xZ, xS, i64_w, i32_w]
      rfl
     refine done_ (done_of HT_.out (by kernel_rfl)) ?_
     try go_wp2_with (first | ((with_reducible refine gate_callee (f := 65) rfl ?_); refine goesL_ (some 55) rfl rfl Tryd.func65 (by kernel_rfl) rfl #[.int .i64 a0] rfl (by (try simp only [List.map_toArray, List.map_cons, List.map_nil]); first | done | rfl | (simp only [List.length_drop, List.length_take]; rfl)) ?_; (with_reducible refine (impl_layoutOf.calls a0 t362 t363 t364 t365 t366 t367 t368 _ ?side1 A60.out).mono ?_); (case side1 => exact tabled_below HTb_.out (by repeat (first | (with_reducible first | exact HB.out | apply yA | apply yN | apply yD | refine below_set ?_ GE341.out | refine below_set ?_ GE342.out | refine below_set ?_ GE353.out | refine below_set ?_ GE354.out) | exact HB.out))); rintro e w69 ⟨rfl, hb⟩; refine ⟨_, rfl, ?_⟩; have n0_ := zM (Kd.R_below (by (with_reducible repeat (first | apply Kd.R_alloc | apply Kd.R_drewN | apply Kd.R_drew)); exact HO_24.out) hb); have n1_ := zM (blk_below (g := gb341) (o := .cells #[.int .u64 a1_0, .int .u64 a1_1] 25 (0, 0)) (by (with_reducible repeat (first | apply zN | apply zD | apply zA)); exact BK341.out) hb); have n2_ := zM (blk_below (g := gb342) (o := .cells #[.int .u64 a2_0, .int .u64 a2_1] 25 (0, 0)) (by (with_reducible repeat (first | apply zN | apply zD | apply zA)); exact BK342.out) hb); have n3_ := zM (blk_below (g := gb353) (o := .cells #[.int .i64 t343, .bool t344, .int .u64 t345, .int .u64 t346, .int .i64 t347] 27 (0, 0)) (by (with_reducible repeat (first | apply zN | apply zD | apply zA)); exact BK353.out) hb); have n4_ := zM (blk_below (g := gb354) (o := .cells #[.int .i64 t348, .bool t349, .int .u64 t350, .int .u64 t351, .int .i64 t352] 27 (0, 0)) (by (with_reducible repeat (first | apply zN | apply zD | apply zA)); exact BK354.out) hb); have n5_ := zM (below_step (by repeat (first | (with_reducible first | exact HB.out | apply yA | apply yN | apply yD | refine below_set ?_ GE341.out | refine below_set ?_ GE342.out | refine below_set ?_ GE353.out | refine below_set ?_ GE354.out) | exact HB.out)) hb); clear HO_24; clear BK341; clear BK342; clear BK353; clear BK354; clear HB; have HO_24 := n0_; have BK341 := n1_; have BK342 := n2_; have BK353 := n3_; have BK354 := n4_; have HB := n5_; clear n0_ n1_ n2_ n3_ n4_ n5_; (try clear hb); (try clear hb2); (try clear hk); (try clear hi)) | ((with_reducible refine gate_dst (N := 14) rfl ?_); refine box_event ?hg (N := 14) ?hd (cs := #[.int .i64 0, .int .i64 0, .int .i64 0, .int .i64 0, .int .i64 0, .bool false]) (t := 91) ?hr ?_; (case hd => rfl); (case hg => rfl); (case hr => first | (go_simp; done) | (go_simp; rfl)); intro gb369 hg w70 hbox hb; have n0_ := zM (Kd.R_below (by (with_reducible repeat (first | apply Kd.R_alloc | apply Kd.R_drewN | apply Kd.R_drew)); exact HO_24.out) hb); have n1_ := zM (blk_below (g := gb341) (o := .cells #[.int .u64 a1_0, .int .u64 a1_1] 25 (0, 0)) (by (with_reducible repeat (first | apply zN | apply zD | apply zA)); exact BK341.out) hb); have n2_ := zM (blk_below (g := gb342) (o := .cells #[.int .u64 a2_0, .int .u64 a2_1] 25 (0, 0)) (by (with_reducible repeat (first | apply zN | apply zD | apply zA)); exact BK342.out) hb); have n3_ := zM (blk_below (g := gb353) (o := .cells #[.int .i64 t343, .bool t344, .int .u64 t345, .int .u64 t346, .int .i64 t347] 27 (0, 0)) (by (with_reducible repeat (first | apply zN | apply zD | apply zA)); exact BK353.out) hb); have n4_ := zM (blk_below (g := gb354) (o := .cells #[.int .i64 t348, .bool t349, .int .u64 t350, .int .u64 t351, .int .i64 t352] 27 (0, 0)) (by (with_reducible repeat (first | apply zN | apply zD | apply zA)); exact BK354.out) hb); have n5_ := zM (below_step (by repeat (first | (with_reducible first | exact HB.out | apply yA | apply yN | apply yD | refine below_set ?_ GE341.out | refine below_set ?_ GE342.out | refine below_set ?_ GE353.out | refine below_set ?_ GE354.out) | exact HB.out)) hb); have n6_ := zM (hbox); have n7_ := zM ((by rw [hg]; exact (below_size (by repeat (first | (with_reducible first | exact HB.out | apply yA | apply yN | apply yD | refine below_set ?_ GE341.out | refine below_set ?_ GE342.out | refine below_set ?_ GE353.out | refine below_set ?_ GE354.out) | exact HB.out))) : w.heap.size ≤ gb369)); have n8_ := zM ((by rw [hg]; exact (below_size (by repeat (first | (with_reducible first | exact HB.out | apply yA | apply yN | apply yD | refine below_set ?_ GE341.out | refine below_set ?_ GE342.out | refine below_set ?_ GE353.out | refine below_set ?_ GE354.out) | exact HB.out))) : w.heap.size ≤ gb369)); have n9_ := zM ((by rw [hg]; exact Nat.ne_of_lt (blk_lt (g := gb341) (o := .cells #[.int .u64 a1_0, .int .u64 a1_1] 25 (0, 0)) (by (with_reducible repeat (first | apply zN | apply zD | apply zA)); exact BK341.out)) : gb341 ≠ gb369)); have n10_ := zM ((by rw [hg]; exact Nat.ne_of_gt (blk_lt (g := gb341) (o := .cells #[.int .u64 a1_0, .int .u64 a1_1] 25 (0, 0)) (by (with_reducible repeat (first | apply zN | apply zD | apply zA)); exact BK341.out)) : gb369 ≠ gb341)); have n11_ := zM ((by rw [hg]; exact Nat.ne_of_lt (blk_lt (g := gb342) (o := .cells #[.int .u64 a2_0, .int .u64 a2_1] 25 (0, 0)) (by (with_reducible repeat (first | apply zN | apply zD | apply zA)); exact BK342.out)) : gb342 ≠ gb369)); have n12_ := zM ((by rw [hg]; exact Nat.ne_of_gt (blk_lt (g := gb342) (o := .cells #[.int .u64 a2_0, .int .u64 a2_1] 25 (0, 0)) (by (with_reducible repeat (first | apply zN | apply zD | apply zA)); exact BK342.out)) : gb369 ≠ gb342)); have n13_ := zM ((by rw [hg]; exact Nat.ne_of_lt (blk_lt (g := gb353) (o := .cells #[.int .i64 t343, .bool t344, .int .u64 t345, .int .u64 t346, .int .i64 t347] 27 (0, 0)) (by (with_reducible repeat (first | apply zN | apply zD | apply zA)); exact BK353.out)) : gb353 ≠ gb369)); have n14_ := zM ((by rw [hg]; exact Nat.ne_of_gt (blk_lt (g := gb353) (o := .cells #[.int .i64 t343, .bool t344, .int .u64 t345, .int .u64 t346, .int .i64 t347] 27 (0, 0)) (by (with_reducible repeat (first | apply zN | apply zD | apply zA)); exact BK353.out)) : gb369 ≠ gb353)); have n15_ := zM ((by rw [hg]; exact Nat.ne_of_lt (blk_lt (g := gb354) (o := .cells #[.int .i64 t348, .bool t349, .int .u64 t350, .int .u64 t351, .int .i64 t352] 27 (0, 0)) (by (with_reducible repeat (first | apply zN | apply zD | apply zA)); exact BK354.out)) : gb354 ≠ gb369)); have n16_ := zM ((by rw [hg]; exact Nat.ne_of_gt (blk_lt (g := gb354) (o := .cells #[.int .i64 t348, .bool t349, .int .u64 t350, .int .u64 t351, .int .i64 t352] 27 (0, 0)) (by (with_reducible repeat (first | apply zN | apply zD | apply zA)); exact BK354.out)) : gb369 ≠ gb354)); clear HO_24; clear BK341; clear BK342; clear BK353; clear BK354; clear HB; have HO_24 := n0_; have BK341 := n1_; have BK342 := n2_; have BK353 := n3_; have BK354 := n4_; have HB := n5_; have BK369 := n6_; have GW369 := n7_; have GE369 := n8_; have NB341_369 := n9_; have NB369_341 := n10_; have NB342_369 := n11_; have NB369_342 := n12_; have NB353_369 := n13_; have NB369_353 := n14_; have NB354_369 := n15_; have NB369_354 := n16_; clear n0_ n1_ n2_ n3_ n4_ n5_ n6_ n7_ n8_ n9_ n10_ n11_ n12_ n13_ n14_ n15_ n16_; clear hb hbox hg; have hnb71 := NB369_341.out; have hnc71 := NB341_369.out; have hnb72 := NB369_342.out; have hnc72 := NB342_369.out; have hnb73 := NB369_353.out; have hnc73 := NB353_369.out; have hnb74 := NB369_354.out; have hnc74 := NB354_369.out; have hcz75_0 : w70.cell? ⟨gb369, 0, none⟩ = some (.int .i64 0) := (blk_cell BK369.out 0).trans rfl; have hcz75_1 : w70.cell? ⟨gb369, 1, none⟩ = some (.int .i64 0) := (blk_cell BK369.out 1).trans rfl; have hcz75_2 : w70.cell? ⟨gb369, 2, none⟩ = some (.int .i64 0) := (blk_cell BK369.out 2).trans rfl; have hcz75_3 : w70.cell? ⟨gb369, 3, none⟩ = some (.int .i64 0) := (blk_cell BK369.out 3).trans rfl; have hcz75_4 : w70.cell? ⟨gb369, 4, none⟩ = some (.int .i64 0) := (blk_cell BK369.out 4).trans rfl; have hcz75_5 : w70.cell? ⟨gb369, 5, none⟩ = some (.bool false) := (blk_cell BK369.out 5).trans rfl; have hfz75_0 := blk_frozen BK369.out 0; have hfz75_1 := blk_frozen BK369.out 1; have hfz75_2 := blk_frozen BK369.out 2; have hfz75_3 := blk_frozen BK369.out 3; have hfz75_4 := blk_frozen BK369.out 4; have hfz75_5 := blk_frozen BK369.out 5))
     have n0_ : Aside0 (Kd.R k27 27 ((((((w70.setCell ⟨gb369, 0, none⟩ (.int .i64 t362)).setCell ⟨gb369, 1, none⟩ (.int .i64 t363)).setCell ⟨gb369, 2, none⟩ (.int .i64 t364)).setCell ⟨gb369, 3, none⟩ (.int .i64 t365)).setCell ⟨gb369, 4, none⟩ (.int .i64 t366)).setCell ⟨gb369, 5, none⟩ (.bool t367)) w.heap.size (fun k_ => k_ ≠ gb353 ∧ k_ ≠ gb354) (.slice Ao33 y355.length co33) y355) := ⟨by (with_reducible repeat (first | apply Kd.R_alloc | apply Kd.R_drewN | apply Kd.R_drew)); exact Kd.R_mono (Kd.R_far (p := ⟨gb369, 5, none⟩) (Kd.R_far (p := ⟨gb369, 4, none⟩) (Kd.R_far (p := ⟨gb369, 3, none⟩) (Kd.R_far (p := ⟨gb369, 2, none⟩) (Kd.R_far (p := ⟨gb369, 1, none⟩) (Kd.R_far (p := ⟨gb369, 0, none⟩) (Kd.R_types HO_24.out BK369.out (by decide)) (fun _ hk => hk.2) (.int .i64 t362)) (fun _ hk => hk.2) (.int .i64 t363)) (fun _ hk => hk.2) (.int .i64 t364)) (fun _ hk => hk.2) (.int .i64 t365)) (fun _ hk => hk.2) (.int .i64 t366)) (fun _ hk => hk.2) (.bool t367)) (fun _ hk => ⟨hk.1.1, hk.1.2⟩)⟩
     have n1_ : Aside0 (((((((w70.setCell ⟨gb369, 0, none⟩ (.int .i64 t362)).setCell ⟨gb369, 1, none⟩ (.int .i64 t363)).setCell ⟨gb369, 2, none⟩ (.int .i64 t364)).setCell ⟨gb369, 3, none⟩ (.int .i64 t365)).setCell ⟨gb369, 4, none⟩ (.int .i64 t366)).setCell ⟨gb369, 5, none⟩ (.bool t367)).heap[gb341]? = some (.cells #[.int .u64 a1_0, .int .u64 a1_1] 25 (0, 0))) := ⟨by (with_reducible repeat (first | apply zN | apply zD | apply zA)); refine blk_far ?_ NB341_369.out _; (with_reducible repeat (first | apply zN | apply zD | apply zA)); refine blk_far ?_ NB341_369.out _; (with_reducible repeat (first | apply zN | apply zD | apply zA)); refine blk_far ?_ NB341_369.out _; (with_reducible repeat (first | apply zN | apply zD | apply zA)); refine blk_far ?_ NB341_369.out _; (with_reducible repeat (first | apply zN | apply zD | apply zA)); refine blk_far ?_ NB341_369.out _; (with_reducible repeat (first | apply zN | apply zD | apply zA)); refine blk_far ?_ NB341_369.out _; (with_reducible repeat (first | apply zN | apply zD | apply zA)); exact BK341.out⟩
     have n2_ : Aside0 (((((((w70.setCell ⟨gb369, 0, none⟩ (.int .i64 t362)).setCell ⟨gb369, 1, none⟩ (.int .i64 t363)).setCell ⟨gb369, 2, none⟩ (.int .i64 t364)).setCell ⟨gb369, 3, none⟩ (.int .i64 t365)).setCell ⟨gb369, 4, none⟩ (.int .i64 t366)).setCell ⟨gb369, 5, none⟩ (.bool t367)).heap[gb342]? = some (.cells #[.int .u64 a2_0, .int .u64 a2_1] 25 (0, 0))) := ⟨by (with_reducible repeat (first | apply zN | apply zD | apply zA)); refine blk_far ?_ NB342_369.out _; (with_reducible repeat (first | apply zN | apply zD | apply zA)); refine blk_far ?_ NB342_369.out _; (with_reducible repeat (first | apply zN | apply zD | apply zA)); refine blk_far ?_ NB342_369.out _; (with_reducible repeat (first | apply zN | apply zD | apply zA)); refine blk_far ?_ NB342_369.out _; (with_reducible repeat (first | apply zN | apply zD | apply zA)); refine blk_far ?_ NB342_369.out _; (with_reducible repeat (first | apply zN | apply zD | apply zA)); refine blk_far ?_ NB342_369.out _; (with_reducible repeat (first | apply zN | apply zD | apply zA)); exact BK342.out⟩
     have n3_ : Aside0 (((((((w70.setCell ⟨gb369, 0, none⟩ (.int .i64 t362)).setCell ⟨gb369, 1, none⟩ (.int .i64 t363)).setCell ⟨gb369, 2, none⟩ (.int .i64 t364)).setCell ⟨gb369, 3, none⟩ (.int .i64 t365)).setCell ⟨gb369, 4, none⟩ (.int .i64 t366)).setCell ⟨gb369, 5, none⟩ (.bool t367)).heap[gb353]? = some (.cells #[.int .i64 t343, .bool t344, .int .u64 t345, .int .u64 t346, .int .i64 t347] 27 (0, 0))) := ⟨by (with_reducible repeat (first | apply zN | apply zD | apply zA)); refine blk_far ?_ NB353_369.out _; (with_reducible repeat (first | apply zN | apply zD | apply zA)); refine blk_far ?_ NB353_369.out _; (with_reducible repeat (first | apply zN | apply zD | apply zA)); refine blk_far ?_ NB353_369.out _; (with_reducible repeat (first | apply zN | apply zD | apply zA)); refine blk_far ?_ NB353_369.out _; (with_reducible repeat (first | apply zN | apply zD | apply zA)); refine blk_far ?_ NB353_369.out _; (with_reducible repeat (first | apply zN | apply zD | apply zA)); refine blk_far ?_ NB353_369.out _; (with_reducible repeat (first | apply zN | apply zD | apply zA)); exact BK353.out⟩
     have n4_ : Aside0 (((((((w70.setCell ⟨gb369, 0, none⟩ (.int .i64 t362)).setCell ⟨gb369, 1, none⟩ (.int .i64 t363)).setCell ⟨gb369, 2, none⟩ (.int .i64 t364)).setCell ⟨gb369, 3, none⟩ (.int .i64 t365)).setCell ⟨gb369, 4, none⟩ (.int .i64 t366)).setCell ⟨gb369, 5, none⟩ (.bool t367)).heap[gb354]? = some (.cells #[.int .i64 t348, .bool t349, .int .u64 t350, .int .u64 t351, .int .i64 t352] 27 (0, 0))) := ⟨by (with_reducible repeat (first | apply zN | apply zD | apply zA)); refine blk_far ?_ NB354_369.out _; (with_reducible repeat (first | apply zN | apply zD | apply zA)); refine blk_far ?_ NB354_369.out _; (with_reducible repeat (first | apply zN | apply zD | apply zA)); refine blk_far ?_ NB354_369.out _; (with_reducible repeat (first | apply zN | apply zD | apply zA)); refine blk_far ?_ NB354_369.out _; (with_reducible repeat (first | apply zN | apply zD | apply zA)); refine blk_far ?_ NB354_369.out _; (with_reducible repeat (first | apply zN | apply zD | apply zA)); refine blk_far ?_ NB354_369.out _; (with_reducible repeat (first | apply zN | apply zD | apply zA)); exact BK354.out⟩
     have n5_ : Aside0 (((((((w70.setCell ⟨gb369, 0, none⟩ (.int .i64 t362)).setCell ⟨gb369, 1, none⟩ (.int .i64 t363)).setCell ⟨gb369, 2, none⟩ (.int .i64 t364)).setCell ⟨gb369, 3, none⟩ (.int .i64 t365)).setCell ⟨gb369, 4, none⟩ (.int .i64 t366)).setCell ⟨gb369, 5, none⟩ (.bool t367)).heap[gb369]? = some (.cells #[.int .i64 t362, .int .i64 t363, .int .i64 t364, .int .i64 t365, .int .i64 t366, .bool t367] 91 (0, 0))) := ⟨by (with_reducible repeat (first | apply zN | apply zD | apply zA)); refine blk_put (cs := #[.int .i64 t362, .int .i64 t363, .int .i64 t364, .int .i64 t365, .int .i64 t366, .bool false]) ?_ 5 _ rfl; (with_reducible repeat (first | apply zN | apply zD | apply zA)); refine blk_put (cs := #[.int .i64 t362, .int .i64 t363, .int .i64 t364, .int .i64 t365, .int .i64 0, .bool false]) ?_ 4 _ rfl; (with_reducible repeat (first | apply zN | apply zD | apply zA)); refine blk_put (cs := #[.int .i64 t362, .int .i64 t363, .int .i64 t364, .int .i64 0, .int .i64 0, .bool false]) ?_ 3 _ rfl; (with_reducible repeat (first | apply zN | apply zD | apply zA)); refine blk_put (cs := #[.int .i64 t362, .int .i64 t363, .int .i64 0, .int .i64 0, .int .i64 0, .bool false]) ?_ 2 _ rfl; (with_reducible repeat (first | apply zN | apply zD | apply zA)); refine blk_put (cs := #[.int .i64 t362, .int .i64 0, .int .i64 0, .int .i64 0, .int .i64 0, .bool false]) ?_ 1 _ rfl; (with_reducible repeat (first | apply zN | apply zD | apply zA)); refine blk_put (cs := #[.int .i64 0, .int .i64 0, .int .i64 0, .int .i64 0, .int .i64 0, .bool false]) ?_ 0 _ rfl; (with_reducible repeat (first | apply zN | apply zD | apply zA)); exact BK369.out⟩
     have n6_ : Aside0 (Below w.heap.size w ((((((w70.setCell ⟨gb369, 0, none⟩ (.int .i64 t362)).setCell ⟨gb369, 1, none⟩ (.int .i64 t363)).setCell ⟨gb369, 2, none⟩ (.int .i64 t364)).setCell ⟨gb369, 3, none⟩ (.int .i64 t365)).setCell ⟨gb369, 4, none⟩ (.int .i64 t366)).setCell ⟨gb369, 5, none⟩ (.bool t367))) := ⟨by repeat (first | (with_reducible first | exact HB.out | apply yA | apply yN | apply yD | refine below_set ?_ GE341.out | refine below_set ?_ GE342.out | refine below_set ?_ GE353.out | refine below_set ?_ GE354.out | refine below_set ?_ GE369.out) | exact HB.out)⟩
     (try clear HO_24)
     (try clear BK341)
     (try clear BK342)
     (try clear BK353)
     (try clear BK354)
     (try clear BK369)
     (try clear HB)
     generalize ((((((w70.setCell ⟨gb369, 0, none⟩ (.int .i64 t362)).setCell ⟨gb369, 1, none⟩ (.int .i64 t363)).setCell ⟨gb369, 2, none⟩ (.int .i64 t364)).setCell ⟨gb369, 3, none⟩ (.int .i64 t365)).setCell ⟨gb369, 4, none⟩ (.int .i64 t366)).setCell ⟨gb369, 5, none⟩ (.bool t367)) = w76 at n0_ n1_ n2_ n3_ n4_ n5_ n6_ ⊢
     have HO_24 := n0_
     have BK341 := n1_
     have BK342 := n2_
     have BK353 := n3_
     have BK354 := n4_
     have BK369 := n5_
     have HB := n6_
     clear n0_ n1_ n2_ n3_ n4_ n5_ n6_
     have n0_ := zM (Kd.R_drew HO_24.out)
     have n1_ := zM (zD BK341.out)
     have n2_ := zM (zD BK342.out)
     have n3_ := zM (zD BK353.out)
     have n4_ := zM (zD BK354.out)
     have n5_ := zM (zD BK369.out)
     have n6_ := zM (yD HB.out)
     clear HO_24
     clear BK341
     clear BK342
     clear BK353
     clear BK354
     clear BK369
     clear HB
     have HO_24 := n0_
     have BK341 := n1_
     have BK342 := n2_
     have BK353 := n3_
     have BK354 := n4_
     have BK369 := n5_
     have HB := n6_
     clear n0_ n1_ n2_ n3_ n4_ n5_ n6_
     refine start_ (n := 18) (S := fun w' => w'.cell? ⟨gb341, 0, none⟩ = some (.int .u64 a1_0) ∧ w'.cell? ⟨gb341, 1, none⟩ = some (.int .u64 a1_1) ∧ w'.cell? ⟨gb369, 0, none⟩ = some (.int .i64 t362) ∧ w'.cell? ⟨gb369, 1, none⟩ = some (.int .i64 t363) ∧ w'.cell? ⟨gb369, 2, none⟩ = some (.int .i64 t364) ∧ w'.cell? ⟨gb369, 3, none⟩ = some (.int .i64 t365) ∧ w'.cell? ⟨gb369, 4, none⟩ = some (.int .i64 t366) ∧ w'.cell? ⟨gb369, 5, none⟩ = some (.bool t367) ∧ w'.cell? ⟨gb342, 0, none⟩ = some (.int .u64 a2_0) ∧ w'.cell? ⟨gb342, 1, none⟩ = some (.int .u64 a2_1)) (ds := []) #[false, false, false, false, false, false, false, false, false, false, false, false, false, false, false, false, false, false] (by kernel_rfl) rfl rfl ⟨(blk_cell BK341.out 0).trans rfl, (blk_cell BK341.out 1).trans rfl, (blk_cell BK369.out 0).trans rfl, (blk_cell BK369.out 1).trans rfl, (blk_cell BK369.out 2).trans rfl, (blk_cell BK369.out 3).trans rfl, (blk_cell BK369.out 4).trans rfl, (blk_cell BK369.out 5).trans rfl, (blk_cell BK342.out 0).trans rfl, (blk_cell BK342.out 1).trans rfl⟩ (fun hHeld => ?_); refine with_tabW impl_Order.tab13 impl_Order.bits13 (fun HT_ HW_ => ?_)
     generalize w76.drew = w77 at HO_24 BK341 BK342 BK353 BK354 BK369 HB hHeld ⊢
     refine pure_ (i := 0) (N := some 58) (v := ?_) (a' := ?_) #[true, false, false, false, false, false, false, false, false, false, false, false, false, false, false, false, false, false] rfl rfl (any_of HT_.out (by kernel_rfl)) (fun _ _ _ h => h) (Or.inl ⟨by rfl, ?_⟩) ?_ ?_
     rotate_left
     ·intro w'
      go_simp
      with_reducible rfl
     rotate_left
     ·simp only [Act.put, xT, xZ, xS, i64_w, i32_w]
      rfl
     refine pure_ (i := 2) (N := some 60) (v := ?_) (a' := ?_) #[true, false, true, false, false, false, false, false, false, false, false, false, false, false, false, false, false, false] rfl rfl (any_of HT_.out (by kernel_rfl)) (fun _ _ _ h => h) (Or.inl ⟨by rfl, ?_⟩) ?_ ?_
     rotate_left
     ·intro w'
      go_simp
      with_reducible rfl
     rotate_left
     ·simp only [Act.put, xT, xZ, xS, i64_w, i32_w]
      rfl
     refine pure_ (i := 3) (N := some 61) (v := ?_) (a' := ?_) #[true, false, true, true, false, false, false, false, false, false, false, false, false, false, false, false, false, false] rfl rfl (any_of HT_.out (by kernel_rfl)) (fun _ _ _ h => h) (Or.inl ⟨by rfl, ?_⟩) ?_ ?_
     rotate_left
     ·intro w'
      go_simp
      with_reducible rfl
     rotate_left
     ·simp only [Act.put, xT, xZ, xS, i64_w, i32_w]
      rfl
     refine pure_ (i := 9) (N := some 67) (v := ?_) (a' := ?_) #[true, false, true, true, false, false, false, false, false, true, false, false, false, false, false, false, false, false] rfl rfl (any_of HT_.out (by kernel_rfl)) (fun _ _ _ h => h) (Or.inl ⟨by rfl, ?_⟩) ?_ ?_
     rotate_left
     ·intro w'
      go_simp
      with_reducible rfl
     rotate_left
     ·simp only [Act.put, xT, xZ, xS, i64_w, i32_w]
      rfl
     refine pure_ (i := 10) (N := some 68) (v := ?_) (a' := ?_) #[true, false, true, true, false, false, false, false, false, true, true, false, false, false, false, false, false, false] rfl rfl (any_of HT_.out (by kernel_rfl)) (fun _ _ _ h => h) (Or.inl ⟨by rfl, ?_⟩) ?_ ?_
     rotate_left
     ·intro w'
      go_simp
      with_reducible rfl
     rotate_left
     ·simp only [Act.put, xT, xZ, xS, i64_w, i32_w]
      rfl
     refine take_ (i := 1) (N := some 59) (v := ?_) (a' := ?_) #[true, true, true, true, false, false, false, false, false, true, true, false, false, false, false, false, false, false] rfl rfl (take_ofW HT_.out HW_.out (by kernel_rfl)) (fun _ _ _ h => h) (Or.inl ⟨by rfl, ?_⟩) hHeld ?_ ?_
     rotate_left
     ·rintro w' ⟨s0, s1, s2, s3, s4, s5, s6, s7, s8, s9⟩
      go_simp
      with_reducible rfl
     rotate_left
     ·simp only [Act.put, xT, xZ, xS, i64_w, i32_w]
      rfl
     refine take_ (i := 4) (N := some 62) (v := ?_) (a' := ?_) #[true, true, true, true, true, false, false, false, false, true, true, false, false, false, false, false, false, false] rfl rfl (take_ofW HT_.out HW_.out (by kernel_rfl)) (fun _ _ _ h => h) (Or.inl ⟨by rfl, ?_⟩) hHeld ?_ ?_
     rotate_left
     ·rintro w' ⟨s0, s1, s2, s3, s4, s5, s6, s7, s8, s9⟩
      go_simp
      with_reducible rfl
     rotate_left
     ·simp only [Act.put, xT, xZ, xS, i64_w, i32_w]
      rfl
     refine pure_ (i := 5) (N := some 63) (v := ?_) (a' := ?_) #[true, true, true, true, true, true, false, false, false, true, true, false, false, false, false, false, false, false] rfl rfl (any_of HT_.out (by kernel_rfl)) (fun _ _ _ h => h) (Or.inl ⟨by rfl, ?_⟩) ?_ ?_
     rotate_left
     ·intro w'
      go_simp
      with_reducible rfl
     rotate_left
     ·simp only [Act.put, xT, xZ, xS, i64_w, i32_w]
      rfl
     refine take_ (i := 8) (N := some 66) (v := ?_) (a' := ?_) #[true, true, true, true, true, true, false, false, true, true, true, false, false, false, false, false, false, false] rfl rfl (take_ofW HT_.out HW_.out (by kernel_rfl)) (fun _ _ _ h => h) (Or.inl ⟨by rfl, ?_⟩) hHeld ?_ ?_
     rotate_left
     ·rintro w' ⟨s0, s1, s2, s3, s4, s5, s6, s7, s8, s9⟩
      go_simp
      with_reducible rfl
     rotate_left
     ·simp only [Act.put, xT, xZ, xS, i64_w, i32_w]
      rfl
     refine take_ (i := 11) (N := some 69) (v := ?_) (a' := ?_) #[true, true, true, true, true, true, false, false, true, true, true, true, false, false, false, false, false, false] rfl rfl (take_ofW HT_.out HW_.out (by kernel_rfl)) (fun _ _ _ h => h) (Or.inl ⟨by rfl, ?_⟩) hHeld ?_ ?_
     rotate_left
     ·rintro w' ⟨s0, s1, s2, s3, s4, s5, s6, s7, s8, s9⟩
      go_simp
      with_reducible rfl
     rotate_left
     ·simp only [Act.put, xT, xZ, xS, i64_w, i32_w]
      rfl
     refine pure_ (i := 12) (N := some 70) (v := ?_) (a' := ?_) #[true, true, true, true, true, true, false, false, true, true, true, true, true, false, false, false, false, false] rfl rfl (any_of HT_.out (by kernel_rfl)) (fun _ _ _ h => h) (Or.inl ⟨by rfl, ?_⟩) ?_ ?_
     rotate_left
     ·intro w'
      go_simp
      with_reducible rfl
     rotate_left
     ·simp only [Act.put, xT, xZ, xS, i64_w, i32_w]
      rfl
     refine one_ (i := 6) (N := some 64) #[true, true, true, true, true, true, true, false, true, true, true, true, true, false, false, false, false, false] rfl rfl (one_of HT_.out (by kernel_rfl)) (by decide) (fun K hK => ?_)
     refine goes_ Tryd.func68 (by kernel_rfl) rfl #[.agg #[.int .u64 a1_0, .int .u64 a1_1], .int .i64 (wrap64 (t365 - 1))] (by rfl) rfl rfl (by (try simp only [List.map_toArray, List.map_cons, List.map_nil]); first | done | rfl | (simp only [List.length_drop, List.length_take]; rfl)) ?_
     with_reducible refine (impl_Word_low.calls a1_0 a1_1 (wrap64 (t365 - 1)) t370 t371 _ A61.out).mono ?_
     rintro e w78 ⟨rfl, hb⟩
     refine ⟨_, rfl, ?_⟩
     have n0_ := zM (Kd.R_below (by (with_reducible repeat (first | apply Kd.R_alloc | apply Kd.R_drewN | apply Kd.R_drew)); exact HO_24.out) hb)
     have n1_ := zM (blk_below (g := gb341) (o := .cells #[.int .u64 a1_0, .int .u64 a1_1] 25 (0, 0)) (by (with_reducible repeat (first | apply zN | apply zD | apply zA)); exact BK341.out) hb)
     have n2_ := zM (blk_below (g := gb342) (o := .cells #[.int .u64 a2_0, .int .u64 a2_1] 25 (0, 0)) (by (with_reducible repeat (first | apply zN | apply zD | apply zA)); exact BK342.out) hb)
     have n3_ := zM (blk_below (g := gb353) (o := .cells #[.int .i64 t343, .bool t344, .int .u64 t345, .int .u64 t346, .int .i64 t347] 27 (0, 0)) (by (with_reducible repeat (first | apply zN | apply zD | apply zA)); exact BK353.out) hb)
     have n4_ := zM (blk_below (g := gb354) (o := .cells #[.int .i64 t348, .bool t349, .int .u64 t350, .int .u64 t351, .int .i64 t352] 27 (0, 0)) (by (with_reducible repeat (first | apply zN | apply zD | apply zA)); exact BK354.out) hb)
     have n5_ := zM (blk_below (g := gb369) (o := .cells #[.int .i64 t362, .int .i64 t363, .int .i64 t364, .int .i64 t365, .int .i64 t366, .bool t367] 91 (0, 0)) (by (with_reducible repeat (first | apply zN | apply zD | apply zA)); exact BK369.out) hb)
     have n6_ := zM (below_step (by repeat (first | (with_reducible first | exact HB.out | apply yA | apply yN | apply yD | refine below_set ?_ GE341.out | refine below_set ?_ GE342.out | refine below_set ?_ GE353.out | refine below_set ?_ GE354.out | refine below_set ?_ GE369.out) | exact HB.out)) hb)
     clear HO_24
     clear BK341
     clear BK342
     clear BK353
     clear BK354
     clear BK369
     clear HB
     have HO_24 := n0_
     have BK341 := n1_
     have BK342 := n2_
     have BK353 := n3_
     have BK354 := n4_
     have BK369 := n5_
     have HB := n6_
     clear n0_ n1_ n2_ n3_ n4_ n5_ n6_
     (try clear hb)
     (try clear hb2)
     (try clear hk)
     (try clear hi)
     refine hK.out _ _ ⟨(blk_cell BK341.out 0).trans rfl, (blk_cell BK341.out 1).trans rfl, (blk_cell BK369.out 0).trans rfl, (blk_cell BK369.out 1).trans rfl, (blk_cell BK369.out 2).trans rfl, (blk_cell BK369.out 3).trans rfl, (blk_cell BK369.out 4).trans rfl, (blk_cell BK369.out 5).trans rfl, (blk_cell BK342.out 0).trans rfl, (blk_cell BK342.out 1).trans rfl⟩ (fun hHeld => ?_)
     clear hK K
     refine norm_ (a' := ?_) ?_ ?_
     rotate_left
     ·show Act.put _ (some 64) _ = _
      simp only [Act.put, xT, xZ, xS, i64_w, i32_w]
      rfl
     refine one_ (i := 7) (N := some 65) #[true, true, true, true, true, true, true, true, true, true, true, true, true, false, false, false, false, false] rfl rfl (one_of HT_.out (by kernel_rfl)) (by decide) (fun K hK => ?_)
     refine goes_ Tryd.func76 (by kernel_rfl) rfl #[.agg #[.int .u64 t370, .int .u64 t371]] (by rfl) rfl rfl (by (try simp only [List.map_toArray, List.map_cons, List.map_nil]); first | done | rfl | (simp only [List.length_drop, List.length_take]; rfl)) ?_
     with_reducible refine (impl_Word_nat.calls t370 t371 t372 _ A62.out).mono ?_
     rintro e w79 ⟨v373, rfl, ho0, hb⟩
     refine ⟨_, rfl, ?_⟩
     have n0_ := zM (Kd.R_below (by (with_reducible repeat (first | apply Kd.R_alloc | apply Kd.R_drewN | apply Kd.R_drew)); exact HO_24.out) hb)
     have n1_ := zM (Kd.R_lower ho0 (below_size (by repeat (first | (with_reducible first | exact HB.out | apply yA | apply yN | apply yD | refine below_set ?_ GE341.out | refine below_set ?_ GE342.out | refine below_set ?_ GE353.out | refine below_set ?_ GE354.out | refine below_set ?_ GE369.out) | exact HB.out))))
     have n2_ := zM (blk_below (g := gb341) (o := .cells #[.int .u64 a1_0, .int .u64 a1_1] 25 (0, 0)) (by (with_reducible repeat (first | apply zN | apply zD | apply zA)); exact BK341.out) hb)
     have n3_ := zM (blk_below (g := gb342) (o := .cells #[.int .u64 a2_0, .int .u64 a2_1] 25 (0, 0)) (by (with_reducible repeat (first | apply zN | apply zD | apply zA)); exact BK342.out) hb)
     have n4_ := zM (blk_below (g := gb353) (o := .cells #[.int .i64 t343, .bool t344, .int .u64 t345, .int .u64 t346, .int .i64 t347] 27 (0, 0)) (by (with_reducible repeat (first | apply zN | apply zD | apply zA)); exact BK353.out) hb)
     have n5_ := zM (blk_below (g := gb354) (o := .cells #[.int .i64 t348, .bool t349, .int .u64 t350, .int .u64 t351, .int .i64 t352] 27 (0, 0)) (by (with_reducible repeat (first | apply zN | apply zD | apply zA)); exact BK354.out) hb)
     have n6_ := zM (blk_below (g := gb369) (o := .cells #[.int .i64 t362, .int .i64 t363, .int .i64 t364, .int .i64 t365, .int .i64 t366, .bool t367] 91 (0, 0)) (by (with_reducible repeat (first | apply zN | apply zD | apply zA)); exact BK369.out) hb)
     have n7_ := zM (below_step (by repeat (first | (with_reducible first | exact HB.out | apply yA | apply yN | apply yD | refine below_set ?_ GE341.out | refine below_set ?_ GE342.out | refine below_set ?_ GE353.out | refine below_set ?_ GE354.out | refine below_set ?_ GE369.out) | exact HB.out)) hb)
     clear HO_24
     clear BK341
     clear BK342
     clear BK353
     clear BK354
     clear BK369
     clear HB
     have HO_24 := n0_
     have HO374 := n1_
     have BK341 := n2_
     have BK342 := n3_
     have BK353 := n4_
     have BK354 := n5_
     have BK369 := n6_
     have HB := n7_
     clear n0_ n1_ n2_ n3_ n4_ n5_ n6_ n7_
     (try clear hb)
     (try clear hb2)
     (try clear hk)
     (try clear hi)
     (try clear ho0)
     refine hK.out _ _ ⟨(blk_cell BK341.out 0).trans rfl, (blk_cell BK341.out 1).trans rfl, (blk_cell BK369.out 0).trans rfl, (blk_cell BK369.out 1).trans rfl, (blk_cell BK369.out 2).trans rfl, (blk_cell BK369.out 3).trans rfl, (blk_cell BK369.out 4).trans rfl, (blk_cell BK369.out 5).trans rfl, (blk_cell BK342.out 0).trans rfl, (blk_cell BK342.out 1).trans rfl⟩ (fun hHeld => ?_)
     clear hK K
     refine norm_ (a' := ?_) ?_ ?_
     rotate_left
     ·show Act.put _ (some 65) _ = _
      simp only [Act.put, xT, xZ, xS, i64_w, i32_w]
      rfl
     refine one_ (i := 13) (N := some 71) #[true, true, true, true, true, true, true, true, true, true, true, true, true, true, false, false, false, false] rfl rfl (one_of HT_.out (by kernel_rfl)) (by decide) (fun K hK => ?_)
     refine goes_ Tryd.func68 (by kernel_rfl) rfl #[.agg #[.int .u64 a2_0, .int .u64 a2_1], .int .i64 (wrap64 (t365 - 1))] (by rfl) rfl rfl (by (try simp only [List.map_toArray, List.map_cons, List.map_nil]); first | done | rfl | (simp only [List.length_drop, List.length_take]; rfl)) ?_
     with_reducible refine (impl_Word_low.calls a2_0 a2_1 (wrap64 (t365 - 1)) t375 t376 _ A63.out).mono ?_
     rintro e w80 ⟨rfl, hb⟩
     refine ⟨_, rfl, ?_⟩
     have n0_ := zM (Kd.R_below (by (with_reducible repeat (first | apply Kd.R_alloc | apply Kd.R_drewN | apply Kd.R_drew)); exact HO_24.out) hb)
     have n1_ := zM (Kd.R_below (by (with_reducible repeat (first | apply Kd.R_alloc | apply Kd.R_drewN | apply Kd.R_drew)); exact HO374.out) hb)
     have n2_ := zM (blk_below (g := gb341) (o := .cells #[.int .u64 a1_0, .int .u64 a1_1] 25 (0, 0)) (by (with_reducible repeat (first | apply zN | apply zD | apply zA)); exact BK341.out) hb)
     have n3_ := zM (blk_below (g := gb342) (o := .cells #[.int .u64 a2_0, .int .u64 a2_1] 25 (0, 0)) (by (with_reducible repeat (first | apply zN | apply zD | apply zA)); exact BK342.out) hb)
     have n4_ := zM (blk_below (g := gb353) (o := .cells #[.int .i64 t343, .bool t344, .int .u64 t345, .int .u64 t346, .int .i64 t347] 27 (0, 0)) (by (with_reducible repeat (first | apply zN | apply zD | apply zA)); exact BK353.out) hb)
     have n5_ := zM (blk_below (g := gb354) (o := .cells #[.int .i64 t348, .bool t349, .int .u64 t350, .int .u64 t351, .int .i64 t352] 27 (0, 0)) (by (with_reducible repeat (first | apply zN | apply zD | apply zA)); exact BK354.out) hb)
     have n6_ := zM (blk_below (g := gb369) (o := .cells #[.int .i64 t362, .int .i64 t363, .int .i64 t364, .int .i64 t365, .int .i64 t366, .bool t367] 91 (0, 0)) (by (with_reducible repeat (first | apply zN | apply zD | apply zA)); exact BK369.out) hb)
     have n7_ := zM (below_step (by repeat (first | (with_reducible first | exact HB.out | apply yA | apply yN | apply yD | refine below_set ?_ GE341.out | refine below_set ?_ GE342.out | refine below_set ?_ GE353.out | refine below_set ?_ GE354.out | refine below_set ?_ GE369.out) | exact HB.out)) hb)
     clear HO_24
     clear HO374
     clear BK341
     clear BK342
     clear BK353
     clear BK354
     clear BK369
     clear HB
     have HO_24 := n0_
     have HO374 := n1_
     have BK341 := n2_
     have BK342 := n3_
     have BK353 := n4_
     have BK354 := n5_
     have BK369 := n6_
     have HB := n7_
     clear n0_ n1_ n2_ n3_ n4_ n5_ n6_ n7_
     (try clear hb)
     (try clear hb2)
     (try clear hk)
     (try clear hi)
     refine hK.out _ _ ⟨(blk_cell BK341.out 0).trans rfl, (blk_cell BK341.out 1).trans rfl, (blk_cell BK369.out 0).trans rfl, (blk_cell BK369.out 1).trans rfl, (blk_cell BK369.out 2).trans rfl, (blk_cell BK369.out 3).trans rfl, (blk_cell BK369.out 4).trans rfl, (blk_cell BK369.out 5).trans rfl, (blk_cell BK342.out 0).trans rfl, (blk_cell BK342.out 1).trans rfl⟩ (fun hHeld => ?_)
     clear hK K
     refine norm_ (a' := ?_) ?_ ?_
     rotate_left
     ·show Act.put _ (some 71) _ = _
      simp only [Act.put, xT, xZ, xS, i64_w, i32_w]
      rfl
     refine one_ (i := 14) (N := some 72) #[true, true, true, true, true, true, true, true, true, true, true, true, true, true, true, false, false, false] rfl rfl (one_of HT_.out (by kernel_rfl)) (by decide) (fun K hK => ?_)
     refine goes_ Tryd.func76 (by kernel_rfl) rfl #[.agg #[.int .u64 t375, .int .u64 t376]] (by rfl) rfl rfl (by (try simp only [List.map_toArray, List.map_cons, List.map_nil]); first | done | rfl | (simp only [List.length_drop, List.length_take]; rfl)) ?_
     with_reducible refine (impl_Word_nat.calls t375 t376 t377 _ A64.out).mono ?_
     rintro e w81 ⟨v378, rfl, ho0, hb⟩
     refine ⟨_, rfl, ?_⟩
     have n0_ := zM (Kd.R_below (by (with_reducible repeat (first | apply Kd.R_alloc | apply Kd.R_drewN | apply Kd.R_drew)); exact HO_24.out) hb)
     have n1_ := zM (Kd.R_elder' (by (with_reducible repeat (first | apply Kd.R_alloc | apply Kd.R_drewN | apply Kd.R_drew)); exact HO374.out) (Kd.R_base ho0) hb)
     have n2_ := zM (Kd.R_lower (Kd.R_new' ho0 (Kd.R_lt (by (with_reducible repeat (first | apply Kd.R_alloc | apply Kd.R_drewN | apply Kd.R_drew)); exact HO374.out))) (below_size (by repeat (first | (with_reducible first | exact HB.out | apply yA | apply yN | apply yD | refine below_set ?_ GE341.out | refine below_set ?_ GE342.out | refine below_set ?_ GE353.out | refine below_set ?_ GE354.out | refine below_set ?_ GE369.out) | exact HB.out))))
     have n3_ := zM (blk_below (g := gb341) (o := .cells #[.int .u64 a1_0, .int .u64 a1_1] 25 (0, 0)) (by (with_reducible repeat (first | apply zN | apply zD | apply zA)); exact BK341.out) hb)
     have n4_ := zM (blk_below (g := gb342) (o := .cells #[.int .u64 a2_0, .int .u64 a2_1] 25 (0, 0)) (by (with_reducible repeat (first | apply zN | apply zD | apply zA)); exact BK342.out) hb)
     have n5_ := zM (blk_below (g := gb353) (o := .cells #[.int .i64 t343, .bool t344, .int .u64 t345, .int .u64 t346, .int .i64 t347] 27 (0, 0)) (by (with_reducible repeat (first | apply zN | apply zD | apply zA)); exact BK353.out) hb)
     have n6_ := zM (blk_below (g := gb354) (o := .cells #[.int .i64 t348, .bool t349, .int .u64 t350, .int .u64 t351, .int .i64 t352] 27 (0, 0)) (by (with_reducible repeat (first | apply zN | apply zD | apply zA)); exact BK354.out) hb)
     have n7_ := zM (blk_below (g := gb369) (o := .cells #[.int .i64 t362, .int .i64 t363, .int .i64 t364, .int .i64 t365, .int .i64 t366, .bool t367] 91 (0, 0)) (by (with_reducible repeat (first | apply zN | apply zD | apply zA)); exact BK369.out) hb)
     have n8_ := zM (below_step (by repeat (first | (with_reducible first | exact HB.out | apply yA | apply yN | apply yD | refine below_set ?_ GE341.out | refine below_set ?_ GE342.out | refine below_set ?_ GE353.out | refine below_set ?_ GE354.out | refine below_set ?_ GE369.out) | exact HB.out)) hb)
     clear HO_24
     clear HO374
     clear BK341
     clear BK342
     clear BK353
     clear BK354
     clear BK369
     clear HB
     have HO_24 := n0_
     have HO374 := n1_
     have HO379 := n2_
     have BK341 := n3_
     have BK342 := n4_
     have BK353 := n5_
     have BK354 := n6_
     have BK369 := n7_
     have HB := n8_
     clear n0_ n1_ n2_ n3_ n4_ n5_ n6_ n7_ n8_
     (try clear hb)
     (try clear hb2)
     (try clear hk)
     (try clear hi)
     (try clear ho0)
     obtain ⟨Ao82, co82, eo82⟩ := Kd.R_slice HO374.out
     (first | subst eo82 | (injection eo82 with f1_ f2_ f3_; have f4_ := f1_.symm; have f5_ := f3_.symm; clear f1_ f2_ f3_; subst f4_; subst f5_))
     obtain ⟨Ao83, co83, eo83⟩ := Kd.R_slice HO379.out
     (first | subst eo83 | (injection eo83 with f1_ f2_ f3_; have f4_ := f1_.symm; have f5_ := f3_.symm; clear f1_ f2_ f3_; subst f4_; subst f5_))
     refine hK.out _ _ ⟨(blk_cell BK341.out 0).trans rfl, (blk_cell BK341.out 1).trans rfl, (blk_cell BK369.out 0).trans rfl, (blk_cell BK369.out 1).trans rfl, (blk_cell BK369.out 2).trans rfl, (blk_cell BK369.out 3).trans rfl, (blk_cell BK369.out 4).trans rfl, (blk_cell BK369.out 5).trans rfl, (blk_cell BK342.out 0).trans rfl, (blk_cell BK342.out 1).trans rfl⟩ (fun hHeld => ?_)
     clear hK K
     refine norm_ (a' := ?_) ?_ ?_
     rotate_left
     ·show Act.put _ (some 72) _ = _
      simp only [Act.put, xT, xZ, xS, i64_w, i32_w]
      rfl
     refine one_ (i := 15) (N := some 73) #[true, true, true, true, true, true, true, true, true, true, true, true, true, true, true, true, false, false] rfl rfl (one_of HT_.out (by kernel_rfl)) (by decide) (fun K hK => ?_)
     refine goes_ Tryd.func77 (by kernel_rfl) rfl #[.slice Ao82 t372.length co82, .slice Ao83 t377.length co83] (by rfl) rfl rfl (by (try simp only [List.map_toArray, List.map_cons, List.map_nil]); first | done | rfl | (simp only [List.length_drop, List.length_take]; rfl)) ?_
     with_reducible refine (impl_nat_cmp.calls k1 _ _ t372 _ _ t377 t380 _ ?side1 ?side2 ?side3 ?side4 A65.out).mono ?_
     (case side1 => repeat (first | exact (Kd.R_reads' HO374.out).2.2 | (with_reducible refine Kd.C_alloc ?_ _) | (with_reducible refine Kd.C_drewN ?_ _) | (with_reducible refine Kd.C_drew ?_)))
     (case side2 => exact (Kd.R_reads' HO374.out).2.1)
     (case side3 => repeat (first | exact (Kd.R_reads' HO379.out).2.2 | (with_reducible refine Kd.C_alloc ?_ _) | (with_reducible refine Kd.C_drewN ?_ _) | (with_reducible refine Kd.C_drew ?_)))
     (case side4 => exact (Kd.R_reads' HO379.out).2.1)
     rintro e w' ⟨rfl, ⟨nd, rfl⟩⟩
     refine ⟨_, rfl, ?_⟩
     refine hK.out _ _ ⟨(blk_cell BK341.out 0).trans rfl, (blk_cell BK341.out 1).trans rfl, (blk_cell BK369.out 0).trans rfl, (blk_cell BK369.out 1).trans rfl, (blk_cell BK369.out 2).trans rfl, (blk_cell BK369.out 3).trans rfl, (blk_cell BK369.out 4).trans rfl, (blk_cell BK369.out 5).trans rfl, (blk_cell BK342.out 0).trans rfl, (blk_cell BK342.out 1).trans rfl⟩ (fun hHeld => ?_)
     clear hK K
     refine norm_ (a' := ?_) ?_ ?_
     rotate_left
     ·show Act.put _ (some 73) _ = _
      simp only [Act.put, xT, xZ, xS, i64_w, i32_w]
      rfl
     refine pure_ (i := 16) (N := some 74) (v := ?_) (a' := ?_) #[true, true, true, true, true, true, true, true, true, true, true, true, true, true, true, true, true, false] rfl rfl (any_of HT_.out (by kernel_rfl)) (fun _ _ _ h => h) (Or.inl ⟨by rfl, ?_⟩) ?_ ?_
     rotate_left
     ·intro w'
      go_simp
      with_reducible rfl
     rotate_left
     ·simp only [Act.put, xT, xZ, xS, i64_w, i32_w]
      rfl
     refine pure_ (i := 17) (N := some 6) (v := ?_) (a' := ?_) #[true, true, true, true, true, true, true, true, true, true, true, true, true, true, true, true, true, true] rfl rfl (any_of HT_.out (by kernel_rfl)) (fun _ _ _ h => h) (Or.inl ⟨by rfl, ?_⟩) ?_ ?_
     rotate_left
     ·intro w'
      go_simp
      with_reducible rfl
     rotate_left
     ·simp only [Act.put, xT, xZ, xS, i64_w, i32_w]
      rfl
     refine done_ (done_of HT_.out (by kernel_rfl)) ?_
     try go_wp2
     go_ret
     exact ⟨by first | rfl | (simp [errW_none, errW_some] <;> rfl) | (simp [*, errW_none, errW_some] <;> rfl), by repeat (first | (with_reducible first | exact HB.out | apply yA | apply yN | apply yD | refine below_set ?_ GE341.out | refine below_set ?_ GE342.out | refine below_set ?_ GE353.out | refine below_set ?_ GE354.out | refine below_set ?_ GE369.out) | exact HB.out)⟩
    ·rw [if_neg c59] at H
     have c59b0 : (t360 == t361) = false := beq_eq_false_iff_ne.mpr c59
     have c59b1 : (t360 != t361) = true := bne_iff_ne.mpr c59
     obtain ⟨ji84, hji84⟩ : ∃ j_ : Int, (mn 1 (wrap64 (t360 - t361))) = j_ := ⟨_, rfl⟩
     replace H : (some (mx (-1) (ji84))) = some r := by first | (rw [hji84] at H; exact H) | (simp only [hji84] at H ⊢; exact H)
     (try rw [hji84] at A57)
     (try rw [hji84] at A58)
     (try (have hji84h : ji84 ≤ 1 := by (rw [← hji84]; unfold mn; (repeat' split) <;> omega)))
     (try (have hji84g : ji84 ≤ 64 := by omega))
     have hji84_ : (if (wrap64 (t360 - t361)) < 1 then (wrap64 (t360 - t361)) else 1) = ji84 := hji84
     obtain ⟨ji85, hji85⟩ : ∃ j_ : Int, (mx (-1) (ji84)) = j_ := ⟨_, rfl⟩
     replace H : (some ji85) = some r := by first | (rw [hji85] at H; exact H) | (simp only [hji85] at H ⊢; exact H)
     (try rw [hji85] at A57)
     (try rw [hji85] at A58)
     have hji85_ : (if (-1) < (ji84) then (ji84) else (-1)) = ji85 := hji85
     obtain rfl := Option.some.inj H
     try go_wp2
     have n0_ := zM (Kd.R_drew HO_24.out)
     have n1_ := zM (zD BK341.out)
     have n2_ := zM (zD BK342.out)
     have n3_ := zM (zD BK353.out)
     have n4_ := zM (zD BK354.out)
     have n5_ := zM (yD HB.out)
     clear HO_24
     clear BK341
     clear BK342
     clear BK353
     clear BK354
     clear HB
     have HO_24 := n0_
     have BK341 := n1_
     have BK342 := n2_
     have BK353 := n3_
     have BK354 := n4_
     have HB := n5_
     clear n0_ n1_ n2_ n3_ n4_ n5_
     refine start_ (n := 8) (S := fun w' => w'.cell? ⟨gb353, 0, none⟩ = some (.int .i64 t343) ∧ w'.cell? ⟨gb353, 1, none⟩ = some (.bool t344) ∧ w'.cell? ⟨gb353, 2, none⟩ = some (.int .u64 t345) ∧ w'.cell? ⟨gb353, 3, none⟩ = some (.int .u64 t346) ∧ w'.cell? ⟨gb353, 4, none⟩ = some (.int .i64 t347) ∧ w'.cell? ⟨gb354, 0, none⟩ = some (.int .i64 t348) ∧ w'.cell? ⟨gb354, 1, none⟩ = some (.bool t349) ∧ w'.cell? ⟨gb354, 2, none⟩ = some (.int .u64 t350) ∧ w'.cell? ⟨gb354, 3, none⟩ = some (.int .u64 t351) ∧ w'.cell? ⟨gb354, 4, none⟩ = some (.int .i64 t352)) (ds := []) #[false, false, false, false, false, false, false, false] (by kernel_rfl) rfl rfl ⟨(blk_cell BK353.out 0).trans rfl, (blk_cell BK353.out 1).trans rfl, (blk_cell BK353.out 2).trans rfl, (blk_cell BK353.out 3).trans rfl, (blk_cell BK353.out 4).trans rfl, (blk_cell BK354.out 0).trans rfl, (blk_cell BK354.out 1).trans rfl, (blk_cell BK354.out 2).trans rfl, (blk_cell BK354.out 3).trans rfl, (blk_cell BK354.out 4).trans rfl⟩ (fun hHeld => ?_); refine with_tabW impl_Order.tab9 impl_Order.bits9 (fun HT_ HW_ => ?_)
     generalize wr.drew = w86 at HO_24 BK341 BK342 BK353 BK354 HB hHeld ⊢
     refine pure_ (i := 0) (N := some 39) (v := ?_) (a' := ?_) #[true, false, false, false, false, false, false, false] rfl rfl (any_of HT_.out (by kernel_rfl)) (fun _ _ _ h => h) (Or.inl ⟨by rfl, ?_⟩) ?_ ?_
     rotate_left
     ·intro w'
      go_simp
      with_reducible rfl
     rotate_left
     ·simp only [Act.put, xT, xZ, xS, i64_w, i32_w]
      rfl
     refine pure_ (i := 3) (N := some 42) (v := ?_) (a' := ?_) #[true, false, false, true, false, false, false, false] rfl rfl (any_of HT_.out (by kernel_rfl)) (fun _ _ _ h => h) (Or.inl ⟨by rfl, ?_⟩) ?_ ?_
     rotate_left
     ·intro w'
      go_simp
      with_reducible rfl
     rotate_left
     ·simp only [Act.put, xT, xZ, xS, i64_w, i32_w]
      rfl
     refine take_ (i := 1) (N := some 40) (v := ?_) (a' := ?_) #[true, true, false, true, false, false, false, false] rfl rfl (take_ofW HT_.out HW_.out (by kernel_rfl)) (fun _ _ _ h => h) (Or.inl ⟨by rfl, ?_⟩) hHeld ?_ ?_
     rotate_left
     ·rintro w' ⟨s0, s1, s2, s3, s4, s5, s6, s7, s8, s9⟩
      go_simp
      with_reducible rfl
     rotate_left
     ·simp only [Act.put, xT, xZ, xS, i64_w, i32_w]
      rfl
     refine take_ (i := 4) (N := some 43) (v := ?_) (a' := ?_) #[true, true, false, true, true, false, false, false] rfl rfl (take_ofW HT_.out HW_.out (by kernel_rfl)) (fun _ _ _ h => h) (Or.inl ⟨by rfl, ?_⟩) hHeld ?_ ?_
     rotate_left
     ·rintro w' ⟨s0, s1, s2, s3, s4, s5, s6, s7, s8, s9⟩
      go_simp
      with_reducible rfl
     rotate_left
     ·simp only [Act.put, xT, xZ, xS, i64_w, i32_w]
      rfl
     refine one_ (i := 2) (N := some 41) #[true, true, true, true, true, false, false, false] rfl rfl (one_of HT_.out (by kernel_rfl)) (by decide) (fun K hK => ?_)
     refine goesD_ Tryd.func75 (by kernel_rfl) rfl #[.agg #[.int .i64 t343, .bool t344, .int .u64 t345, .int .u64 t346, .int .i64 t347]] (by rfl) rfl rfl rfl (by (try simp only [List.map_toArray, List.map_cons, List.map_nil]); first | done | rfl | (simp only [List.length_drop, List.length_take]; rfl)) ?_
     with_reducible refine (impl_Order_1.calls t343 t344 t345 t346 t347 t360 _ A57.out).mono ?_
     rintro e w87 ⟨rfl, hb⟩
     refine ⟨_, rfl, ?_⟩
     have n0_ := zM (Kd.R_below (by (with_reducible repeat (first | apply Kd.R_alloc | apply Kd.R_drewN | apply Kd.R_drew)); exact HO_24.out) hb)
     have n1_ := zM (blk_below (g := gb341) (o := .cells #[.int .u64 a1_0, .int .u64 a1_1] 25 (0, 0)) (by (with_reducible repeat (first | apply zN | apply zD | apply zA)); exact BK341.out) hb)
     have n2_ := zM (blk_below (g := gb342) (o := .cells #[.int .u64 a2_0, .int .u64 a2_1] 25 (0, 0)) (by (with_reducible repeat (first | apply zN | apply zD | apply zA)); exact BK342.out) hb)
     have n3_ := zM (blk_below (g := gb353) (o := .cells #[.int .i64 t343, .bool t344, .int .u64 t345, .int .u64 t346, .int .i64 t347] 27 (0, 0)) (by (with_reducible repeat (first | apply zN | apply zD | apply zA)); exact BK353.out) hb)
     have n4_ := zM (blk_below (g := gb354) (o := .cells #[.int .i64 t348, .bool t349, .int .u64 t350, .int .u64 t351, .int .i64 t352] 27 (0, 0)) (by (with_reducible repeat (first | apply zN | apply zD | apply zA)); exact BK354.out) hb)
     have n5_ := zM (below_step (by repeat (first | (with_reducible first | exact HB.out | apply yA | apply yN | apply yD | refine below_set ?_ GE341.out | refine below_set ?_ GE342.out | refine below_set ?_ GE353.out | refine below_set ?_ GE354.out) | exact HB.out)) hb)
     clear HO_24
     clear BK341
     clear BK342
     clear BK353
     clear BK354
     clear HB
     have HO_24 := n0_
     have BK341 := n1_
     have BK342 := n2_
     have BK353 := n3_
     have BK354 := n4_
     have HB := n5_
     clear n0_ n1_ n2_ n3_ n4_ n5_
     (try clear hb)
     (try clear hb2)
     (try clear hk)
     (try clear hi)
     refine hK.out _ _ ⟨(blk_cell BK353.out 0).trans rfl, (blk_cell BK353.out 1).trans rfl, (blk_cell BK353.out 2).trans rfl, (blk_cell BK353.out 3).trans rfl, (blk_cell BK353.out 4).trans rfl, (blk_cell BK354.out 0).trans rfl, (blk_cell BK354.out 1).trans rfl, (blk_cell BK354.out 2).trans rfl, (blk_cell BK354.out 3).trans rfl, (blk_cell BK354.out 4).trans rfl⟩ (fun hHeld => ?_)
     clear hK K
     refine norm_ (a' := ?_) ?_ ?_
     rotate_left
     ·show Act.put _ (some 41) _ = _
      simp only [Act.put, xT, xZ, xS, i64_w, i32_w]
      rfl
     refine one_ (i := 5) (N := some 44) #[true, true, true, true, true, true, false, false] rfl rfl (one_of HT_.out (by kernel_rfl)) (by decide) (fun K hK => ?_)
     refine goesD_ Tryd.func75 (by kernel_rfl) rfl #[.agg #[.int .i64 t348, .bool t349, .int .u64 t350, .int .u64 t351, .int .i64 t352]] (by rfl) rfl rfl rfl (by (try simp only [List.map_toArray, List.map_cons, List.map_nil]); first | done | rfl | (simp only [List.length_drop, List.length_take]; rfl)) ?_
     with_reducible refine (impl_Order_1.calls t348 t349 t350 t351 t352 t361 _ A58.out).mono ?_
     rintro e w88 ⟨rfl, hb⟩
     refine ⟨_, rfl, ?_⟩
     have n0_ := zM (Kd.R_below (by (with_reducible repeat (first | apply Kd.R_alloc | apply Kd.R_drewN | apply Kd.R_drew)); exact HO_24.out) hb)
     have n1_ := zM (blk_below (g := gb341) (o := .cells #[.int .u64 a1_0, .int .u64 a1_1] 25 (0, 0)) (by (with_reducible repeat (first | apply zN | apply zD | apply zA)); exact BK341.out) hb)
     have n2_ := zM (blk_below (g := gb342) (o := .cells #[.int .u64 a2_0, .int .u64 a2_1] 25 (0, 0)) (by (with_reducible repeat (first | apply zN | apply zD | apply zA)); exact BK342.out) hb)
     have n3_ := zM (blk_below (g := gb353) (o := .cells #[.int .i64 t343, .bool t344, .int .u64 t345, .int .u64 t346, .int .i64 t347] 27 (0, 0)) (by (with_reducible repeat (first | apply zN | apply zD | apply zA)); exact BK353.out) hb)
     have n4_ := zM (blk_below (g := gb354) (o := .cells #[.int .i64 t348, .bool t349, .int .u64 t350, .int .u64 t351, .int .i64 t352] 27 (0, 0)) (by (with_reducible repeat (first | apply zN | apply zD | apply zA)); exact BK354.out) hb)
     have n5_ := zM (below_step (by repeat (first | (with_reducible first | exact HB.out | apply yA | apply yN | apply yD | refine below_set ?_ GE341.out | refine below_set ?_ GE342.out | refine below_set ?_ GE353.out | refine below_set ?_ GE354.out) | exact HB.out)) hb)
     clear HO_24
     clear BK341
     clear BK342
     clear BK353
     clear BK354
     clear HB
     have HO_24 := n0_
     have BK341 := n1_
     have BK342 := n2_
     have BK353 := n3_
     have BK354 := n4_
     have HB := n5_
     clear n0_ n1_ n2_ n3_ n4_ n5_
     (try clear hb)
     (try clear hb2)
     (try clear hk)
     (try clear hi)
     refine hK.out _ _ ⟨(blk_cell BK353.out 0).trans rfl, (blk_cell BK353.out 1).trans rfl, (blk_cell BK353.out 2).trans rfl, (blk_cell BK353.out 3).trans rfl, (blk_cell BK353.out 4).trans rfl, (blk_cell BK354.out 0).trans rfl, (blk_cell BK354.out 1).trans rfl, (blk_cell BK354.out 2).trans rfl, (blk_cell BK354.out 3).trans rfl, (blk_cell BK354.out 4).trans rfl⟩ (fun hHeld => ?_)
     clear hK K
     refine norm_ (a' := ?_) ?_ ?_
     rotate_left
     ·show Act.put _ (some 44) _ = _
      simp only [Act.put, xT, xZ, xS, i64_w, i32_w]
      rfl
     refine pure_ (i := 6) (N := some 12) (v := ?_) (a' := ?_) #[true, true, true, true, true, true, true, false] rfl rfl (any_of HT_.out (by kernel_rfl)) (fun _ _ _ h => h) (Or.inl ⟨by rfl, ?_⟩) ?_ ?_
     rotate_left
     ·intro w'
      go_simp
      with_reducible rfl
     rotate_left
     ·simp only [Act.put, xT, xZ, xS, i64_w, i32_w]
      rfl
     refine pure_ (i := 7) (N := some 13) (v := ?_) (a' := ?_) #[true, true, true, true, true, true, true, true] rfl rfl (any_of HT_.out (by kernel_rfl)) (fun _ _ _ h => h) (Or.inl ⟨by rfl, ?_⟩) ?_ ?_
     rotate_left
     ·intro w'
      go_simp
      with_reducible rfl
     rotate_left
     ·simp only [Act.put, xT, xZ, xS, i64_w, i32_w]
      rfl
     refine done_ (done_of HT_.out (by kernel_rfl)) ?_
     try go_wp2
     go_ret
     exact ⟨by first | rfl | (simp [errW_none, errW_some] <;> rfl) | (simp only [← hji84, ← hji85]; first | rfl | (simp [errW_none, errW_some] <;> rfl)) | (simp [*, errW_none, errW_some] <;> rfl), by repeat (first | (with_reducible first | exact HB.out | apply yA | apply yN | apply yD | refine below_set ?_ GE341.out | refine below_set ?_ GE342.out | refine below_set ?_ GE353.out | refine below_set ?_ GE354.out) | exact HB.out)⟩
end Go.Proofs.YtdbnmdchecacdaaDoor.PP
end
section
namespace Go.Proofs.YtdbnmdchecacdaaDoor.M
open Go.RowKit Go.Proofs.YtdbnmdchecacdaaDoor.G Go.Proofs.YtdbnmdchecacdaaDoorV.PrintWords Go.Proofs.YtdbnmdchecacdaaDoorV.PrintLast Go.Proofs.YtdbnmdchecacdaaDoorV.PrintMore Go.Proofs.YtdbnmdchecacdaaDoor.PP
set_option linter.unusedVariables false
set_option linter.unusedSimpArgs false
def sgnP (p : Prt) : Int := if p.1 = 1 then 0 else if p.2.1 = true then -1 else 1
def cmpPart (k : Nat) (f s : Int) (a b c d : Int) : Option Int := (impl_layoutOf.f f).bind fun bt362 => ((impl_Word_low.f a b (wrap64 (bt362.2.2.2.1 - 1))).bind fun bt370 => ((impl_Word_nat.f bt370.1 bt370.2).bind fun t372 => ((impl_Word_low.f c d (wrap64 (bt362.2.2.2.1 - 1))).bind fun bt375 => ((impl_Word_nat.f bt375.1 bt375.2).bind fun t377 => ((impl_nat_cmp.f k t372 t377).bind fun t380 => (some (wrap64 (s * t380))))))))
def tailO (k : Nat) (f a b c d : Int) (p q : Prt) : Option Int := if sgnP p = sgnP q then cmpPart k f (sgnP p) a b c d else some (mx (-1) (mn 1 (wrap64 (sgnP p - sgnP q))))
def ptS (p : Prt) : S27 := ⟨p.1, p.2.1, (⟨p.2.2.1, p.2.2.2.1⟩ : S25), p.2.2.2.2⟩
theorem sgn_eq (p : Prt) : impl_Order_1.f p.1 p.2.1 p.2.2.1 p.2.2.2.1 p.2.2.2.2 = some (sgnP p) := by
  unfold impl_Order_1.f sgnP
  by_cases h1 : p.1 = 1
  · rw [if_pos h1, if_pos h1]
  · rw [if_neg h1, if_neg h1]
    by_cases h2 : p.2.1 = true
    · rw [if_pos h2, if_pos h2]
    · rw [if_neg h2, if_neg h2]
section
variable (f a b c d : Int) (p q : Prt)
theorem io2 {R : Int} (hR : Ev (fun k => tailO k f a b c d p q) R) : Ev (fun k => impl_Order.l0 k f [ptS p, ptS q] 2 2 a b c d p.1 p.2.1 p.2.2.1 p.2.2.2.1 p.2.2.2.2 q.1 q.2.1 q.2.2.1 q.2.2.2.1 q.2.2.2.2) R := by
  refine Ev.step (fun k => ?_) hR
  simp only [impl_Order.l0]
  rw [if_neg (by decide), sgn_eq p, Option.bind_some, sgn_eq q, Option.bind_some]
  rfl
theorem io1 {R : Int} (hR : if q.1 = 0 then R = 2 else if q.1 = 5 then R = 2 else Ev (fun k => tailO k f a b c d p q) R) : Ev (fun k => impl_Order.l0 k f [ptS p, ptS q] 2 1 a b c d p.1 p.2.1 p.2.2.1 p.2.2.2.1 p.2.2.2.2 q.1 q.2.1 q.2.2.1 q.2.2.2.1 q.2.2.2.2) R := by
  have e0 : (rd_T27 [ptS p, ptS q] 1).f0 = q.1 := rfl
  have w1 : wrap64 (1 + 1) = 2 := wrap64_id (by omega)
  have l1 : (1 : Int) < (([ptS p, ptS q] : List S27).length : Int) := by simp
  by_cases h1 : q.1 = 0
  · rw [if_pos h1] at hR
    subst hR
    refine Ev.step (f := fun _ => some 2) (fun k => ?_) (Ev.now _)
    simp only [impl_Order.l0]
    rw [if_pos (by decide), if_pos (by decide), if_pos l1, e0, if_pos h1]
  · rw [if_neg h1] at hR
    by_cases h2 : q.1 = 5
    · rw [if_pos h2] at hR
      subst hR
      refine Ev.step (f := fun _ => some 2) (fun k => ?_) (Ev.now _)
      simp only [impl_Order.l0]
      rw [if_pos (by decide), if_pos (by decide), if_pos l1, e0, if_neg h1, if_pos h2]
    · rw [if_neg h2] at hR
      refine Ev.step (fun k => ?_) (io2 f a b c d p q hR)
      simp only [impl_Order.l0]
      rw [if_pos (by decide), if_pos (by decide), if_pos l1, e0, if_neg h1, if_neg h2, w1]
theorem io0 {R : Int} (hR : if p.1 = 0 then R = 2 else if p.1 = 5 then R = 2 else if q.1 = 0 then R = 2 else if q.1 = 5 then R = 2 else Ev (fun k => tailO k f a b c d p q) R) : Ev (fun k => impl_Order.l0 k f [ptS p, ptS q] 2 0 a b c d p.1 p.2.1 p.2.2.1 p.2.2.2.1 p.2.2.2.2 q.1 q.2.1 q.2.2.1 q.2.2.2.1 q.2.2.2.2) R := by
  have e0 : (rd_T27 [ptS p, ptS q] 0).f0 = p.1 := rfl
  have w1 : wrap64 (0 + 1) = 1 := wrap64_id (by omega)
  have l1 : (0 : Int) < (([ptS p, ptS q] : List S27).length : Int) := by simp
  by_cases h1 : p.1 = 0
  · rw [if_pos h1] at hR
    subst hR
    refine Ev.step (f := fun _ => some 2) (fun k => ?_) (Ev.now _)
    simp only [impl_Order.l0]
    rw [if_pos (by decide), if_pos (by decide), if_pos l1, e0, if_pos h1]
  · rw [if_neg h1] at hR
    by_cases h2 : p.1 = 5
    · rw [if_pos h2] at hR
      subst hR
      refine Ev.step (f := fun _ => some 2) (fun k => ?_) (Ev.now _)
      simp only [impl_Order.l0]
      rw [if_pos (by decide), if_pos (by decide), if_pos l1, e0, if_neg h1, if_pos h2]
    · rw [if_neg h2] at hR
      refine Ev.step (fun k => ?_) (io1 f a b c d p q hR)
      simp only [impl_Order.l0]
      rw [if_pos (by decide), if_pos (by decide), if_pos l1, e0, if_neg h1, if_neg h2, w1]
end
theorem nat_word (L : Nat) (hL : L < B128) : ∃ r, impl_Word_nat.f (hiI L) (loI L) = some r ∧ IsNat r L ∧ r.length ≤ 2 := by
  have h1 := hi_lt hL
  have h2 := lo_lt L
  refine ⟨trimL [loI L, hiI L], rfl, ⟨(Dig.cons ?_ (Dig.cons ?_ (Dig.nil _))).trim, norm_trim _, ?_⟩, trimL_length _⟩
  · unfold loI B64; omega
  · unfold hiI B64; omega
  · rw [val_trim, val_cons, val_one]
    unfold hiI loI B64
    rw [Int.toNat_natCast, Int.toNat_natCast]
    omega
theorem fin_eq (n1 n2 : Bool) (L1 L2 : Nat) (s t : Int) (hs : s = if L1 = 0 then 0 else if n1 = true then -1 else 1) (ht : t = if L2 = 0 then 0 else if n2 = true then -1 else 1) :
    (if s = t then s * cmpN L1 L2 else mx (-1) (mn 1 (s - t))) = ordV n1 n2 L1 L2 := by
  subst hs ht
  unfold ordV cmpN mx mn
  rcases Nat.lt_trichotomy L1 L2 with h | h | h
  · have h0 : ¬ L2 < L1 := by omega
    have h2 : ¬ L2 = 0 := by omega
    cases n1 <;> cases n2 <;> by_cases h1 : L1 = 0 <;> simp [h, h0, h1, h2] <;> omega
  · subst h
    cases n1 <;> cases n2 <;> by_cases h1 : L1 = 0 <;> simp [h1]
  · have h0 : ¬ L1 < L2 := by omega
    have h2 : ¬ L1 = 0 := by omega
    cases n1 <;> cases n2 <;> by_cases h1 : L2 = 0 <;> simp [h, h0, h1, h2] <;> omega
theorem cmpN_small (a b : Nat) : -1 ≤ cmpN a b ∧ cmpN a b ≤ 1 := by
  unfold cmpN
  split
  · decide
  · split <;> decide
section
variable {P : Nat} {emin emax : Int} {W E : Nat} {ex : Bool}
theorem cmp_part (h : Fmt P emin emax W E ex) (f : Int) (hf : impl_layoutOf.f f = some ((P : Int), emin, emax, (W : Int), (E : Int), ex, true)) (s : Int) (hs : -1 ≤ s ∧ s ≤ 1) (w1 w2 : Nat) (hw1 : w1 < B128) (hw2 : w2 < B128) :
    Ev (fun k => cmpPart k f s (hiI w1) (loI w1) (hiI w2) (loI w2)) (s * cmpN (w1 % 2 ^ (W - 1)) (w2 % 2 ^ (W - 1))) := by
  have p0 := h.p0
  have w1' := h.w1
  have w2' := h.w2
  have e0 := h.e0
  have wW : wrap64 ((W : Int) - 1) = ((W - 1 : Nat) : Int) := by rw [wsm _ (by omega)]; omega
  have l1 := low_eq w1 (W - 1) hw1 (by clear wW; omega)
  have l2 := low_eq w2 (W - 1) hw2 (by clear wW; omega)
  have b1 : w1 % 2 ^ (W - 1) < B128 := Nat.lt_of_le_of_lt (Nat.mod_le _ _) hw1
  have b2 : w2 % 2 ^ (W - 1) < B128 := Nat.lt_of_le_of_lt (Nat.mod_le _ _) hw2
  generalize w1 % 2 ^ (W - 1) = L1 at *
  generalize w2 % 2 ^ (W - 1) = L2 at *
  obtain ⟨r1, q1, N1, k1⟩ := nat_word L1 b1
  obtain ⟨r2, q2, N2, k2⟩ := nat_word L2 b2
  have hc := icmp_ev r1 r2 N1.1 N2.1 N1.2.1 N2.2.1 (by clear wW; omega) (by clear wW; omega)
  rw [N1.2.2, N2.2.2] at hc
  have hsm := cmpN_small L1 L2
  have hx : wrap64 (s * cmpN L1 L2) = s * cmpN L1 L2 := by
    clear wW
    generalize cmpN L1 L2 = x at *
    rcases (show s = -1 ∨ s = 0 ∨ s = 1 by omega) with rfl | rfl | rfl
    · exact wsm _ (by omega)
    · exact wsm _ (by omega)
    · exact wsm _ (by omega)
  refine Ev.congr (f := fun k => (impl_nat_cmp.f k r1 r2).bind fun t => some (wrap64 (s * t))) (fun k => ?_) (Ev.bind hc (ev_const (by rw [hx])))
  unfold cmpPart
  rw [hf, Option.bind_some]
  dsimp only
  rw [wW, l1, Option.bind_some]
  dsimp only
  rw [q1, Option.bind_some, l2, Option.bind_some]
  dsimp only
  rw [q2, Option.bind_some]
theorem sgn_small (p : Prt) : -1 ≤ sgnP p ∧ sgnP p ≤ 1 := by
  unfold sgnP
  split
  · decide
  · split <;> decide
theorem tail_ev (h : Fmt P emin emax W E ex) (f : Int) (hf : impl_layoutOf.f f = some ((P : Int), emin, emax, (W : Int), (E : Int), ex, true)) (w1 w2 : Nat) (hw1 : w1 < B128) (hw2 : w2 < B128) (p q : Prt) (n1 n2 : Bool)
    (hp : p.1 = 1 ↔ w1 % 2 ^ (W - 1) = 0) (hq : q.1 = 1 ↔ w2 % 2 ^ (W - 1) = 0) (hn1 : p.2.1 = n1) (hn2 : q.2.1 = n2) :
    Ev (fun k => tailO k f (hiI w1) (loI w1) (hiI w2) (loI w2) p q) (ordV n1 n2 (w1 % 2 ^ (W - 1)) (w2 % 2 ^ (W - 1))) := by
  have s1 := sgn_small p
  have s2 := sgn_small q
  have hsub : wrap64 (sgnP p - sgnP q) = sgnP p - sgnP q := wsm _ (by omega)
  have hc := cmp_part h f hf (sgnP p) s1 w1 w2 hw1 hw2
  have hfin := fin_eq n1 n2 (w1 % 2 ^ (W - 1)) (w2 % 2 ^ (W - 1)) (sgnP p) (sgnP q) (by unfold sgnP; rw [hn1]; simp only [hp]) (by unfold sgnP; rw [hn2]; simp only [hq])
  rw [← hfin]
  unfold tailO
  by_cases he : sgnP p = sgnP q
  · simp only [if_pos he]
    exact hc
  · simp only [if_neg he]
    rw [hsub]
    exact Ev.now _
end
end Go.Proofs.YtdbnmdchecacdaaDoor.M
end
