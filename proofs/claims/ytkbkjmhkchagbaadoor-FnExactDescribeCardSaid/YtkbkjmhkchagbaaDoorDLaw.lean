import Derived.Test.YtkbkjmhkchagbaaDoorDWalks
namespace Go.Proofs.YtkbkjmhkchagbaaDoor
open Go.RowKit
set_option linter.unusedVariables false
set_option linter.unusedSimpArgs false
theorem bel_step {B : Nat} {x v : World} (h : Below B x v ∧ B ≤ v.heap.size) (o : Obj) : Below B x (v.alloc o) ∧ B ≤ (v.alloc o).heap.size := ⟨h.1.alloc h.2 o, by rw [size_alloc]; omega⟩
theorem fin {B : Nat} {x v w' : World} (hb : Below v.heap.size v w') (k : Below B x v ∧ B ≤ v.heap.size) : Below B x w' := k.1.trans (hb.mono k.2)
set_option maxHeartbeats 3200000 in
theorem law_0 (w : World) (hs : 0 < w.heap.size) (c0 : w.cell? ⟨0, 0, none⟩ = some (.int .i64 (24))) (c1 : w.cell? ⟨0, 1, none⟩ = some (.int .i64 (-126))) (c2 : w.cell? ⟨0, 2, none⟩ = some (.int .i64 (127))) (c3 : w.cell? ⟨0, 3, none⟩ = some (.int .i64 (32))) (c4 : w.cell? ⟨0, 4, none⟩ = some (.int .i64 (8))) (c5 : w.cell? ⟨0, 5, none⟩ = some (.bool false)) : Calls Tryd.prog 3 #[.int .i64 0] w fun e w' => e = .returned (.bool true) ∧ Below w.heap.size w w' := by
  go_enter Tryd.func3, Tryd.ntmps3
  go_wp2_with (first | (go_at_call 4; refine (spec_Describe_0 _).mono ?_; rintro e w' ⟨rfl, rfl⟩) | (go_at_call 5; refine (Describe_0 _ (by first | exact hs | exact alloc_pos _ _) (by repeat (first | exact c0 | refine up (by first | exact hs | exact alloc_pos _ _) ?_ _)) (by repeat (first | exact c1 | refine up (by first | exact hs | exact alloc_pos _ _) ?_ _)) (by repeat (first | exact c2 | refine up (by first | exact hs | exact alloc_pos _ _) ?_ _)) (by repeat (first | exact c3 | refine up (by first | exact hs | exact alloc_pos _ _) ?_ _)) (by repeat (first | exact c4 | refine up (by first | exact hs | exact alloc_pos _ _) ?_ _)) (by repeat (first | exact c5 | refine up (by first | exact hs | exact alloc_pos _ _) ?_ _))).mono ?_; rintro e w' ⟨rfl, rfl⟩) | (go_at_call 6; refine (eqDesc_same _ _ _ _ _ _ _).mono ?_; rintro e w' ⟨rfl, hb⟩))
  go_ret
  exact ⟨rfl, fin hb (by repeat (first | exact ⟨Below.refl _ _, Nat.le_refl _⟩ | refine bel_step ?_ _))⟩
set_option maxHeartbeats 3200000 in
theorem law_1 (w : World) (hs : 0 < w.heap.size) (c0 : w.cell? ⟨0, 6, none⟩ = some (.int .i64 (53))) (c1 : w.cell? ⟨0, 7, none⟩ = some (.int .i64 (-1022))) (c2 : w.cell? ⟨0, 8, none⟩ = some (.int .i64 (1023))) (c3 : w.cell? ⟨0, 9, none⟩ = some (.int .i64 (64))) (c4 : w.cell? ⟨0, 10, none⟩ = some (.int .i64 (11))) (c5 : w.cell? ⟨0, 11, none⟩ = some (.bool false)) : Calls Tryd.prog 3 #[.int .i64 1] w fun e w' => e = .returned (.bool true) ∧ Below w.heap.size w w' := by
  go_enter Tryd.func3, Tryd.ntmps3
  go_wp2_with (first | (go_at_call 4; refine (spec_Describe_1 _).mono ?_; rintro e w' ⟨rfl, rfl⟩) | (go_at_call 5; refine (Describe_1 _ (by first | exact hs | exact alloc_pos _ _) (by repeat (first | exact c0 | refine up (by first | exact hs | exact alloc_pos _ _) ?_ _)) (by repeat (first | exact c1 | refine up (by first | exact hs | exact alloc_pos _ _) ?_ _)) (by repeat (first | exact c2 | refine up (by first | exact hs | exact alloc_pos _ _) ?_ _)) (by repeat (first | exact c3 | refine up (by first | exact hs | exact alloc_pos _ _) ?_ _)) (by repeat (first | exact c4 | refine up (by first | exact hs | exact alloc_pos _ _) ?_ _)) (by repeat (first | exact c5 | refine up (by first | exact hs | exact alloc_pos _ _) ?_ _))).mono ?_; rintro e w' ⟨rfl, rfl⟩) | (go_at_call 6; refine (eqDesc_same _ _ _ _ _ _ _).mono ?_; rintro e w' ⟨rfl, hb⟩))
  go_ret
  exact ⟨rfl, fin hb (by repeat (first | exact ⟨Below.refl _ _, Nat.le_refl _⟩ | refine bel_step ?_ _))⟩
set_option maxHeartbeats 3200000 in
theorem law_2 (w : World) (hs : 0 < w.heap.size) (c0 : w.cell? ⟨0, 12, none⟩ = some (.int .i64 (64))) (c1 : w.cell? ⟨0, 13, none⟩ = some (.int .i64 (-16382))) (c2 : w.cell? ⟨0, 14, none⟩ = some (.int .i64 (16383))) (c3 : w.cell? ⟨0, 15, none⟩ = some (.int .i64 (80))) (c4 : w.cell? ⟨0, 16, none⟩ = some (.int .i64 (15))) (c5 : w.cell? ⟨0, 17, none⟩ = some (.bool true)) : Calls Tryd.prog 3 #[.int .i64 2] w fun e w' => e = .returned (.bool true) ∧ Below w.heap.size w w' := by
  go_enter Tryd.func3, Tryd.ntmps3
  go_wp2_with (first | (go_at_call 4; refine (spec_Describe_2 _).mono ?_; rintro e w' ⟨rfl, rfl⟩) | (go_at_call 5; refine (Describe_2 _ (by first | exact hs | exact alloc_pos _ _) (by repeat (first | exact c0 | refine up (by first | exact hs | exact alloc_pos _ _) ?_ _)) (by repeat (first | exact c1 | refine up (by first | exact hs | exact alloc_pos _ _) ?_ _)) (by repeat (first | exact c2 | refine up (by first | exact hs | exact alloc_pos _ _) ?_ _)) (by repeat (first | exact c3 | refine up (by first | exact hs | exact alloc_pos _ _) ?_ _)) (by repeat (first | exact c4 | refine up (by first | exact hs | exact alloc_pos _ _) ?_ _)) (by repeat (first | exact c5 | refine up (by first | exact hs | exact alloc_pos _ _) ?_ _))).mono ?_; rintro e w' ⟨rfl, rfl⟩) | (go_at_call 6; refine (eqDesc_same _ _ _ _ _ _ _).mono ?_; rintro e w' ⟨rfl, hb⟩))
  go_ret
  exact ⟨rfl, fin hb (by repeat (first | exact ⟨Below.refl _ _, Nat.le_refl _⟩ | refine bel_step ?_ _))⟩
set_option maxHeartbeats 3200000 in
theorem law_3 (w : World) (hs : 0 < w.heap.size) (c0 : w.cell? ⟨0, 18, none⟩ = some (.int .i64 (113))) (c1 : w.cell? ⟨0, 19, none⟩ = some (.int .i64 (-16382))) (c2 : w.cell? ⟨0, 20, none⟩ = some (.int .i64 (16383))) (c3 : w.cell? ⟨0, 21, none⟩ = some (.int .i64 (128))) (c4 : w.cell? ⟨0, 22, none⟩ = some (.int .i64 (15))) (c5 : w.cell? ⟨0, 23, none⟩ = some (.bool false)) : Calls Tryd.prog 3 #[.int .i64 3] w fun e w' => e = .returned (.bool true) ∧ Below w.heap.size w w' := by
  go_enter Tryd.func3, Tryd.ntmps3
  go_wp2_with (first | (go_at_call 4; refine (spec_Describe_3 _).mono ?_; rintro e w' ⟨rfl, rfl⟩) | (go_at_call 5; refine (Describe_3 _ (by first | exact hs | exact alloc_pos _ _) (by repeat (first | exact c0 | refine up (by first | exact hs | exact alloc_pos _ _) ?_ _)) (by repeat (first | exact c1 | refine up (by first | exact hs | exact alloc_pos _ _) ?_ _)) (by repeat (first | exact c2 | refine up (by first | exact hs | exact alloc_pos _ _) ?_ _)) (by repeat (first | exact c3 | refine up (by first | exact hs | exact alloc_pos _ _) ?_ _)) (by repeat (first | exact c4 | refine up (by first | exact hs | exact alloc_pos _ _) ?_ _)) (by repeat (first | exact c5 | refine up (by first | exact hs | exact alloc_pos _ _) ?_ _))).mono ?_; rintro e w' ⟨rfl, rfl⟩) | (go_at_call 6; refine (eqDesc_same _ _ _ _ _ _ _).mono ?_; rintro e w' ⟨rfl, hb⟩))
  go_ret
  exact ⟨rfl, fin hb (by repeat (first | exact ⟨Below.refl _ _, Nat.le_refl _⟩ | refine bel_step ?_ _))⟩
set_option maxHeartbeats 3200000 in
theorem law_no (f : Int) (w : World) (h : ¬ (0 ≤ f ∧ f < 4)) : Calls Tryd.prog 3 #[.int .i64 f] w fun e w' => e = .returned (.bool true) ∧ Below w.heap.size w w' := by
  have hk : Hid (¬ (0 ≤ f ∧ f < 4)) := h
  have k0 : Hid ((f == 0) = false) := by show (f == 0) = false; rw [beq_eq_false_iff_ne]; omega
  have k1 : Hid ((f == 1) = false) := by show (f == 1) = false; rw [beq_eq_false_iff_ne]; omega
  have k2 : Hid ((f == 2) = false) := by show (f == 2) = false; rw [beq_eq_false_iff_ne]; omega
  have k3 : Hid ((f == 3) = false) := by show (f == 3) = false; rw [beq_eq_false_iff_ne]; omega
  clear h
  go_enter Tryd.func3, Tryd.ntmps3
  go_wp2_with (first | (go_at_call 4; refine (spec_Describe_no _ _ k0.out k1.out k2.out k3.out).mono ?_; rintro e w' ⟨rfl, rfl⟩) | (go_at_call 5; refine (Describe_no _ _ hk.out).mono ?_; rintro e w' ⟨rfl, rfl⟩) | (go_at_call 6; refine (eqDesc_same _ _ _ _ _ _ _).mono ?_; rintro e w' ⟨rfl, hb⟩))
  go_ret
  exact ⟨rfl, fin hb (by repeat (first | exact ⟨Below.refl _ _, Nat.le_refl _⟩ | refine bel_step ?_ _))⟩
end Go.Proofs.YtkbkjmhkchagbaaDoor
