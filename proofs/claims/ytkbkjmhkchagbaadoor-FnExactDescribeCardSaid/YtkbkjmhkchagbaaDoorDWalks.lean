import Derived.Test.YtkbkjmhkchagbaaDoorProg
import Derived.WalkKit
import Derived.Below
import Derived.Laws.ResultCell
import Derived.Laws.Rows
import Derived.KernelRfl
namespace Go.Proofs.YtkbkjmhkchagbaaDoor
open Go.RowKit
set_option linter.unusedVariables false
set_option linter.unusedSimpArgs false
theorem results_cell_row_tmp {P : Program} {fn : Func} {p u : Tmp} {ty : TypeId} (h : fn.results = #[.cell p ty, .tmp u]) (tmps : Array Value) (w : World) (g : Nat) (t : TypeId) (cs : Array Value) (fr : Nat × Nat) (d : TypeDesc)
    (hp : tmps.getD p undef = .pointer (some ⟨g, 0, none⟩)) (hg : w.heap[g]? = some (.cells cs t fr))
    (hu : P.underlying ty = some d) (hd : (match d with | .struct _ | .array _ _ => true | _ => false) = true) (hi : (P.info? ty).map (·.size) = some cs.size) :
    (results fn tmps).run P w = .ok (.tuple #[.agg cs, tmps.getD u undef]) w := by
  rw [results_cell_tmp h, hp]
  simp [asAddr, run_loadVar_row w g t ty cs fr d hg hu hd hi, Result.andThen]
theorem alloc_pos (w : World) (o : Obj) : 0 < (w.alloc o).heap.size := by
  show 0 < (w.heap.push o).size
  rw [Array.size_push]
  omega
theorem up {w : World} {i : Nat} {v : Option Value} (hs : 0 < w.heap.size) (h : w.cell? ⟨0, i, none⟩ = v) (o : Obj) : (w.alloc o).cell? ⟨0, i, none⟩ = v := by
  rw [World.cell?_alloc_past _ _ _ hs]
  exact h
theorem isFormat_yes (f : Int) (w : World) (h0 : 0 ≤ f) (h1 : f < 4) : Calls Tryd.prog 8 #[.int .i64 f] w fun e w' => e = .returned (.bool true) ∧ w' = w := by
  go_enter Tryd.func8, Tryd.ntmps8
  go_wp2
  go_ret
  exact ⟨rfl, rfl⟩
theorem isFormat_no (f : Int) (w : World) (h : ¬ (0 ≤ f ∧ f < 4)) : Calls Tryd.prog 8 #[.int .i64 f] w fun e w' => e = .returned (.bool false) ∧ w' = w := by
  by_cases h0 : 0 ≤ f
  · have h1 : ¬ f < 4 := fun g => h ⟨h0, g⟩
    clear h
    go_enter Tryd.func8, Tryd.ntmps8
    go_wp2
    go_ret
    exact ⟨rfl, rfl⟩
  · clear h
    go_enter Tryd.func8, Tryd.ntmps8
    go_wp2
    go_ret
    exact ⟨rfl, rfl⟩
set_option maxHeartbeats 1600000 in
theorem layoutOf_0 (w : World) (hs : 0 < w.heap.size) (c0 : w.cell? ⟨0, 0, none⟩ = some (.int .i64 (24))) (c1 : w.cell? ⟨0, 1, none⟩ = some (.int .i64 (-126))) (c2 : w.cell? ⟨0, 2, none⟩ = some (.int .i64 (127))) (c3 : w.cell? ⟨0, 3, none⟩ = some (.int .i64 (32))) (c4 : w.cell? ⟨0, 4, none⟩ = some (.int .i64 (8))) (c5 : w.cell? ⟨0, 5, none⟩ = some (.bool false)) : Calls Tryd.prog 7 #[.int .i64 0] w fun e w' => e = .returned (.tuple #[.agg #[.int .i64 (24), .int .i64 (-126), .int .i64 (127), .int .i64 (32), .int .i64 (8), .bool false], .bool true]) ∧ w' = w.alloc (.cells #[.int .i64 (24), .int .i64 (-126), .int .i64 (127), .int .i64 (32), .int .i64 (8), .bool false] 28) := by
  go_enter Tryd.func7, Tryd.ntmps7
  go_wp2_with (go_at_call 8; refine (isFormat_yes _ _ (by decide) (by decide)).mono ?_; rintro e w' ⟨rfl, rfl⟩)
  refine bodyPost_ret (results_cell_row_tmp rfl _ _ w.heap.size 28 #[.int .i64 (24), .int .i64 (-126), .int .i64 (127), .int .i64 (32), .int .i64 (8), .bool false] (0, 0) _ rfl (heap_alloc_new _ _) Tryd.underlying28 rfl (by kernel_rfl)) rfl ?_
  exact ⟨rfl, rfl⟩
set_option maxHeartbeats 1600000 in
theorem layoutOf_1 (w : World) (hs : 0 < w.heap.size) (c0 : w.cell? ⟨0, 6, none⟩ = some (.int .i64 (53))) (c1 : w.cell? ⟨0, 7, none⟩ = some (.int .i64 (-1022))) (c2 : w.cell? ⟨0, 8, none⟩ = some (.int .i64 (1023))) (c3 : w.cell? ⟨0, 9, none⟩ = some (.int .i64 (64))) (c4 : w.cell? ⟨0, 10, none⟩ = some (.int .i64 (11))) (c5 : w.cell? ⟨0, 11, none⟩ = some (.bool false)) : Calls Tryd.prog 7 #[.int .i64 1] w fun e w' => e = .returned (.tuple #[.agg #[.int .i64 (53), .int .i64 (-1022), .int .i64 (1023), .int .i64 (64), .int .i64 (11), .bool false], .bool true]) ∧ w' = w.alloc (.cells #[.int .i64 (53), .int .i64 (-1022), .int .i64 (1023), .int .i64 (64), .int .i64 (11), .bool false] 28) := by
  go_enter Tryd.func7, Tryd.ntmps7
  go_wp2_with (go_at_call 8; refine (isFormat_yes _ _ (by decide) (by decide)).mono ?_; rintro e w' ⟨rfl, rfl⟩)
  refine bodyPost_ret (results_cell_row_tmp rfl _ _ w.heap.size 28 #[.int .i64 (53), .int .i64 (-1022), .int .i64 (1023), .int .i64 (64), .int .i64 (11), .bool false] (0, 0) _ rfl (heap_alloc_new _ _) Tryd.underlying28 rfl (by kernel_rfl)) rfl ?_
  exact ⟨rfl, rfl⟩
set_option maxHeartbeats 1600000 in
theorem layoutOf_2 (w : World) (hs : 0 < w.heap.size) (c0 : w.cell? ⟨0, 12, none⟩ = some (.int .i64 (64))) (c1 : w.cell? ⟨0, 13, none⟩ = some (.int .i64 (-16382))) (c2 : w.cell? ⟨0, 14, none⟩ = some (.int .i64 (16383))) (c3 : w.cell? ⟨0, 15, none⟩ = some (.int .i64 (80))) (c4 : w.cell? ⟨0, 16, none⟩ = some (.int .i64 (15))) (c5 : w.cell? ⟨0, 17, none⟩ = some (.bool true)) : Calls Tryd.prog 7 #[.int .i64 2] w fun e w' => e = .returned (.tuple #[.agg #[.int .i64 (64), .int .i64 (-16382), .int .i64 (16383), .int .i64 (80), .int .i64 (15), .bool true], .bool true]) ∧ w' = w.alloc (.cells #[.int .i64 (64), .int .i64 (-16382), .int .i64 (16383), .int .i64 (80), .int .i64 (15), .bool true] 28) := by
  go_enter Tryd.func7, Tryd.ntmps7
  go_wp2_with (go_at_call 8; refine (isFormat_yes _ _ (by decide) (by decide)).mono ?_; rintro e w' ⟨rfl, rfl⟩)
  refine bodyPost_ret (results_cell_row_tmp rfl _ _ w.heap.size 28 #[.int .i64 (64), .int .i64 (-16382), .int .i64 (16383), .int .i64 (80), .int .i64 (15), .bool true] (0, 0) _ rfl (heap_alloc_new _ _) Tryd.underlying28 rfl (by kernel_rfl)) rfl ?_
  exact ⟨rfl, rfl⟩
set_option maxHeartbeats 1600000 in
theorem layoutOf_3 (w : World) (hs : 0 < w.heap.size) (c0 : w.cell? ⟨0, 18, none⟩ = some (.int .i64 (113))) (c1 : w.cell? ⟨0, 19, none⟩ = some (.int .i64 (-16382))) (c2 : w.cell? ⟨0, 20, none⟩ = some (.int .i64 (16383))) (c3 : w.cell? ⟨0, 21, none⟩ = some (.int .i64 (128))) (c4 : w.cell? ⟨0, 22, none⟩ = some (.int .i64 (15))) (c5 : w.cell? ⟨0, 23, none⟩ = some (.bool false)) : Calls Tryd.prog 7 #[.int .i64 3] w fun e w' => e = .returned (.tuple #[.agg #[.int .i64 (113), .int .i64 (-16382), .int .i64 (16383), .int .i64 (128), .int .i64 (15), .bool false], .bool true]) ∧ w' = w.alloc (.cells #[.int .i64 (113), .int .i64 (-16382), .int .i64 (16383), .int .i64 (128), .int .i64 (15), .bool false] 28) := by
  go_enter Tryd.func7, Tryd.ntmps7
  go_wp2_with (go_at_call 8; refine (isFormat_yes _ _ (by decide) (by decide)).mono ?_; rintro e w' ⟨rfl, rfl⟩)
  refine bodyPost_ret (results_cell_row_tmp rfl _ _ w.heap.size 28 #[.int .i64 (113), .int .i64 (-16382), .int .i64 (16383), .int .i64 (128), .int .i64 (15), .bool false] (0, 0) _ rfl (heap_alloc_new _ _) Tryd.underlying28 rfl (by kernel_rfl)) rfl ?_
  exact ⟨rfl, rfl⟩
set_option maxHeartbeats 1600000 in
theorem layoutOf_no (f : Int) (w : World) (h : ¬ (0 ≤ f ∧ f < 4)) : Calls Tryd.prog 7 #[.int .i64 f] w fun e w' => e = .returned (.tuple #[.agg #[.int .i64 (0), .int .i64 (0), .int .i64 (0), .int .i64 (0), .int .i64 (0), .bool false], .bool false]) ∧ w' = w.alloc (.cells #[.int .i64 (0), .int .i64 (0), .int .i64 (0), .int .i64 (0), .int .i64 (0), .bool false] 28) := by
  have hk : Hid (¬ (0 ≤ f ∧ f < 4)) := h
  clear h
  go_enter Tryd.func7, Tryd.ntmps7
  go_wp2_with (go_at_call 8; refine (isFormat_no _ _ hk.out).mono ?_; rintro e w' ⟨rfl, rfl⟩)
  refine bodyPost_ret (results_cell_row_tmp rfl _ _ w.heap.size 28 #[.int .i64 (0), .int .i64 (0), .int .i64 (0), .int .i64 (0), .int .i64 (0), .bool false] (0, 0) _ rfl (heap_alloc_new _ _) Tryd.underlying28 rfl (by kernel_rfl)) rfl ?_
  exact ⟨rfl, rfl⟩
theorem size_alloc (w : World) (o : Obj) : (w.alloc o).heap.size = w.heap.size + 1 := by
  show (w.heap.push o).size = w.heap.size + 1
  rw [Array.size_push]
theorem at_third (w : World) (a b c : Obj) : (((w.alloc a).alloc b).alloc c).heap[w.heap.size]? = some a := by
  rw [heap_alloc_old _ _ (by rw [size_alloc, size_alloc]; omega), heap_alloc_old _ _ (by rw [size_alloc]; omega), heap_alloc_new]
set_option maxHeartbeats 1600000 in
theorem Describe_0 (w : World) (hs : 0 < w.heap.size) (c0 : w.cell? ⟨0, 0, none⟩ = some (.int .i64 (24))) (c1 : w.cell? ⟨0, 1, none⟩ = some (.int .i64 (-126))) (c2 : w.cell? ⟨0, 2, none⟩ = some (.int .i64 (127))) (c3 : w.cell? ⟨0, 3, none⟩ = some (.int .i64 (32))) (c4 : w.cell? ⟨0, 4, none⟩ = some (.int .i64 (8))) (c5 : w.cell? ⟨0, 5, none⟩ = some (.bool false)) : Calls Tryd.prog 5 #[.int .i64 0] w fun e w' => e = .returned (.agg #[.int .i64 (24), .int .i64 (-126), .int .i64 (127), .int .i64 (32), .int .i64 (8), .bool false]) ∧ w' = ((w.alloc (.cells #[.int .i64 (24), .int .i64 (-126), .int .i64 (127), .int .i64 (32), .int .i64 (8), .bool false] 23)).alloc (.cells #[.int .i64 (24), .int .i64 (-126), .int .i64 (127), .int .i64 (32), .int .i64 (8), .bool false] 28)).alloc (.cells #[.int .i64 (24), .int .i64 (-126), .int .i64 (127), .int .i64 (32), .int .i64 (8), .bool false] 28) := by
  go_enter Tryd.func5, Tryd.ntmps5
  go_wp2_with (go_at_call 7; refine (layoutOf_0 _ (alloc_pos _ _) (up hs c0 _) (up hs c1 _) (up hs c2 _) (up hs c3 _) (up hs c4 _) (up hs c5 _)).mono ?_; rintro e w' ⟨rfl, rfl⟩)
  refine bodyPost_ret (results_cell_row rfl _ _ w.heap.size 23 #[.int .i64 (24), .int .i64 (-126), .int .i64 (127), .int .i64 (32), .int .i64 (8), .bool false] (0, 0) _ rfl (at_third _ _ _ _) Tryd.underlying23 rfl (by kernel_rfl)) rfl ?_
  exact ⟨rfl, rfl⟩
set_option maxHeartbeats 1600000 in
theorem spec_Describe_0 (w : World) : Calls Tryd.prog 4 #[.int .i64 0] w fun e w' => e = .returned (.agg #[.int .i64 (24), .int .i64 (-126), .int .i64 (127), .int .i64 (32), .int .i64 (8), .bool false]) ∧ w' = w.alloc (.cells #[.int .i64 (24), .int .i64 (-126), .int .i64 (127), .int .i64 (32), .int .i64 (8), .bool false] 23) := by
  go_enter Tryd.func4, Tryd.ntmps4
  go_wp2
  refine bodyPost_ret (results_cell_row rfl _ _ w.heap.size 23 #[.int .i64 (24), .int .i64 (-126), .int .i64 (127), .int .i64 (32), .int .i64 (8), .bool false] (0, 0) _ rfl (heap_alloc_new _ _) Tryd.underlying23 rfl (by kernel_rfl)) rfl ?_
  exact ⟨rfl, rfl⟩
set_option maxHeartbeats 1600000 in
theorem Describe_1 (w : World) (hs : 0 < w.heap.size) (c0 : w.cell? ⟨0, 6, none⟩ = some (.int .i64 (53))) (c1 : w.cell? ⟨0, 7, none⟩ = some (.int .i64 (-1022))) (c2 : w.cell? ⟨0, 8, none⟩ = some (.int .i64 (1023))) (c3 : w.cell? ⟨0, 9, none⟩ = some (.int .i64 (64))) (c4 : w.cell? ⟨0, 10, none⟩ = some (.int .i64 (11))) (c5 : w.cell? ⟨0, 11, none⟩ = some (.bool false)) : Calls Tryd.prog 5 #[.int .i64 1] w fun e w' => e = .returned (.agg #[.int .i64 (53), .int .i64 (-1022), .int .i64 (1023), .int .i64 (64), .int .i64 (11), .bool false]) ∧ w' = ((w.alloc (.cells #[.int .i64 (53), .int .i64 (-1022), .int .i64 (1023), .int .i64 (64), .int .i64 (11), .bool false] 23)).alloc (.cells #[.int .i64 (53), .int .i64 (-1022), .int .i64 (1023), .int .i64 (64), .int .i64 (11), .bool false] 28)).alloc (.cells #[.int .i64 (53), .int .i64 (-1022), .int .i64 (1023), .int .i64 (64), .int .i64 (11), .bool false] 28) := by
  go_enter Tryd.func5, Tryd.ntmps5
  go_wp2_with (go_at_call 7; refine (layoutOf_1 _ (alloc_pos _ _) (up hs c0 _) (up hs c1 _) (up hs c2 _) (up hs c3 _) (up hs c4 _) (up hs c5 _)).mono ?_; rintro e w' ⟨rfl, rfl⟩)
  refine bodyPost_ret (results_cell_row rfl _ _ w.heap.size 23 #[.int .i64 (53), .int .i64 (-1022), .int .i64 (1023), .int .i64 (64), .int .i64 (11), .bool false] (0, 0) _ rfl (at_third _ _ _ _) Tryd.underlying23 rfl (by kernel_rfl)) rfl ?_
  exact ⟨rfl, rfl⟩
set_option maxHeartbeats 1600000 in
theorem spec_Describe_1 (w : World) : Calls Tryd.prog 4 #[.int .i64 1] w fun e w' => e = .returned (.agg #[.int .i64 (53), .int .i64 (-1022), .int .i64 (1023), .int .i64 (64), .int .i64 (11), .bool false]) ∧ w' = w.alloc (.cells #[.int .i64 (53), .int .i64 (-1022), .int .i64 (1023), .int .i64 (64), .int .i64 (11), .bool false] 23) := by
  go_enter Tryd.func4, Tryd.ntmps4
  go_wp2
  refine bodyPost_ret (results_cell_row rfl _ _ w.heap.size 23 #[.int .i64 (53), .int .i64 (-1022), .int .i64 (1023), .int .i64 (64), .int .i64 (11), .bool false] (0, 0) _ rfl (heap_alloc_new _ _) Tryd.underlying23 rfl (by kernel_rfl)) rfl ?_
  exact ⟨rfl, rfl⟩
set_option maxHeartbeats 1600000 in
theorem Describe_2 (w : World) (hs : 0 < w.heap.size) (c0 : w.cell? ⟨0, 12, none⟩ = some (.int .i64 (64))) (c1 : w.cell? ⟨0, 13, none⟩ = some (.int .i64 (-16382))) (c2 : w.cell? ⟨0, 14, none⟩ = some (.int .i64 (16383))) (c3 : w.cell? ⟨0, 15, none⟩ = some (.int .i64 (80))) (c4 : w.cell? ⟨0, 16, none⟩ = some (.int .i64 (15))) (c5 : w.cell? ⟨0, 17, none⟩ = some (.bool true)) : Calls Tryd.prog 5 #[.int .i64 2] w fun e w' => e = .returned (.agg #[.int .i64 (64), .int .i64 (-16382), .int .i64 (16383), .int .i64 (80), .int .i64 (15), .bool true]) ∧ w' = ((w.alloc (.cells #[.int .i64 (64), .int .i64 (-16382), .int .i64 (16383), .int .i64 (80), .int .i64 (15), .bool true] 23)).alloc (.cells #[.int .i64 (64), .int .i64 (-16382), .int .i64 (16383), .int .i64 (80), .int .i64 (15), .bool true] 28)).alloc (.cells #[.int .i64 (64), .int .i64 (-16382), .int .i64 (16383), .int .i64 (80), .int .i64 (15), .bool true] 28) := by
  go_enter Tryd.func5, Tryd.ntmps5
  go_wp2_with (go_at_call 7; refine (layoutOf_2 _ (alloc_pos _ _) (up hs c0 _) (up hs c1 _) (up hs c2 _) (up hs c3 _) (up hs c4 _) (up hs c5 _)).mono ?_; rintro e w' ⟨rfl, rfl⟩)
  refine bodyPost_ret (results_cell_row rfl _ _ w.heap.size 23 #[.int .i64 (64), .int .i64 (-16382), .int .i64 (16383), .int .i64 (80), .int .i64 (15), .bool true] (0, 0) _ rfl (at_third _ _ _ _) Tryd.underlying23 rfl (by kernel_rfl)) rfl ?_
  exact ⟨rfl, rfl⟩
set_option maxHeartbeats 1600000 in
theorem spec_Describe_2 (w : World) : Calls Tryd.prog 4 #[.int .i64 2] w fun e w' => e = .returned (.agg #[.int .i64 (64), .int .i64 (-16382), .int .i64 (16383), .int .i64 (80), .int .i64 (15), .bool true]) ∧ w' = w.alloc (.cells #[.int .i64 (64), .int .i64 (-16382), .int .i64 (16383), .int .i64 (80), .int .i64 (15), .bool true] 23) := by
  go_enter Tryd.func4, Tryd.ntmps4
  go_wp2
  refine bodyPost_ret (results_cell_row rfl _ _ w.heap.size 23 #[.int .i64 (64), .int .i64 (-16382), .int .i64 (16383), .int .i64 (80), .int .i64 (15), .bool true] (0, 0) _ rfl (heap_alloc_new _ _) Tryd.underlying23 rfl (by kernel_rfl)) rfl ?_
  exact ⟨rfl, rfl⟩
set_option maxHeartbeats 1600000 in
theorem Describe_3 (w : World) (hs : 0 < w.heap.size) (c0 : w.cell? ⟨0, 18, none⟩ = some (.int .i64 (113))) (c1 : w.cell? ⟨0, 19, none⟩ = some (.int .i64 (-16382))) (c2 : w.cell? ⟨0, 20, none⟩ = some (.int .i64 (16383))) (c3 : w.cell? ⟨0, 21, none⟩ = some (.int .i64 (128))) (c4 : w.cell? ⟨0, 22, none⟩ = some (.int .i64 (15))) (c5 : w.cell? ⟨0, 23, none⟩ = some (.bool false)) : Calls Tryd.prog 5 #[.int .i64 3] w fun e w' => e = .returned (.agg #[.int .i64 (113), .int .i64 (-16382), .int .i64 (16383), .int .i64 (128), .int .i64 (15), .bool false]) ∧ w' = ((w.alloc (.cells #[.int .i64 (113), .int .i64 (-16382), .int .i64 (16383), .int .i64 (128), .int .i64 (15), .bool false] 23)).alloc (.cells #[.int .i64 (113), .int .i64 (-16382), .int .i64 (16383), .int .i64 (128), .int .i64 (15), .bool false] 28)).alloc (.cells #[.int .i64 (113), .int .i64 (-16382), .int .i64 (16383), .int .i64 (128), .int .i64 (15), .bool false] 28) := by
  go_enter Tryd.func5, Tryd.ntmps5
  go_wp2_with (go_at_call 7; refine (layoutOf_3 _ (alloc_pos _ _) (up hs c0 _) (up hs c1 _) (up hs c2 _) (up hs c3 _) (up hs c4 _) (up hs c5 _)).mono ?_; rintro e w' ⟨rfl, rfl⟩)
  refine bodyPost_ret (results_cell_row rfl _ _ w.heap.size 23 #[.int .i64 (113), .int .i64 (-16382), .int .i64 (16383), .int .i64 (128), .int .i64 (15), .bool false] (0, 0) _ rfl (at_third _ _ _ _) Tryd.underlying23 rfl (by kernel_rfl)) rfl ?_
  exact ⟨rfl, rfl⟩
set_option maxHeartbeats 1600000 in
theorem spec_Describe_3 (w : World) : Calls Tryd.prog 4 #[.int .i64 3] w fun e w' => e = .returned (.agg #[.int .i64 (113), .int .i64 (-16382), .int .i64 (16383), .int .i64 (128), .int .i64 (15), .bool false]) ∧ w' = w.alloc (.cells #[.int .i64 (113), .int .i64 (-16382), .int .i64 (16383), .int .i64 (128), .int .i64 (15), .bool false] 23) := by
  go_enter Tryd.func4, Tryd.ntmps4
  go_wp2
  refine bodyPost_ret (results_cell_row rfl _ _ w.heap.size 23 #[.int .i64 (113), .int .i64 (-16382), .int .i64 (16383), .int .i64 (128), .int .i64 (15), .bool false] (0, 0) _ rfl (heap_alloc_new _ _) Tryd.underlying23 rfl (by kernel_rfl)) rfl ?_
  exact ⟨rfl, rfl⟩
set_option maxHeartbeats 1600000 in
theorem Describe_no (f : Int) (w : World) (h : ¬ (0 ≤ f ∧ f < 4)) : Calls Tryd.prog 5 #[.int .i64 f] w fun e w' => e = .returned (.agg #[.int .i64 (0), .int .i64 (0), .int .i64 (0), .int .i64 (0), .int .i64 (0), .bool false]) ∧ w' = ((w.alloc (.cells #[.int .i64 (0), .int .i64 (0), .int .i64 (0), .int .i64 (0), .int .i64 (0), .bool false] 23)).alloc (.cells #[.int .i64 (0), .int .i64 (0), .int .i64 (0), .int .i64 (0), .int .i64 (0), .bool false] 28)).alloc (.cells #[.int .i64 (0), .int .i64 (0), .int .i64 (0), .int .i64 (0), .int .i64 (0), .bool false] 28) := by
  have hk : Hid (¬ (0 ≤ f ∧ f < 4)) := h
  clear h
  go_enter Tryd.func5, Tryd.ntmps5
  go_wp2_with (go_at_call 7; refine (layoutOf_no _ _ hk.out).mono ?_; rintro e w' ⟨rfl, rfl⟩)
  refine bodyPost_ret (results_cell_row rfl _ _ w.heap.size 23 #[.int .i64 (0), .int .i64 (0), .int .i64 (0), .int .i64 (0), .int .i64 (0), .bool false] (0, 0) _ rfl (at_third _ _ _ _) Tryd.underlying23 rfl (by kernel_rfl)) rfl ?_
  exact ⟨rfl, rfl⟩
set_option maxHeartbeats 1600000 in
theorem spec_Describe_no (f : Int) (w : World) (h0 : (f == 0) = false) (h1 : (f == 1) = false) (h2 : (f == 2) = false) (h3 : (f == 3) = false) : Calls Tryd.prog 4 #[.int .i64 f] w fun e w' => e = .returned (.agg #[.int .i64 (0), .int .i64 (0), .int .i64 (0), .int .i64 (0), .int .i64 (0), .bool false]) ∧ w' = w.alloc (.cells #[.int .i64 (0), .int .i64 (0), .int .i64 (0), .int .i64 (0), .int .i64 (0), .bool false] 23) := by
  go_enter Tryd.func4, Tryd.ntmps4
  go_wp2
  refine bodyPost_ret (results_cell_row rfl _ _ w.heap.size 23 #[.int .i64 (0), .int .i64 (0), .int .i64 (0), .int .i64 (0), .int .i64 (0), .bool false] (0, 0) _ rfl (heap_alloc_new _ _) Tryd.underlying23 rfl (by kernel_rfl)) rfl ?_
  exact ⟨rfl, rfl⟩
set_option maxHeartbeats 3200000 in
theorem eqDesc_same (a b c d e : Int) (x : Bool) (w : World) : Calls Tryd.prog 6 #[.agg #[.int .i64 a, .int .i64 b, .int .i64 c, .int .i64 d, .int .i64 e, .bool x], .agg #[.int .i64 a, .int .i64 b, .int .i64 c, .int .i64 d, .int .i64 e, .bool x]] w fun e w' => e = .returned (.bool true) ∧ Below w.heap.size w w' := by
  go_enter Tryd.func6, Tryd.ntmps6
  go_wp2
  go_ret
  exact ⟨rfl, ((Below.refl _ _).alloc (Nat.le_refl _) _).alloc (by rw [size_alloc]; omega) _⟩
end Go.Proofs.YtkbkjmhkchagbaaDoor
